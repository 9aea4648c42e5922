/- Lib4: a part of the proof: the rules, or what functions compute. Conditions: as each theorem says. -/
import Derived.Test.YtggemlhclppciaaGreatDoorLib3
set_option linter.unusedSimpArgs false
set_option linter.unusedVariables false
namespace Go.Ai
open Go.RowKit

variable {P:Program} {F:Fr} {S:Mem} {gb:Gb} {σ:St} {a:Act} {w:World}

theorem wp_value {o:Oper} {K:Act→World→Prop} {Q:Exit→Act→World→Prop} {u:Value} {w':World} (h:(execOp a.eval o).run P w= .ok (.value u) w') (hk:K (a.put o.dst u) w'):o.wp P a w K Q:=by
  unfold Oper.wp;rw [h];exact hk
theorem wp_skip' {o:Oper} {K:Act→World→Prop} {Q:Exit→Act→World→Prop} {w':World} (h:(execOp a.eval o).run P w= .ok .skip w') (hk:K (a.put o.dst undef) w'):o.wp P a w K Q:=by
  unfold Oper.wp;rw [h];exact hk

theorem mapG_parts {l:List (Nat×Operand)} {i:Nat} {ys:List Operand} (h:parts l i=some ys):l=(ys.zipIdx i).map fun x=>(x.2,x.1):=by
  induction l generalizing i ys with
  |nil=>simp [parts] at h;subst h;rfl
  |cons x r ih=>
    obtain ⟨j,y⟩:=x
    simp only [parts] at h
    split at h
    · rename_i e
      simp only [beq_iff_eq] at e
      simp only [Option.map_eq_some_iff] at h
      obtain ⟨ys',h1,rfl⟩:=h
      subst e
      simp [List.zipIdx_cons,ih h1]
    · cases h

theorem rowsOf_sound (h:Rel F S gb σ a w) {sz:Nat}: ∀ {ps:List X} {ys:List Operand} {rows:List (List AV)},mXs F.GL ps ys=true→rowsOf σ sz ps=some rows→
    PRlist S gb0 rows.flatten (ys.flatMap fun y=>(a.eval y).cells.toList)∧(∀u∈(ys.flatMap fun y=>(a.eval y).cells.toList),u.oneCell'=true)∧(∀r∈rows,r.length=sz)∧(∀y∈ys,(a.eval y).cells.size=sz)∧rows.length=ys.length
  |[],ys,rows,hm,hr=>by
    cases ys<;>simp [mXs] at hm
    simp [rowsOf] at hr;subst hr
    simp [PRlist]
  |x::r,ys,rows,hm,hr=>by
    cases ys with
    |nil=>simp [mXs] at hm
    |cons y ys=>
      simp only [mXs,Bool.and_eq_true] at hm
      simp only [rowsOf] at hr
      split at hr
      · rename_i cs hcs
        split at hr
        · rename_i cs' rs e1 e2
          split at hr
          · rename_i hl
            simp only [Option.some.injEq] at hr;subst hr
            obtain ⟨c1,c2⟩:=cs_PR hcs (mX_sound h hm.1)
            obtain ⟨g1,g2,g3,g4,g5⟩:=rowsOf_sound h hm.2 e2
            have c3:=shutL_PR _ _ _ e1 c1
            have hsz:(a.eval y).cells.size=sz:=by rw [←Array.length_toList,←c3.length];exact hl
            refine ⟨by simpa using c3.append g1,?_,?_,?_,by simp [g5]⟩
            · intro u hu
              simp only [List.flatMap_cons,List.mem_append] at hu
              rcases hu with hu|hu
              · exact c2 u hu
              · exact g2 u hu
            · simpa [hl] using g3
            · simpa [hsz] using g4
          · cases hr
        · cases hr
      · cases hr

theorem fill_all (sz:Nat): ∀(vs:List Value) (i:Nat) (cells:Array Value),(∀v∈vs,v.cells.size=sz)→(i+vs.length)*sz=cells.size→
    ∃us,Instr.fill (fun i=>some (i*sz,sz)) cells ((vs.zipIdx i).map fun x=>(x.2,x.1))=some us∧us.toList=cells.toList.take (i*sz)++vs.flatMap (·.cells.toList)
  |[],i,cells,_,hs=>⟨cells,by simp [Instr.fill],by simp only [List.length_nil,Nat.add_zero] at hs;rw [hs,←Array.length_toList,List.take_length];simp⟩
  |v::r,i,cells,hv,hs=>by
    simp only [List.forall_mem_cons] at hv
    simp only [List.zipIdx_cons,List.map_cons,Instr.fill,hv.1]
    have hle:i*sz+sz≤cells.size:=by
      rw [←hs];simp only [List.length_cons]
      rw [show (i+(r.length+1))*sz=i*sz+sz+r.length*sz by rw [Nat.add_mul,Nat.add_mul];omega]
      omega
    rw [if_neg (by simp;omega)]
    have hlen:v.cells.toList.length=sz:=by simpa using hv.1
    have hfold:=fold_set v.cells.toList (i*sz) 0 cells (by simp [hlen];omega)
    simp only [Nat.add_zero] at hfold
    generalize hc:(v.cells.toList.zipIdx.foldl (fun cs (x:Value×Nat)=>cs.setIfInBounds (i*sz+x.2) x.1) cells)=cells' at hfold
    have hsz':cells'.size=cells.size:=by
      rw [←Array.length_toList,hfold]
      simp [hlen];omega
    obtain ⟨us,h1,h2⟩:=fill_all sz r (i+1) cells' hv.2 (by rw [hsz',←hs];simp only [List.length_cons];congr 1;omega)
    refine ⟨us,?_,?_⟩
    · rw [←Array.foldl_toList,Array.toList_zipIdx,hc];exact h1
    · rw [h2,hfold]
      have:(List.take (i*sz) cells.toList++v.cells.toList++List.drop (i*sz+v.cells.toList.length) cells.toList).take ((i+1)*sz)=List.take (i*sz) cells.toList++v.cells.toList:=by
        have hl2:(List.take (i*sz) cells.toList++v.cells.toList).length=(i+1)*sz:=by
          simp only [List.length_append,List.length_take,hlen,Array.length_toList,Nat.add_mul];omega
        rw [←hl2];exact List.take_left
      rw [this];simp

theorem list_slice_len {α:Type} (l:List α) (n m:Nat) (h:n≤m) (h2:m≤l.length):((l.take m).drop n).length=m - n:=by simp;omega

theorem extract_mk (s:List UInt8) (l h:Nat):(ByteArray.mk s.toArray).extract l h=ByteArray.mk ((s.take h).drop l).toArray:=by
  apply ByteArray.ext
  rw [ByteArray.data_extract]
  apply Array.ext'
  simp [List.extract_eq_take_drop,List.drop_take]

theorem bnd_sound (h:Rel F S gb σ a w) {dflt:Nat} {x:Option X} {y:Option Operand} {n:Int} (hm:mOpt F.GL x y=true) (hb:bnd σ dflt x=some n):
    (y=none∧n=dflt)∨ ∃y' k,y=some y'∧a.eval y'= .int k n:=by
  cases x with
  |none=>cases y<;>simp [mOpt] at hm;simp [bnd] at hb;exact .inl ⟨rfl,hb.symm⟩
  |some x=>
    cases y with
    |none=>simp [mOpt] at hm
    |some y=>
      simp only [mOpt] at hm
      have hx:=mX_sound h hm
      simp only [bnd] at hb
      split at hb
      · rename_i k m hv
        simp only [Option.some.injEq] at hb;subst hb
        rw [hv] at hx
        simp only [PR] at hx
        exact .inr ⟨y,k,rfl,hx⟩
      · cases hb

theorem st_sound (h:Rel F S gb σ a w) {o:Oper} {n:Nat} {x v:X} (hm:mt1 P F.GL F.N o (.st n x v)=true) {K:St→Prop} (hw:wp1 (Spec P F.GL) (.st n x v) K σ) {K':Act→World→Prop} {Q:Exit→Act→World→Prop}
    (hK: ∀S gb σ a w,Rel F S gb σ a w→K σ→K' a w):o.wp P a w K' Q:=by
  simp only [wp1] at hw
  simp only [mt1,Bool.and_eq_true,beq_iff_eq] at hm
  obtain ⟨h1,hm⟩:=hm
  split at hm<;>(try cases hm)
  rename_i t x' v' hop
  simp only [Bool.and_eq_true,beq_iff_eq] at hm
  obtain ⟨⟨hsz,hx⟩,hv⟩:=hm
  have hx:=mX_sound h hx
  have hv:=mX_sound h hv
  split at hw
  · rename_i d off hxe
    rw [hxe] at hx
    simp only [PR] at hx
    obtain ⟨g,z,hg,hit,hxp⟩:=hx
    split at hw
    · rename_i cs hcs
      split at hw
      · rename_i vs hvs
        obtain ⟨hl,hle,hk⟩:=hw
        obtain ⟨c1,c2⟩:=cs_PR hvs hv
        obtain ⟨g',us,T,e1,e3,e0,e4,e5,e6⟩:=h.hr.box d cs hcs hit
        rw [hg] at e1;cases e1
        have hcl:(a.eval v').cells.toList.length=n:=by rw [←c1.length];exact hl
        have hst:=run_storeCells_at P g off T (a.eval v').cells.toList 0 us w e3 (by rw [hcl];omega) c2
        simp only [Nat.add_zero] at hst
        refine wp_skip' (w':=w.setRow g (us.toList.take off++(a.eval v').cells.toList++us.toList.drop (off+(a.eval v').cells.toList.length)).toArray) ?_ ?_
        · unfold execOp
          have hs2:(a.eval v').cells.size=n:=by simpa using hcl
          simp [hop,hxp,Instr.storeAt,Instr.sureAddr,storeVar,run_sizeOf hsz,hs2,hst]
        · rw [h1]
          have hheap:=setRow_heap w g us (us.toList.take off++(a.eval v').cells.toList++us.toList.drop (off+(a.eval v').cells.toList.length)).toArray T _ e3
          have htl:(us.toList.take off).length=off:=by simp;omega
          have hcell: ∀o',¬(off≤o'∧o'<off+n)→(us.toList.take off++(a.eval v').cells.toList++us.toList.drop (off+n)).toArray[o']?=us[o']?:=by
            intro o' hno
            simp only [List.getElem?_toArray]
            rw [List.append_assoc,List.getElem?_append,htl]
            by_cases ho:o'<off
            · rw [if_pos ho,List.getElem?_take,if_pos ho];simp
            · rw [if_neg ho,List.getElem?_append,hcl,if_neg (by omega),List.getElem?_drop]
              rw [show off+n+(o' - off - n)=o' by omega]
              simp
          refine hK S gb _ _ _ (h.setObj (by simp [hcs]) hg e6 (fun k hk=>setRow_other w g k _ hk) (by simp) rfl rfl rfl (cs':=fillA cs off vs) (fun _=>⟨_,T,?_,hheap,?_,?_,?_⟩) (fun hi=>by rw [hit] at hi;cases hi) (fun p k hk=>(lkP_dlr _ _ _ _ _ hk).1) ?_) hk
          · congr 1;simp only [List.size_toArray,List.length_append,htl,hcl,List.length_drop,Array.length_toList];omega
          · simp only [fillA,List.length_append,List.length_take,List.length_drop,List.size_toArray,hl,hcl,Array.length_toList];omega
          · have hlen:(fillA cs off vs).length=cs.length:=by simp [fillA,hl];omega
            rw [hlen]
            have hf:=e4.fill (off:=off) c1
            have:(us.toList.take off++(a.eval v').cells.toList++us.toList.drop (off+(a.eval v').cells.toList.length)).take cs.length=(us.toList.take cs.length).take off++(a.eval v').cells.toList++(us.toList.take cs.length).drop (off+(a.eval v').cells.toList.length):=by
              rw [List.take_append,List.take_take,Nat.min_eq_left (by omega:off≤cs.length),List.drop_take]
              rw [List.take_of_length_le (l:=us.toList.take off++(a.eval v').cells.toList) (by simp [hcl];omega)]
              congr 1
              rw [List.length_append,htl,hcl]
            simp only [List.toList_toArray]
            rw [this];exact hf
          · intro u hu
            simp only [List.mem_append] at hu
            rcases hu with (hu|hu)|hu
            · exact e5 u (List.mem_of_mem_take hu)
            · exact c2 u hu
            · exact e5 u (List.mem_of_mem_drop hu)
          · intro o' k hk
            have hno:=(lkP_dlr _ _ _ _ _ hk).2 o' rfl
            rw [cell_of_row _ g o' _ T _ hheap,cell_of_row w g o' us T _ e3,hcl]
            exact hcell o' hno
      · cases hw
    · cases hw
  · cases hw

theorem rowsN_sound (h:Rel F S gb σ a w) {sz:Nat}: ∀ {ps:List X} {ys:List Operand} {rows:List (List AV)},mXs F.GL ps ys=true→rowsN σ sz ps=some rows→
    PRlist S gb0 rows.flatten (ys.flatMap fun y=>(a.eval y).cells.toList)∧(∀u∈(ys.flatMap fun y=>(a.eval y).cells.toList),u.oneCell'=true)∧(∀r∈rows,r.length=sz)∧(∀y∈ys,(a.eval y).cells.size=sz)∧rows.length=ys.length
  |[],ys,rows,hm,hr=>by
    cases ys<;>simp [mXs] at hm
    simp [rowsN] at hr;subst hr
    simp [PRlist]
  |x::r,ys,rows,hm,hr=>by
    cases ys with
    |nil=>simp [mXs] at hm
    |cons y ys=>
      simp only [mXs,Bool.and_eq_true] at hm
      simp only [rowsN] at hr
      split at hr
      · rename_i cs hcs
        split at hr
        · rename_i cs' rs e1 e2
          split at hr
          · rename_i hl
            simp only [Option.some.injEq] at hr;subst hr
            obtain ⟨c1,c2⟩:=cs_PR hcs (mX_sound h hm.1)
            obtain ⟨g1,g2,g3,g4,g5⟩:=rowsN_sound h hm.2 e2
            have c3:=shutNL_PR _ _ _ e1 c1
            have hsz:(a.eval y).cells.size=sz:=by rw [←Array.length_toList,←c3.length];exact hl
            refine ⟨by simpa using c3.append g1,?_,?_,?_,by simp [g5]⟩
            · intro u hu
              simp only [List.flatMap_cons,List.mem_append] at hu
              rcases hu with hu|hu
              · exact c2 u hu
              · exact g2 u hu
            · simpa [hl] using g3
            · simpa [hsz] using g4
          · cases hr
        · cases hr
      · cases hr

theorem rowsI_sound (h:Rel F S gb σ a w) {sz:Nat}: ∀ {ps:List X} {ys:List Operand} {rows:List (List AV)},mXs F.GL ps ys=true→rowsI σ sz ps=some rows→
    PRlist S gb rows.flatten (ys.flatMap fun y=>(a.eval y).cells.toList)∧(∀u∈(ys.flatMap fun y=>(a.eval y).cells.toList),u.oneCell'=true)∧(∀r∈rows,r.length=sz)∧(∀y∈ys,(a.eval y).cells.size=sz)∧rows.length=ys.length
  |[],ys,rows,hm,hr=>by
    cases ys<;>simp [mXs] at hm
    simp [rowsI] at hr;subst hr
    simp [PRlist]
  |x::r,ys,rows,hm,hr=>by
    cases ys with
    |nil=>simp [mXs] at hm
    |cons y ys=>
      simp only [mXs,Bool.and_eq_true] at hm
      simp only [rowsI] at hr
      split at hr
      · rename_i cs rs hcs e2
        split at hr
        · rename_i hl
          simp only [Option.some.injEq] at hr;subst hr
          obtain ⟨c1,c2⟩:=cs_PR hcs (mX_sound h hm.1)
          obtain ⟨g1,g2,g3,g4,g5⟩:=rowsI_sound h hm.2 e2
          have hsz:(a.eval y).cells.size=sz:=by rw [←Array.length_toList,←c1.length];exact hl
          refine ⟨by simpa using c1.append g1,?_,?_,?_,by simp [g5]⟩
          · intro u hu
            simp only [List.flatMap_cons,List.mem_append] at hu
            rcases hu with hu|hu
            · exact c2 u hu
            · exact g2 u hu
          · simpa [hl] using g3
          · simpa [hsz] using g4
        · cases hr
      · cases hr
theorem mem_zeroCells {z:Array Value} {n:Nat} (hz:0<z.size) (h1: ∀u∈z.toList,u.oneCell'=true): ∀u∈(Builtin.zeroCells z n).toList,u.oneCell'=true:=by
  intro u hu
  simp only [Builtin.zeroCells,Array.toList_map,List.mem_map] at hu
  obtain ⟨i,_,rfl⟩:=hu
  have hlt:i%z.size<z.size:=Nat.mod_lt _ hz
  rw [getElem!_pos z _ hlt]
  exact h1 _ (by simp)
theorem mXs_slot {GL:List (Nat×List Value)}: ∀ {xs:List X} {ys:List Operand},mXs GL xs ys=true→ ∀ {i t:Nat},xs[i]?=some (X.s t)→(ys.map a.eval)[i]?=some (tv a t)
  |[],ys,hm,i,t,hi=>by simp at hi
  |x::r,ys,hm,i,t,hi=>by
    cases ys with
    |nil=>simp [mXs] at hm
    |cons y s=>
      simp only [mXs,Bool.and_eq_true] at hm
      cases i with
      |zero=>
        simp at hi;subst hi
        cases y<;>simp [mX] at hm
        rw [hm.1];rfl
      |succ i=>simp at hi ⊢;have:=mXs_slot hm.2 hi;simpa using this
theorem callN_sound (h:Rel F S gb σ a w) {o:Oper} {d dn f:Nat} {I:In} {O:Out} (h2:d<F.N) (h1:o.dst=some d) {xs:List X} {vs:List Value} (hl:PRlist S gb (xs.map σ.v) vs) (hsl: ∀(i t:Nat),xs[i]?=some (X.s t)→vs[i]?=some (tv a t))
    (hrun:(execOp a.eval o).run P w=(callFunc f vs.toArray).run P w) {K:St→Prop} (hspec:Spec P F.GL f dn I O) (hc:CallOk dn σ xs I O) (hk:K (callSt d σ xs I O)) {K':Act→World→Prop} {Q:Exit→Act→World→Prop}
    (hK: ∀S gb σ a w,Rel F S gb σ a w→K σ→K' a w):o.wp P a w K' Q:=by
  have hent:=call_entry h hc hl hsl
  have hvs:PRlist S gb I.vs vs:=wkL_PR hc.vs hl
  have hglo: ∀i us,F.GL.lookup i=some us→ ∀(o:Nat) (u:Value),us[o]?=some u→S i o=some u∧u.oneCell'=true:=fun i us hi o u hu=>⟨h.le _ _ _ (h.glo i us hi o u hu).1,(h.glo i us hi o u hu).2⟩
  have hgn: ∀i,i.isNw dn=true→gb i=none:=by
    intro i hi
    cases hg:gb i with
    |none=>rfl
    |some x=>
      rcases h.dom i (by rw [hg];simp) with h1|h1
      · obtain ⟨cs,hcs⟩:=Option.isSome_iff_exists.1 h1
        have:=hc.free _ (lkB_mem _ _ _ hcs)
        simp only at this
        rw [this] at hi;cases hi
      · cases i<;>simp [Id.isUp,Id.isNw] at h1 hi
  have hd:=hspec S gb w vs hvs hent hglo hgn
  have next: ∀u w',(∃S' gb',PostR dn I O S gb (fun t=>vs.getD t undef) w S' gb' u w')→K' (a.put o.dst u) w':=by
    rintro u w' ⟨S',gb',hp⟩
    rw [h1]
    exact hK _ _ _ _ _ (h.call h2 hc hl hsl hp) hk
  unfold Oper.wp
  rw [hrun]
  unfold Does at hd
  split at hd
  · rename_i u w' he
    rw [he]
    exact next u w' hd
  · rename_i f' as' w' he
    rw [he]
    simp only [Oper.upon_enter]
    refine hd.mono ?_
    rintro e w'' ⟨u,rfl,hu⟩
    exact next u w'' hu
  · exact hd.elim

theorem callH_sound (h:Rel F S gb σ a w) {o:Oper} {d f:Nat} (h2:d<F.N) (h1:o.dst=some d) {xs:List X} {vs:List Value} (hl:PRlist S gb (xs.map σ.v) vs) (hsl: ∀(i t:Nat),xs[i]?=some (X.s t)→vs[i]?=some (tv a t))
    (hrun:(execOp a.eval o).run P w=(callFunc f vs.toArray).run P w) {K:St→Prop} (hw:wpC (Spec P F.GL) f d xs K σ) {K':Act→World→Prop} {Q:Exit→Act→World→Prop}
    (hK: ∀S gb σ a w,Rel F S gb σ a w→K σ→K' a w):o.wp P a w K' Q:=by
  obtain ⟨I,O,hspec,hc,hk⟩:=hw
  exact callN_sound h h2 h1 hl hsl hrun hspec hc hk hK

theorem wkL_rfl': ∀(l:List AV),wkL l l
  |[]=>trivial
  |v::r=>⟨.inl rfl,wkL_rfl' r⟩
def idTop:Id→Nat
  | .nw d _=>d+1
  |_=>0
theorem fresh_nw: ∀(l:List (Id×List AV)),∃m,∀p∈l,∀e,m≤e→p.1.isNw e=false
  |[]=>⟨0,fun p hp=>by simp at hp⟩
  |(i,cs)::r=>by
    obtain ⟨m,hm⟩:=fresh_nw r
    refine ⟨max m (idTop i),fun p hp e he=>?_⟩
    rcases List.mem_cons.1 hp with rfl|hp
    · cases i<;>simp [Id.isNw,idTop] at he ⊢
      omega
    · exact hm p hp e (by omega)
theorem op1_sound (h:Rel F S gb σ a w) {o:Oper} {ao:AOp} (hm:mt1 P F.GL F.N o ao=true) {K:St→Prop} (hw:wp1 (Spec P F.GL) ao K σ) {K':Act→World→Prop} {Q:Exit→Act→World→Prop}
    (hK: ∀S gb σ a w,Rel F S gb σ a w→K σ→K' a w):o.wp P a w K' Q:=by
  have pure: ∀d v,ev σ ao=some (d,v)→K (σ.put d v)→o.wp P a w K' Q:=by
    intro d v he hk
    obtain ⟨h1,h2,u,h3,h4⟩:=ev_sound h hm he
    refine wp_value h3 ?_
    rw [h1]
    exact hK _ _ _ _ _ (h.put h2 h4) hk
  cases ao
  case mo d s=>
    simp only [wp1] at hw
    simp only [mt1,Bool.and_eq_true,slotOk_iff] at hm
    obtain ⟨⟨h1,h2⟩,hm⟩:=hm
    split at hw
    · rename_i k hk
      have hop:(execOp a.eval o).run P w= .ok (.value (a.tmps.getD s undef)) w:=by
        unfold execOp
        split at hm
        · rename_i t hop;simp only [beq_iff_eq] at hm;subst hm;simp only [hop];rfl
        · rename_i t hop;simp only [beq_iff_eq] at hm;subst hm;simp only [hop];rfl
        · cases hm
      refine wp_value hop ?_
      rw [h1]
      refine hK S gb ((⟨σ.e,σ.bx,dl σ.pm (.s s)⟩:St).puto d (lk σ.e s) k) _ _ ?_ hw
      refine (h.drop (.s s)).puto h2 (h.env s) (h.hr.own _ _ hk) (fun g hg=>h.newo _ _ g hk hg) ?_ (fun b d' z hb=>h.hr.ownb _ _ b d' z hk hb)
      intro p l b hl _ hb hb2
      simp only [lkP_dl] at hl
      split at hl
      · cases hl
      · rename_i hne
        exact hne (h.hr.ownd p (.s s) l k b hl hk hb hb2)
    · have hop:(execOp a.eval o).run P w= .ok (.value (a.tmps.getD s undef)) w:=by
        unfold execOp
        split at hm
        · rename_i t hop;simp only [beq_iff_eq] at hm;subst hm;simp only [hop];rfl
        · rename_i t hop;simp only [beq_iff_eq] at hm;subst hm;simp only [hop];rfl
        · cases hm
      refine wp_value hop ?_
      rw [h1]
      exact hK _ _ _ _ _ (h.put h2 (h.env s)) hw
  case al d z=>
    simp only [wp1] at hw
    simp only [mt1,Bool.and_eq_true,slotOk_iff] at hm
    obtain ⟨⟨h1,h2⟩,hm⟩:=hm
    split at hm<;>(try cases hm)
    rename_i t hop
    split at hm<;>(try cases hm)
    rename_i i hi
    split at hm<;>(try cases hm)
    rename_i z' hz
    simp only [Bool.and_eq_true] at hm
    split at hw
    · rename_i hn
      refine wp_value (u:= .pointer (some ⟨w.heap.size,0,none⟩)) (w':=w.alloc (.cells z'.cells t)) ?_ ?_
      · unfold execOp
        simp [hop,Instr.alloc,zeroValue,typeInfo,hi,hz,newVar,newRow]
      · rw [h1]
        have hz:=cstL_sound (S:=S) (gb:=gb) _ _ hm.2
        have hl:z.length=z'.cells.size:=by rw [hz.length];simp
        exact hK _ _ _ _ _ (h.newBox h2 rfl hn (z:=⟨z'.cells.size,t⟩) ⟨fun _=>⟨z'.cells,t,rfl,rfl,by omega,by rw [hl,←Array.length_toList,List.take_length];exact hz,fun u hu=>List.all_eq_true.1 hm.1 u hu⟩,fun hi=>by cases hi⟩ (by simp only [PR];exact ⟨w.heap.size,⟨z'.cells.size,t⟩,by simp [updG],rfl,rfl⟩)) hw
    · cases hw
  case alT d T off z=>
    simp only [wp1] at hw
    simp only [mt1,Bool.and_eq_true,slotOk_iff] at hm
    obtain ⟨⟨h1,h2⟩,hm⟩:=hm
    split at hm<;>(try cases hm)
    rename_i t hop
    simp only [Bool.and_eq_true,beq_iff_eq,decide_eq_true_eq] at hm
    obtain ⟨⟨⟨rfl,hoff⟩,hnil⟩,hm⟩:=hm
    split at hm<;>(try cases hm)
    rename_i i hi
    split at hm<;>(try cases hm)
    rename_i z' hz
    simp only [Bool.and_eq_true,beq_iff_eq] at hm
    obtain ⟨⟨hm1,hm2⟩,hm3⟩:=hm
    split at hnil<;>(try cases hnil)
    rename_i hnil
    split at hw
    · rename_i hn
      refine wp_value (u:= .pointer (some ⟨w.heap.size,0,none⟩)) (w':=w.alloc (.cells z'.cells t)) ?_ ?_
      · unfold execOp
        simp [hop,Instr.alloc,zeroValue,typeInfo,hi,hz,newVar,newRow]
      · rw [h1]
        have hz:=cstL_sound (S:=S) (gb:=updG gb (.n d) w.heap.size ⟨z'.cells.size,t⟩) _ _ hm2
        have hl:z.length=z'.cells.size:=by rw [hz.length];simp
        refine hK _ _ _ _ _ (h.newBoxT h2 rfl hn (z:=⟨z'.cells.size,t⟩) ⟨fun _=>⟨z'.cells,t,rfl,rfl,by simp;omega,?_,fun u hu=>List.all_eq_true.1 hm1 u hu⟩,fun hi=>by cases hi⟩ (by simp only [PR];exact ⟨w.heap.size,⟨z'.cells.size,t⟩,by simp [updG],rfl,rfl⟩)) hw
        have htk:z'.cells.toList.take (z.set off (AV.nilT (Id.n d) t z.length)).length=z'.cells.toList:=by rw [List.length_set,hl,←Array.length_toList,List.take_length]
        rw [htk,hl]
        exact PRlist.setNil (g:=w.heap.size) (by simp [updG]) hz hnil
    · cases hw
  case bx d x=>
    simp only [wp1] at hw
    simp only [mt1,Bool.and_eq_true,slotOk_iff] at hm
    obtain ⟨⟨h1,h2⟩,hm⟩:=hm
    split at hm<;>(try cases hm)
    rename_i t x' hop
    have hx:=mX_sound h hm
    split at hw
    · rename_i hn
      split at hw
      · rename_i cs hcs
        obtain ⟨c1,c2⟩:=cs_PR hcs hx
        refine wp_value (u:= .pointer (some ⟨w.heap.size,0,none⟩)) (w':=w.alloc (.cells (a.eval x').cells t)) ?_ ?_
        · unfold execOp
          simp [hop,Instr.box,newVar,newRow]
        · rw [h1]
          have hl:cs.length=(a.eval x').cells.size:=by rw [c1.length];simp
          exact hK _ _ _ _ _ (h.newBox h2 rfl hn (z:=⟨(a.eval x').cells.size,t⟩) ⟨fun _=>⟨_,t,rfl,rfl,by omega,by rw [hl,←Array.length_toList,List.take_length];exact c1,c2⟩,fun hi=>by cases hi⟩ (by simp only [PR];exact ⟨w.heap.size,⟨(a.eval x').cells.size,t⟩,by simp [updG],rfl,rfl⟩)) hw
      · cases hw
    · cases hw
  case bxT d T off x=>
    simp only [wp1] at hw
    simp only [mt1,Bool.and_eq_true,slotOk_iff] at hm
    obtain ⟨⟨h1,h2⟩,hm⟩:=hm
    split at hm<;>(try cases hm)
    rename_i t x' hop
    simp only [Bool.and_eq_true,beq_iff_eq] at hm
    obtain ⟨rfl,hm⟩:=hm
    have hx:=mX_sound h hm
    split at hw
    · rename_i hn
      split at hw
      · rename_i cs hcs
        split at hw
        · rename_i hnil
          obtain ⟨c1,c2⟩:=cs_PR hcs hx
          refine wp_value (u:= .pointer (some ⟨w.heap.size,0,none⟩)) (w':=w.alloc (.cells (a.eval x').cells t)) ?_ ?_
          · unfold execOp
            simp [hop,Instr.box,newVar,newRow]
          · rw [h1]
            have hl:cs.length=(a.eval x').cells.size:=by rw [c1.length];simp
            have hgd:gb (.n d)=none:=by
              cases hg:gb (.n d) with
              |none=>rfl
              | some g => rcases h.dom (.n d) (by rw [hg]; simp) with h3 | h3
                          · rw [hn] at h3;cases h3
                          · cases h3
            have hle:gb.le (updG gb (.n d) w.heap.size ⟨(a.eval x').cells.size,t⟩):=fun d' g hg=>by
              simp only [updG]
              split
              · rename_i e;subst e;rw [hgd] at hg;cases hg
              · exact hg
            refine hK _ _ _ _ _ (h.newBoxT h2 rfl hn (z:=⟨(a.eval x').cells.size,t⟩) ⟨fun _=>⟨_,t,rfl,rfl,by simp;omega,?_,c2⟩,fun hi=>by cases hi⟩ (by simp only [PR];exact ⟨w.heap.size,⟨(a.eval x').cells.size,t⟩,by simp [updG],rfl,rfl⟩)) hw
            have htk:(a.eval x').cells.toList.take (cs.set off (AV.nilT (Id.n d) t cs.length)).length=(a.eval x').cells.toList:=by rw [List.length_set,hl,←Array.length_toList,List.take_length]
            rw [htk,hl]
            exact PRlist.setNil (g:=w.heap.size) (by simp [updG]) (PRlist.mono (Mem.le.refl _) hle _ _ c1) hnil
        · cases hw
      · cases hw
    · cases hw
  case bs d sz ps=>
    simp only [wp1] at hw
    simp only [mt1,Bool.and_eq_true,slotOk_iff] at hm
    obtain ⟨⟨h1,h2⟩,hm⟩:=hm
    split at hm<;>(try cases hm)
    rename_i t n ps' hop
    simp only [Bool.and_eq_true,beq_iff_eq,Bool.not_eq_true',beq_eq_false_iff_ne,ne_eq] at hm
    obtain ⟨⟨⟨⟨hu,hsz0⟩,hn⟩,hle⟩,hps⟩:=hm
    obtain ⟨hsz0,hkb⟩:=kOk_iff.1 hsz0
    split at hu<;>(try cases hu)
    rename_i e hu'
    split at hu<;>(try cases hu)
    rename_i i hi
    simp only [Bool.and_eq_true,beq_iff_eq] at hu
    obtain ⟨hsize,hz⟩:=hu
    split at hz<;>(try cases hz)
    rename_i z hz'
    simp only [beq_iff_eq] at hz
    split at hps<;>(try cases hps)
    rename_i ys hys
    have hpl:=mapG_parts hys
    split at hw
    · rename_i rows hrows
      obtain ⟨r1,r2,r3,r4,r5⟩:=rowsOf_sound h hps hrows
      have hlen:n=ys.length:=by
        rw [hn]
        have: ∀(ps:List X) (ys:List Operand),mXs F.GL ps ys=true→ps.length=ys.length:=by
          intro ps;induction ps with
          |nil=>intro ys hh;cases ys<;>simp [mXs] at hh ⊢
          |cons x r ih=>intro ys hh;cases ys with
            |nil=>simp [mXs] at hh
            |cons y s=>simp [mXs] at hh;simp [ih s hh.2]
        exact this _ _ hps
      obtain ⟨us,f1,f2⟩:=fill_all sz (ys.map a.eval) 0 ((Array.range (n*sz)).map (z.cells[· %z.cells.size]!)) (by simpa using r4) (by simp [hlen])
      simp only [Nat.zero_mul,List.take_zero,List.nil_append,List.flatMap_map] at f2
      have hfl:(Array.map (fun x=>(x.1,a.eval x.2)) ps').toList=((ys.map a.eval).zipIdx.map fun x=>(x.2,x.1)):=by
        rw [Array.toList_map,hpl,List.map_map,List.zipIdx_map,List.map_map]
        rfl
      have hble:n*sz≤16777216:=Nat.le_of_ble_eq_true hle
      refine wp_value (u:= .slice (some ⟨w.heap.size,0,none⟩) n n) (w':=w.alloc (.cells us e)) ?_ ?_
      · unfold execOp
        simp only [hop,Instr.buildSlice,Sem.run_bind,run_underlying hu',Result.andThen_ok,sizeOf,typeInfo,run_program,hi,Sem.run_pure,hsize]
        rw [if_neg (by omega)]
        by_cases h0:n*sz=0
        · have hn0:n=0:=by rcases Nat.mul_eq_zero.1 h0 with h|h;exact h;exact absurd h hsz0
          have hys0:ys=[]:=List.eq_nil_of_length_eq_zero (by omega)
          subst hys0
          simp only [List.map_nil,List.zipIdx_nil] at hfl f1
          have hus:us= #[]:=by
            have:us.toList=[]:=by simpa using f2
            cases us;simp_all
          have hps0:ps'= #[]:=by cases ps';simpa using hfl
          simp [hn0,hps0,Array.range_zero',Instr.fill,newRow,hus]
        · simp only [h0,if_false,zeroValue,Sem.run_bind,typeInfo,run_program,Result.andThen_ok,hi,hz',Sem.run_pure]
          rw [hfl]
          rw [f1]
          simp [newRow]
      · rw [h1]
        have hus2:us.toList=ys.flatMap fun y=>(a.eval y).cells.toList:=f2
        obtain ⟨S',hS'⟩:=h.newOwn h2 us e (rows:=rows) (us:=us.toList) (k:=sz) (cap:=n) hkb r3 (by rw [hus2];exact r1) (by rw [hus2];exact r2) List.take_length (by
          refine Nat.le_of_eq (Eq.symm ?_)
          rw [←Array.length_toList,hus2,←r1.length,flatten_length r3,r5,hlen]) (by omega) (by unfold maxLen;have:n≤n*sz:=Nat.le_mul_of_pos_right _ (by omega);omega)
        refine hK S' gb _ _ _ ?_ hw
        rw [show n=rows.length by rw [r5,hlen]] at hS' ⊢
        exact hS'
    · cases hw
  case st n x v=>exact st_sound h hm hw hK
  case lo d x=>
    have hm0:mt1 P F.GL F.N o (.lds d x)=true:=hm
    simp only [wp1] at hw
    simp only [mt1,Bool.and_eq_true,slotOk_iff] at hm
    obtain ⟨⟨h1,h2⟩,hm⟩:=hm
    split at hm<;>(try cases hm)
    rename_i t x' hop
    simp only [Bool.and_eq_true] at hm
    have hx:=mX_sound h hm.2
    have plain: ∀v,loadS σ.bx (σ.v x)=some v→K (σ.put d v)→o.wp P a w K' Q:=by
      intro v hv hk
      obtain ⟨h1,h2,u,h3,h4⟩:=ev_sound h hm0 (d:=d) (v:=v) (by simp only [ev,hv])
      refine wp_value h3 ?_
      rw [h1]
      exact hK _ _ _ _ _ (h.put h2 h4) hk
    split at hw
    · rename_i b off hxe
      rw [hxe] at hx
      split at hw
      · rename_i cs hcs
        split at hw
        · rename_i v hv
          split at hw
          · rename_i k hk
            have hx':=hx
            simp only [PR] at hx
            obtain ⟨g,z,hg,hit,hxp⟩:=hx
            obtain ⟨us,b1,b2,b3⟩:=h.boxcell hcs hit hg
            obtain ⟨u,hu,hp⟩:=b2.get hv
            have hcell:=b1 off u hu
            have hpl:plv gb (tv a) w (.b b off)=u:=by simp [plv,hg,hcell]
            refine wp_value (u:=u) (w':=w) ?_ ?_
            · unfold execOp
              simp [hop,hxp,Instr.loadAt,Instr.sureAddr,loadVar,run_isAgg_s hm.1,hcell]
            · rw [h1]
              refine hK S gb ((⟨σ.e,σ.bx,dl σ.pm (.b b off)⟩:St).puto d v k) _ _ ?_ hw
              have ho:=h.hr.own _ _ hk
              rw [hpl] at ho
              refine (h.drop (.b b off)).puto h2 hp ho (fun g hg=>h.newo _ _ g hk (by rw [hpl];exact hg)) ?_ (fun b' d' z hb=>h.hr.ownb _ _ b' d' z hk (by rw [hpl];exact hb))
              intro p l b' hl _ hb hb2
              simp only [lkP_dl] at hl
              split at hl
              · cases hl
              · rename_i hne
                exact hne (h.hr.ownd p (.b b off) l k b' hl hk hb (by rw [hpl];exact hb2))
          · exact plain v (by simp only [loadS,hxe,hcs,hv]) hw
        · cases hw
      · cases hw
    · rename_i cs hxe
      split at hw
      · rename_i v hv
        exact plain v (by simp only [loadS,hxe,hv]) hw
      · cases hw
    · cases hw
  case so x s=>
    have hm0:=hm
    simp only [wp1] at hw
    simp only [mt1,Bool.and_eq_true,beq_iff_eq] at hm
    obtain ⟨h1,hm⟩:=hm
    split at hm<;>(try cases hm)
    rename_i t x' s' hop
    simp only [Bool.and_eq_true,beq_iff_eq] at hm
    obtain ⟨⟨hsz,rfl⟩,hx⟩:=hm
    have hx:=mX_sound h hx
    split at hw
    · rename_i d off hxe
      rw [hxe] at hx
      simp only [PR] at hx
      obtain ⟨g,z,hg,hit,hxp⟩:=hx
      split at hw
      · rename_i cs hcs
        split at hw
        case h_2=>
          split at hw
          · rename_i vs hvs
            refine st_sound h (n:=1) (x:=x) (v:= .s s) (K:=K) ?_ ?_ hK
            · simp only [mt1,Bool.and_eq_true,beq_iff_eq,hop] at hm0 ⊢
              exact ⟨hm0.1,⟨hm0.2.1.1,hm0.2.2⟩,by simp [mX]⟩
            · simp only [wp1,hxe,hcs]
              simp only [St.v,hvs]
              exact hw
          · cases hw
        rename_i k hk
        obtain ⟨hlt,hk2⟩:=hw
        have hown:=h.hr.own _ _ hk
        have hpv:=h.env s
        generalize huv:tv a s=u at hpv
        have hplu:plv gb (tv a) w (.s s)=u:=huv
        rw [hplu] at hown
        have hone:u.oneCell'=true:=by rcases hown with rfl|⟨_,_,_,_,_,_,rfl,_⟩|⟨_,_,_,_,_,rfl,_⟩<;>rfl
        have hcells:u.cells= #[u]:=by rcases hown with rfl|⟨_,_,_,_,_,_,rfl,_⟩|⟨_,_,_,_,_,rfl,_⟩<;>rfl
        obtain ⟨g',us,T,e1,e3,e0,e4,e5,e6⟩:=h.hr.box d cs hcs hit
        rw [hg] at e1;cases e1
        have hst:=run_storeCells_at P g off T [u] 0 us w e3 (by simp;omega) (by simpa using hone)
        simp only [Nat.add_zero,List.length_singleton] at hst
        have hset:us.toList.take off++[u]++us.toList.drop (off+1)=us.toList.set off u:=by
          rw [List.set_eq_take_append_cons_drop,if_pos (by simp;omega)];simp
        rw [hset] at hst
        have hheap:(w.setRow g (us.toList.set off u).toArray).heap[g]?=some (.cells (us.toList.set off u).toArray T (0,0)):=setRow_heap w g us _ T _ e3
        refine wp_skip' (w':=w.setRow g (us.toList.set off u).toArray) ?_ ?_
        · unfold execOp
          have:a.eval (.tmp s)=u:=huv
          simp [hop,hxp,this,Instr.storeAt,Instr.sureAddr,storeVar,run_sizeOf hsz,hcells,hst]
        · rw [h1]
          change K' a _
          refine hK S gb _ _ _ ?_ hk2
          have base:=h.setObj (by simp [hcs]) hg e6 (w':=w.setRow g (us.toList.set off u).toArray) (fun k hk=>setRow_other w g k _ hk) (by simp) rfl rfl rfl (cs':=cs.set off (lk σ.e s)) (fun _=>⟨_,T,by simp,hheap,by simpa using e0,by
            have hul:=e4.fill (off:=off) (cs:=[lk σ.e s]) (us:=[u]) ⟨u,[],rfl,hpv,rfl⟩
            have hA:cs.set off (lk σ.e s)=fillA cs off [lk σ.e s]:=by
              rw [List.set_eq_take_append_cons_drop,if_pos hlt];simp [fillA]
            rw [hA]
            have hB:(us.toList.set off u).take (fillA cs off [lk σ.e s]).length=(us.toList.take cs.length).take off++[u]++(us.toList.take cs.length).drop (off+[u].length):=by
              have hl2:(fillA cs off [lk σ.e s]).length=cs.length:=by simp [fillA];omega
              rw [hl2,List.take_set,List.set_eq_take_append_cons_drop,if_pos (by simp;omega)]
              simp
            simp only [List.toList_toArray]
            rw [hB];exact hul,by
            intro x hx
            simp only [List.toList_toArray] at hx
            rcases List.mem_or_eq_of_mem_set hx with hx|rfl
            · exact e5 x hx
            · exact hone⟩) (fun hi=>by rw [hit] at hi;cases hi) (pm:=dl (dl σ.pm (.s s)) (.b d off)) (fun p l hl=>by
              simp only [lkP_dl] at hl
              split at hl
              · cases hl
              · split at hl
                · cases hl
                · exact hl) (fun o' l hl=>by
              simp only [lkP_dl] at hl
              split at hl
              · cases hl
              · rename_i hne
                have hne2:off≠o':=fun e=>hne (by rw [e])
                rw [cell_of_row _ g o' _ T _ hheap,cell_of_row w g o' us T _ e3]
                simp only [List.getElem?_toArray,List.getElem?_set_ne hne2];simp)
          have hplb:plv gb (tv a) (w.setRow g (us.toList.set off u).toArray) (.b d off)=u:=by
            simp only [plv,hg]
            rw [cell_of_row _ g off _ T _ hheap]
            simp [show off<us.size by omega]
          have hsame: ∀p l,lkP (dl (dl σ.pm (.s s)) (.b d off)) p=some l→plv gb (tv a) (w.setRow g (us.toList.set off u).toArray) p=plv gb (tv a) w p∧lkP σ.pm p=some l∧p≠ .s s∧p≠ .b d off:=by
            intro p l hl
            simp only [lkP_dl] at hl
            split at hl
            · cases hl
            · rename_i hne
              split at hl
              · cases hl
              · rename_i hne2
                refine ⟨?_,hl,hne2,hne⟩
                cases p with
                |s t=>rfl
                |t t i=>rfl
                |b d' o'=>
                  simp only [plv]
                  cases hq:gb d' with
                  |none=>rfl
                  |some x=>
                    obtain ⟨q,zq⟩:=x
                    simp only []
                    by_cases e:q=g
                    · subst e
                      have:=h.hr.inj d' d q zq _ (h.hr.pmb d' o' l hl).1 (by simp [hcs]) hq hg
                      subst this
                      have hne3:off≠o':=fun e=>hne (by rw [e])
                      rw [cell_of_row _ q o' _ T _ hheap,cell_of_row w q o' us T _ e3]
                      simp only [List.getElem?_toArray,List.getElem?_set_ne hne3];simp
                    · rw [World.cell?_of_block (w:=w) (setRow_other w g q _ e)]
          have hubase: ∀b,u.ownBlock=some b→b≠g:=by
            intro b hb e;subst e
            exact h.hr.ownb _ _ b d _ hk (by rw [hplu];exact hb) (by simp [hcs]) hg
          refine ⟨base.defers,base.size,base.bw,base.ext,base.le,base.env,⟨base.hr.agree,base.hr.box,base.hr.its,base.hr.inj,?_,?_,?_,?_⟩,base.newb,?_,base.dom,base.up,base.glo⟩
          · intro p l hl
            simp only [lkP] at hl
            split at hl
            · rename_i e;subst e;simp only [Option.some.injEq] at hl;subst hl
              rw [hplb]
              exact hown.mono (fun q hq=>setRow_other w g q _ (hubase q hq)) (fun _ _ _ hn=>hn)
            · exact base.hr.own p l hl
          · intro p q l m b hl hm2 p1 p2
            simp only [lkP] at hl hm2
            split at hl
            · rename_i e;subst e
              split at hm2
              · rename_i e;exact e
              · rename_i e
                rw [hplb] at p1
                obtain ⟨s1,s2,s3,s4⟩:=hsame q m hm2
                rw [s1] at p2
                exact absurd (h.hr.ownd q (.s s) m k b s2 hk p2 (by rw [hplu];exact p1)) s3
            · rename_i e
              split at hm2
              · rename_i e2;subst e2
                rw [hplb] at p2
                obtain ⟨s1,s2,s3,s4⟩:=hsame p l hl
                rw [s1] at p1
                exact absurd (h.hr.ownd p (.s s) l k b s2 hk p1 (by rw [hplu];exact p2)) s3
              · exact base.hr.ownd p q l m b hl hm2 p1 p2
          · intro p l b d' z' hl p1 hd'
            simp only [lkP] at hl
            simp only [lkB_stB_some (by simp [hcs]:(lkB σ.bx d).isSome)] at hd'
            split at hl
            · rename_i e;subst e
              rw [hplb] at p1
              exact h.hr.ownb _ _ b d' z' hk (by rw [hplu];exact p1) hd'
            · exact base.hr.ownb p l b d' z' hl p1 (by simp only [lkB_stB_some (by simp [hcs]:(lkB σ.bx d).isSome)];exact hd')
          · intro d' o' l hl
            simp only [lkP] at hl
            split at hl
            · rename_i e;cases e
              simp only [lkB_stB_some (by simp [hcs]:(lkB σ.bx d).isSome)]
              exact ⟨by simp [hcs],hit⟩
            · exact base.hr.pmb d' o' l hl
          · intro p l q hl hq
            simp only [lkP] at hl
            split at hl
            · rename_i e;subst e
              rw [hplb] at hq
              exact h.newo _ _ q hk (by rw [hplu];exact hq)
            · exact base.newo p l q hl hq
      · cases hw
    · cases hw
  case ap d sz by_ s y=>
    simp only [wp1] at hw
    simp only [mt1,Bool.and_eq_true,slotOk_iff] at hm
    obtain ⟨⟨h1,h2⟩,hm⟩:=hm
    split at hm<;>(try cases hm)
    rename_i as ts hop
    split at hm<;>(try cases hm)
    rename_i s' y' t t' has hts
    simp only [Bool.and_eq_true,beq_iff_eq,Bool.not_eq_true',beq_eq_false_iff_ne,ne_eq] at hm
    obtain ⟨⟨⟨⟨⟨rfl,hu⟩,hsz0⟩,hby0⟩,hs⟩,hy⟩:=hm
    obtain ⟨hsz0,hkb⟩:=kOk_iff.1 hsz0
    split at hu<;>(try cases hu)
    rename_i e hu'
    split at hu<;>(try cases hu)
    rename_i i hi
    simp only [Bool.and_eq_true,beq_iff_eq] at hu
    obtain ⟨⟨hsize,hbytes⟩,hz⟩:=hu
    split at hz<;>(try cases hz)
    rename_i z hz'
    simp only [beq_iff_eq] at hz
    have hs':=mX_sound h hs
    have hy':=mX_sound h hy
    have has':as= #[s',y']:=by cases as;simp_all
    have hts':ts= #[t,t]:=by cases ts;simp_all
    subst has';subst hts'
    have hexec: ∀ {u:Value} {w':World},(Builtin.append_ #[t,t] o.type #[a.eval s',a.eval y']).run P w= .ok u w'→(execOp a.eval o).run P w= .ok (.value u) w':=by
      intro u w' hr
      unfold execOp
      simp [hop,resolve,invoke,builtin,hr]
    split at hw
    · rename_i news hnews
      have hyn:=gb0to (gb:=gb) (shut_PR _ _ _ hnews hy')
      split at hw
      · rename_i rows t0 hrows
        obtain ⟨w1,w2,w3,w4,w5⟩:=hw
        cases s' with
        |tmp t1=>
          simp only [mX,beq_iff_eq] at hs
          subst hs
          rw [hrows] at hs'
          obtain ⟨u,w',S',g1,g2⟩:=app_sound (P:=P) h h2 (ty:=o.type) hu' hi hz' hsize hkb hbytes hz (by omega) (by omega) (h.drop (.s t0)) hyn w4 w3 hs' (h.hr.own _ _ w1) (fun g hg=>h.newo _ _ g w1 hg) (by
            intro p l b hl hb hb2
            simp only [lkP_dl] at hl
            split at hl
            · cases hl
            · rename_i hne
              exact hne (h.hr.ownd p (.s t0) l sz b hl w1 hb hb2)) (fun b d' z hb=>h.hr.ownb _ _ b d' z w1 hb) w2
          refine wp_value (hexec g1) ?_
          rw [h1]
          exact hK _ _ _ _ _ g2 w5
        |const c=>simp [mX] at hs
        |global g=>simp [mX] at hs
        |func g=>simp [mX] at hs
      · rename_i hrows
        obtain ⟨w2,w4,w5⟩:=hw
        rw [hrows] at hs'
        simp only [PR] at hs'
        obtain ⟨u,w',S',g1,g2⟩:=app_sound (P:=P) h h2 (ty:=o.type) (rows:=[]) hu' hi hz' hsize hkb hbytes hz (by omega) (by omega) h hyn w4 (by simp) (sv:=a.eval s') (by simp only [PR];exact .inl ⟨hs',trivial⟩) (.inl hs') (by
          intro b hb;rw [hs'] at hb;simp [Value.ownBlock] at hb) (by
          intro p l b _ _ hb;rw [hs'] at hb;simp [Value.ownBlock] at hb) (by
          intro b d' z hb;rw [hs'] at hb;simp [Value.ownBlock] at hb) (by simpa using w2)
        refine wp_value (hexec g1) ?_
        rw [h1]
        exact hK _ _ _ _ _ g2 (by simpa using w5)
      · cases hw
    · cases hw
  case mk d sz by_ z l c=>
    simp only [wp1] at hw
    simp only [mt1,Bool.and_eq_true,slotOk_iff] at hm
    obtain ⟨⟨h1,h2⟩,hm⟩:=hm
    split at hm<;>(try cases hm)
    rename_i t l' c' hop
    simp only [Bool.and_eq_true,beq_iff_eq,Bool.not_eq_true',beq_eq_false_iff_ne,ne_eq] at hm
    obtain ⟨⟨⟨⟨hu,hsz0⟩,hby0⟩,hl⟩,hc⟩:=hm
    obtain ⟨hsz0,hkb⟩:=kOk_iff.1 hsz0
    split at hu<;>(try cases hu)
    rename_i e hu'
    split at hu<;>(try cases hu)
    rename_i i hi
    simp only [Bool.and_eq_true,beq_iff_eq] at hu
    obtain ⟨⟨hsize,hbytes⟩,hz⟩:=hu
    split at hz<;>(try cases hz)
    rename_i z' hz'
    simp only [Bool.and_eq_true,beq_iff_eq] at hz
    obtain ⟨⟨hzs,hone⟩,hcz⟩:=hz
    have hl':=mX_sound h hl
    have hc':=mX_sound h hc
    split at hw
    · rename_i kl ln kc cn hlv hcv
      obtain ⟨w1,w2,w3,w4⟩:=hw
      rw [hlv] at hl';rw [hcv] at hc'
      simp only [PR] at hl' hc'
      have hb:(i.bytes:Int)*cn≤140737488355328:=by rw [hbytes,Int.mul_comm];unfold lim at w3;simpa using w3
      have hcn:cn≤(i.bytes:Int)*cn:=by
        have h0:0≤cn:=by omega
        have h1':(1:Int)≤i.bytes:=by omega
        calc cn=1*cn:=by simp
          _≤(i.bytes:Int)*cn:=Int.mul_le_mul_of_nonneg_right h1' h0
      have hrun:=run_make (P:=P) w t e i z' hu' hi hz' kl kc ln cn w1 w2 (by omega) (by omega)
      refine wp_value (u:= .slice (some ⟨w.heap.size,0,none⟩) ln.toNat cn.toNat) (w':=w.alloc (.cells (madeCells z'.cells (cn.toNat*i.size)) e)) ?_ ?_
      · unfold execOp
        simp [hop,hl',hc',hrun]
      · rw [h1]
        have zrel:=cstL_sound (S:=S) (gb:=gb0) _ _ hcz
        have hzl:z.length=sz:=by rw [zrel.length];simpa using hzs
        have hflat: ∀n,PRlist S gb0 (List.replicate n z).flatten (List.replicate n z'.cells.toList).flatten:=by
          intro n
          induction n with
          |zero=>simp [PRlist]
          |succ n ih=>simp only [List.replicate_succ,List.flatten_cons];exact zrel.append ih
        have hmade: ∀n m,n≤m→(madeCells z'.cells (m*sz)).toList.take (n*sz)=(List.replicate n z'.cells.toList).flatten:=by
          intro n m hnm
          apply List.ext_getElem?
          intro j
          rw [List.getElem?_take]
          have hfl:((List.replicate n z'.cells.toList).flatten).length=n*sz:=by simp [hzs]
          split
          · rename_i hj
            have hjm:j<m*sz:=Nat.lt_of_lt_of_le hj (Nat.mul_le_mul_right _ hnm)
            have hpos:0<sz:=by omega
            have e1:(madeCells z'.cells (m*sz)).toList[j]?=some (z'.cells[j%sz]!):=by
              simp [madeCells,hjm,hzs]
            rw [e1]
            have: ∀n j,j<n*sz→((List.replicate n z'.cells.toList).flatten)[j]?=some (z'.cells[j%sz]!):=by
              intro n
              induction n with
              |zero=>intro j hj;simp at hj
              |succ n ih=>
                intro j hj
                simp only [List.replicate_succ,List.flatten_cons]
                rw [List.getElem?_append]
                have hll:z'.cells.toList.length=sz:=by simpa using hzs
                rw [hll]
                by_cases hjs:j<sz
                · rw [if_pos hjs,Nat.mod_eq_of_lt hjs]
                  have:j<z'.cells.size:=by omega
                  simp [this]
                · rw [if_neg hjs,ih (j - sz) (by rw [Nat.add_mul] at hj;omega)]
                  congr 2
                  rw [Nat.mod_eq_sub_mod (by omega:sz≤j)]
            rw [this n j hj]
          · rename_i hj
            rw [List.getElem?_eq_none (by omega)]
        have hflen:((List.replicate ln.toNat z'.cells.toList).flatten).length=ln.toNat*sz:=by simp [hzs]
        obtain ⟨S',hS'⟩:=h.newOwn h2 (madeCells z'.cells (cn.toNat*i.size)) e (rows:=List.replicate ln.toNat z) (us:=(List.replicate ln.toNat z'.cells.toList).flatten) (k:=sz) (cap:=cn.toNat) hkb
          (by intro r hr;rw [List.eq_of_mem_replicate hr];exact hzl) (hflat _) (by
            intro u hu
            simp only [List.mem_flatten,List.mem_replicate] at hu
            obtain ⟨l,⟨_,rfl⟩,hu⟩:=hu
            exact List.all_eq_true.1 hone u hu) (by rw [hflen,hsize];exact hmade _ _ (by omega)) (by refine Nat.le_of_eq (Eq.symm ?_);rw [size_madeCells,hsize]) (by simp;omega) (by unfold maxLen;omega)
        refine hK S' gb _ _ _ ?_ w4
        simpa using hS'
    · cases hw
  case sls d x lo hi=>
    simp only [wp1] at hw
    simp only [mt1,Bool.and_eq_true,slotOk_iff] at hm
    obtain ⟨⟨h1,h2⟩,hm⟩:=hm
    split at hm<;>(try cases hm)
    rename_i t x' lo' hi' hop
    simp only [Bool.and_eq_true] at hm
    obtain ⟨⟨⟨hu,hx⟩,hlo⟩,hhi⟩:=hm
    have hu':P.underlying t=some .string:=by split at hu<;>simp_all
    have hx':=mX_sound h hx
    split at hw
    · rename_i s hs
      split at hw
      · rename_i l hh hl2 hh2
        obtain ⟨w1,w2,w3,w4⟩:=hw
        rw [hs] at hx'
        simp only [PR] at hx'
        have b1:=bnd_sound h hlo hl2
        have b2:=bnd_sound h hhi hh2
        have e2:(ByteArray.mk s.toArray).size=s.length:=rfl
        refine wp_value (u:= .string ⟨((s.take hh.toNat).drop l.toNat).toArray⟩) (w':=w) ?_ ?_
        · unfold execOp
          simp only [hop,hx',Instr.sliceAt,Instr.slice,Sem.run_bind,run_underlying hu',Result.andThen_ok,Option.map_none,Option.isSome_none,Bool.false_eq_true,if_false,Instr.sliceBounds,e2]
          rcases b1 with ⟨rfl,rfl⟩|⟨yl,kl,rfl,hyl⟩<;>rcases b2 with ⟨rfl,rfl⟩|⟨yh,kh,rfl,hyh⟩
          · simp [extract_mk]
          · simp [hyh,Instr.sliceBound,asIntOf,w3,show 0≤hh by omega,extract_mk]
          · simp [hyl,Instr.sliceBound,asIntOf,w1,w2,extract_mk]
          · have:l≤(hh.toNat:Int):=by omega
            simp [hyl,hyh,Instr.sliceBound,asIntOf,w1,w3,show 0≤hh by omega,this,extract_mk]
            intro hc;omega
        · rw [h1]
          exact hK _ _ _ _ _ (h.put h2 (by simp [PR])) w4
      · cases hw
    · cases hw
  case slc d sz x lo hi=>
    simp only [wp1] at hw
    simp only [mt1,Bool.and_eq_true,slotOk_iff] at hm
    obtain ⟨⟨h1,h2⟩,hm⟩:=hm
    split at hm<;>(try cases hm)
    rename_i t x' lo' hi' hop
    simp only [Bool.and_eq_true] at hm
    obtain ⟨⟨⟨hu,hx⟩,hlo⟩,hhi⟩:=hm
    obtain ⟨e,hu',hsz⟩: ∃e,P.underlying t=some (.slice e)∧sz? P e=some sz:=by
      split at hu<;>simp_all
    have hx':=mX_sound h hx
    split at hw
    · rename_i rows hs
      split at hw
      · rename_i l hh hl2 hh2
        obtain ⟨w1,w2,w3,wr,w4⟩:=hw
        rw [hs] at hx'
        simp only [PR] at hx'
        have b1:=bnd_sound h hlo hl2
        have b2:=bnd_sound h hhi hh2
        have run: ∀(ad:Option Addr) (cap:Nat),rows.length≤cap→a.eval x'= .slice ad rows.length cap→(execOp a.eval o).run P w= .ok (.value (.slice (if cap=l.toNat then ad else ad.map (·.add (l.toNat*sz))) (hh.toNat - l.toNat) (cap - l.toNat))) w:=by
          intro ad cap hcap hev
          unfold execOp
          simp only [hop,hev,Instr.sliceAt,Instr.slice,Sem.run_bind,run_underlying hu',Result.andThen_ok,Option.map_none,Instr.sliceBounds,run_sizeOf hsz]
          rcases b1 with ⟨rfl,rfl⟩|⟨yl,kl,rfl,hyl⟩<;>rcases b2 with ⟨rfl,rfl⟩|⟨yh,kh,rfl,hyh⟩
          · simp [run_sizeOf hsz]
          · simp [hyh,Instr.sliceBound,asIntOf,show hh≤(cap:Int) by omega,show 0≤hh by omega,run_sizeOf hsz]
          · simp [hyl,Instr.sliceBound,asIntOf,w1,w2,run_sizeOf hsz]
          · have:l≤(hh.toNat:Int):=by omega
            simp [hyl,hyh,Instr.sliceBound,asIntOf,w1,show hh≤(cap:Int) by omega,show 0≤hh by omega,this,run_sizeOf hsz]
            intro hc;omega
        have hlen:((rows.take hh.toNat).drop l.toNat).length=hh.toNat - l.toNat:=list_slice_len _ _ _ (by omega) (by omega)
        rcases hx' with ⟨hx',hr⟩|⟨ad,cap,k,hx',hcap,hr⟩
        · subst hr
          simp only [List.length_nil] at w3
          have hl0:l.toNat=0:=by omega
          have hh0:hh.toNat=0:=by omega
          refine wp_value (run none 0 (by simp) hx') ?_
          rw [h1]
          refine hK _ _ _ _ _ (h.put h2 ?_) w4
          simp only [PR]
          exact .inl ⟨by simp [hl0,hh0],by simp⟩
        · refine wp_value (run (some ad) cap hcap hx') ?_
          rw [h1]
          refine hK _ _ _ _ _ (h.put h2 ?_) w4
          simp only [PR]
          right
          by_cases hcl:cap=l.toNat
          · refine ⟨ad,cap - l.toNat,k,by rw [if_pos hcl,hlen],by rw [hlen];omega,.inl ?_⟩
            apply List.eq_nil_of_length_eq_zero
            rw [hlen];omega
          · refine ⟨ad.add (l.toNat*sz),cap - l.toNat,k,by rw [if_neg hcl,hlen];rfl,by rw [hlen];omega,?_⟩
            by_cases hne:(rows.take hh.toNat).drop l.toNat=[]
            · exact .inl hne
            · right
              rcases hr with hr|⟨hsp,hr⟩
              · subst hr;simp at hne
              · obtain ⟨bk,of,sp⟩:=ad
                simp only at hsp hr
                subst hsp
                rw [Addr.add_lit]
                refine ⟨rfl,?_⟩
                have hk:k=sz:=by
                  cases rows with
                  |nil=>simp at hne
                  |cons r rs=>
                    simp only [PRrows] at hr
                    rw [←hr.1];exact wr r (by simp)
                subst hk
                exact (hr.take _).drop _
      · cases hw
    · cases hw
  case cl d f xs=>
    simp only [wp1] at hw
    simp only [mt1,Bool.and_eq_true,slotOk_iff] at hm
    obtain ⟨⟨h1,h2⟩,hm⟩:=hm
    split at hm<;>(try cases hm)
    rename_i f' as ts hop
    simp only [Bool.and_eq_true,beq_iff_eq] at hm
    obtain ⟨rfl,hxs⟩:=hm
    split at hw
    · rename_i as' has
      obtain ⟨r,hspec,hk⟩:=hw
      have hl:=mXs_sound h hxs
      have hl0:=shutL_PR _ _ _ has hl
      have hent:HR S gb0 [] [] (fun t=>(List.map a.eval as.toList).getD t undef) w:=⟨h.hr.agree,fun d cs hcs=>by simp [lkB] at hcs,fun d cs hcs=>by simp [lkB] at hcs,fun d d' g z z' hd=>by simp [lkB] at hd,fun p k hp=>by simp [lkP] at hp,fun p q k l b hp=>by simp [lkP] at hp,fun p k b d z hp=>by simp [lkP] at hp,fun d off k hp=>by simp [lkP] at hp⟩
      have hglo: ∀i us,F.GL.lookup i=some us→ ∀(o:Nat) (u:Value),us[o]?=some u→S i o=some u∧u.oneCell'=true:=fun i us hi o u hu=>⟨h.le _ _ _ (h.glo i us hi o u hu).1,(h.glo i us hi o u hu).2⟩
      have hd:=hspec d S gb0 w _ hl0 hent hglo (fun _ _=>rfl)
      have harr:(List.map a.eval as.toList).toArray=as.map a.eval:=by
        apply Array.ext';simp
      rw [harr] at hd
      have hrun:(execOp a.eval o).run P w=(callFunc f (as.map a.eval)).run P w:=by
        unfold execOp
        simp [hop,resolve,Act.eval,Deferred.ofValue,invoke]
      have next: ∀u w',(∃S' gb',PostR d ⟨as',[],[]⟩ ⟨r,[],[]⟩ S gb0 (fun t=>(List.map a.eval as.toList).getD t undef) w S' gb' u w')→K' (a.put o.dst u) w':=by
        rintro u w' ⟨S',gb',hp⟩
        have hM: ∀g,¬MS ⟨as',[],[]⟩ gb0 (fun t=>(List.map a.eval as.toList).getD t undef) w g:=by
          rintro g (⟨e,z,h1,_⟩|⟨p,k,h1,_⟩)
          · simp [lkB] at h1
          · simp [lkP] at h1
        have hgb:gb'=gb0:=by
          funext i
          cases hi:i.isNw d with
          |false=>exact hp.same i hi
          |true=>
            cases hq:gb' i with
            |none=>rfl
            |some x=>have:=hp.nw i hi (by rw [hq];simp);simp [lkB] at this
        subst hgb
        rw [h1]
        exact hK _ _ _ _ _ ((h.step (S':=S') ⟨hp.bw.os,hp.bw.tape,hp.bw.output,hp.bw.size,fun k hk=>hp.bw.block k hk (hM k)⟩ (fun g o hg=>hp.ext g o hg (hM g)) hp.le hp.hr.agree).put h2 (gb0to hp.r)) hk
      unfold Oper.wp
      rw [hrun]
      unfold Does at hd
      split at hd
      · rename_i u w' he
        rw [he]
        exact next u w' hd
      · rename_i f' as' w' he
        rw [he]
        simp only [Oper.upon_enter]
        refine hd.mono ?_
        rintro e w'' ⟨u,rfl,hu⟩
        exact next u w'' hu
      · exact hd.elim
    · cases hw
  case ce d f xs=>
    simp only [wp1] at hw
    simp only [mt1,Bool.and_eq_true,slotOk_iff] at hm
    obtain ⟨⟨h1,h2⟩,hm⟩:=hm
    split at hm<;>(try cases hm)
    rename_i f' as ts hop
    simp only [Bool.and_eq_true,beq_iff_eq] at hm
    obtain ⟨rfl,hxs⟩:=hm
    refine callH_sound h h2 h1 (mXs_sound h hxs) (fun i t hi=>mXs_slot hxs hi) ?_ hw hK
    have harr:(List.map a.eval as.toList).toArray=as.map a.eval:=by
      apply Array.ext';simp
    rw [harr]
    unfold execOp
    simp [hop,resolve,Act.eval,Deferred.ofValue,invoke]
  case cq d f xs fr=>
    simp only [wp1] at hw
    obtain ⟨I,O,q1,q2,-,q4⟩:=hw
    simp only [mt1,Bool.and_eq_true,slotOk_iff] at hm
    obtain ⟨⟨h1,h2⟩,hm⟩:=hm
    split at hm<;>(try cases hm)
    rename_i f' as ts hop
    simp only [Bool.and_eq_true,beq_iff_eq] at hm
    obtain ⟨rfl,hxs⟩:=hm
    refine callH_sound h h2 h1 (mXs_sound h hxs) (fun i t hi=>mXs_slot hxs hi) ?_ ⟨I,O,q1,q2,q4⟩ hK
    have harr:(List.map a.eval as.toList).toArray=as.map a.eval:=by
      apply Array.ext';simp
    rw [harr]
    unfold execOp
    simp [hop,resolve,Act.eval,Deferred.ofValue,invoke]
  case ca d f s ps=>
    simp only [wp1] at hw
    simp only [mt1,Bool.and_eq_true,slotOk_iff] at hm
    obtain ⟨⟨h1,h2⟩,hm⟩:=hm
    split at hm<;>(try cases hm)
    rename_i f' as ts hop
    simp only [Bool.and_eq_true,beq_iff_eq] at hm
    obtain ⟨rfl,hxs⟩:=hm
    obtain ⟨k,out,hc,hk⟩:=hw
    obtain ⟨m,hfree⟩:=fresh_nw σ.bx
    have hrun:(execOp a.eval o).run P w=(callFunc f (List.map a.eval as.toList).toArray).run P w:=by
      have harr:(List.map a.eval as.toList).toArray=as.map a.eval:=by
        apply Array.ext';simp
      rw [harr]
      unfold execOp
      simp [hop,resolve,Act.eval,Deferred.ofValue,invoke]
    have fin: ∀(I:In) (O:Out),Spec P F.GL f m I O→wkL ((s.toList++ps).map σ.v) I.vs→I.bx=[]→O.bx=[]→(∀p∈I.pm,pmIn σ (s.toList++ps) I p)→pmOne (s.toList++ps) I.pm→K (callSt d σ (s.toList++ps) I O)→o.wp P a w K' Q:=by
      intro I O hs hv hb1 hb2 hp ho hk
      refine callN_sound h h2 h1 (mXs_sound h hxs) (fun i t hi=>mXs_slot hxs hi) hrun hs ⟨hv,?_,hp,ho,?_,?_,?_⟩ hk hK
      · rw [hb1];intro p hp;simp at hp
      · rw [hb1];intro p hp;simp at hp
      · rw [hb2];intro p hp;simp at hp
      · intro p hp;exact hfree p hp m (Nat.le_refl _)
    cases s with
    |none=>
      simp only [caS,appS] at hc
      exact fin _ _ (hc m) (wkL_rfl' _) rfl rfl (by simp) trivial (by simpa [callSt,caSt,retP,dlXs,dlBs,rmBs,St.puto] using hk)
    |some x=>
      cases x with
      |c v=>
        simp only [caS,appS] at hc
        obtain ⟨rfl,hc⟩:=hc
        exact fin _ _ (hc m) ⟨.inr ⟨rfl,rfl⟩,wkL_rfl' _⟩ rfl rfl (by simp [pmIn]) (by simp [pmOne]) (by simpa [callSt,caSt,retP,dlXs,dlBs,rmBs,St.puto] using hk)
      |s t=>
        simp only [caS,appS] at hc
        rcases hc with ⟨rows,e1,e2,hc⟩|⟨e1,hc⟩
        · exact fin _ _ (hc m) ⟨.inl e1,wkL_rfl' _⟩ rfl rfl (by simp [pmIn,e2]) (by simp [pmOne]) (by simpa [callSt,caSt,retP,dlXs,dlBs,rmBs,St.puto] using hk)
        · exact fin _ _ (hc m) ⟨.inr ⟨e1,rfl⟩,wkL_rfl' _⟩ rfl rfl (by simp [pmIn,e1]) (by simp [pmOne]) (by simpa [callSt,caSt,retP,dlXs,dlBs,rmBs,St.puto] using hk)
  case cd d x xs=>
    simp only [wp1] at hw
    simp only [mt1,Bool.and_eq_true,slotOk_iff] at hm
    obtain ⟨⟨h1,h2⟩,hm⟩:=hm
    split at hm<;>(try cases hm)
    rename_i f' as ts hop
    simp only [Bool.and_eq_true] at hm
    obtain ⟨hx,hxs⟩:=hm
    have hx:=mX_sound h hx
    split at hw
    · rename_i f caps hv
      rw [hv] at hx
      simp only [PR] at hx
      obtain ⟨us,hx,hcaps⟩:=hx
      have hl:=mXs_sound h hxs
      have hall:PRlist S gb ((xs++caps.map X.c).map σ.v) (List.map a.eval as.toList++us.toList):=by
        rw [List.map_append]
        refine hl.append ?_
        have:(List.map σ.v (caps.map X.c))=caps:=by
          rw [List.map_map]
          exact (List.map_congr_left (fun c _=>rfl)).trans (List.map_id _)
        rw [this];exact hcaps
      have hlen:(List.map a.eval as.toList).length=xs.length:=by
        have:=hl.length
        simpa using this.symm
      refine callH_sound h h2 h1 hall (fun i t hi=>?_) ?_ hw hK
      · rw [List.getElem?_append] at hi
        split at hi
        · rename_i hlt
          rw [List.getElem?_append_left (by omega)]
          exact mXs_slot hxs hi
        · rw [List.getElem?_map] at hi
          cases hq:caps[i - xs.length]? with
          |none=>rw [hq] at hi;cases hi
          |some c=>rw [hq] at hi;cases hi
      · have harr:(List.map a.eval as.toList++us.toList).toArray=as.map a.eval++us:=by
          apply Array.ext';simp
        rw [harr]
        unfold execOp
        simp [hop,resolve,hx,Deferred.ofValue,invoke]
    · cases hw
  case bsn d sz ps=>
    simp only [wp1] at hw
    simp only [mt1,Bool.and_eq_true,slotOk_iff] at hm
    obtain ⟨⟨h1,h2⟩,hm⟩:=hm
    split at hm<;>(try cases hm)
    rename_i t n ps' hop
    simp only [Bool.and_eq_true,beq_iff_eq,Bool.not_eq_true',beq_eq_false_iff_ne,ne_eq] at hm
    obtain ⟨⟨⟨⟨hu,hsz0⟩,hn⟩,hle⟩,hps⟩:=hm
    obtain ⟨hsz0,hkb⟩:=kOk_iff.1 hsz0
    split at hu<;>(try cases hu)
    rename_i e hu'
    split at hu<;>(try cases hu)
    rename_i i hi
    simp only [Bool.and_eq_true,beq_iff_eq] at hu
    obtain ⟨hsize,hz⟩:=hu
    split at hz<;>(try cases hz)
    rename_i z hz'
    simp only [beq_iff_eq] at hz
    split at hps<;>(try cases hps)
    rename_i ys hys
    have hpl:=mapG_parts hys
    split at hw
    · rename_i rows hrows
      obtain ⟨r1,r2,r3,r4,r5⟩:=rowsN_sound h hps hrows
      have hlen:n=ys.length:=by
        rw [hn]
        have: ∀(ps:List X) (ys:List Operand),mXs F.GL ps ys=true→ps.length=ys.length:=by
          intro ps;induction ps with
          |nil=>intro ys hh;cases ys<;>simp [mXs] at hh ⊢
          |cons x r ih=>intro ys hh;cases ys with
            |nil=>simp [mXs] at hh
            |cons y s=>simp [mXs] at hh;simp [ih s hh.2]
        exact this _ _ hps
      obtain ⟨us,f1,f2⟩:=fill_all sz (ys.map a.eval) 0 ((Array.range (n*sz)).map (z.cells[· %z.cells.size]!)) (by simpa using r4) (by simp [hlen])
      simp only [Nat.zero_mul,List.take_zero,List.nil_append,List.flatMap_map] at f2
      have hfl:(Array.map (fun x=>(x.1,a.eval x.2)) ps').toList=((ys.map a.eval).zipIdx.map fun x=>(x.2,x.1)):=by
        rw [Array.toList_map,hpl,List.map_map,List.zipIdx_map,List.map_map]
        rfl
      have hble:n*sz≤16777216:=Nat.le_of_ble_eq_true hle
      refine wp_value (u:= .slice (some ⟨w.heap.size,0,none⟩) n n) (w':=w.alloc (.cells us e)) ?_ ?_
      · unfold execOp
        simp only [hop,Instr.buildSlice,Sem.run_bind,run_underlying hu',Result.andThen_ok,sizeOf,typeInfo,run_program,hi,Sem.run_pure,hsize]
        rw [if_neg (by omega)]
        by_cases h0:n*sz=0
        · have hn0:n=0:=by rcases Nat.mul_eq_zero.1 h0 with h|h;exact h;exact absurd h hsz0
          have hys0:ys=[]:=List.eq_nil_of_length_eq_zero (by omega)
          subst hys0
          simp only [List.map_nil,List.zipIdx_nil] at hfl f1
          have hus:us= #[]:=by
            have:us.toList=[]:=by simpa using f2
            cases us;simp_all
          have hps0:ps'= #[]:=by cases ps';simpa using hfl
          simp [hn0,hps0,Array.range_zero',Instr.fill,newRow,hus]
        · simp only [h0,if_false,zeroValue,Sem.run_bind,typeInfo,run_program,Result.andThen_ok,hi,hz',Sem.run_pure]
          rw [hfl]
          rw [f1]
          simp [newRow]
      · rw [h1]
        have hus2:us.toList=ys.flatMap fun y=>(a.eval y).cells.toList:=f2
        obtain ⟨S',hS'⟩:=h.newOwn h2 us e (rows:=rows) (us:=us.toList) (k:=sz) (cap:=n) hkb r3 (by rw [hus2];exact r1) (by rw [hus2];exact r2) List.take_length (by
          refine Nat.le_of_eq (Eq.symm ?_)
          rw [←Array.length_toList,hus2,←r1.length,flatten_length r3,r5,hlen]) (by omega) (by unfold maxLen;have:n≤n*sz:=Nat.le_mul_of_pos_right _ (by omega);omega)
        refine hK S' gb _ _ _ ?_ hw
        rw [show n=rows.length by rw [r5,hlen]] at hS' ⊢
        exact hS'
    · cases hw
  case bsm d sz ps=>
    simp only [wp1] at hw
    simp only [mt1,Bool.and_eq_true,slotOk_iff] at hm
    obtain ⟨⟨h1,h2⟩,hm⟩:=hm
    split at hm<;>(try cases hm)
    rename_i t n ps' hop
    simp only [Bool.and_eq_true,beq_iff_eq,Bool.not_eq_true',beq_eq_false_iff_ne,ne_eq] at hm
    obtain ⟨⟨⟨⟨hu,hsz0⟩,hn⟩,hle⟩,hps⟩:=hm
    split at hu<;>(try cases hu)
    rename_i e hu'
    split at hu<;>(try cases hu)
    rename_i i hi
    simp only [Bool.and_eq_true,beq_iff_eq] at hu
    obtain ⟨hsize,hz⟩:=hu
    split at hz<;>(try cases hz)
    rename_i z hz'
    simp only [beq_iff_eq] at hz
    split at hps<;>(try cases hps)
    rename_i ys hys
    have hpl:=mapG_parts hys
    suffices hall: ∀(rows:List (List AV)),lkB σ.bx (.n d)=none→(PRlist S gb rows.flatten (ys.flatMap fun y=>(a.eval y).cells.toList)∧(∀u∈(ys.flatMap fun y=>(a.eval y).cells.toList),u.oneCell'=true)∧(∀r∈rows,r.length=sz)∧(∀y∈ys,(a.eval y).cells.size=sz)∧rows.length=ys.length)→
        K ⟨(d,.ms (.n d) 0 rows.length sz)::σ.e,(.n d,rows.flatten)::σ.bx,dlS σ.pm d⟩→o.wp P a w K' Q by
      split at hw
      · rename_i rows hn0' hrows
        obtain ⟨r1,r2,r3,r4,r5⟩:=rowsN_sound h hps hrows
        exact hall rows hn0' ⟨gb0toL r1,r2,r3,r4,r5⟩ hw
      · rename_i hn0' hrows
        split at hw
        · rename_i rows hrows
          exact hall rows hn0' (rowsI_sound h hps hrows) hw
        · cases hw
      · cases hw
    intro rows hn0' hfacts hw
    obtain ⟨r1,r2,r3,r4,r5⟩:=hfacts
    · skip
      have hlen:n=ys.length:=by
        rw [hn]
        have: ∀(ps:List X) (ys:List Operand),mXs F.GL ps ys=true→ps.length=ys.length:=by
          intro ps;induction ps with
          |nil=>intro ys hh;cases ys<;>simp [mXs] at hh ⊢
          |cons x r ih=>intro ys hh;cases ys with
            |nil=>simp [mXs] at hh
            |cons y s=>simp [mXs] at hh;simp [ih s hh.2]
        exact this _ _ hps
      obtain ⟨us,f1,f2⟩:=fill_all sz (ys.map a.eval) 0 ((Array.range (n*sz)).map (z.cells[· %z.cells.size]!)) (by simpa using r4) (by simp [hlen])
      simp only [Nat.zero_mul,List.take_zero,List.nil_append,List.flatMap_map] at f2
      have hfl:(Array.map (fun x=>(x.1,a.eval x.2)) ps').toList=((ys.map a.eval).zipIdx.map fun x=>(x.2,x.1)):=by
        rw [Array.toList_map,hpl,List.map_map,List.zipIdx_map,List.map_map]
        rfl
      have hble:n*sz≤16777216:=Nat.le_of_ble_eq_true hle
      refine wp_value (u:= .slice (some ⟨w.heap.size,0,none⟩) n n) (w':=w.alloc (.cells us e)) ?_ ?_
      · unfold execOp
        simp only [hop,Instr.buildSlice,Sem.run_bind,run_underlying hu',Result.andThen_ok,sizeOf,typeInfo,run_program,hi,Sem.run_pure,hsize]
        rw [if_neg (by omega)]
        by_cases h0:n*sz=0
        · have hn0:n=0:=by rcases Nat.mul_eq_zero.1 h0 with h|h;exact h;exact absurd h hsz0
          have hys0:ys=[]:=List.eq_nil_of_length_eq_zero (by omega)
          subst hys0
          simp only [List.map_nil,List.zipIdx_nil] at hfl f1
          have hus:us= #[]:=by
            have:us.toList=[]:=by simpa using f2
            cases us;simp_all
          have hps0:ps'= #[]:=by cases ps';simpa using hfl
          simp [hn0,hps0,Array.range_zero',Instr.fill,newRow,hus]
        · simp only [h0,if_false,zeroValue,Sem.run_bind,typeInfo,run_program,Result.andThen_ok,hi,hz',Sem.run_pure]
          rw [hfl]
          rw [f1]
          simp [newRow]
      · rw [h1]
        have hus2:us.toList=ys.flatMap fun y=>(a.eval y).cells.toList:=f2
        have hfl2:us.size=rows.flatten.length:=by rw [←Array.length_toList,hus2,←r1.length]
        have hrn:rows.length=n:=by rw [r5,hlen]
        have hfl3:rows.flatten.length=n*sz:=by rw [flatten_length r3,hrn]
        rw [hrn] at hw
        refine hK _ _ _ _ _ (h.newBox h2 rfl hn0' (cs:=rows.flatten) (z:=⟨us.size,e⟩) ⟨fun _=>⟨_,e,rfl,rfl,?_,?_,?_⟩,fun hi=>by cases hi⟩ (by simp only [PR];exact ⟨w.heap.size,⟨us.size,e⟩,n,by simp [updG],rfl,rfl,Nat.le_refl _,by unfold maxLen;have:n≤n*sz:=Nat.le_mul_of_pos_right _ (by omega);omega,by simp only;omega⟩)) hw
        · omega
        · rw [←hfl2,←Array.length_toList,List.take_length,hus2];exact r1
        · intro u hu;rw [hus2] at hu;exact r2 u hu
  case cr d f xs=>
    simp only [wp1] at hw
    simp only [mt1,Bool.and_eq_true,slotOk_iff] at hm
    obtain ⟨⟨h1,h2⟩,hm⟩:=hm
    split at hm<;>(try cases hm)
    rename_i f' as ts hop
    simp only [Bool.and_eq_true,beq_iff_eq] at hm
    obtain ⟨rfl,hxs⟩:=hm
    split at hw
    · rename_i b o' r hmap
      split at hw
      · rename_i cs hcs
        obtain ⟨v,hs,hk⟩:=hw
        obtain ⟨m,hfree⟩:=fresh_nw σ.bx
        have hrun:(execOp a.eval o).run P w=(callFunc f (List.map a.eval as.toList).toArray).run P w:=by
          have harr:(List.map a.eval as.toList).toArray=as.map a.eval:=by
            apply Array.ext';simp
          rw [harr]
          unfold execOp
          simp [hop,resolve,Act.eval,Deferred.ofValue,invoke]
        have hb:b.isNw m=false:=hfree _ (lkB_mem _ _ _ hcs) m (Nat.le_refl _)
        refine callN_sound h h2 h1 (mXs_sound h hxs) (fun i t hi=>mXs_slot hxs hi) hrun (hs m hb) ⟨by rw [hmap];exact wkL_rfl' _,?_,by simp,trivial,?_,?_,?_⟩ (K:=fun τ=>τ=callSt d σ xs ⟨.ptr b o'::r,[(b,cs)],[]⟩ ⟨v,[(b,cs)],[]⟩) rfl ?_
        · intro p hp
          simp only [List.mem_singleton] at hp
          subst hp
          simp only [wkB,hcs]
          exact wkL_rfl' _
        · intro p hp
          simp only [List.mem_singleton] at hp
          subst hp
          simp [lkB]
        · intro p hp
          simp only [List.mem_singleton] at hp
          subst hp
          left;simp [lkB]
        · intro p hp;exact hfree p hp m (Nat.le_refl _)
        · intro S1 gb1 τ a1 w1 hr e
          subst e
          refine hK S1 gb1 ⟨(d,v)::σ.e,σ.bx,dlS (dlB σ.pm b) d⟩ a1 w1 (hr.sameL (fun _=>rfl) (fun i=>?_) (fun p k hk=>?_)) hk
          · simp only [callSt,lkB_app,lkB,rmBs,lkB_rmB]
            by_cases e:b=i
            · subst e;simp [hcs]
            · simp [e]
          · simpa [callSt,retP,dlXs,dlBs] using hk
      · cases hw
    · cases hw
  case trm d sz x hi=>exact (show False from hw).elim
  case clr sz z x=>exact (show False from hw).elim
  case mkm d sz by_ z l c=>exact (show False from hw).elim
  case apm d sz by_ s y=>
    simp only [wp1] at hw
    simp only [mt1,Bool.and_eq_true,slotOk_iff] at hm
    obtain ⟨⟨h1,h2⟩,hm⟩:=hm
    split at hm<;>(try cases hm)
    rename_i as ts hop
    split at hm<;>(try cases hm)
    rename_i s' y' t t' has hts
    simp only [Bool.and_eq_true,beq_iff_eq,Bool.not_eq_true',beq_eq_false_iff_ne,ne_eq] at hm
    obtain ⟨⟨⟨⟨⟨rfl,hu⟩,hsz0⟩,hby0⟩,hs⟩,hy⟩:=hm
    split at hu<;>(try cases hu)
    rename_i e hu'
    split at hu<;>(try cases hu)
    rename_i i hi
    simp only [Bool.and_eq_true,beq_iff_eq] at hu
    obtain ⟨⟨hsize,hbytes⟩,hz⟩:=hu
    split at hz<;>(try cases hz)
    rename_i z hz'
    simp only [Bool.and_eq_true,beq_iff_eq] at hz
    have hs':=mX_sound h hs
    have hy':=mX_sound h hy
    have has':as= #[s',y']:=by cases as;simp_all
    have hts':ts= #[t,t]:=by cases ts;simp_all
    subst has';subst hts'
    have hexec: ∀ {u:Value} {w':World},(Builtin.append_ #[t,t] o.type #[a.eval s',a.eval y']).run P w= .ok u w'→(execOp a.eval o).run P w= .ok (.value u) w':=by
      intro u w' hr
      unfold execOp
      simp [hop,resolve,invoke,builtin,hr]
    split at hw
    · rename_i news hnews
      have hyn:=gb0to (gb:=gb) (shutN_PR _ _ _ hnews hy')
      split at hw
      · rename_i hsv
        split at hw
        · rename_i hn
          obtain ⟨w2,w3,w4,w5⟩:=hw
          rw [hsv] at hs'
          simp only [PR] at hs'
          obtain ⟨us,u1,u2,u3,u4,u5,u6⟩:=news_cells (P:=P) h hyn w4
          subst hsize;subst hbytes
          have hsmall:0+news.length≤9223372036854775807:=by
            have:news.length≤news.length*i.bytes:=Nat.le_mul_of_pos_right _ (by omega)
            unfold lim at w2;omega
          have hfit:=growslice_fits (need:=0+news.length) (old:=0) (bytes:=i.bytes) (by omega) (by unfold lim at w2;rw [Nat.zero_add];exact w2)
          have hrun:=run_app_grow (P:=P) (w:=w) (base:=none) (n:=0) (cap:=0) (olds:=[]) (us:=us) (ty:=o.type) hu' (.inl hu') hi hz' u4 u6 (by simp [Builtin.firstCells]) (by omega) hfit hsmall
          rw [←hs'] at hrun
          refine wp_value (hexec hrun) ?_
          rw [h1]
          have hge:=grownCap_ge w (0+news.length) 0 e
          have hgm:=grownCap_le_maxLen w (0+news.length) 0 e (by unfold maxLen;omega)
          simp only [Nat.zero_add,List.nil_append] at hge hgm ⊢
          have hflen:news.flatten.length=news.length*i.size:=flatten_length w4
          have hsz2:(us.toArray++Builtin.zeroCells z.cells (grownCap w news.length 0 e - news.length)).size=grownCap w news.length 0 e*i.size:=by
            rw [Array.size_append,size_zeroCells,hz.1,List.size_toArray,u1,←Nat.add_mul];congr 1;omega
          refine hK _ _ _ _ _ ((h.drew).newBox h2 rfl hn (z:=⟨grownCap w news.length 0 e*i.size,e⟩) ⟨fun _=>⟨us.toArray++Builtin.zeroCells z.cells (grownCap w news.length 0 e - news.length),e,by rw [hsz2],rfl,?_,?_,?_⟩,fun hi=>by cases hi⟩ (by simp only [PR];exact ⟨w.drew.heap.size,⟨grownCap w news.length 0 e*i.size,e⟩,grownCap w news.length 0 e,by simp only [updG,if_true],rfl,rfl,hge,hgm,by simp only;omega⟩)) w5
          · rw [hflen,hsz2];exact Nat.mul_le_mul_right _ hge
          · rw [hflen,←u1,Array.toList_append,List.take_left' (by simp)];exact gb0toL u2
          · intro u hu
            rw [Array.toList_append] at hu
            rcases List.mem_append.1 hu with hu|hu
            · exact u3 u (by simpa using hu)
            · exact mem_zeroCells (by omega) (fun u hu=>List.all_eq_true.1 hz.2 u hu) u hu
        · cases hw
      · rename_i b n k hsv
        split at hw
        · rename_i cs hcs
          obtain ⟨w0,wl,wu,wn,wo1,wo2,wp,wi,wlim,w4,w5⟩:=hw
          subst w0
          rw [hsv] at hs'
          simp only [PR] at hs'
          obtain ⟨g,zz,cap,hg,_,hs',hncap,hcapm,hfitz⟩:=hs'
          obtain ⟨g',olds0,T,e1,e3,e0,e4,e5,e6⟩:=h.hr.box b cs hcs wi
          rw [hg] at e1;cases e1
          simp only at hfitz
          obtain ⟨us,u1,u2,u3,u4,u5,u6⟩:=news_cells (P:=P) h hyn w4
          have hol:(olds0.toList.take cs.length).length=n*k:=by simp;omega
          have hflen:news.flatten.length=news.length*k:=flatten_length w4
          subst hsize;subst hbytes
          have hpo: ∀o' l,lkP σ.pm (.b b o')=some l→o'<cs.length:=fun o' l hl=>by
            have:=wp _ (lkP_mem _ _ _ hl)
            simp only [Pl.lt] at this
            exact this trivial
          have hsmall:n+news.length≤9223372036854775807:=by
            have:n+news.length≤(n+news.length)*i.bytes:=Nat.le_mul_of_pos_right _ (by omega)
            unfold lim at wlim;omega
          by_cases hroom:n+news.length≤cap
          ·
            have hfitc:n*i.size+us.length≤olds0.size:=by
              rw [u1,←Nat.add_mul]
              exact Nat.le_trans (Nat.mul_le_mul_right _ hroom) (by omega)
            have hst:=run_storeCells_at P g (n*i.size) T us 0 olds0 w e3 (by simpa using hfitc) u3
            simp only [Nat.add_zero] at hst
            have hrun:=run_app_room (P:=P) (w:=w) (ty:=o.type) hu' (.inl hu') hi (base:=some ⟨g,0,none⟩) (n:=n) (cap:=cap) (us:=us) u4 u5 hroom (fun b' hb'=>by
              cases hb';rw [Addr.add_lit,Nat.zero_add];exact hst) (fun hb=>by cases hb)
            rw [←hs'] at hrun
            refine wp_value (hexec hrun) ?_
            rw [h1]
            have hheap:=setRow_heap w g olds0 (olds0.toList.take (n*i.size)++us++olds0.toList.drop (n*i.size+us.length)).toArray T _ e3
            obtain ⟨gb',hr⟩:=h.swap h2 hcs wu wi hg e3 e6 wo1 wo2 wn e4 e0 hheap (fun k hk hne=>setRow_other w g k _ hne) (.inl rfl) (by simp) rfl rfl rfl (ns:=news.flatten) (nus:=us) (fun _ _=>gb0toL u2) (by
              simp only [List.length_append,hflen,wl,←u1]
              rw [List.take_append_of_le_length (by simp;omega),List.take_of_length_le (by simp;omega)]) (by
              simp only [List.length_append,hflen,wl,List.size_toArray,List.length_take,List.length_drop,Array.length_toList];omega) (by
              intro u hu
              simp only [List.mem_append] at hu
              rcases hu with (hu|hu)|hu
              · exact e5 u (List.mem_of_mem_take hu)
              · exact u3 u hu
              · exact e5 u (List.mem_of_mem_drop hu)) hpo (n':=n+news.length) (cap':=cap) (sz:=i.size) hroom hcapm (by
              simp only [List.size_toArray,List.length_append,List.length_take,List.length_drop,Array.length_toList];omega)
            exact hK _ _ _ _ _ hr w5
          ·
            have hfo:(Builtin.firstCells i.size n (.slice (some ⟨g,0,none⟩) n cap)).run P w.drew= .ok (olds0.toList.take cs.length).toArray w.drew:=by
              have:=loadCells_at (P:=P) (w:=w.drew) (b:=g) (o:=0) (us:=olds0.toList.take cs.length) (fun j u hu=>by
                rw [Nat.zero_add,cell_of_row w.drew g j olds0 T _ e3]
                rw [List.getElem?_take] at hu
                split at hu
                · simpa using hu
                · cases hu)
              rw [hol] at this
              simp [Builtin.firstCells,this]
            have hfit:=growslice_fits (need:=n+news.length) (old:=cap) (bytes:=i.bytes) (by omega) (by unfold lim at wlim;exact wlim)
            have hrun:=run_app_grow (P:=P) (w:=w) (ty:=o.type) hu' (.inl hu') hi hz' u4 u6 hfo (by omega) hfit hsmall
            rw [←hs'] at hrun
            refine wp_value (hexec hrun) ?_
            rw [h1]
            have hge:=grownCap_ge w (n+news.length) cap e
            have hgm:=grownCap_le_maxLen w (n+news.length) cap e (by unfold maxLen;omega)
            have hsz2:((olds0.toList.take cs.length++us).toArray++Builtin.zeroCells z.cells (grownCap w (n+news.length) cap e - (n+news.length))).size=grownCap w (n+news.length) cap e*i.size:=by
              rw [Array.size_append,size_zeroCells,hz.1,List.size_toArray,List.length_append,hol,u1,←Nat.add_mul,←Nat.add_mul];congr 1;omega
            obtain ⟨gb',hr⟩:=(h.drew).swap h2 hcs wu wi hg (w:=w.drew) e3 e6 wo1 wo2 wn e4 e0 (w':=w.drew.alloc (.cells ((olds0.toList.take cs.length++us).toArray++Builtin.zeroCells z.cells (grownCap w (n+news.length) cap e - (n+news.length))) e)) (heap_alloc_new w.drew _) (fun k hk _=>Below.heap_alloc _ _ _ hk) (.inr (Nat.le_refl _)) (by simp) rfl rfl rfl (ns:=news.flatten) (nus:=us) (fun _ _=>gb0toL u2) (by
              simp only [List.length_append,hflen,wl,←u1]
              rw [Array.toList_append,List.take_append_of_le_length (by simp;omega),List.take_of_length_le (by simp;omega)]) (by
              rw [hsz2];simp only [List.length_append,hflen,wl,←Nat.add_mul];exact Nat.mul_le_mul_right _ hge) (by
              intro u hu
              rw [Array.toList_append] at hu
              rcases List.mem_append.1 hu with hu|hu
              · simp only [List.mem_append] at hu
                rcases hu with hu|hu
                · exact e5 u (List.mem_of_mem_take hu)
                · exact u3 u hu
              · exact mem_zeroCells (by omega) (fun u hu=>List.all_eq_true.1 hz.2 u hu) u hu) hpo (n':=n+news.length) (cap':=grownCap w (n+news.length) cap e) (sz:=i.size) hge hgm (by rw [hsz2];omega)
            exact hK _ _ _ _ _ hr w5
        · cases hw
      · cases hw
    · exact hw.elim
  case s2b d x=>exact (show False from hw).elim
  case rs d x=>
    simp only [wp1] at hw
    simp only [mt1,Bool.and_eq_true,slotOk_iff] at hm
    obtain ⟨⟨h1,h2⟩,hm⟩:=hm
    split at hm<;>(try cases hm)
    rename_i t x' hop
    simp only [Bool.and_eq_true] at hm
    have ht':P.underlying t=some .string:=by have:=hm.1;split at this<;>simp_all
    have hx:=mX_sound h hm.2
    split at hw
    · rename_i hn
      split at hw
      · rename_i s hs
        rw [hs] at hx
        simp only [PR] at hx
        refine wp_value (u:= .pointer (some ⟨w.heap.size,0,none⟩)) (w':=w.iter ⟨s.toArray⟩ 0) ?_ ?_
        · unfold execOp
          simp [hop,hx,run_range_string w t _ ht']
        · rw [h1]
          exact hK _ _ _ _ _ (h.newBox h2 rfl hn (z:=⟨0,0⟩) ⟨fun hi=>(by cases hi),fun _=>rfl⟩ (by simp only [PR];exact ⟨w.heap.size,⟨0,0⟩,by simp [updG],rfl⟩)) hw
      · cases hw
    · cases hw
  case nx d x=>
    simp only [wp1] at hw
    simp only [mt1,Bool.and_eq_true,slotOk_iff] at hm
    obtain ⟨⟨h1,h2⟩,hm⟩:=hm
    split at hm<;>(try cases hm)
    rename_i x' hop
    have hx:=mX_sound h hm
    split at hw
    · rename_i it hit
      rw [hit] at hx
      simp only [PR] at hx
      obtain ⟨g,z,hg,hx⟩:=hx
      split at hw
      · rename_i s pos hbx
        obtain ⟨g',z',ob,e1,e2,e3,e6⟩:=h.hr.its _ _ hbx rfl
        rw [hg] at e1;cases e1
        simp only [itO,Option.some.injEq] at e2;subst e2
        have hsz:(ByteArray.mk s.toArray).size=s.length:=rfl
        split at hw
        · rename_i hlt
          refine wp_value (u:= .tuple #[.bool true,.int .i64 pos,.int .i32 (runeAt s pos).1]) (w':={w with heap:=w.heap.setIfInBounds g (.stringIter ⟨s.toArray⟩ (pos+(runeAt s pos).2))}) ?_ ?_
          · unfold execOp
            simp only [hop,hx,Instr.next,getObj,setObj,Sem.run_bind,Sem.run,e3,Result.andThen,hsz,hlt,if_true,runeAt]
            simp [goInt,Sem.run,e3]
          · rw [h1]
            have hglt:g<w.heap.size:=(Array.getElem?_eq_some_iff.1 e3).1
            have hset:=h.setObj (d:= .it it) (w':={w with heap:=w.heap.setIfInBounds g (.stringIter ⟨s.toArray⟩ (pos+(runeAt s pos).2))}) (by simp [hbx]) hg e6 (fun k hk=>by simp [Array.getElem?_setIfInBounds_ne (Ne.symm hk)]) (by simp) rfl rfl rfl (cs':=[.itr s (pos+(runeAt s pos).2)]) (fun hi=>by cases hi) (fun _=>⟨_,rfl,by simp [hglt]⟩) (pm:=σ.pm) (fun _ _ h=>h) (fun off k hk=>by have:=(h.hr.pmb _ _ _ hk).2;cases this)
            refine hK _ _ _ _ _ (hset.put h2 (v:= .tup [.bool true,.int .i64 pos,.int .i32 (runeAt s pos).1]) ?_) hw
            simp only [PR,PRlist]
            exact ⟨_,rfl,_,_,rfl,rfl,_,_,rfl,rfl,_,_,rfl,rfl,rfl⟩
        · rename_i hlt
          refine wp_value (u:= .tuple #[.bool false]) (w':=w) ?_ ?_
          · unfold execOp
            simp [hop,hx,Instr.next,getObj,Sem.run,e3,hsz,hlt]
          · rw [h1]
            exact hK _ _ _ _ _ (h.put h2 (by simp only [PR,PRlist];exact ⟨_,rfl,_,_,rfl,rfl,rfl⟩)) hw
      · cases hw
    · cases hw
  case ex d x i=>
    simp only [wp1] at hw
    simp only [mt1,Bool.and_eq_true,slotOk_iff] at hm
    obtain ⟨⟨h1,h2⟩,hm⟩:=hm
    split at hm<;>(try cases hm)
    rename_i x' i' hop
    simp only [Bool.and_eq_true,beq_iff_eq] at hm
    obtain ⟨rfl,hx0⟩:=hm
    have hx:=mX_sound h hx0
    split at hw
    · rename_i vs hvs
      rw [hvs] at hx
      simp only [PR] at hx
      obtain ⟨us,hxe,hp⟩:=hx
      split at hw
      · rename_i v hv
        obtain ⟨u,hu,hpu⟩:=hp.get hv
        have hu':us[i]?=some u:=by simpa using hu
        have hop2:(execOp a.eval o).run P w= .ok (.value u) w:=by
          unfold execOp
          simp [hop,hxe,Instr.extract,hu']
        have plain:K (σ.put d v)→o.wp P a w K' Q:=fun hk=>by
          refine wp_value hop2 ?_
          rw [h1]
          exact hK _ _ _ _ _ (h.put h2 hpu) hk
        split at hw
        · rename_i t
          split at hw
          · rename_i k hk
            have ht:tv a t= .tuple us:=by
              cases x'<;>simp [mX] at hx0
              subst hx0;exact hxe
            have hpl:plv gb (tv a) w (.t t i)=u:=by
              simp only [plv,ht,Array.getD_eq_getD_getElem?,hu'];rfl
            have ho:=h.hr.own _ _ hk
            rw [hpl] at ho
            refine wp_value hop2 ?_
            rw [h1]
            refine hK S gb ((⟨σ.e,σ.bx,dl σ.pm (.t t i)⟩:St).puto d v k) _ _ ?_ hw
            refine (h.drop (.t t i)).puto h2 hpu ho (fun g hg=>h.newo _ _ g hk (by rw [hpl];exact hg)) ?_ (fun b' d' z hb=>h.hr.ownb _ _ b' d' z hk (by rw [hpl];exact hb))
            intro p l b' hl _ hb hb2
            simp only [lkP_dl] at hl
            split at hl
            · cases hl
            · rename_i hne
              exact hne (h.hr.ownd p (.t t i) l k b' hl hk hb (by rw [hpl];exact hb2))
          · exact plain hw
        · exact plain hw
      · cases hw
    · cases hw
  case aps d s y=>exact (show False from hw).elim
  case sla d n x lo hi=>
    simp only [wp1] at hw
    simp only [mt1,Bool.and_eq_true,slotOk_iff] at hm
    obtain ⟨⟨h1,h2⟩,hm⟩:=hm
    split at hm<;>(try cases hm)
    rename_i t x' lo' hi' hop
    simp only [Bool.and_eq_true] at hm
    obtain ⟨⟨⟨hu,hx⟩,hlo⟩,hhi⟩:=hm
    obtain ⟨e,hu',hsz⟩: ∃e,P.underlying t=some (.array n e)∧sz? P e=some 1:=by
      split at hu<;>simp_all
    have hx':=mX_sound h hx
    split at hw
    · rename_i b o' hs
      split at hw
      · rename_i cs l hh hcs hl2 hh2
        obtain ⟨w1,w2,w3,w5,w6,w7,w8,w4⟩:=hw
        rw [hs] at hx'
        simp only [PR] at hx'
        obtain ⟨g,z,hg,hit,hx'⟩:=hx'
        have b1:=bnd_sound h hlo hl2
        have b2:=bnd_sound h hhi hh2
        have hne: ¬n=l.toNat:=by omega
        obtain ⟨g2,us,T,q1,_,q3,_⟩:=h.hr.box b cs hcs w8
        rw [hg] at q1;cases q1
        refine wp_value (u:= .slice (some ⟨g,o'+l.toNat,none⟩) (hh.toNat - l.toNat) (n - l.toNat)) (w':=w) ?_ ?_
        · unfold execOp
          simp only [hop,hx',Instr.sliceAt,Sem.run_bind,run_underlying hu',Result.andThen_ok,Instr.sureAddr,Instr.sliceBounds,run_sizeOf hsz]
          rcases b1 with ⟨rfl,rfl⟩|⟨yl,kl,rfl,hyl⟩<;>rcases b2 with ⟨rfl,rfl⟩|⟨yh,kh,rfl,hyh⟩
          · have: ¬n=0:=by simpa using hne
            simp [run_sizeOf hsz,this,Addr.add_lit]
          · have: ¬n=0:=by simpa using hne
            simp [hyh,Instr.sliceBound,asIntOf,w3,show 0≤hh by omega,run_sizeOf hsz,this,Addr.add_lit]
          · simp [hyl,Instr.sliceBound,asIntOf,w1,w2,run_sizeOf hsz,hne,Addr.add_lit]
          · have:l≤(hh.toNat:Int):=by omega
            simp [hyl,hyh,Instr.sliceBound,asIntOf,w1,w3,show 0≤hh by omega,this,run_sizeOf hsz,hne,Addr.add_lit]
            intro hc;omega
        · rw [h1]
          refine hK _ _ _ _ _ (h.put h2 ?_) w4
          simp only [PR]
          refine ⟨g,_,n - l.toNat,hg,w8,?_,by omega,by unfold maxLen;omega,by simp only;omega⟩
          congr 1;omega
      · cases hw
    · cases hw
  case mkp d=>
    simp only [wp1] at hw
    simp only [mt1,Bool.and_eq_true,slotOk_iff] at hm
    obtain ⟨⟨h1,h2⟩,hm⟩:=hm
    split at hm<;>(try cases hm)
    rename_i t hop
    split at hw
    · rename_i hn
      refine wp_value (u:= .map (some w.heap.size)) (w':=w.alloc (.map #[] 0)) ?_ ?_
      · unfold execOp
        simp [hop,run_makeMap]
      · rw [h1]
        exact hK _ _ _ _ _ (h.newBox h2 rfl hn (cs:=[.mpv []]) (z:=⟨0,0⟩) ⟨fun hi=>(by cases hi),fun _=>rfl⟩ (by simp only [PR];exact ⟨w.heap.size,⟨0,0⟩,by simp [updG],rfl,rfl⟩)) hw
    · cases hw
  case mpe d q z m k=>exact (show False from hw).elim
  case mes m s v=>exact (show False from hw).elim
  case mup q m k v=>
    simp only [wp1] at hw
    simp only [mt1,Bool.and_eq_true,beq_iff_eq] at hm
    obtain ⟨h1,hm⟩:=hm
    split at hm<;>(try cases hm)
    rename_i t m' k' v' hop
    simp only [Bool.and_eq_true] at hm
    obtain ⟨⟨⟨ht,hmm⟩,hkk⟩,hvv⟩:=hm
    split at ht<;>(try cases ht)
    rename_i kt et ht'
    obtain ⟨d0,hd,hq⟩:=fkT_sound ht
    have hx:=mX_sound h hmm
    have hy:=mX_sound h hkk
    have hv:=mX_sound h hvv
    split at hw
    · rename_i b es key val hb hk hk2
      obtain ⟨g,z',hg,hx,hbx,hit,e3,e6⟩:=mapOf_sound h hb hx
      have hy:=mkk_PR hk hy
      have hv:=mk_PR hk2 hv
      have hglt:g<w.heap.size:=(Array.getElem?_eq_some_iff.1 e3).1
      have hent:(mapEnts es).toList=ents es 0:=by rw [mapEnts_eq]
      split at hw
      · rename_i i v0 hf
        obtain ⟨h3,h4⟩:=find_sound hq hk es 0 hf
        obtain ⟨e,q1,q2,q3,_⟩:=h4 _ rfl
        simp only [Nat.sub_zero] at q1
        have hi:(mapEnts es)[i]?=some ⟨key.val,v0.val,i⟩:=by
          rw [←Array.getElem?_toList,hent,ents_get,q1];simp [same_val q2,q3]
        have h5:=MapKept.run_findKey (P:=P) (w:=w) (kt:=kt) hd h3
        have hmod:=ents_modifyKey es i key val (fun e' he'=>by rw [q1] at he';cases he';exact same_val q2)
        refine wp_skip' (w':={w with heap:=w.heap.setIfInBounds g (.map (mapEnts (mset es i val)) es.length)}) ?_ ?_
        · unfold execOp
          simp only [hop,Instr.mapUpdate,Sem.run_bind,run_underlying ht',hx,hy,hv,MapKept.run_getObj_map e3,run_checkKey' hd hq,hent,h5,Result.andThen_ok,Option.map_some,hi,Option.getD_some,run_keyThatStays',hmod,MapKept.run_setObj_map _ e3,Sem.run_pure]
        · rw [h1]
          have hset:=h.setObj (d:=b) (w':={w with heap:=w.heap.setIfInBounds g (.map (mapEnts (mset es i val)) es.length)}) (by simp [hbx]) hg e6 (fun k hk=>by simp [Array.getElem?_setIfInBounds_ne (Ne.symm hk)]) (by simp) rfl rfl rfl (cs':=[.mpv (mset es i val)]) (fun hi=>by rw [hit] at hi;cases hi) (fun _=>⟨_,rfl,by simp [hglt,mset]⟩) (pm:=σ.pm) (fun _ _ h=>h) (fun off k hk=>by have:=(h.hr.pmb _ _ _ hk).2;rw [hit] at this;cases this)
          exact hK _ _ _ _ _ hset hw
      · rename_i hf
        obtain ⟨h3,_⟩:=find_sound hq hk es 0 hf
        have h5:=MapKept.run_findKey (P:=P) (w:=w) (kt:=kt) hd h3
        refine wp_skip' (w':={w with heap:=w.heap.setIfInBounds g (.map (mapEnts (es++[(key,val)])) (es.length+1))}) ?_ ?_
        · unfold execOp
          simp only [hop,Instr.mapUpdate,Sem.run_bind,run_underlying ht',hx,hy,hv,MapKept.run_getObj_map e3,run_checkKey' hd hq,hent,h5,Result.andThen_ok,Option.map_none,ents_push,MapKept.run_setObj_map _ e3,Sem.run_pure]
        · rw [h1]
          have hset:=h.setObj (d:=b) (w':={w with heap:=w.heap.setIfInBounds g (.map (mapEnts (es++[(key,val)])) (es.length+1))}) (by simp [hbx]) hg e6 (fun k hk=>by simp [Array.getElem?_setIfInBounds_ne (Ne.symm hk)]) (by simp) rfl rfl rfl (cs':=[.mpv (es++[(key,val)])]) (fun hi=>by rw [hit] at hi;cases hi) (fun _=>⟨_,rfl,by simp [hglt]⟩) (pm:=σ.pm) (fun _ _ h=>h) (fun off k hk=>by have:=(h.hr.pmb _ _ _ hk).2;rw [hit] at this;cases this)
          exact hK _ _ _ _ _ hset hw
      · cases hw
    · cases hw
  case gd=>simp [mt1] at hm
  case no=>simp [wp1,ev] at hw
  all_goals
    simp only [wp1] at hw
    split at hw
    · rename_i d' v' he
      exact pure _ _ he hw
    · cases hw
end Go.Ai
namespace Go.Ai
open Go.RowKit
variable {P:Program} {F:Fr} {S:Mem} {gb:Gb} {σ:St} {a:Act} {w:World}
theorem FrzOk.two {σ:St} {s:Nat} {b:Id} {n sz:Nat} {rows:List (List AV)} (h:FrzOk σ s b n sz rows):FrzOk2 σ s b n sz rows []:=
 ⟨h.hv,by rw [h.hb,List.append_nil],h.hup,h.hn,h.hsz,h.hids,h.hoff⟩
def FrzX (F:Fr) (S':Mem) (gb':Gb) (σ:St) (s:Nat) (b:Id) (n sz:Nat) (a:Act) (w:World):Prop:=
 ∃g cap us T,tv a s= .slice (some ⟨g,0,none⟩) n cap∧w.heap[g]?=some (.cells us T (0,0))∧n≤cap∧cap≤maxLen∧cap*sz≤us.size∧(∀o,n*sz≤o→S' g o=none)∧(F.w0.heap.size≤g∨F.M g)∧
  (∀p k,lkP (dlB σ.pm b) p=some k→(plv gb' (tv a) w p).ownBlock≠some g)∧(∀d z,(lkB (rmB σ.bx b) d).isSome→gb' d≠some (g,z))
theorem Rel.freeze (h:Rel F S gb σ a w) {s:Nat} {b:Id} {n sz:Nat} {rows:List (List AV)} {tl:List AV} (hf:FrzOk2 σ s b n sz rows tl): ∃S' gb',Rel F S' gb' (frzSt σ s b rows) a w∧FrzX F S' gb' σ s b n sz a w:=by
 have hs:=h.env s
 rw [hf.hv] at hs
 simp only [PR] at hs
 obtain ⟨g,z,cap,hg,hit,hv,hncap,hcapm,hfit⟩:=hs
 obtain ⟨g',us,T,e1,e3,e0,e4,e5,e6⟩:=h.hr.box b _ hf.hb hit
 rw [hg] at e1;cases e1
 simp only at hfit
 have e4:PRlist S gb rows.flatten (us.toList.take rows.flatten.length):=by
  have h1:=e4.take rows.flatten.length
  rw [List.take_left',List.take_take,Nat.min_eq_left (by simp)] at h1
  ·exact h1
  ·rfl
 have hbS:(lkB σ.bx b).isSome:=by rw [hf.hb];rfl
 let S':Mem:=fun g' o=>if g'=g then (us.toList.take rows.flatten.length)[o]? else S g' o
 let gb':Gb:=fun i=>if i=b then none else gb i
 have hle:S.le S':=fun g1 o v hs=>by
  have:g1≠g:=fun e=>by subst e;rw [e6] at hs;cases hs
  simp only [S',if_neg this];exact hs
 have hof: ∀g1 o,g1≠g→S' g1 o=S g1 o:=fun g1 o hne=>by simp only [S',if_neg hne]
 have hoth: ∀i,i≠b→gb' i=gb i:=fun i h1=>by simp only [gb',if_neg h1]
 have hrm: ∀i,(lkB (rmB σ.bx b) i).isSome→i≠b∧lkB (rmB σ.bx b) i=lkB σ.bx i:=by
  intro i hi
  rw [lkB_rmB] at hi ⊢
  by_cases e:b=i
  ·rw [if_pos e] at hi;cases hi
  ·rw [if_neg e] at hi ⊢;exact ⟨fun e'=>e e'.symm,rfl⟩
 have hpr: ∀(v:AV) (u:Value),b∉v.ids→PR S gb v u→PR S' gb' v u:=fun v u hv hp=>
  PR.mono hle (Gb.le.refl _) v u (PR.restr v u (fun i hi=>by
   have:i≠b:=fun e=>hv (e▸hi)
   rw [hoth i this]) hp)
 have hprL: ∀(v:List AV) (u:List Value),b∉idsL v→PRlist S gb v u→PRlist S' gb' v u:=fun v u hv hp=>
  PRlist.mono hle (Gb.le.refl _) v u (PRlist.restr v u (fun i hi=>by
   have:i≠b:=fun e=>hv (e▸hi)
   rw [hoth i this]) hp)
 have hblk: ∀i g1 z1,(lkB (rmB σ.bx b) i).isSome→gb i=some (g1,z1)→g1≠g:=by
  intro i g1 z1 hi hq e
  obtain ⟨h1,h3⟩:=hrm i hi
  rw [h3] at hi
  exact h1 (h.hr.inj i b g z1 _ hi hbS (by rw [hq,e]) hg)
 have hkeep: ∀p k,lkP (dlB σ.pm b) p=some k→lkP σ.pm p=some k∧ ∀e o,p= .b e o→e≠b:=by
  intro p k hk
  rw [lkP_dlB] at hk
  cases p with
  |s t=>exact ⟨hk,fun e o he=>by cases he⟩
  |t t i=>exact ⟨hk,fun e o he=>by cases he⟩
  |b e o=>
   simp only at hk
   split at hk
   ·cases hk
   ·rename_i hne;exact ⟨hk,fun e' o' he=>by cases he;exact hne⟩
 have hpl: ∀p k,lkP (dlB σ.pm b) p=some k→plv gb' (tv a) w p=plv gb (tv a) w p:=by
  intro p k hk
  obtain ⟨h1,h2⟩:=hkeep p k hk
  cases p with
  |s t=>rfl
  |t t i=>rfl
  |b e o=>simp only [plv,hoth e (h2 e o rfl)]
 have hob: ∀p k g1,lkP σ.pm p=some k→(plv gb (tv a) w p).ownBlock=some g1→g1≠g:=by
  intro p k g1 hk hg1 e
  subst e
  exact h.hr.ownb p k _ b _ hk hg1 hbS hg
 have hnew:=h.newb b g _ hbS hg
 refine ⟨S',gb',?_,?_⟩
 rotate_left
 ·refine ⟨g,cap,us,T,hv,e3,hncap,hcapm,by omega,?_,hnew,?_,?_⟩
  ·intro o ho
   simp only [S',if_true]
   rw [List.getElem?_eq_none]
   rw [List.length_take,flatten_length hf.hsz,hf.hn];omega
  ·intro p k hk he
   rw [hpl p k hk] at he
   exact hob p k g (hkeep p k hk).1 he rfl
  ·intro d z hd he
   obtain ⟨r1,r3⟩:=hrm d hd
   rw [hoth d r1] at he
   exact hblk d g z hd he rfl
 refine ⟨h.defers,h.size,h.bw,?_,h.le.trans hle,?_,⟨?_,?_,?_,?_,?_,?_,?_,?_⟩,?_,?_,?_,?_,h.glo⟩
 ·intro g1 o hg1 hm
  rw [hof g1 o (fun e=>by subst e;rcases hnew with h1|h1;omega;exact hm h1)]
  exact h.ext g1 o hg1 hm
 ·intro t
  simp only [frzSt,lk]
  split
  ·rename_i e;subst e
   rw [hv]
   simp only [PR]
   refine .inr ⟨⟨g,0,none⟩,cap,sz,by rw [hf.hn],by rw [hf.hn];exact hncap,.inr ⟨rfl,?_⟩⟩
   rw [PRrows.flat]
   refine ⟨hf.hsz,PRcells.of_list (us:=us.toList.take rows.flatten.length) ?_ (fun u hu=>e5 u (List.mem_of_mem_take hu)) (fun j u hu=>by rw [Nat.zero_add];simp only [S',if_true];exact hu)⟩
   exact PRlist.restr _ _ (fun d hd=>by rw [hf.hids] at hd;cases hd) (PRlist.mono hle (Gb.le.refl _) _ _ e4)
  ·rw [lk_purE]
   split
   ·simp [PR]
   ·rename_i hne;exact hpr _ _ hne (h.env t)
 ·intro g1 o v hs
  simp only [S'] at hs
  split at hs
  ·rename_i e;subst e
   rw [cell_of_row w g1 o us T _ e3]
   rw [List.getElem?_take] at hs
   split at hs
   ·simpa using hs
   ·cases hs
  ·exact h.hr.agree _ _ _ hs
 ·intro d cs hcs hi
  simp only [frzSt] at hcs
  have hr:(lkB (rmB σ.bx b) d).isSome:=by rw [hcs];rfl
  obtain ⟨r1,r3⟩:=hrm d hr
  have hm:=lkB_mem _ _ _ hcs
  rw [r3] at hcs
  obtain ⟨g1,us1,T1,q1,q3,q0,q4,q5,q6⟩:=h.hr.box d cs hcs hi
  have hne:=hblk d g1 _ hr q1
  exact ⟨g1,us1,T1,by rw [hoth d r1];exact q1,q3,q0,hprL _ _ (hf.hoff _ hm) q4,q5,fun o=>by rw [hof g1 o hne];exact q6 o⟩
 ·intro d cs hcs hi
  simp only [frzSt] at hcs
  have hr:(lkB (rmB σ.bx b) d).isSome:=by rw [hcs];rfl
  obtain ⟨r1,r3⟩:=hrm d hr
  rw [r3] at hcs
  obtain ⟨g1,z1,ob1,q1,q2,q3,q6⟩:=h.hr.its d cs hcs hi
  have hne:=hblk d g1 z1 hr q1
  exact ⟨g1,z1,ob1,by rw [hoth d r1];exact q1,q2,q3,fun o=>by rw [hof g1 o hne];exact q6 o⟩
 ·intro d d' g1 z1 z2 i1 i2 q1 q2
  simp only [frzSt] at i1 i2
  obtain ⟨r1,r3⟩:=hrm d i1
  obtain ⟨s1,s3⟩:=hrm d' i2
  rw [hoth d r1] at q1
  rw [hoth d' s1] at q2
  rw [r3] at i1
  rw [s3] at i2
  exact h.hr.inj d d' g1 z1 z2 i1 i2 q1 q2
 ·intro p k hk
  rw [hpl p k hk]
  obtain ⟨h1,_⟩:=hkeep p k hk
  exact (h.hr.own p k h1).mono (fun _ _=>rfl) (fun g1 o hg1 hn=>by rw [hof g1 o (hob p k g1 h1 hg1)];exact hn)
 ·intro p q k l c hk hl c1 c2
  rw [hpl p k hk] at c1
  rw [hpl q l hl] at c2
  exact h.hr.ownd p q k l c (hkeep p k hk).1 (hkeep q l hl).1 c1 c2
 ·intro p k c d z1 hk c1 hd
  simp only [frzSt] at hd
  obtain ⟨r1,r3⟩:=hrm d hd
  rw [hpl p k hk] at c1
  rw [hoth d r1]
  rw [r3] at hd
  exact h.hr.ownb p k c d z1 (hkeep p k hk).1 c1 hd
 ·intro d o k hk
  obtain ⟨h1,h2⟩:=hkeep _ k hk
  obtain ⟨p1,p2⟩:=h.hr.pmb d o k h1
  refine ⟨?_,p2⟩
  simp only [frzSt]
  rw [lkB_rmB,if_neg (fun e=>h2 d o rfl e.symm)];exact p1
 ·intro d g1 z1 hd hq
  simp only [frzSt] at hd
  obtain ⟨r1,r3⟩:=hrm d hd
  rw [hoth d r1] at hq
  rw [r3] at hd
  exact h.newb d g1 z1 hd hq
 ·intro p k g1 hk hg1
  rw [hpl p k hk] at hg1
  exact h.newo p k g1 (hkeep p k hk).1 hg1
 ·intro d hd
  simp only [frzSt]
  by_cases e:d=b
  ·exfalso;apply hd;simp only [gb',if_pos e]
  ·rw [hoth d e] at hd
   rcases h.dom d hd with h1|h1
   ·left;rw [lkB_rmB,if_neg (fun q=>e q.symm)];exact h1
   ·exact .inr h1
 ·intro d
  have:Id.up d≠b:=fun q=>by have:=hf.hup;rw [←q] at this;cases this
  rw [hoth _ this];exact h.up d

theorem Rel.freezeP (h:Rel F S gb σ a w) {s:Nat} {b:Id} {n sz:Nat} {rows:List (List AV)} {tl:List AV} (hf:FrzOk2 σ s b n sz rows tl) (hk:sz<KB): ∃S' gb',Rel F S' gb' (frzStP σ s b sz rows) a w:=by
 obtain ⟨S',gb',h1,g,cap,us,T,x1,x2,x3,x4,x5,x6,x7,x8,x9⟩:=h.freeze hf
 have hs:s<F.N:=by
  rw [←h.size]
  apply Classical.byContradiction
  intro hn
  have:tv a s=undef:=by simp only [tv,Array.getD_eq_getD_getElem?];rw [Array.getElem?_eq_none (by omega)];rfl
  rw [this] at x1
  simp [undef] at x1
 have ha:a.put (some s) (tv a s)=a:=by
  have h2:s<a.tmps.size:=by rw [h.size];exact hs
  simp only [Act.put]
  have:a.tmps.setIfInBounds s (tv a s)=a.tmps:=by
   apply Array.ext_getElem?
   intro i
   rw [Array.getElem?_setIfInBounds]
   split
   ·rename_i e;subst e;simp [tv,Array.getD_eq_getD_getElem?,h2]
   ·rfl
  rw [this]
 have hp:=h1.env s
 refine ⟨S',gb',?_⟩
 have h3:=h1.puto hs (v:= .sl rows) (u:=tv a s) (k:=sz) (by simpa [frzSt,lk] using hp) (.inr (.inl ⟨hk,g,n,cap,us,T,x1,x2,x3,x4,x5,x6⟩)) (fun g1 hg1=>by rw [x1] at hg1;simp only [Value.ownBlock,Option.some.injEq] at hg1;subst hg1;exact x7)
  (fun p l b1 hl _ hb1 he=>by rw [x1] at he;simp only [Value.ownBlock,Option.some.injEq] at he;subst he;exact x8 p l hl hb1)
  (fun b1 d' z he hd hz=>by rw [x1] at he;simp only [Value.ownBlock,Option.some.injEq] at he;subst he;exact x9 d' z hd hz)
 rw [ha] at h3
 exact h3
end Go.Ai
