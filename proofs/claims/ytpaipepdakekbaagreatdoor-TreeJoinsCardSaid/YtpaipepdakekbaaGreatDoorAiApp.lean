/- AiApp: a part of the proof: the rules, or what functions compute. Conditions: as each theorem says. -/
import Derived.Test.YtpaipepdakekbaaGreatDoorAiMem
set_option linter.unusedSimpArgs false
set_option linter.unusedVariables false
namespace Go.Ai
open Go.RowKit
variable {P:Program} {F:Fr} {S:Mem} {gb:Gb} {σ:St} {a:Act} {w:World}

theorem news_cells (h:Rel F S gb σ a w) {news:List (List AV)} {yv:Value} {sz:Nat} (hp:PR S gb (.sl news) yv) (hl: ∀r∈news,r.length=sz):
  ∃us:List Value,us.length=news.length*sz∧PRlist S gb0 news.flatten us∧(∀u∈us,u.oneCell'=true)∧(Builtin.lenOf yv).run P w= .ok news.length w∧
   (Builtin.firstCells sz news.length yv).run P w= .ok us.toArray w∧(Builtin.firstCells sz news.length yv).run P w.drew= .ok us.toArray w.drew:=by
 simp only [PR] at hp
 rcases hp with ⟨rfl,rfl⟩|⟨ad,cap,k,rfl,_,hp⟩
 ·exact ⟨[],by simp,by simp [PRlist],by simp,by simp [Builtin.lenOf],by simp [Builtin.firstCells],by simp [Builtin.firstCells]⟩
 ·rcases hp with rfl|⟨hsp,hp⟩
  ·refine ⟨[],by simp,by simp [PRlist],by simp,by simp [Builtin.lenOf],?_,?_⟩<;>simp [Builtin.firstCells,loadCells,loadCellsFrom]
  ·by_cases hn:news=[]
   ·subst hn
    refine ⟨[],by simp,by simp [PRlist],by simp,by simp [Builtin.lenOf],?_,?_⟩<;>simp [Builtin.firstCells,loadCells,loadCellsFrom]
   ·obtain ⟨hk,hc⟩:=PRrows.flat.1 hp
    obtain ⟨us,l1,l2,l3,l4⟩:=hc.list
    have hlen:us.length=news.length*sz:=by rw [l1,flatten_length hl]
    obtain ⟨bk,of,sp⟩:=ad
    simp only at hsp l2
    subst hsp
    refine ⟨us,hlen,l4,l3,by simp [Builtin.lenOf],?_,?_⟩
    ·have:=loadCells_at (P:=P) (w:=w) (b:=bk) (o:=of) (us:=us) (fun j u hu=>h.hr.agree _ _ _ (l2 j u hu))
     rw [hlen] at this
     simp [Builtin.firstCells,this]
    ·have:=loadCells_at (P:=P) (w:=w.drew) (b:=bk) (o:=of) (us:=us) (fun j u hu=>h.hr.agree _ _ _ (l2 j u hu))
     rw [hlen] at this
     simp [Builtin.firstCells,this]

section
variable {t ty e t2:TypeId} {i:TypeInfo} {z:Value} (ht:P.underlying t=some (.slice e)) (ht2:P.underlying t2=some (.slice e)∨P.underlying t2=some .string) (hi:P.info? e=some i) (hz:i.zero=some z)
include ht ht2 hi
theorem run_app_room {base:Option Addr} {n cap m:Nat} {yv:Value} {us:List Value} (hy:(Builtin.lenOf yv).run P w= .ok m w) (hf:(Builtin.firstCells i.size m yv).run P w= .ok us.toArray w) (hr:n+m≤cap) {w':World}
  (hs: ∀b,base=some b→(storeCells (b.add (n*i.size)) us).run P w= .ok () w') (hs0:base=none→w'=w):
  (Builtin.append_ #[t,t2] ty #[.slice base n cap,yv]).run P w= .ok (.slice base (n+m) cap) w':=by
 cases base with
 |none=>rcases ht2 with ht2|ht2<;>simp [Builtin.append_,run_underlying ht,run_underlying ht2,sizeOf,typeInfo,hi,hy,hr,hf,hs0 rfl]
 |some b=>rcases ht2 with ht2|ht2<;>simp [Builtin.append_,run_underlying ht,run_underlying ht2,sizeOf,typeInfo,hi,hy,hr,hf,hs b rfl]
include hz
theorem run_app_grow {base:Option Addr} {n cap m:Nat} {yv:Value} {us olds:List Value} (hy:(Builtin.lenOf yv).run P w= .ok m w) (hf:(Builtin.firstCells i.size m yv).run P w.drew= .ok us.toArray w.drew)
  (hfo:(Builtin.firstCells i.size n (.slice base n cap)).run P w.drew= .ok olds.toArray w.drew) (hr:cap<n+m) (hfit:Builtin.nextslicecap (n+m) cap*i.bytes≤281474976710656) (h63:n+m≤9223372036854775807):
  (Builtin.append_ #[t,t2] ty #[.slice base n cap,yv]).run P w= .ok (.slice (some ⟨w.heap.size,0,none⟩) (n+m) (grownCap w (n+m) cap e))
   (w.drew.alloc (.cells ((olds++us).toArray++Builtin.zeroCells z.cells (grownCap w (n+m) cap e - (n+m))) e)):=by
 have hn: ¬(n+m≤cap):=by omega
 have h63': ¬(9223372036854775807<((n:Int)+(m:Int))):=by omega
 have h48': ¬(281474976710656<Builtin.nextslicecap (n+m) cap*i.bytes):=by omega
 rcases ht2 with ht2|ht2
 all_goals
  simp [Builtin.append_,run_underlying ht,run_underlying ht2,sizeOf,typeInfo,zeroValue,hi,hz,hy,hn,h63',h48',Question.forced,hf,hfo,newRow,grownCap]
  congr 2
  apply Array.ext'
  simp [List.append_assoc]
end

theorem app_soundU (h:Rel F S gb σ a w) {d:Nat} (hd:d<F.N) {t ty e t2:TypeId} {i:TypeInfo} {z:Value} {sz by_:Nat} (ht:P.underlying t=some (.slice e)) (ht2:P.underlying t2=some (.slice e)∨P.underlying t2=some .string) (hi:P.info? e=some i) (hz:i.zero=some z)
  (hsz:i.size=sz) (hkb:sz<KB) (hby:i.bytes=by_) (hzs:z.cells.size=sz) (h0:0<sz) (hb0:0<by_) {news rows:List (List AV)} {sv yv:Value} {τ:St} (hτ:Rel F S gb τ a w)
  (hu: ∃us:List Value,us.length=news.length*sz∧PRlist S gb0 news.flatten us∧(∀u∈us,u.oneCell'=true)∧(Builtin.lenOf yv).run P w= .ok news.length w∧
   (Builtin.firstCells sz news.length yv).run P w= .ok us.toArray w∧(Builtin.firstCells sz news.length yv).run P w.drew= .ok us.toArray w.drew) (hl: ∀r∈news,r.length=sz) (hrl: ∀r∈rows,r.length=sz) (hs:PR S gb (.sl rows) sv) (ho:OwnR S w sz sv) (hnew: ∀g,sv.ownBlock=some g→F.w0.heap.size≤g∨F.M g)
  (hq: ∀p l b,lkP τ.pm p=some l→(plv gb (tv a) w p).ownBlock=some b→sv.ownBlock≠some b) (hqb: ∀b d' z,sv.ownBlock=some b→(lkB τ.bx d').isSome→gb d'≠some (b,z))
  (hlim:(rows.length+news.length)*by_≤lim):
  ∃u w' S',(Builtin.append_ #[t,t2] ty #[sv,yv]).run P w= .ok u w'∧Rel F S' gb (τ.puto d (.sl (rows++news)) sz) (a.put (some d) u) w':=by
 obtain ⟨us,u1,u2,u3,u4,u5,u6⟩:=hu
 have hsmall:rows.length+news.length≤9223372036854775807:=by
  have:rows.length+news.length≤(rows.length+news.length)*by_:=Nat.le_mul_of_pos_right _ hb0
  unfold lim at hlim;omega
 have hcapm: ∀c,c≤maxLen→grownCap w (rows.length+news.length) c e≤maxLen:=fun c _=>grownCap_le_maxLen w _ _ _ (by unfold maxLen;omega)
 subst hsz;subst hby
 have grow: ∀(base:Option Addr) (n cap:Nat) (olds:List Value),sv= .slice base n cap→n=rows.length→cap<n+news.length→
   (Builtin.firstCells i.size n (.slice base n cap)).run P w.drew= .ok olds.toArray w.drew→PRlist S gb0 rows.flatten olds→(∀u∈olds,u.oneCell'=true)→(∀r∈rows,r.length=i.size)→
   ∃u w' S',(Builtin.append_ #[t,t2] ty #[sv,yv]).run P w= .ok u w'∧Rel F S' gb (τ.puto d (.sl (rows++news)) i.size) (a.put (some d) u) w':=by
  intro base n cap olds hsv hn hcap hfo ol o1 orow
  subst hsv;subst hn
  have hfit:=growslice_fits (need:=rows.length+news.length) (old:=cap) (bytes:=i.bytes) hcap (by unfold lim at hlim;exact hlim)
  have hrun:=run_app_grow (P:=P) (w:=w) (ty:=ty) ht ht2 hi hz u4 u6 hfo hcap hfit hsmall
  have hge:=grownCap_ge w (rows.length+news.length) cap e
  have hrl: ∀r∈rows++news,r.length=i.size:=by
   intro r hr;rcases List.mem_append.1 hr with hr|hr
   ·exact orow r hr
   ·exact hl r hr
  have hlen:(olds++us).length=(rows.length+news.length)*i.size:=by
   rw [List.length_append,←ol.length,flatten_length orow,u1,Nat.add_mul]
  obtain ⟨S',hr'⟩:=(hτ.drew).newOwn hd ((olds++us).toArray++Builtin.zeroCells z.cells (grownCap w (rows.length+news.length) cap e - (rows.length+news.length))) e (rows:=rows++news) (us:=olds++us) (k:=i.size)
   (cap:=grownCap w (rows.length+news.length) cap e) hkb hrl (by rw [List.flatten_append];exact ol.append u2) (by
    intro u hu;rcases List.mem_append.1 hu with hu|hu
    ·exact o1 u hu
    ·exact u3 u hu) (by rw [Array.toList_append];exact List.take_left) (by
    refine Nat.le_of_eq (Eq.symm ?_)
    rw [Array.size_append,size_zeroCells,hzs,List.size_toArray,hlen,←Nat.add_mul];congr 1;omega) (by simpa using hge) (grownCap_le_maxLen w _ _ _ (by unfold maxLen;omega))
  refine ⟨_,_,S',hrun,?_⟩
  simpa using hr'
 simp only [PR] at hs
 rcases ho with rfl|⟨_,g,n,cap,cur,T,rfl,hcells,hncap,hcm,hcs,hun⟩|⟨hkb2,_⟩
 ·
  have hrows:rows=[]:=by
   rcases hs with ⟨_,hs⟩|⟨_,_,_,hs,_⟩
   ·exact hs
   ·cases hs
  subst hrows
  by_cases hm:news=[]
  ·subst hm
   refine ⟨.slice none 0 0,w,S,?_,?_⟩
   ·have:=run_app_room (P:=P) (w:=w) (ty:=ty) ht ht2 hi (base:=none) (n:=0) (cap:=0) (us:=us) u4 u5 (by simp) (w':=w) (fun b hb=>by cases hb) (fun _=>rfl)
    simpa using this
   ·refine hτ.puto hd (by simp [PR]) (.inl rfl) (fun b hb=>by simp [Value.ownBlock] at hb) (fun p l b _ _ _ hb=>by simp [Value.ownBlock] at hb) (fun b d' z hb=>by simp [Value.ownBlock] at hb)
  ·have hpos:0<news.length:=List.length_pos_iff.2 hm
   exact grow none 0 0 [] rfl rfl (by simpa using hpos) (by simp [Builtin.firstCells]) (by simp [PRlist]) (by simp) (by simp)
 ·have hn:n=rows.length∧PRrows S i.size rows g 0:=by
   rcases hs with ⟨hs,_⟩|⟨ad,cap',k',hs,_,hr⟩
   ·cases hs
   ·cases hs
    refine ⟨rfl,?_⟩
    rcases hr with hr|⟨_,hr⟩
    ·subst hr;simp [PRrows]
    ·exact PRrows.flat.2 ⟨hrl,(PRrows.flat.1 hr).2⟩
  obtain ⟨rfl,hr⟩:=hn
  obtain ⟨_,hrc⟩:=PRrows.flat.1 hr
  obtain ⟨olds,o1,o2,o3,o4⟩:=hrc.list
  simp only [Nat.zero_add] at o2
  have olen:olds.length=rows.length*i.size:=by rw [o1,flatten_length hrl]
  have ocell: ∀(j:Nat) (u:Value),olds[j]?=some u→cur[j]?=some u:=by
   intro j u hu
   have:=h.hr.agree _ _ _ (o2 j u hu)
   rwa [cell_of_row w g j cur T _ hcells] at this
  have otake:cur.toList.take (rows.length*i.size)=olds:=by
   apply List.ext_getElem?
   intro j
   rw [List.getElem?_take]
   split
   ·rename_i hj
    have hj2:j<olds.length:=by omega
    rw [List.getElem?_eq_getElem hj2]
    have:=ocell j _ (List.getElem?_eq_getElem hj2)
    simpa using this
   ·rename_i hj
    rw [List.getElem?_eq_none (by omega)]
  by_cases hroom:rows.length+news.length≤cap
  ·
   have hfitc:rows.length*i.size+us.length≤cur.size:=by rw [u1,←Nat.add_mul];exact Nat.le_trans (Nat.mul_le_mul_right _ hroom) hcs
   have hst:=run_storeCells_at P g (rows.length*i.size) T us 0 cur w hcells (by simpa using hfitc) u3
   simp only [Nat.add_zero] at hst
   have hrun:=run_app_room (P:=P) (w:=w) (ty:=ty) ht ht2 hi (base:=some ⟨g,0,none⟩) (n:=rows.length) (cap:=cap) (us:=us) u4 u5 hroom (fun b hb=>by
    cases hb;rw [Addr.add_lit,Nat.zero_add];exact hst) (fun hb=>by cases hb)
   generalize hcur':(cur.toList.take (rows.length*i.size)++us++cur.toList.drop (rows.length*i.size+us.length)).toArray=cur' at hrun hst
   have hheap:(w.setRow g cur').heap[g]?=some (.cells cur' T (0,0)):=setRow_heap w g cur _ T _ hcells
   have hnewcell: ∀(j:Nat) (u:Value),(olds++us)[j]?=some u→cur'[j]?=some u:=by
    intro j u hu
    rw [←hcur',otake]
    simp only [List.getElem?_toArray]
    rw [List.getElem?_append_left]
    ·exact hu
    ·obtain ⟨hlt,_⟩:=List.getElem?_eq_some_iff.1 hu;exact hlt
   have hgS: ∀o v,S g o=some v→o<rows.length*i.size:=by
    intro o v hv
    rcases Nat.lt_or_ge o (rows.length*i.size) with hlt|hge
    ·exact hlt
    ·rw [hun o hge] at hv;cases hv
   let S':Mem:=fun g' o=>if g'=g then (olds++us)[o]? else S g' o
   have hle:S.le S':=by
    intro g' o v hv
    simp only [S']
    split
    ·rename_i e;subst e
     have hlt:=hgS o v hv
     have h2:o<olds.length:=by omega
     rw [List.getElem?_append_left h2,List.getElem?_eq_getElem h2]
     have:=o2 o _ (List.getElem?_eq_getElem h2)
     rw [hv] at this
     simpa using this.symm
    ·exact hv
   have hτ':Rel F S' gb τ a (w.setRow g cur'):=by
    refine hτ.off (hnew g rfl) (fun d' z hd'=>hqb g d' z rfl hd') (fun p l hl2 hb2=>hq p l g hl2 hb2 rfl) (fun k hk=>setRow_other w g k _ hk) (by simp) rfl rfl rfl hle (fun g' o hg'=>by simp [S',hg']) ?_
    intro g' o v hv
    simp only [S'] at hv
    split at hv
    ·rename_i e;subst e
     rw [cell_of_row _ _ o cur' T _ hheap]
     exact hnewcell o v hv
    ·rename_i e
     rw [World.cell?_of_block (w:=w) (setRow_other w g g' _ e)]
     exact h.hr.agree _ _ _ hv
   refine ⟨_,_,S',hrun,hτ'.puto hd ?_ ?_ ?_ ?_ ?_⟩
   ·simp only [PR]
    refine .inr ⟨⟨g,0,none⟩,cap,i.size,by simp,by simpa using hroom,.inr ⟨rfl,?_⟩⟩
    rw [PRrows.flat]
    refine ⟨fun r hr'=>?_,?_⟩
    ·rcases List.mem_append.1 hr' with hr'|hr'
     ·exact hrl r hr'
     ·exact hl r hr'
    ·rw [List.flatten_append]
     refine PRcells.of_list (us:=olds++us) (PRlist.mono hle (Gb.le.refl _) _ _ (o4.append u2)) ?_ (fun j u hu=>by simpa [S'] using hu)
     intro u hu
     rcases List.mem_append.1 hu with hu|hu
     ·exact o3 u hu
     ·exact u3 u hu
   ·refine .inr (.inl ⟨hkb,g,rows.length+news.length,cap,cur',T,rfl,hheap,hroom,hcm,?_,fun o ho=>?_⟩)
    ·rw [←hcur']
     simp only [List.size_toArray,List.length_append,List.length_take,List.length_drop,Array.length_toList]
     omega
    ·simp only [S',if_true]
     apply List.getElem?_eq_none
     rw [List.length_append,olen,u1,←Nat.add_mul]
     exact ho
   ·intro b hb3
    simp only [Value.ownBlock,Option.some.injEq] at hb3
    subst hb3
    exact hnew g rfl
   ·intro p l b hl2 _ hb2 hb3
    simp only [Value.ownBlock,Option.some.injEq] at hb3
    subst hb3
    refine hq p l g hl2 ?_ rfl
    rw [←hτ.plv_same (w':=w.setRow g cur') (fun d' q z hd' hq2=>setRow_other w g q _ (fun e=>hqb g d' z rfl hd' (by rw [hq2,e]))) hl2];exact hb2
   ·intro b d' z hb3
    simp only [Value.ownBlock,Option.some.injEq] at hb3
    subst hb3
    exact hqb g d' z rfl
  ·refine grow _ _ cap olds rfl rfl (by omega) ?_ o4 o3 hrl
   have:=loadCells_at (P:=P) (w:=w.drew) (b:=g) (o:=0) (us:=olds) (fun j u hu=>by rw [Nat.zero_add];exact h.hr.agree _ _ _ (o2 j u hu))
   rw [olen] at this
   simp [Builtin.firstCells,this]
 ·exact absurd hkb2 (Nat.not_le.2 hkb)
theorem app_sound (h:Rel F S gb σ a w) {d:Nat} (hd:d<F.N) {t ty e:TypeId} {i:TypeInfo} {z:Value} {sz by_:Nat} (ht:P.underlying t=some (.slice e)) (hi:P.info? e=some i) (hz:i.zero=some z)
  (hsz:i.size=sz) (hkb:sz<KB) (hby:i.bytes=by_) (hzs:z.cells.size=sz) (h0:0<sz) (hb0:0<by_) {news rows:List (List AV)} {sv yv:Value} {τ:St} (hτ:Rel F S gb τ a w)
  (hy:PR S gb (.sl news) yv) (hl: ∀r∈news,r.length=sz) (hrl: ∀r∈rows,r.length=sz) (hs:PR S gb (.sl rows) sv) (ho:OwnR S w sz sv) (hnew: ∀g,sv.ownBlock=some g→F.w0.heap.size≤g∨F.M g)
  (hq: ∀p l b,lkP τ.pm p=some l→(plv gb (tv a) w p).ownBlock=some b→sv.ownBlock≠some b) (hqb: ∀b d' z,sv.ownBlock=some b→(lkB τ.bx d').isSome→gb d'≠some (b,z))
  (hlim:(rows.length+news.length)*by_≤lim):
  ∃u w' S',(Builtin.append_ #[t,t] ty #[sv,yv]).run P w= .ok u w'∧Rel F S' gb (τ.puto d (.sl (rows++news)) sz) (a.put (some d) u) w':=
 app_soundU h hd ht (.inl ht) hi hz hsz hkb hby hzs h0 hb0 hτ (news_cells (P:=P) h hy hl) hl hrl hs ho hnew hq hqb hlim
theorem str_cells {P:Program} (w:World) (l:List UInt8) (hp: ∀S,PRlist S gb0 (byteRows l).flatten (l.map fun b=>Value.int .u8 (b.toNat:Int))) (S:Mem):
  ∃us:List Value,us.length=(byteRows l).length*1∧PRlist S gb0 (byteRows l).flatten us∧(∀u∈us,u.oneCell'=true)∧(Builtin.lenOf (.string ⟨l.toArray⟩)).run P w= .ok (byteRows l).length w∧
   (Builtin.firstCells 1 (byteRows l).length (.string ⟨l.toArray⟩)).run P w= .ok us.toArray w∧(Builtin.firstCells 1 (byteRows l).length (.string ⟨l.toArray⟩)).run P w.drew= .ok us.toArray w.drew:=by
 have hx:(ByteArray.mk l.toArray).extract 0 l.length=⟨l.toArray⟩:=by
  have:=ByteArray.extract_zero_size (b:=⟨l.toArray⟩)
  simpa [ByteArray.size] using this
 refine ⟨_,by simp [byteRows],hp S,?_,?_,?_,?_⟩
 ·intro u hu;obtain ⟨b,_,rfl⟩:=List.mem_map.1 hu;rfl
 ·simp [Builtin.lenOf,byteRows,ByteArray.size]
 ·simp [Builtin.firstCells,byteRows,hx]
 ·simp [Builtin.firstCells,byteRows,hx]
end Go.Ai
