/- AiRel: a part of the proof: the rules, or what functions compute. Conditions: as each theorem says. -/
import Derived.Test.YtpaipepdakekbaaGreatDoorAiCore
namespace Go.Ai
open Go.RowKit

abbrev Mem:=Nat→Nat→Option Value
structure BZ where
 z:Nat
 T:Nat
abbrev Gb:=Id→Option (Nat×BZ)
def gb0:Gb:=fun _=>none

mutual
def PR (S:Mem) (gb:Gb):AV→Value→Prop
 | .undef,_=>True
 | .int k n,v=>v= .int k n
 | .bool b,v=>v= .bool b
 | .str s,v=>v= .string ⟨s.toArray⟩
 | .nils,v=>v= .slice none 0 0
 | .nilp,v=>v= .pointer none
 | .nilT d T n,v=>v= .pointer none∧ ∃g,gb d=some (g,⟨n,T⟩)
 | .sl rows,v=>(v= .slice none 0 0∧rows=[])∨ ∃a cap k,v= .slice (some a) rows.length cap∧rows.length≤cap∧(rows=[]∨(a.spot=none∧PRrows S k rows a.block a.off))
 | .pin cs,v=> ∃g o,v= .pointer (some ⟨g,o,none⟩)∧PRcells S cs g o
 | .ptr d off,v=> ∃g z,gb d=some (g,z)∧d.isIt=false∧v= .pointer (some ⟨g,off,none⟩)
 | .ms d off n sz,v=> ∃g z cap,gb d=some (g,z)∧d.isIt=false∧v= .slice (some ⟨g,off,none⟩) n cap∧n≤cap∧cap≤maxLen∧off+cap*sz≤z.z
 | .itp d,v=> ∃g z,gb (.it d)=some (g,z)∧v= .pointer (some ⟨g,0,none⟩)
 | .itr _ _,_=>False
 | .mref d,v=> ∃g z,gb d=some (g,z)∧d.isIt=true∧v= .map (some g)
 | .mpv _,_=>False
 | .fn f cs,v=> ∃us:Array Value,v= .func (.func f) #[] us∧PRlist S gb cs us.toList
 | .agg cs,v=> ∃us,v= .agg us∧(∀u∈us.toList,u.oneCell'=true)∧PRlist S gb cs us.toList
 | .tup cs,v=> ∃us,v= .tuple us∧PRlist S gb cs us.toList
 | .ifc T x,v=> ∃u,v= .iface T u∧PR S gb x u
 | .nili,v=>v= .nilIface
def PRcells (S:Mem):List AV→Nat→Nat→Prop
 |[],_,_=>True
 |c::r,g,o=>(∃u,S g o=some u∧u.oneCell'=true∧PR S gb0 c u)∧PRcells S r g (o+1)
def PRrows (S:Mem) (k:Nat):List (List AV)→Nat→Nat→Prop
 |[],_,_=>True
 |r::rs,g,o=>r.length=k∧PRcells S r g o∧PRrows S k rs g (o+k)
def PRlist (S:Mem) (gb:Gb):List AV→List Value→Prop
 |[],us=>us=[]
 |c::r,us=> ∃u us',us=u::us'∧PR S gb c u∧PRlist S gb r us'
end

def Mem.le (S S':Mem):Prop:= ∀g o v,S g o=some v→S' g o=some v
def Gb.le (b b':Gb):Prop:= ∀d g,b d=some g→b' d=some g
theorem Mem.le.refl (S:Mem):S.le S:=fun _ _ _ h=>h
theorem Mem.le.trans {S S' S'':Mem} (h:S.le S') (h':S'.le S''):S.le S'':=fun g o v e=>h' g o v (h g o v e)
theorem Gb.le.refl (S:Gb):S.le S:=fun _ _ h=>h
theorem gb0_le (b:Gb):gb0.le b:=fun _ _ h=>by simp [gb0] at h

mutual
theorem PR.mono {S S':Mem} {gb gb':Gb} (hs:S.le S') (hg:gb.le gb'): ∀(av:AV) (v:Value),PR S gb av v→PR S' gb' av v
 | .undef,_,_=>by simp [PR]
 | .int k n,v,h=>by simpa [PR] using h
 | .bool b,v,h=>by simpa [PR] using h
 | .str s,v,h=>by simpa [PR] using h
 | .nils,v,h=>by simpa [PR] using h
 | .nilp,v,h=>by simpa [PR] using h
 | .nilT d T n,v,h=>by
  simp only [PR] at h ⊢
  obtain ⟨h1,g,h2⟩:=h
  exact ⟨h1,g,hg _ _ h2⟩
 | .sl rows,v,h=>by
  simp only [PR] at h ⊢
  rcases h with h|⟨a,cap,k,h1,h2,h3⟩
  ·exact .inl h
  ·refine .inr ⟨a,cap,k,h1,h2,?_⟩
   rcases h3 with h3|⟨h3,h4⟩
   ·exact .inl h3
   ·exact .inr ⟨h3,PRrows.mono hs k rows _ _ h4⟩
 | .pin cs,v,h=>by
  simp only [PR] at h ⊢
  obtain ⟨g,o,h1,h2⟩:=h
  exact ⟨g,o,h1,PRcells.mono hs cs _ _ h2⟩
 | .ptr d off,v,h=>by
  simp only [PR] at h ⊢
  obtain ⟨g,z,h1,h2⟩:=h
  exact ⟨g,z,hg _ _ h1,h2⟩
 | .ms d off n k,v,h=>by
  simp only [PR] at h ⊢
  obtain ⟨g,z,cap,h1,h2⟩:=h
  exact ⟨g,z,cap,hg _ _ h1,h2⟩
 | .itp d,v,h=>by
  simp only [PR] at h ⊢
  obtain ⟨g,z,h1,h2⟩:=h
  exact ⟨g,z,hg _ _ h1,h2⟩
 | .itr _ _,v,h=>by simp [PR] at h
 | .mref d,v,h=>by
  simp only [PR] at h ⊢
  obtain ⟨g,z,h1,h2⟩:=h
  exact ⟨g,z,hg _ _ h1,h2⟩
 | .mpv _,v,h=>by simp [PR] at h
 | .fn f cs,v,h=>by
  simp only [PR] at h ⊢
  obtain ⟨us,h1,h2⟩:=h
  exact ⟨us,h1,PRlist.mono hs hg cs _ h2⟩
 | .agg cs,v,h=>by
  simp only [PR] at h ⊢
  obtain ⟨us,h1,h0,h2⟩:=h
  exact ⟨us,h1,h0,PRlist.mono hs hg cs _ h2⟩
 | .tup cs,v,h=>by
  simp only [PR] at h ⊢
  obtain ⟨us,h1,h2⟩:=h
  exact ⟨us,h1,PRlist.mono hs hg cs _ h2⟩
 | .ifc T x,v,h=>by
  simp only [PR] at h ⊢
  obtain ⟨u,h1,h2⟩:=h
  exact ⟨u,h1,PR.mono hs hg x u h2⟩
 | .nili,v,h=>by simpa [PR] using h
theorem PRcells.mono {S S':Mem} (hs:S.le S'): ∀(cs:List AV) (g o:Nat),PRcells S cs g o→PRcells S' cs g o
 |[],_,_,_=>by simp [PRcells]
 |c::r,g,o,h=>by
  simp only [PRcells] at h ⊢
  obtain ⟨⟨u,h1,h0,h2⟩,h3⟩:=h
  exact ⟨⟨u,hs _ _ _ h1,h0,PR.mono hs (Gb.le.refl _) c u h2⟩,PRcells.mono hs r g (o+1) h3⟩
theorem PRrows.mono {S S':Mem} (hs:S.le S'): ∀(k:Nat) (rs:List (List AV)) (g o:Nat),PRrows S k rs g o→PRrows S' k rs g o
 |k,[],_,_,_=>by simp [PRrows]
 |k,r::rs,g,o,h=>by
  simp only [PRrows] at h ⊢
  obtain ⟨h1,h2,h3⟩:=h
  exact ⟨h1,PRcells.mono hs r g o h2,PRrows.mono hs k rs g (o+k) h3⟩
theorem PRlist.mono {S S':Mem} {gb gb':Gb} (hs:S.le S') (hg:gb.le gb'): ∀(cs:List AV) (us:List Value),PRlist S gb cs us→PRlist S' gb' cs us
 |[],us,h=>by simpa [PRlist] using h
 |c::r,us,h=>by
  simp only [PRlist] at h ⊢
  obtain ⟨u,us',h1,h2,h3⟩:=h
  exact ⟨u,us',h1,PR.mono hs hg c u h2,PRlist.mono hs hg r us' h3⟩
end

mutual
theorem PR.restr {S:Mem} {gb gb':Gb}: ∀(av:AV) (v:Value),(∀d∈av.ids,gb d=gb' d)→PR S gb av v→PR S gb' av v
 | .undef,_,_,_=>by simp [PR]
 | .int k n,v,_,h=>by simpa [PR] using h
 | .bool b,v,_,h=>by simpa [PR] using h
 | .str s,v,_,h=>by simpa [PR] using h
 | .nils,v,_,h=>by simpa [PR] using h
 | .nilp,v,_,h=>by simpa [PR] using h
 | .nilT d T n,v,hi,h=>by
  simp only [PR] at h ⊢
  have:=hi d (by simp [AV.ids])
  rw [←this];exact h
 | .sl rows,v,_,h=>by simpa [PR] using h
 | .pin cs,v,_,h=>by simpa [PR] using h
 | .ptr d off,v,hi,h=>by
  simp only [PR] at h ⊢
  have:=hi d (by simp [AV.ids])
  rw [←this];exact h
 | .ms d off n k,v,hi,h=>by
  simp only [PR] at h ⊢
  have:=hi d (by simp [AV.ids])
  rw [←this];exact h
 | .itp d,v,hi,h=>by
  simp only [PR] at h ⊢
  have:=hi (.it d) (by simp [AV.ids])
  rw [←this];exact h
 | .itr _ _,v,hi,h=>by simp [PR] at h
 | .mref d,v,hi,h=>by
  simp only [PR] at h ⊢
  have:=hi d (by simp [AV.ids])
  rw [←this];exact h
 | .mpv _,v,hi,h=>by simp [PR] at h
 | .fn f cs,v,hi,h=>by
  simp only [PR] at h ⊢
  obtain ⟨us,h1,h2⟩:=h
  exact ⟨us,h1,PRlist.restr cs _ (by simpa [AV.ids] using hi) h2⟩
 | .agg cs,v,hi,h=>by
  simp only [PR] at h ⊢
  obtain ⟨us,h1,h0,h2⟩:=h
  exact ⟨us,h1,h0,PRlist.restr cs _ (by simpa [AV.ids] using hi) h2⟩
 | .tup cs,v,hi,h=>by
  simp only [PR] at h ⊢
  obtain ⟨us,h1,h2⟩:=h
  exact ⟨us,h1,PRlist.restr cs _ (by simpa [AV.ids] using hi) h2⟩
 | .ifc T x,v,hi,h=>by
  simp only [PR] at h ⊢
  obtain ⟨u,h1,h2⟩:=h
  exact ⟨u,h1,PR.restr x u (by simpa [AV.ids] using hi) h2⟩
 | .nili,v,_,h=>by simpa [PR] using h
theorem PRlist.restr {S:Mem} {gb gb':Gb}: ∀(cs:List AV) (us:List Value),(∀d∈idsL cs,gb d=gb' d)→PRlist S gb cs us→PRlist S gb' cs us
 |[],us,_,h=>by simpa [PRlist] using h
 |c::r,us,hi,h=>by
  simp only [PRlist] at h ⊢
  obtain ⟨u,us',h1,h2,h3⟩:=h
  exact ⟨u,us',h1,PR.restr c u (fun d hd=>hi d (by simp [idsL,hd])) h2,PRlist.restr r us' (fun d hd=>hi d (by simp [idsL,hd])) h3⟩
end

mutual
theorem shut_PR {S:Mem} {gb:Gb}: ∀(av av':AV) (v:Value),shut av=some av'→PR S gb av v→PR S gb0 av' v
 | .undef,_,_,h,_=>by simp [shut] at h
 | .int k n,_,v,h,p=>by simp [shut] at h;subst h;simpa [PR] using p
 | .bool b,_,v,h,p=>by simp [shut] at h;subst h;simpa [PR] using p
 | .str s,_,v,h,p=>by simp [shut] at h;subst h;simpa [PR] using p
 | .nils,_,v,h,p=>by simp [shut] at h;subst h;simp only [PR] at p ⊢;exact .inl ⟨p,trivial⟩
 | .nilp,_,v,h,p=>by simp [shut] at h;subst h;simpa [PR] using p
 | .nilT _ _ _,_,v,h,p=>by
  simp only [shut,Option.some.injEq] at h;subst h
  simp only [PR] at p ⊢;exact p.1
 | .sl rows,_,v,h,p=>by simp [shut] at h;subst h;simpa [PR] using p
 | .pin cs,_,v,h,p=>by simp [shut] at h;subst h;simpa [PR] using p
 | .ptr d off,_,v,h,p=>by simp [shut] at h
 | .ms d off n k,_,v,h,p=>by simp [shut] at h
 | .itp _,_,v,h,p=>by simp [shut] at h
 | .itr _ _,_,v,h,p=>by simp [shut] at h
 | .mref _,_,v,h,p=>by simp [shut] at h
 | .mpv _,_,v,h,p=>by simp [shut] at h
 | .fn f cs,_,v,h,p=>by
  simp only [shut,Option.map_eq_some_iff] at h
  obtain ⟨cs',h1,rfl⟩:=h
  simp only [PR] at p ⊢
  obtain ⟨us,h2,h3⟩:=p
  exact ⟨us,h2,shutL_PR cs cs' _ h1 h3⟩
 | .agg cs,_,v,h,p=>by
  simp only [shut,Option.map_eq_some_iff] at h
  obtain ⟨cs',h1,rfl⟩:=h
  simp only [PR] at p ⊢
  obtain ⟨us,h2,h0,h3⟩:=p
  exact ⟨us,h2,h0,shutL_PR cs cs' _ h1 h3⟩
 | .tup cs,_,v,h,p=>by
  simp only [shut,Option.map_eq_some_iff] at h
  obtain ⟨cs',h1,rfl⟩:=h
  simp only [PR] at p ⊢
  obtain ⟨us,h2,h3⟩:=p
  exact ⟨us,h2,shutL_PR cs cs' _ h1 h3⟩
 | .ifc T x,_,v,h,p=>by
  simp only [shut,Option.map_eq_some_iff] at h
  obtain ⟨x',h1,rfl⟩:=h
  simp only [PR] at p ⊢
  obtain ⟨u,h2,h3⟩:=p
  exact ⟨u,h2,shut_PR x x' u h1 h3⟩
 | .nili,_,v,h,p=>by simp [shut] at h;subst h;simpa [PR] using p
theorem shutL_PR {S:Mem} {gb:Gb}: ∀(cs cs':List AV) (us:List Value),shutL cs=some cs'→PRlist S gb cs us→PRlist S gb0 cs' us
 |[],_,us,h,p=>by simp [shutL] at h;subst h;simpa [PRlist] using p
 |c::r,_,us,h,p=>by
  simp only [shutL] at h
  split at h
  ·rename_i c' r' hc hr
   simp only [Option.some.injEq] at h
   subst h
   simp only [PRlist] at p ⊢
   obtain ⟨u,us',h1,h2,h3⟩:=p
   exact ⟨u,us',h1,shut_PR c c' u hc h2,shutL_PR r r' us' hr h3⟩
  ·cases h
end

mutual
theorem shutN_PR {S:Mem} {gb:Gb}: ∀(av av':AV) (v:Value),shutN av=some av'→PR S gb av v→PR S gb0 av' v
 | .nils,_,v,h,p=>by simp [shutN] at h;subst h;simpa [PR] using p
 | .agg cs,_,v,h,p=>by
  simp only [shutN,Option.map_eq_some_iff] at h
  obtain ⟨cs',h1,rfl⟩:=h
  simp only [PR] at p ⊢
  obtain ⟨us,h2,h0,h3⟩:=p
  exact ⟨us,h2,h0,shutNL_PR cs cs' _ h1 h3⟩
 | .tup cs,_,v,h,p=>by
  simp only [shutN,Option.map_eq_some_iff] at h
  obtain ⟨cs',h1,rfl⟩:=h
  simp only [PR] at p ⊢
  obtain ⟨us,h2,h3⟩:=p
  exact ⟨us,h2,shutNL_PR cs cs' _ h1 h3⟩
 | .undef,_,v,h,p=>shut_PR _ _ _ h p
 | .int _ _,_,v,h,p=>shut_PR _ _ _ h p
 | .bool _,_,v,h,p=>shut_PR _ _ _ h p
 | .str _,_,v,h,p=>shut_PR _ _ _ h p
 | .sl _,_,v,h,p=>shut_PR _ _ _ h p
 | .pin _,_,v,h,p=>shut_PR _ _ _ h p
 | .ptr _ _,_,v,h,p=>shut_PR _ _ _ h p
 | .ms _ _ _ _,_,v,h,p=>shut_PR _ _ _ h p
 | .fn _ _,_,v,h,p=>shut_PR _ _ _ h p
 | .itr _ _,_,v,h,p=>shut_PR _ _ _ h p
 | .itp _,_,v,h,p=>shut_PR _ _ _ h p
 | .mref _,_,v,h,p=>shut_PR _ _ _ h p
 | .mpv _,_,v,h,p=>shut_PR _ _ _ h p
 | .nilp,_,v,h,p=>shut_PR _ _ _ h p
 | .nilT _ _ _,_,v,h,p=>shut_PR _ _ _ h p
 | .ifc _ _,_,v,h,p=>shut_PR _ _ _ h p
 | .nili,_,v,h,p=>shut_PR _ _ _ h p
theorem shutNL_PR {S:Mem} {gb:Gb}: ∀(cs cs':List AV) (us:List Value),shutNL cs=some cs'→PRlist S gb cs us→PRlist S gb0 cs' us
 |[],_,us,h,p=>by simp [shutNL] at h;subst h;simpa [PRlist] using p
 |c::r,_,us,h,p=>by
  simp only [shutNL] at h
  split at h
  ·rename_i c' r' hc hr
   simp only [Option.some.injEq] at h
   subst h
   simp only [PRlist] at p ⊢
   obtain ⟨u,us',h1,h2,h3⟩:=p
   exact ⟨u,us',h1,shutN_PR c c' u hc h2,shutNL_PR r r' us' hr h3⟩
  ·cases h
end

theorem PRlist.length {S:Mem} {gb:Gb}: ∀ {cs:List AV} {us:List Value},PRlist S gb cs us→cs.length=us.length
 |[],us,h=>by simp [PRlist] at h;subst h;rfl
 |c::r,us,h=>by
  simp only [PRlist] at h
  obtain ⟨u,us',rfl,_,h3⟩:=h
  simp [PRlist.length h3]
theorem PRlist.setNil {S:Mem} {gb:Gb} {d:Id} {T n g:Nat} (hg:gb d=some (g,⟨n,T⟩)): ∀ {cs:List AV} {us:List Value},PRlist S gb cs us→ ∀ {off:Nat},cs[off]?=some .nilp→PRlist S gb (cs.set off (.nilT d T n)) us
 |[],us,h,off,h2=>by simp at h2
 |c::r,us,h,0,h2=>by
  simp only [List.getElem?_cons_zero,Option.some.injEq] at h2
  subst h2
  simp only [List.set_cons_zero,PRlist,PR] at h ⊢
  obtain ⟨u,us',h1,h3,h4⟩:=h
  exact ⟨u,us',h1,⟨h3,g,hg⟩,h4⟩
 |c::r,us,h,off+1,h2=>by
  simp only [List.getElem?_cons_succ] at h2
  simp only [List.set_cons_succ,PRlist] at h ⊢
  obtain ⟨u,us',h1,h3,h4⟩:=h
  exact ⟨u,us',h1,h3,PRlist.setNil hg h4 h2⟩
theorem PRlist.get {S:Mem} {gb:Gb}: ∀ {cs:List AV} {us:List Value},PRlist S gb cs us→ ∀ {i:Nat} {c:AV},cs[i]?=some c→ ∃u,us[i]?=some u∧PR S gb c u
 |[],us,h,i,c,hc=>by simp at hc
 |c0::r,us,h,i,c,hc=>by
  simp only [PRlist] at h
  obtain ⟨u,us',rfl,h2,h3⟩:=h
  cases i with
  |zero=>simp at hc;subst hc;exact ⟨u,by simp,h2⟩
  |succ i=>simp at hc;obtain ⟨u',h4,h5⟩:=PRlist.get h3 hc;exact ⟨u',by simpa using h4,h5⟩
theorem PRlist.append {S:Mem} {gb:Gb}: ∀ {cs cs':List AV} {us us':List Value},PRlist S gb cs us→PRlist S gb cs' us'→PRlist S gb (cs++cs') (us++us')
 |[],cs',us,us',h,h'=>by simp [PRlist] at h;subst h;simpa using h'
 |c::r,cs',us,us',h,h'=>by
  simp only [PRlist] at h
  obtain ⟨u,us1,rfl,h2,h3⟩:=h
  exact ⟨u,us1++us',by simp,h2,PRlist.append h3 h'⟩
theorem PRlist.take {S:Mem} {gb:Gb} (n:Nat): ∀ {cs:List AV} {us:List Value},PRlist S gb cs us→PRlist S gb (cs.take n) (us.take n):=by
 induction n with
 |zero=>intro cs us h;simp [PRlist]
 |succ n ih=>
  intro cs us h
  cases cs with
  |nil=>simp [PRlist] at h;subst h;simp [PRlist]
  |cons c r=>
   simp only [PRlist] at h
   obtain ⟨u,us',rfl,h2,h3⟩:=h
   exact ⟨u,us'.take n,by simp,h2,ih h3⟩
theorem PRlist.drop {S:Mem} {gb:Gb} (n:Nat): ∀ {cs:List AV} {us:List Value},PRlist S gb cs us→PRlist S gb (cs.drop n) (us.drop n):=by
 induction n with
 |zero=>intro cs us h;simpa using h
 |succ n ih=>
  intro cs us h
  cases cs with
  |nil=>simp [PRlist] at h;subst h;simp [PRlist]
  |cons c r=>
   simp only [PRlist] at h
   obtain ⟨u,us',rfl,h2,h3⟩:=h
   simpa using ih h3

theorem PRcells.drop {S:Mem} (n:Nat): ∀ {cs:List AV} {g o:Nat},PRcells S cs g o→PRcells S (cs.drop n) g (o+n):=by
 induction n with
 |zero=>intro cs g o h;simpa using h
 |succ n ih=>
  intro cs g o h
  cases cs with
  |nil=>simp [PRcells]
  |cons c r=>
   simp only [PRcells] at h
   have:=ih h.2
   simpa [Nat.add_assoc,Nat.add_comm 1 n] using this
theorem PRcells.get {S:Mem}: ∀ {cs:List AV} {g o:Nat},PRcells S cs g o→ ∀ {i:Nat} {c:AV},cs[i]?=some c→ ∃u,S g (o+i)=some u∧u.oneCell'=true∧PR S gb0 c u
 |[],g,o,h,i,c,hc=>by simp at hc
 |c0::r,g,o,h,i,c,hc=>by
  simp only [PRcells] at h
  obtain ⟨⟨u,h1,h0,h2⟩,h3⟩:=h
  cases i with
  |zero=>simp at hc;subst hc;exact ⟨u,by simpa using h1,h0,h2⟩
  |succ i=>simp at hc;obtain ⟨u',h4,h5⟩:=PRcells.get h3 hc;exact ⟨u',by rw [show o+(i+1)=o+1+i by omega];exact h4,h5⟩
theorem PRcells.list {S:Mem}: ∀ {cs:List AV} {g o:Nat},PRcells S cs g o→ ∃us:List Value,us.length=cs.length∧(∀j u,us[j]?=some u→S g (o+j)=some u)∧(∀u∈us,u.oneCell'=true)∧PRlist S gb0 cs us
 |[],g,o,h=>⟨[],by simp [PRlist]⟩
 |c::r,g,o,h=>by
  simp only [PRcells] at h
  obtain ⟨⟨u,h1,h0,h2⟩,h3⟩:=h
  obtain ⟨us,l1,l2,l4,l3⟩:=PRcells.list h3
  refine ⟨u::us,by simp [l1],?_,?_,⟨u,us,rfl,h2,l3⟩⟩
  ·intro j x hx
   cases j with
   |zero=>simp at hx;subst hx;simpa using h1
   |succ j=>simp at hx;rw [show o+(j+1)=o+1+j by omega];exact l2 j x hx
  ·intro x hx
   cases hx with
   |head=>exact h0
   |tail _ hx=>exact l4 x hx
theorem PRcells.of_list {S:Mem}: ∀ {cs:List AV} {us:List Value} {g o:Nat},PRlist S gb0 cs us→(∀u∈us,u.oneCell'=true)→(∀j u,us[j]?=some u→S g (o+j)=some u)→PRcells S cs g o
 |[],us,g,o,_,_,_=>by simp [PRcells]
 |c::r,us,g,o,h,h1,hs=>by
  simp only [PRlist] at h
  obtain ⟨u,us',rfl,h2,h3⟩:=h
  simp only [PRcells]
  refine ⟨⟨u,by simpa using hs 0 u (by simp),h1 u (by simp),h2⟩,PRcells.of_list h3 (fun x hx=>h1 x (by simp [hx])) (fun j x hx=>?_)⟩
  rw [show o+1+j=o+(j+1) by omega]
  exact hs (j+1) x (by simpa using hx)
theorem PRcells.append {S:Mem}: ∀ {cs cs':List AV} {g o:Nat},PRcells S cs g o→PRcells S cs' g (o+cs.length)→PRcells S (cs++cs') g o
 |[],cs',g,o,_,h'=>by simpa using h'
 |c::r,cs',g,o,h,h'=>by
  simp only [PRcells,List.cons_append] at h ⊢
  exact ⟨h.1,PRcells.append h.2 (by rw [show o+1+r.length=o+(c::r).length by simp;omega];exact h')⟩
theorem PRrows.flat {S:Mem} {k:Nat}: ∀ {rows:List (List AV)} {g o:Nat},PRrows S k rows g o↔(∀r∈rows,r.length=k)∧PRcells S rows.flatten g o
 |[],g,o=>by simp [PRrows,PRcells]
 |r::rs,g,o=>by
  simp only [PRrows,List.flatten_cons,List.forall_mem_cons]
  constructor
  ·rintro ⟨h1,h2,h3⟩
   obtain ⟨h4,h5⟩:=PRrows.flat.1 h3
   exact ⟨⟨h1,h4⟩,PRcells.append h2 (by rw [h1];exact h5)⟩
  ·rintro ⟨⟨h1,h4⟩,h5⟩
   obtain ⟨us,l1,l2,l4,l3⟩:=PRcells.list h5
   have ht:=l3.take r.length
   have hd:=l3.drop r.length
   simp only [List.take_left',List.drop_left'] at ht hd
   refine ⟨h1,PRcells.of_list ht (fun u hu=>l4 u (List.mem_of_mem_take hu)) (fun j u hu=>?_),PRrows.flat.2 ⟨h4,PRcells.of_list hd (fun u hu=>l4 u (List.mem_of_mem_drop hu)) (fun j u hu=>?_)⟩⟩
   ·rw [List.getElem?_take] at hu
    split at hu
    ·exact l2 j u hu
    ·cases hu
   ·rw [List.getElem?_drop] at hu
    rw [←h1,Nat.add_assoc]
    exact l2 _ u hu
theorem flatten_length {k:Nat}: ∀ {rows:List (List AV)},(∀r∈rows,r.length=k)→rows.flatten.length=rows.length*k
 |[],_=>by simp
 |r::rs,h=>by
  simp only [List.forall_mem_cons] at h
  simp [flatten_length h.2,h.1,Nat.add_mul,Nat.add_comm]
theorem PRrows.get {S:Mem} {k:Nat}: ∀ {rows:List (List AV)} {g o:Nat},PRrows S k rows g o→ ∀ {i:Nat} {r:List AV},rows[i]?=some r→r.length=k∧PRcells S r g (o+i*k)
 |[],g,o,h,i,r,hr=>by simp at hr
 |r0::rs,g,o,h,i,r,hr=>by
  simp only [PRrows] at h
  obtain ⟨h1,h2,h3⟩:=h
  cases i with
  |zero=>simp at hr;subst hr;exact ⟨h1,by simpa using h2⟩
  |succ i=>simp at hr;have:=PRrows.get h3 hr;rw [show o+(i+1)*k=o+k+i*k by rw [Nat.add_mul];omega];exact this
theorem PRrows.take {S:Mem} {k:Nat} (n:Nat): ∀ {rows:List (List AV)} {g o:Nat},PRrows S k rows g o→PRrows S k (rows.take n) g o:=by
 induction n with
 |zero=>intro rows g o _;simp [PRrows]
 |succ n ih=>
  intro rows g o h
  cases rows with
  |nil=>simp [PRrows]
  |cons r rs=>simp only [PRrows,List.take_succ_cons] at h ⊢;exact ⟨h.1,h.2.1,ih h.2.2⟩
theorem PRrows.drop {S:Mem} {k:Nat} (n:Nat): ∀ {rows:List (List AV)} {g o:Nat},PRrows S k rows g o→PRrows S k (rows.drop n) g (o+n*k):=by
 induction n with
 |zero=>intro rows g o h;simpa using h
 |succ n ih=>
  intro rows g o h
  cases rows with
  |nil=>simp [PRrows]
  |cons r rs=>
   simp only [PRrows,List.drop_succ_cons] at h ⊢
   have:=ih h.2.2
   rw [show o+(n+1)*k=o+k+n*k by rw [Nat.add_mul];omega]
   exact this
end Go.Ai
