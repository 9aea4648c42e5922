/- P2: a part of the proof: the rules, or what functions compute. Conditions: as each theorem says. -/
import Derived.Test.YtpaipepdakekbaaGreatDoorP1
set_option linter.unusedSimpArgs false
set_option linter.unusedVariables false
set_option maxRecDepth 20000
namespace Go.Ai
open Go.Proofs
inductive It where
 |mk (n:List UInt8) (ws:List Tk) (b:Bool) (ks:List It) (ln co:Int)
mutual
def It.row:It→List AV
 | .mk n ws b ks ln co=>[.str n,.sl (ws.map Tk.row),.bool b,.sl (itRows ks),i6 ln,i6 co]
def itRows:List It→List (List AV)
 |[]=>[]
 |x::r=>x.row::itRows r
end
theorem itRows_app: ∀a b:List It,itRows (a++b)=itRows a++itRows b
 |[],b=>rfl
 |x::a,b=>by rw [List.cons_append,itRows,itRows,itRows_app a b,List.cons_append]
theorem itRows_len: ∀a:List It,(itRows a).length=a.length
 |[]=>rfl
 |x::a=>by rw [itRows,List.length_cons,List.length_cons,itRows_len a]
theorem it_six: ∀a:List It,∀r∈itRows a,r.length=6
 |[],r,h=>by cases h
 | .mk n ws b ks ln co::a,r,h=>by
  rw [itRows,List.mem_cons] at h
  rcases h with rfl|h
  ·rw [It.row];rfl
  ·exact it_six a r h
def nxt:List Tk→List Tk
 |_::y::r=>y::r
 |l=>l
def paB (l:List Tk) (n:Nat):List AV:=[.sl (l.map Tk.row),i6 n]
theorem pnext_spec (t:Tk) (r:List Tk) (n:Nat) (d:Nat) (b:Id) (hb:b.isIt=false) (hbd:b.isNw d=false):
  SpH Tryz.prog gl 27 d ⟨[.ptr b 0],[(b,paB (t::r) n)],[]⟩ ⟨.agg t.row,[(b,paB (nxt (t::r)) n)],[]⟩:=by
 refine h27 rfl ?_
 have hib:=inn_notNw hbd
 obtain ⟨k,s,m,ln,co⟩:=t
 cases r with
 |nil=>
  simp only [nxt,paB,List.map_cons,List.map_nil,Tk.row,inSt,mpB,mpL,AV.mp,mpP,Pl.mp]
  simp -implicitDefEqProofs [c27]
  refine postH_r ⟨?_,?_,?_,?_,?_,?_⟩<;>simp -implicitDefEqProofs [hib,hb]
 |cons y r=>
  simp only [nxt,paB,List.map_cons,List.map_nil,Tk.row,inSt,mpB,mpL,AV.mp,mpP,Pl.mp]
  have h1:=tk_five r
  have hl:(1:Int)<((List.map Tk.row r).length:Int)+1+1:=by omega
  generalize List.map Tk.row r=L at *
  have hk:((L.length:Int)+1+1).toNat=L.length+1+1:=by omega
  have hg:(1:Int)≤(L.length:Int)+1+1:=by omega
  simp -implicitDefEqProofs [c27,hl,hk]
  refine ⟨hg,h1,?_⟩
  refine postH_r ⟨?_,?_,?_,?_,?_,?_⟩<;>simp -implicitDefEqProofs [hib,hb]
def fltV (c:Int) (t:Tk):AV:= .ifc 28 (.agg [i6 c,i6 t.ln,i6 t.co])
theorem throw_spec (c:Int) (t:Tk) (d:Nat):SpT Tryz.prog gl 28 d ⟨[i6 c,.agg t.row],[],[]⟩ ⟨fltV c t,[],[]⟩:=by
 refine t28 rfl ?_
 obtain ⟨k,s,m,ln,co⟩:=t
 simp only [Tk.row,fltV,inSt,mpB,mpL,AV.mp,mpP,Pl.mp]
 simp -implicitDefEqProofs [c28]
 refine ⟨rfl,by simp,⟨?_,?_,?_,?_,?_,?_⟩⟩<;>simp -implicitDefEqProofs
end Go.Ai
namespace Go.Ai
inductive Pr (α:Type) where
 |ok (a:α) (l:List Tk) (n:Nat)
 |th (c:Int) (t:Tk) (l:List Tk) (n:Nat)
 |no
mutual
def pL:Nat→Nat→Int→List It→List Tk→Nat→Pr (List It)
 |0,_,_,_,_,_=> .no
 |_+1,_,_,_,[],_=> .no
 |f+1,d,e,out,t::r,n=>
  if t.k=e then .ok out (nxt (t::r)) n
  else if t.k≠1 then .th 6 t (nxt (t::r)) n
  else if 4<d then .th 19 t (nxt (t::r)) n
  else if n=300 then .th 9 t (nxt (t::r)) n
  else match pI f d t.t t.ln t.co [] (nxt (t::r)) (n+1) with
   | .ok x l' n'=>pL f d e (out++[x]) l' n'
   | .th c t l' n'=> .th c t l' n'
   | .no=> .no
def pI:Nat→Nat→List UInt8→Int→Int→List Tk→List Tk→Nat→Pr It
 |0,_,_,_,_,_,_,_=> .no
 |_+1,_,_,_,_,_,[],_=> .no
 |f+1,d,nm,ln,co,ws,t::r,n=>
  if t.k=9 then .ok (.mk nm ws false [] ln co) (nxt (t::r)) n
  else if t.k=7 then match pL f (d+1) 8 [] (nxt (t::r)) n with
   | .ok ks l' n'=> .ok (.mk nm ws true ks ln co) l' n'
   | .th c t l' n'=> .th c t l' n'
   | .no=> .no
  else if t.k<1∨6<t.k then .th 6 t (nxt (t::r)) n
  else if ws.length=6 then .th 9 t (nxt (t::r)) n
  else pI f d nm ln co (ws++[t]) (nxt (t::r)) n
end
theorem p_cnt: ∀f:Nat,(∀d e out l n o l' n',pL f d e out l n= .ok o l' n'→n≤300→out.length≤n→n≤n'∧n'≤300∧o.length≤n')∧(∀d nm ln co ws l n x l' n',pI f d nm ln co ws l n= .ok x l' n'→n≤300→n≤n'∧n'≤300)
 |0=>⟨fun d e out l n o l' n' h _ _=>by simp [pL] at h,fun d nm ln co ws l n x l' n' h _=>by simp [pI] at h⟩
 |f+1=>by
  obtain ⟨ihL,ihI⟩:=p_cnt f
  refine ⟨fun d e out l n o l' n' h hn ho=>?_,fun d nm ln co ws l n x l' n' h hn=>?_⟩
  ·cases l with
   |nil=>simp [pL] at h
   |cons t r=>
    rw [pL] at h
    split at h
    ·cases h;exact ⟨Nat.le_refl _,hn,ho⟩
    split at h
    ·cases h
    split at h
    ·cases h
    split at h
    ·cases h
    rename_i c4
    split at h
    ·rename_i x l2 n2 he
     have h1:=ihI _ _ _ _ _ _ _ _ _ _ he (by omega)
     have h2:=ihL _ _ _ _ _ _ _ _ h h1.2 (by rw [List.length_append,List.length_singleton];omega)
     exact ⟨by omega,h2.2⟩
    ·cases h
    ·cases h
  ·cases l with
   |nil=>simp [pI] at h
   |cons t r=>
    rw [pI] at h
    split at h
    ·cases h;exact ⟨Nat.le_refl _,hn⟩
    split at h
    ·split at h
     ·rename_i ks l2 n2 he
      cases h
      have:=ihL _ _ _ _ _ _ _ _ he hn (Nat.zero_le _)
      exact ⟨this.1,this.2.1⟩
     ·cases h
     ·cases h
    split at h
    ·cases h
    split at h
    ·cases h
    exact ihI _ _ _ _ _ _ _ _ _ _ h hn
open Go.Proofs
def LOk (f:Nat):Prop:= ∀(d:Nat) (e:Int) (l:List Tk) (n:Nat) (D:Nat) (b:Id),b.isIt=false→b.isNw D=false→d≤5→n≤300→
 (∀o l' n',pL f d e [] l n= .ok o l' n'→SpH Tryz.prog gl 18 D ⟨[.ptr b 0,i6 d,i6 e],[(b,paB l n)],[]⟩ ⟨.sl (itRows o),[(b,paB l' n')],[]⟩)∧
 (∀c t l' n',pL f d e [] l n= .th c t l' n'→SpT Tryz.prog gl 18 D ⟨[.ptr b 0,i6 d,i6 e],[(b,paB l n)],[]⟩ ⟨fltV c t,[(b,paB l' n')],[]⟩)
def IOk (f:Nat):Prop:= ∀(d:Nat) (x:Tk) (l:List Tk) (n:Nat) (D:Nat) (b:Id),b.isIt=false→b.isNw D=false→d≤4→n≤300→
 (∀y l' n',pI f d x.t x.ln x.co [] l n= .ok y l' n'→SpH Tryz.prog gl 29 D ⟨[.ptr b 0,.agg x.row,i6 d],[(b,paB l n)],[]⟩ ⟨.agg y.row,[(b,paB l' n')],[]⟩)∧
 (∀c t l' n',pI f d x.t x.ln x.co [] l n= .th c t l' n'→SpT Tryz.prog gl 29 D ⟨[.ptr b 0,.agg x.row,i6 d],[(b,paB l n)],[]⟩ ⟨fltV c t,[(b,paB l' n')],[]⟩)
set_option maxHeartbeats 2000000 in
theorem list_wp (f d:Nat) (e:Int) (l:List Tk) (n:Nat) (D:Nat) (b:Id) (hb:b.isIt=false) (hbd:b.isNw D=false) (hd:d≤5) (hn:n≤300) (hI: ∀g,g<f→IOk g) (Q:AE→St→Prop) (Rp:AV→St→Prop) (hno:pL f d e [] l n≠ .no)
  (hQ: ∀o l' n',pL f d e [] l n= .ok o l' n'→ ∀σ,postH D [.t 6] ⟨.sl (itRows o),[(b,paB l' n')],[]⟩ .r σ→Q .r σ)
  (hR: ∀c t l' n',pL f d e [] l n= .th c t l' n'→ ∀v σ,postT D ⟨fltV c t,[(b,paB l' n')],[]⟩ v σ→Rp v σ):
  wpA2 (SpH Tryz.prog gl) (SpT Tryz.prog gl) Rp c18 Q (inSt ⟨[.ptr b 0,i6 d,i6 e],[(b,paB l n)],[]⟩):=by
 have hib:=inn_notNw hbd
 obtain ⟨R,hRR⟩: ∃R,R=pL f d e [] l n:=⟨_,rfl⟩
 rw [←hRR] at hno hQ hR
 have hlim:lim=140737488355328:=rfl
 unfold paB at *
 simp only [inSt,mpB,mpL,AV.mp,mpP,Pl.mp]
 simp -implicitDefEqProofs [c18]
 refine wp_lpk2 (α:=Nat×List It×List Tk×Nat) (fun y=>⟨[(0,.ptr (.up b) 0),(1,i6 d),(2,i6 e),(7,.sl (itRows y.2.1))],[(.up b,[.sl (y.2.2.1.map Tk.row),i6 y.2.2.2])],[(.s 7,6)]⟩) (fun y=>y.1≤f∧y.2.1.length≤y.2.2.2∧y.2.2.2≤300∧pL y.1 d e y.2.1 y.2.2.1 y.2.2.2=R) (fun y=>y.1) ?_ (f,[],l,n) ?_ ?_
 ·rintro K ⟨g,out,l,n⟩ hK ⟨hg,ho,hn,he⟩
  simp only at hg ho hn he
  cases g with
  |zero=>exact absurd (by rw [←he];simp [pL]) hno
  |succ g=>
   cases l with
   |nil=>exact absurd (by rw [←he];simp [pL]) hno
   |cons t r=>
    rw [pL] at he
    have NX:=fun D h=>pnext_spec t r n D (.up b) hb h
    unfold paB at NX
    have hri:=it_six out
    have hrl:=itRows_len out
    have hll:((itRows out).length+1)*88≤lim:=by rw [hlim,hrl];omega
    have TH:=fun (c:Int) (D:Nat)=>throw_spec c t D
    simp only [Tk.row] at NX TH
    rw [List.map_cons,Tk.row] at *
    have hi1:=hI g (by omega)
    obtain ⟨tk,tt,tn,tl,tc⟩:=t
    simp only [Tk.row] at NX TH he ⊢
    have e2:(tk==e)=decide (tk=e):=rfl
    generalize nxt (⟨tk,tt,tn,tl,tc⟩::r)=l2 at *
    generalize List.map Tk.row r=LR at *
    simp -implicitDefEqProofs
    refine onH_mk _ _ (NX _ rfl) ⟨?_,?_,?_,?_,?_,?_,?_⟩ ?_
    iterate 7 (· simp)
    simp -implicitDefEqProofs
    by_cases c1:tk=e
    ·rw [if_pos c1] at he
     have c1':(tk==e)=true:=by simpa using c1
     clear hK hR hI hi1
     simp -implicitDefEqProofs [c1,c1']
     refine hQ _ _ _ he.symm _ ?_
     refine postH_r ⟨?_,?_,?_,?_,?_,?_⟩<;>simp -implicitDefEqProofs [hib,hb]
    rw [if_neg c1] at he
    have c1':(tk==e)=false:=by simpa using c1
    by_cases c2:tk≠1
    ·rw [if_pos c2] at he
     have c2':(tk !=1)=true:=by simpa using c2
     clear hK hQ hI hi1
     simp -implicitDefEqProofs [c1,c1',c2,c2']
     refine onP_t _ _ (TH 6 _) ⟨?_,?_,?_,?_,?_,?_,?_⟩ rfl ?_
     iterate 7 (· simp)
     refine hR _ _ _ _ he.symm _ _ ⟨rfl,by simp,?_⟩
     refine ⟨?_,?_,?_,?_,?_,?_⟩<;>simp -implicitDefEqProofs [hib,hb]
    rw [if_neg c2] at he
    have c2:tk=1:=by omega
    by_cases c3:4<d
    ·rw [if_pos c3] at he
     have c3':(4:Int)<d:=by omega
     have c2':(tk !=1)=false:=by simpa using c2
     clear hK hQ hI hi1 c2
     simp -implicitDefEqProofs [c1,c1',c2',c3,c3']
     refine onP_t _ _ (TH 19 _) ⟨?_,?_,?_,?_,?_,?_,?_⟩ rfl ?_
     iterate 7 (· simp)
     refine hR _ _ _ _ he.symm _ _ ⟨rfl,by simp,?_⟩
     refine ⟨?_,?_,?_,?_,?_,?_⟩<;>simp -implicitDefEqProofs [hib,hb]
    rw [if_neg c3] at he
    have c3': ¬(4:Int)<d:=by omega
    by_cases c4:n=300
    ·rw [if_pos c4] at he
     have c4':((n:Int)==300)=true:=by rw [c4];rfl
     have c2':(tk !=1)=false:=by simpa using c2
     clear hK hQ hI hi1 c2
     subst c4
     simp -implicitDefEqProofs [c1,c1',c2',c3,c3',c4']
     refine onP_t _ _ (TH 9 _) ⟨?_,?_,?_,?_,?_,?_,?_⟩ rfl ?_
     iterate 7 (· simp)
     refine hR _ _ _ _ he.symm _ _ ⟨rfl,by simp,?_⟩
     refine ⟨?_,?_,?_,?_,?_,?_⟩<;>simp -implicitDefEqProofs [hib,hb]
    rw [if_neg c4] at he
    have c4':((n:Int)==300)=false:=beq_eq_false_iff_ne.2 (by omega)
    have c2':(tk !=1)=false:=by simpa using c2
    have t1:IntKind.i64.wrap ((n:Int)+1)=(n+1:Nat):=by rw [wrap_i64]<;>omega
    have hcn:=(p_cnt g).2 d tt tl tc [] l2 (n+1)
    have hiO:=fun D h=>(hi1 d ⟨tk,tt,tn,tl,tc⟩ l2 (n+1) D (.up b) hb h (by omega) (by omega)).1
    have hiT:=fun D h=>(hi1 d ⟨tk,tt,tn,tl,tc⟩ l2 (n+1) D (.up b) hb h (by omega) (by omega)).2
    simp only [Tk.row] at hiO hiT
    clear hi1 hI
    split at he
    ·rename_i x l3 n3 hx
     have IOk:=fun D h=>hiO D h _ _ _ hx
     have hc3:=hcn _ _ _ hx (by omega)
     have fin:=fun σ' hσ=>hK (g,out++[x],l3,n3) σ' ⟨by omega,by simp only [List.length_append,List.length_singleton];omega,hc3.2,he⟩ (by simp only;omega) hσ
     simp only [itRows_app,itRows] at fin
     obtain ⟨xn,ws,xb,ks,xl,xc⟩:=x
     simp only [It.row] at IOk fin
     unfold paB at IOk
     clear hiO hiT hK hQ hR TH NX hcn hx
     generalize itRows out=OR at *
     generalize itRows ks=KR at *
     generalize List.map Tk.row ws=WR at *
     generalize List.map Tk.row l3=L3 at *
     generalize List.map Tk.row l2=L2 at *
     simp -implicitDefEqProofs [c1,c1',c2',c3,c3',c4,c4',t1]
     refine onP_h _ _ (IOk _ rfl) ⟨?_,?_,?_,?_,?_,?_,?_⟩ ?_
     iterate 7 (· simp [t1])
     simp -implicitDefEqProofs [hlim]
     refine ⟨by omega,hri,?_⟩
     refine fin _ ?_
     refine weak_mk ?_ ?_ ?_ ?_ ?_ ?_<;>simp -implicitDefEqProofs [t1]
    ·rename_i c' t' l3 n3 hx
     have IT:=fun D h=>hiT D h _ _ _ _ hx
     unfold paB at IT
     clear hiO hiT hK hQ TH NX hcn hx
     simp -implicitDefEqProofs [c1,c1',c2',c3,c3',c4,c4',t1]
     refine onP_t _ _ (IT _ rfl) ⟨?_,?_,?_,?_,?_,?_,?_⟩ rfl ?_
     iterate 7 (· simp [t1])
     refine hR _ _ _ _ he.symm _ _ ⟨rfl,by simp,?_⟩
     refine ⟨?_,?_,?_,?_,?_,?_⟩<;>simp -implicitDefEqProofs [hib,hb]
    ·exact absurd he.symm hno
 ·exact ⟨Nat.le_refl _,Nat.zero_le _,hn,hRR.symm⟩
 ·refine weak_mk ?_ ?_ ?_ ?_ ?_ ?_<;>simp -implicitDefEqProofs [itRows]
theorem list_ok (f:Nat) (hI: ∀g,g<f→IOk g):LOk f:=by
 intro d e l n D b hb hbd hd hn
 refine ⟨fun o l' n' h=>?_,fun c t l' n' h=>?_⟩
 ·refine h18 rfl ?_
  refine list_wp f d e l n D b hb hbd hd hn hI _ _ (by rw [h];simp) (fun o2 l2 n2 h2 σ hp=>?_) (fun c t l' n' h2=>by rw [h] at h2;cases h2)
  rw [h] at h2
  cases h2
  exact hp
 ·refine t18 rfl ?_
  refine list_wp f d e l n D b hb hbd hd hn hI _ _ (by rw [h];simp) (fun o2 l2 n2 h2=>by rw [h] at h2;cases h2) (fun c2 t2 l2 n2 h2 v σ hp=>?_)
  rw [h] at h2
  cases h2
  exact hp
open Go.Proofs
set_option maxHeartbeats 2000000 in
theorem item_wp (f d:Nat) (x:Tk) (l:List Tk) (n:Nat) (D:Nat) (b:Id) (hb:b.isIt=false) (hbd:b.isNw D=false) (hd:d≤4) (hn:n≤300) (hL: ∀g,g<f→LOk g) (Q:AE→St→Prop) (Rp:AV→St→Prop) (hno:pI f d x.t x.ln x.co [] l n≠ .no)
  (hQ: ∀y l' n',pI f d x.t x.ln x.co [] l n= .ok y l' n'→ ∀σ,postH D [.ca 6 6] ⟨.agg y.row,[(b,paB l' n')],[]⟩ .r σ→Q .r σ)
  (hR: ∀c t l' n',pI f d x.t x.ln x.co [] l n= .th c t l' n'→ ∀v σ,postT D ⟨fltV c t,[(b,paB l' n')],[]⟩ v σ→Rp v σ):
  wpA2 (SpH Tryz.prog gl) (SpT Tryz.prog gl) Rp c29 Q (inSt ⟨[.ptr b 0,.agg x.row,i6 d],[(b,paB l n)],[]⟩):=by
 have hib:=inn_notNw hbd
 obtain ⟨R,hRR⟩: ∃R,R=pI f d x.t x.ln x.co [] l n:=⟨_,rfl⟩
 rw [←hRR] at hno hQ hR
 have hlim:lim=140737488355328:=rfl
 have w1:IntKind.i64.wrap ((d:Int)+1)=(d+1:Nat):=by rw [wrap_i64]<;>omega
 obtain ⟨xk,nm,xn,ln,co⟩:=x
 simp only [Tk.row] at *
 unfold paB at *
 simp only [inSt,mpB,mpL,AV.mp,mpP,Pl.mp]
 simp -implicitDefEqProofs [c29]
 refine wp_lpk2 (α:=Nat×List Tk×List Tk×Nat) (fun y=>⟨[(0,.ptr (.up b) 0),(2,i6 d),(6,.ptr (.n 6) 0),(7,.ptr (.n 7) 0)],[(.n 7,[.str nm,.sl (y.2.1.map Tk.row),.bool false,.sl [],i6 ln,i6 co]),(.n 6,[.str [],.nils,.bool false,.nils,i6 0,i6 0]),(.up b,[.sl (y.2.2.1.map Tk.row),i6 y.2.2.2])],[(.b (.n 7) 1,5)]⟩) (fun y=>y.1≤f∧y.2.1.length≤6∧y.2.2.2≤300∧pI y.1 d nm ln co y.2.1 y.2.2.1 y.2.2.2=R) (fun y=>y.1) ?_ (f,[],l,n) ?_ ?_
 ·rintro K ⟨g,ws,l,n⟩ hK ⟨hg,ho,hn,he⟩
  simp only at hg ho hn he
  cases g with
  |zero=>exact absurd (by rw [←he];simp [pI]) hno
  |succ g=>
   cases l with
   |nil=>exact absurd (by rw [←he];simp [pI]) hno
   |cons t r=>
    rw [pI] at he
    have NX:=fun D h=>pnext_spec t r n D (.up b) hb h
    unfold paB at NX
    have hwr:=tk_five ws
    have hwl:(ws.map Tk.row).length=ws.length:=List.length_map _
    have TH:=fun (c:Int) (D:Nat)=>throw_spec c t D
    simp only [Tk.row] at NX TH
    rw [List.map_cons,Tk.row] at *
    have hl1:=hL g (by omega)
    obtain ⟨tk,tt,tn,tl,tc⟩:=t
    simp only [Tk.row] at NX TH he ⊢
    have fin0:pI g d nm ln co (ws++[⟨tk,tt,tn,tl,tc⟩]) (nxt (⟨tk,tt,tn,tl,tc⟩::r)) n=R→ws.length≠6→ ∀σ',Weak σ' ⟨[(0,.ptr (.up b) 0),(2,i6 d),(6,.ptr (.n 6) 0),(7,.ptr (.n 7) 0)],[(.n 7,[.str nm,.sl (ws.map Tk.row++[[i6 tk,.str tt,u tn,i6 tl,i6 tc]]),.bool false,.sl [],i6 ln,i6 co]),(.n 6,[.str [],.nils,.bool false,.nils,i6 0,i6 0]),(.up b,[.sl ((nxt (⟨tk,tt,tn,tl,tc⟩::r)).map Tk.row),i6 n])],[(.b (.n 7) 1,5)]⟩→K σ':=fun hp h6 σ' hσ=>
     hK (g,ws++[⟨tk,tt,tn,tl,tc⟩],nxt (⟨tk,tt,tn,tl,tc⟩::r),n) σ' ⟨by omega,by simp only [List.length_append,List.length_singleton];omega,hn,hp⟩ (by simp only;omega) (by
      simp only [List.map_append,List.map_cons,List.map_nil,Tk.row]
      exact hσ)
    generalize nxt (⟨tk,tt,tn,tl,tc⟩::r)=l2 at *
    generalize List.map Tk.row r=LR at *
    clear hK
    simp -implicitDefEqProofs
    refine onH_mk _ _ (NX _ rfl) ⟨?_,?_,?_,?_,?_,?_,?_⟩ ?_
    iterate 7 (· simp)
    simp -implicitDefEqProofs
    by_cases c1:tk=9
    ·rw [if_pos c1] at he
     have c1':(tk==9)=true:=by simpa using c1
     have hq:=hQ _ _ _ he.symm
     simp only [It.row,itRows] at hq
     clear hQ hR hL hl1 fin0 NX TH
     generalize List.map Tk.row ws=WR at *
     generalize List.map Tk.row l2=L2 at *
     simp -implicitDefEqProofs [c1,c1']
     refine hq _ ?_
     refine postH_r ⟨?_,?_,?_,?_,?_,?_⟩<;>simp -implicitDefEqProofs [hib,hb]
    rw [if_neg c1] at he
    have c1':(tk==9)=false:=by simpa using c1
    by_cases c7:tk=7
    ·rw [if_pos c7] at he
     have c7':(tk==7)=true:=by simpa using c7
     have hlO:=fun D h=>(hl1 (d+1) 8 l2 n D (.up b) hb h (by omega) hn).1
     have hlT:=fun D h=>(hl1 (d+1) 8 l2 n D (.up b) hb h (by omega) hn).2
     unfold paB at hlO hlT
     clear hl1 hL fin0 NX TH
     split at he
     ·rename_i ks l3 n3 hx
      have LO:=fun D h=>hlO D h _ _ _ hx
      have hq:=hQ _ _ _ he.symm
      simp only [It.row] at hq
      clear hlO hlT hx hQ hR
      generalize itRows ks=KR at *
      generalize List.map Tk.row ws=WR at *
      generalize List.map Tk.row l3=L3 at *
      generalize List.map Tk.row l2=L2 at *
      simp -implicitDefEqProofs [c1,c1',c7,c7',w1]
      refine onP_h _ _ (LO _ rfl) ⟨?_,?_,?_,?_,?_,?_,?_⟩ ?_
      iterate 7 (· simp)
      simp -implicitDefEqProofs
      refine hq _ ?_
      refine postH_r ⟨?_,?_,?_,?_,?_,?_⟩<;>simp -implicitDefEqProofs [hib,hb]
     ·rename_i c' t' l3 n3 hx
      have LT:=fun D h=>hlT D h _ _ _ _ hx
      clear hlO hlT hQ hx
      generalize List.map Tk.row ws=WR at *
      simp -implicitDefEqProofs [c1,c1',c7,c7',w1]
      refine onP_t _ _ (LT _ rfl) ⟨?_,?_,?_,?_,?_,?_,?_⟩ rfl ?_
      iterate 7 (· simp)
      refine hR _ _ _ _ he.symm _ _ ⟨rfl,by simp,?_⟩
      refine ⟨?_,?_,?_,?_,?_,?_⟩<;>simp -implicitDefEqProofs [hib,hb]
     ·exact absurd he.symm hno
    rw [if_neg c7] at he
    have c7':(tk==7)=false:=by simpa using c7
    clear hl1 hL
    by_cases c2:tk<1∨6<tk
    ·rw [if_pos c2] at he
     by_cases c3:tk<1
     ·clear hQ fin0 NX
      generalize List.map Tk.row ws=WR at *
      simp -implicitDefEqProofs [c1,c1',c7,c7',c3]
      refine onP_t _ _ (TH 6 _) ⟨?_,?_,?_,?_,?_,?_,?_⟩ rfl ?_
      iterate 7 (· simp)
      refine hR _ _ _ _ he.symm _ _ ⟨rfl,by simp,?_⟩
      refine ⟨?_,?_,?_,?_,?_,?_⟩<;>simp -implicitDefEqProofs [hib,hb]
     ·have c4:6<tk:=by omega
      clear hQ fin0 NX
      generalize List.map Tk.row ws=WR at *
      simp -implicitDefEqProofs [c1,c1',c7,c7',c3,c4]
      refine onP_t _ _ (TH 6 _) ⟨?_,?_,?_,?_,?_,?_,?_⟩ rfl ?_
      iterate 7 (· simp)
      refine hR _ _ _ _ he.symm _ _ ⟨rfl,by simp,?_⟩
      refine ⟨?_,?_,?_,?_,?_,?_⟩<;>simp -implicitDefEqProofs [hib,hb]
    rw [if_neg c2] at he
    have c3: ¬tk<1:=by omega
    have c4: ¬6<tk:=by omega
    by_cases c5:ws.length=6
    ·rw [if_pos c5] at he
     have c5':((ws.length:Int)==6)=true:=by rw [c5];rfl
     clear hQ fin0 NX
     rw [c5] at hwl
     generalize List.map Tk.row ws=WR at *
     simp -implicitDefEqProofs [c1,c1',c7,c7',c3,c4,hwl,c5,c5']
     refine onP_t _ _ (TH 9 _) ⟨?_,?_,?_,?_,?_,?_,?_⟩ rfl ?_
     iterate 7 (· simp)
     refine hR _ _ _ _ he.symm _ _ ⟨rfl,by simp,?_⟩
     refine ⟨?_,?_,?_,?_,?_,?_⟩<;>simp -implicitDefEqProofs [hib,hb]
    rw [if_neg c5] at he
    have c5':((ws.length:Int)==6)=false:=beq_eq_false_iff_ne.2 (by omega)
    have fin:=fin0 he c5
    clear fin0 hQ hR NX TH
    generalize List.map Tk.row ws=WR at *
    have hll:(WR.length+1)*48≤140737488355328:=by omega
    simp -implicitDefEqProofs [c1,c1',c7,c7',c3,c4,hwl,c5,c5',hlim]
    refine ⟨by omega,hwr,?_⟩
    refine fin _ ?_
    refine weak_mk ?_ ?_ ?_ ?_ ?_ ?_<;>simp -implicitDefEqProofs
 ·exact ⟨Nat.le_refl _,Nat.zero_le _,hn,hRR.symm⟩
 ·refine weak_mk ?_ ?_ ?_ ?_ ?_ ?_<;>simp -implicitDefEqProofs
open Go.Proofs
def encN (r:Nat):List UInt8:=
 if r<128 then [UInt8.ofNat r]
 else if r<2048 then [UInt8.ofNat (192+r / 64),UInt8.ofNat (128+r%64)]
 else if r<65536 then [UInt8.ofNat (224+r / 4096),UInt8.ofNat (128+r / 64%64),UInt8.ofNat (128+r%64)]
 else [UInt8.ofNat (240+r / 262144),UInt8.ofNat (128+r / 4096%64),UInt8.ofNat (128+r / 64%64),UInt8.ofNat (128+r%64)]
def encR (r:Int):List UInt8:=if r<0 then [255] else encN r.toNat
def textR:List Int→List UInt8
 |[]=>[]
 |r::l=>encR r++textR l
theorem textR_append: ∀a b:List Int,textR (a++b)=textR a++textR b
 |[],b=>rfl
 |r::l,b=>by rw [List.cons_append,textR,textR,textR_append l b,List.append_assoc]
theorem encN_len (r:Nat):(encN r).length≤4∧1≤(encN r).length:=by
 unfold encN
 split
 ·simp
 ·split
  ·simp
  ·split<;>simp
theorem encR_len (r:Int):(encR r).length≤4:=by
 unfold encR
 split
 ·simp
 ·exact (encN_len _).1
theorem textR_len: ∀l:List Int,(textR l).length≤4*l.length
 |[]=>by simp [textR]
 |r::l=>by
  have h1:=textR_len l
  have h2:=encR_len r
  rw [textR,List.length_append,List.length_cons]
  omega
open Go.Proofs
theorem drop_byt {s:List UInt8} {i:Nat} (h:i<s.length):s.drop i=UInt8.ofNat (byt s i)::s.drop (i+1):=by
 rw [List.drop_eq_getElem_cons h,byt_at h,UInt8.ofNat_toNat]
theorem cont_in {s:List UInt8} {i:Nat} (h:cont s i=true):i<s.length:=(cont_iff.1 h).1
theorem cont_ge {s:List UInt8} {i:Nat} (h:cont s i=true):128≤byt s i∧byt s i≤191:=by
 unfold cont at h
 exact of_decide_eq_true h
theorem isRune_le {l r:Nat} (h:isRune l r=true):l≤r∧r≤1114111∧ ¬(55296≤r∧r<57344):=by
 unfold isRune at h
 exact of_decide_eq_true h
theorem enc_step (s:List UInt8) (i:Nat) (h:i<s.length) (hr:(stepR s i).1≠ -1):encN (stepR s i).1.toNat=(s.drop i).take (stepR s i).2:=by
 have b0:=byt_lt s i
 unfold stepR at hr ⊢
 simp only at hr ⊢
 by_cases c1:byt s i<128
 ·rw [if_pos c1]
  simp only [Int.toNat_natCast]
  rw [drop_byt h]
  unfold encN
  rw [if_pos c1]
  rfl
 ·rw [if_neg c1] at hr ⊢
  by_cases c2:192≤byt s i∧byt s i<224
  ·rw [if_pos c2] at hr ⊢
   rw [stepF1] at hr ⊢
   split at hr
   ·rename_i hc
    rw [if_pos hc]
    rw [Bool.and_eq_true] at hc
    have k1:=cont_ge hc.1
    have m1:=cont_in hc.1
    have q:=isRune_le hc.2
    simp only [Int.toNat_natCast]
    rw [drop_byt h,drop_byt m1]
    generalize byt s i=x at *
    generalize byt s (i+1)=y at *
    unfold encN
    rw [if_neg (by omega),if_pos (by omega),show 192+(64*(x - 192)+(y - 128)) / 64=x by omega,show 128+(64*(x - 192)+(y - 128))%64=y by omega]
    rfl
   ·exact absurd rfl hr
  ·rw [if_neg c2] at hr ⊢
   by_cases c3:224≤byt s i∧byt s i<240
   ·rw [if_pos c3] at hr ⊢
    rw [stepF2] at hr ⊢
    split at hr
    ·rename_i hc
     rw [if_pos hc]
     rw [Bool.and_eq_true,Bool.and_eq_true] at hc
     have k1:=cont_ge hc.1.1
     have m1:=cont_in hc.1.1
     have k2:=cont_ge hc.1.2
     have m2:=cont_in hc.1.2
     have q:=isRune_le hc.2
     simp only [Int.toNat_natCast]
     rw [drop_byt h,drop_byt m1,drop_byt m2]
     generalize byt s i=x at *
     generalize byt s (i+1)=y at *
     generalize byt s (i+2)=z at *
     unfold encN
     rw [if_neg (by omega),if_neg (by omega),if_pos (by omega),show 224+(64*(64*(x - 224)+(y - 128))+(z - 128)) / 4096=x by omega,show 128+(64*(64*(x - 224)+(y - 128))+(z - 128)) / 64%64=y by omega,show 128+(64*(64*(x - 224)+(y - 128))+(z - 128))%64=z by omega]
     rfl
    ·exact absurd rfl hr
   ·rw [if_neg c3] at hr ⊢
    by_cases c4:240≤byt s i∧byt s i<248
    ·rw [if_pos c4] at hr ⊢
     rw [stepF3] at hr ⊢
     split at hr
     ·rename_i hc
      rw [if_pos hc]
      rw [Bool.and_eq_true,Bool.and_eq_true,Bool.and_eq_true] at hc
      have k1:=cont_ge hc.1.1.1
      have m1:=cont_in hc.1.1.1
      have k2:=cont_ge hc.1.1.2
      have m2:=cont_in hc.1.1.2
      have k3:=cont_ge hc.1.2
      have m3:=cont_in hc.1.2
      have q:=isRune_le hc.2
      simp only [Int.toNat_natCast]
      rw [drop_byt h,drop_byt m1,drop_byt m2,drop_byt m3]
      generalize byt s i=x at *
      generalize byt s (i+1)=y at *
      generalize byt s (i+2)=z at *
      generalize byt s (i+3)=v at *
      unfold encN
      rw [if_neg (by omega),if_neg (by omega),if_neg (by omega),show 240+(64*(64*(64*(x - 240)+(y - 128))+(z - 128))+(v - 128)) / 262144=x by omega,show 128+(64*(64*(64*(x - 240)+(y - 128))+(z - 128))+(v - 128)) / 4096%64=y by omega,show 128+(64*(64*(64*(x - 240)+(y - 128))+(z - 128))+(v - 128)) / 64%64=z by omega,show 128+(64*(64*(64*(x - 240)+(y - 128))+(z - 128))+(v - 128))%64=v by omega]
      rfl
     ·exact absurd rfl hr
    ·rw [if_neg c4] at hr
     exact absurd rfl hr
def okR (r:Int):Prop:=r= -1∨(0≤r∧r≤1114111∧ ¬(55296≤r∧r<57344))
theorem stepF_okR (s:List UInt8) (i n r0 l:Nat):okR (stepF s i n r0 l).1:=by
 unfold stepF okR
 split
 ·rename_i h
  rw [Bool.and_eq_true] at h
  have:=isRune_le h.2
  right
  simp only
  omega
 ·left;rfl
theorem stepR_okR (s:List UInt8) (i:Nat):okR (stepR s i).1:=by
 unfold stepR
 simp only
 split
 ·right;simp only;omega
 ·split
  ·exact stepF_okR ..
  ·split
   ·exact stepF_okR ..
   ·split
    ·exact stepF_okR ..
    ·left;rfl
theorem runesL_okR (s:List UInt8): ∀(n i:Nat),s.length - i≤n→ ∀r∈runesL s i,okR r
 |0,i,h,r,hr=>by rw [runesL_out (by omega)] at hr;cases hr
 |n+1,i,h,r,hr=>by
  by_cases hi:i<s.length
  ·rw [runesL_in hi] at hr
   rcases List.mem_cons.1 hr with rfl|hr
   ·exact stepR_okR s i
   ·have:=stepR_pos s i
    exact runesL_okR s n _ (by omega) r hr
  ·rw [runesL_out hi] at hr;cases hr
theorem byt_zero (b:UInt8) (t:List UInt8):byt (b::t) 0=b.toNat:=rfl
theorem byt_of (n:Nat) (h:n<256) (t:List UInt8):byt (UInt8.ofNat n::t) 0=n:=by
 rw [byt_zero,UInt8.toNat_ofNat_of_lt' (by simpa using h)]
theorem dec_enc (r:Nat) (h1:r≤1114111) (h2: ¬(55296≤r∧r<57344)) (t:List UInt8):stepR (encN r++t) 0=((r:Int),(encN r).length):=by
 unfold encN
 by_cases c1:r<128
 ·rw [if_pos c1]
  simp only [List.cons_append,List.nil_append]
  unfold stepR
  simp only [byt_of r (by omega) t]
  rw [if_pos c1]
  rfl
 ·rw [if_neg c1]
  by_cases c2:r<2048
  ·rw [if_pos c2]
   simp only [List.cons_append,List.nil_append]
   unfold stepR
   simp only [byt_of (192+r / 64) (by omega) _]
   rw [if_neg (by omega),if_pos (by omega),stepF1]
   simp only [Nat.zero_add,cont,show ∀(b:UInt8) (t:List UInt8),byt (b::t) 1=byt t 0 from fun b t=>rfl,byt_of (128+r%64) (by omega) t]
   rw [if_pos (by simp [isRune];omega)]
   simp only [List.length_cons,List.length_nil,Prod.mk.injEq]
   exact ⟨by omega,trivial⟩
  ·rw [if_neg c2]
   by_cases c3:r<65536
   ·rw [if_pos c3]
    simp only [List.cons_append,List.nil_append]
    unfold stepR
    simp only [byt_of (224+r / 4096) (by omega) _]
    rw [if_neg (by omega),if_neg (by omega),if_pos (by omega),stepF2]
    simp only [Nat.zero_add,cont,show ∀(b:UInt8) (t:List UInt8),byt (b::t) 1=byt t 0 from fun b t=>rfl,show ∀(b c:UInt8) (t:List UInt8),byt (b::c::t) 2=byt t 0 from fun b c t=>rfl,byt_of (128+r / 64%64) (by omega) _,byt_of (128+r%64) (by omega) t]
    rw [if_pos (by simp [isRune];omega)]
    simp only [List.length_cons,List.length_nil,Prod.mk.injEq]
    exact ⟨by omega,trivial⟩
   ·rw [if_neg c3]
    simp only [List.cons_append,List.nil_append]
    unfold stepR
    simp only [byt_of (240+r / 262144) (by omega) _]
    rw [if_neg (by omega),if_neg (by omega),if_neg (by omega),if_pos (by omega),stepF3]
    simp only [Nat.zero_add,cont,show ∀(b:UInt8) (t:List UInt8),byt (b::t) 1=byt t 0 from fun b t=>rfl,show ∀(b c:UInt8) (t:List UInt8),byt (b::c::t) 2=byt t 0 from fun b c t=>rfl,show ∀(b c e:UInt8) (t:List UInt8),byt (b::c::e::t) 3=byt t 0 from fun b c e t=>rfl,byt_of (128+r / 4096%64) (by omega) _,byt_of (128+r / 64%64) (by omega) _,byt_of (128+r%64) (by omega) t]
    rw [if_pos (by simp [isRune];omega)]
    simp only [List.length_cons,List.length_nil,Prod.mk.injEq]
    exact ⟨by omega,trivial⟩
end Go.Ai
