/- P2: a part of the proof: the rules, or what functions compute. Conditions: as each theorem says. -/
import Derived.Test.YthonkjadcpdphaaGreatDoorP1
set_option linter.unusedSimpArgs false
set_option linter.unusedVariables false
set_option maxRecDepth 20000
namespace Go.Ai
open Go.Proofs
theorem drop_byt {s:List UInt8} {i:Nat} (h:i<s.length):s.drop i=UInt8.ofNat (byt s i)::s.drop (i+1):=by
 rw [List.drop_eq_getElem_cons h,byt_at h,UInt8.ofNat_toNat]
theorem cont_in {s:List UInt8} {i:Nat} (h:cont s i=true):i<s.length:=(cont_iff.1 h).1
theorem cont_ge {s:List UInt8} {i:Nat} (h:cont s i=true):128≤byt s i∧byt s i≤191:=by
 unfold cont at h
 exact of_decide_eq_true h
theorem isRune_le {l r:Nat} (h:isRune l r=true):l≤r∧r≤1114111∧ ¬(55296≤r∧r<57344):=by
 unfold isRune at h
 exact of_decide_eq_true h
theorem enc_step (s:List UInt8) (i:Nat) (h:i<s.length) (hr:(stepR s i).1≠ -1):encN (stepR s i).1.toNat=(s.drop i).take (stepR s i).2:=by
 have b0:=byt_lt s i
 unfold stepR at hr ⊢
 simp only at hr ⊢
 by_cases c1:byt s i<128
 ·rw [if_pos c1]
  simp only [Int.toNat_natCast]
  rw [drop_byt h]
  unfold encN
  rw [if_pos c1]
  rfl
 ·rw [if_neg c1] at hr ⊢
  by_cases c2:192≤byt s i∧byt s i<224
  ·rw [if_pos c2] at hr ⊢
   rw [stepF1] at hr ⊢
   split at hr
   ·rename_i hc
    rw [if_pos hc]
    rw [Bool.and_eq_true] at hc
    have k1:=cont_ge hc.1
    have m1:=cont_in hc.1
    have q:=isRune_le hc.2
    simp only [Int.toNat_natCast]
    rw [drop_byt h,drop_byt m1]
    generalize byt s i=x at *
    generalize byt s (i+1)=y at *
    unfold encN
    rw [if_neg (by omega),if_pos (by omega),show 192+(64*(x - 192)+(y - 128)) / 64=x by omega,show 128+(64*(x - 192)+(y - 128))%64=y by omega]
    rfl
   ·exact absurd rfl hr
  ·rw [if_neg c2] at hr ⊢
   by_cases c3:224≤byt s i∧byt s i<240
   ·rw [if_pos c3] at hr ⊢
    rw [stepF2] at hr ⊢
    split at hr
    ·rename_i hc
     rw [if_pos hc]
     rw [Bool.and_eq_true,Bool.and_eq_true] at hc
     have k1:=cont_ge hc.1.1
     have m1:=cont_in hc.1.1
     have k2:=cont_ge hc.1.2
     have m2:=cont_in hc.1.2
     have q:=isRune_le hc.2
     simp only [Int.toNat_natCast]
     rw [drop_byt h,drop_byt m1,drop_byt m2]
     generalize byt s i=x at *
     generalize byt s (i+1)=y at *
     generalize byt s (i+2)=z at *
     unfold encN
     rw [if_neg (by omega),if_neg (by omega),if_pos (by omega),show 224+(64*(64*(x - 224)+(y - 128))+(z - 128)) / 4096=x by omega,show 128+(64*(64*(x - 224)+(y - 128))+(z - 128)) / 64%64=y by omega,show 128+(64*(64*(x - 224)+(y - 128))+(z - 128))%64=z by omega]
     rfl
    ·exact absurd rfl hr
   ·rw [if_neg c3] at hr ⊢
    by_cases c4:240≤byt s i∧byt s i<248
    ·rw [if_pos c4] at hr ⊢
     rw [stepF3] at hr ⊢
     split at hr
     ·rename_i hc
      rw [if_pos hc]
      rw [Bool.and_eq_true,Bool.and_eq_true,Bool.and_eq_true] at hc
      have k1:=cont_ge hc.1.1.1
      have m1:=cont_in hc.1.1.1
      have k2:=cont_ge hc.1.1.2
      have m2:=cont_in hc.1.1.2
      have k3:=cont_ge hc.1.2
      have m3:=cont_in hc.1.2
      have q:=isRune_le hc.2
      simp only [Int.toNat_natCast]
      rw [drop_byt h,drop_byt m1,drop_byt m2,drop_byt m3]
      generalize byt s i=x at *
      generalize byt s (i+1)=y at *
      generalize byt s (i+2)=z at *
      generalize byt s (i+3)=v at *
      unfold encN
      rw [if_neg (by omega),if_neg (by omega),if_neg (by omega),show 240+(64*(64*(64*(x - 240)+(y - 128))+(z - 128))+(v - 128)) / 262144=x by omega,show 128+(64*(64*(64*(x - 240)+(y - 128))+(z - 128))+(v - 128)) / 4096%64=y by omega,show 128+(64*(64*(64*(x - 240)+(y - 128))+(z - 128))+(v - 128)) / 64%64=z by omega,show 128+(64*(64*(64*(x - 240)+(y - 128))+(z - 128))+(v - 128))%64=v by omega]
      rfl
     ·exact absurd rfl hr
    ·rw [if_neg c4] at hr
     exact absurd rfl hr
def okR (r:Int):Prop:=r= -1∨(0≤r∧r≤1114111∧ ¬(55296≤r∧r<57344))
theorem stepF_okR (s:List UInt8) (i n r0 l:Nat):okR (stepF s i n r0 l).1:=by
 unfold stepF okR
 split
 ·rename_i h
  rw [Bool.and_eq_true] at h
  have:=isRune_le h.2
  right
  simp only
  omega
 ·left;rfl
theorem stepR_okR (s:List UInt8) (i:Nat):okR (stepR s i).1:=by
 unfold stepR
 simp only
 split
 ·right;simp only;omega
 ·split
  ·exact stepF_okR ..
  ·split
   ·exact stepF_okR ..
   ·split
    ·exact stepF_okR ..
    ·left;rfl
theorem runesL_okR (s:List UInt8): ∀(n i:Nat),s.length - i≤n→ ∀r∈runesL s i,okR r
 |0,i,h,r,hr=>by rw [runesL_out (by omega)] at hr;cases hr
 |n+1,i,h,r,hr=>by
  by_cases hi:i<s.length
  ·rw [runesL_in hi] at hr
   rcases List.mem_cons.1 hr with rfl|hr
   ·exact stepR_okR s i
   ·have:=stepR_pos s i
    exact runesL_okR s n _ (by omega) r hr
  ·rw [runesL_out hi] at hr;cases hr
theorem byt_zero (b:UInt8) (t:List UInt8):byt (b::t) 0=b.toNat:=rfl
theorem byt_of (n:Nat) (h:n<256) (t:List UInt8):byt (UInt8.ofNat n::t) 0=n:=by
 rw [byt_zero,UInt8.toNat_ofNat_of_lt' (by simpa using h)]
theorem dec_enc (r:Nat) (h1:r≤1114111) (h2: ¬(55296≤r∧r<57344)) (t:List UInt8):stepR (encN r++t) 0=((r:Int),(encN r).length):=by
 unfold encN
 by_cases c1:r<128
 ·rw [if_pos c1]
  simp only [List.cons_append,List.nil_append]
  unfold stepR
  simp only [byt_of r (by omega) t]
  rw [if_pos c1]
  rfl
 ·rw [if_neg c1]
  by_cases c2:r<2048
  ·rw [if_pos c2]
   simp only [List.cons_append,List.nil_append]
   unfold stepR
   simp only [byt_of (192+r / 64) (by omega) _]
   rw [if_neg (by omega),if_pos (by omega),stepF1]
   simp only [Nat.zero_add,cont,show ∀(b:UInt8) (t:List UInt8),byt (b::t) 1=byt t 0 from fun b t=>rfl,byt_of (128+r%64) (by omega) t]
   rw [if_pos (by simp [isRune];omega)]
   simp only [List.length_cons,List.length_nil,Prod.mk.injEq]
   exact ⟨by omega,trivial⟩
  ·rw [if_neg c2]
   by_cases c3:r<65536
   ·rw [if_pos c3]
    simp only [List.cons_append,List.nil_append]
    unfold stepR
    simp only [byt_of (224+r / 4096) (by omega) _]
    rw [if_neg (by omega),if_neg (by omega),if_pos (by omega),stepF2]
    simp only [Nat.zero_add,cont,show ∀(b:UInt8) (t:List UInt8),byt (b::t) 1=byt t 0 from fun b t=>rfl,show ∀(b c:UInt8) (t:List UInt8),byt (b::c::t) 2=byt t 0 from fun b c t=>rfl,byt_of (128+r / 64%64) (by omega) _,byt_of (128+r%64) (by omega) t]
    rw [if_pos (by simp [isRune];omega)]
    simp only [List.length_cons,List.length_nil,Prod.mk.injEq]
    exact ⟨by omega,trivial⟩
   ·rw [if_neg c3]
    simp only [List.cons_append,List.nil_append]
    unfold stepR
    simp only [byt_of (240+r / 262144) (by omega) _]
    rw [if_neg (by omega),if_neg (by omega),if_neg (by omega),if_pos (by omega),stepF3]
    simp only [Nat.zero_add,cont,show ∀(b:UInt8) (t:List UInt8),byt (b::t) 1=byt t 0 from fun b t=>rfl,show ∀(b c:UInt8) (t:List UInt8),byt (b::c::t) 2=byt t 0 from fun b c t=>rfl,show ∀(b c e:UInt8) (t:List UInt8),byt (b::c::e::t) 3=byt t 0 from fun b c e t=>rfl,byt_of (128+r / 4096%64) (by omega) _,byt_of (128+r / 64%64) (by omega) _,byt_of (128+r%64) (by omega) t]
    rw [if_pos (by simp [isRune];omega)]
    simp only [List.length_cons,List.length_nil,Prod.mk.injEq]
    exact ⟨by omega,trivial⟩
open Go.Proofs
theorem cont_ext {a b:List UInt8} {i j:Nat} (h:byt a i=byt b j):cont a i=cont b j:=by unfold cont;rw [h]
theorem rv_ext {a b:List UInt8} {i j:Nat} (r0:Nat): ∀n,(∀q,1≤q→q≤n→byt a (i+q)=byt b (j+q))→rv a i r0 n=rv b j r0 n
 |0,_=>rfl
 |n+1,h=>by
  have e:=rv_ext r0 n (fun q h1 h2=>h q h1 (by omega))
  have f:=h (n+1) (by omega) (Nat.le_refl _)
  show 64*rv a i r0 n+(byt a (i+(n+1)) - 128)=64*rv b j r0 n+(byt b (j+(n+1)) - 128)
  rw [e,f]
theorem conts_ext {a b:List UInt8} {i j:Nat}: ∀n,(∀q,1≤q→q≤n→byt a (i+q)=byt b (j+q))→conts a i n=conts b j n
 |0,_=>rfl
 |n+1,h=>by
  have e:=conts_ext n (fun q h1 h2=>h q h1 (by omega))
  have f:=cont_ext (h (n+1) (by omega) (Nat.le_refl _))
  show (conts a i n&&cont a (i+(n+1)))=(conts b j n&&cont b (j+(n+1)))
  rw [e,f]
theorem conts_false {a:List UInt8} {i:Nat} (q:Nat) (h1:1≤q) (h2:cont a (i+q)=false): ∀n,q≤n→conts a i n=false
 |0,h=>by omega
 |n+1,h=>by
  rw [conts]
  by_cases c:q=n+1
  ·rw [←c,h2,Bool.and_false]
  ·rw [conts_false q h1 h2 n (by omega),Bool.false_and]
theorem stepF_to {a b:List UInt8} {i j m:Nat} (h: ∀q,q≤m→byt a (i+q)=byt b (j+q)) (hm:1≤m) (h0:byt b (j+m)<128) (n r0 l:Nat):stepF a i n r0 l=stepF b j n r0 l:=by
 unfold stepF
 by_cases c:n<m
 ·rw [conts_ext (a:=a) (b:=b) (i:=i) (j:=j) n (fun q _ h2=>h q (by omega)),rv_ext (a:=a) (b:=b) (i:=i) (j:=j) r0 n (fun q _ h2=>h q (by omega))]
 ·have c1:cont b (j+m)=false:=by unfold cont;exact decide_eq_false (by omega)
  have c2:cont a (i+m)=false:=by rw [cont_ext (h m (Nat.le_refl _))];exact c1
  rw [conts_false m hm c2 n (by omega),conts_false m hm c1 n (by omega)]
  rfl
theorem stepR_to {a b:List UInt8} {i j m:Nat} (h: ∀q,q≤m→byt a (i+q)=byt b (j+q)) (h0:byt b (j+m)<128):stepR a i=stepR b j:=by
 have e:=h 0 (Nat.zero_le _)
 rw [Nat.add_zero,Nat.add_zero] at e
 unfold stepR
 simp only [e]
 by_cases c:m=0
 ·subst c
  rw [Nat.add_zero] at h0
  rw [if_pos h0,if_pos h0]
 ·simp only [stepF_to h (by omega) h0]
theorem stepR_ext {a b:List UInt8} {i j:Nat} (h: ∀q,byt a (i+q)=byt b (j+q)):stepR a i=stepR b j:=by
 have e:=h 0
 rw [Nat.add_zero,Nat.add_zero] at e
 have f: ∀n r0 l,stepF a i n r0 l=stepF b j n r0 l:=fun n r0 l=>by
  unfold stepF
  rw [conts_ext (a:=a) (b:=b) (i:=i) (j:=j) n (fun q _ _=>h q),rv_ext (a:=a) (b:=b) (i:=i) (j:=j) r0 n (fun q _ _=>h q)]
 unfold stepR
 simp only [e,f]
theorem byt_app (a b:List UInt8) (q:Nat):byt (a++b) (a.length+q)=byt b q:=by
 unfold byt
 rw [List.getElem?_append_right (by omega),show a.length+q - a.length=q by omega]
theorem runesL_app (a b:List UInt8): ∀(n q:Nat),b.length - q≤n→runesL (a++b) (a.length+q)=runesL b q
 |n,q,h=>by
  by_cases g:q<b.length
  ·have g2:a.length+q<(a++b).length:=by rw [List.length_append];omega
   have e:stepR (a++b) (a.length+q)=stepR b q:=stepR_ext (fun z=>by rw [Nat.add_assoc];exact byt_app a b (q+z))
   have p:=stepR_pos b q
   rw [runesL_in g,runesL_in g2,e,Nat.add_assoc]
   cases n with
   |zero=>omega
   |succ n=>rw [runesL_app a b n (q+(stepR b q).2) (by omega)]
  ·rw [runesL_out g,runesL_out (by rw [List.length_append];omega)]
theorem encR_step {r:Int} (h:okR r) (t:List UInt8):stepR (encR r++t) 0=(r,(encR r).length):=by
 rcases h with rfl|⟨h1,h2,h3⟩
 ·have e:encR (-1)=[255]:=rfl
  rw [e]
  simp only [List.cons_append,List.nil_append]
  unfold stepR
  simp only [show byt (255::t) 0=255 from rfl]
  rw [if_neg (by omega),if_neg (by omega),if_neg (by omega),if_neg (by omega)]
  rfl
 ·have e:encR r=encN r.toNat:=if_neg (by omega)
  have hz:((r.toNat:Nat):Int)=r:=by omega
  rw [e,dec_enc r.toNat (by omega) (by omega) t,hz]
theorem encR_pos (r:Int):1≤(encR r).length:=by
 unfold encR
 split
 ·simp
 ·exact (encN_len _).2
theorem runesL_textR: ∀l:List Int,(∀r∈l,okR r)→runesL (textR l) 0=l
 |[],_=>by rw [textR,runesL_out (by simp)]
 |r::l,h=>by
  have p:=encR_pos r
  rw [textR,runesL_in (by rw [List.length_append];omega),encR_step (h r (by simp))]
  simp only
  rw [Nat.zero_add,show (encR r).length=(encR r).length+0 from rfl,runesL_app (encR r) (textR l) (textR l).length 0 (by omega),runesL_textR l (fun x hx=>h x (by simp [hx]))]
def Wk (s:List UInt8):Nat→List Int→Nat→Prop
 |i,[],j=>i=j
 |i,r::m,j=>i<s.length∧(stepR s i).1=r∧Wk s (i+(stepR s i).2) m j
theorem Wk_snoc (s:List UInt8): ∀(m:List Int) (i j:Nat),Wk s i m j→j<s.length→Wk s i (m++[(stepR s j).1]) (j+(stepR s j).2)
 |[],i,j,h,hj=>by
  cases h
  exact ⟨hj,rfl,rfl⟩
 |r::m,i,j,h,hj=>⟨h.1,h.2.1,Wk_snoc s m _ j h.2.2 hj⟩
theorem Wk_le (s:List UInt8): ∀(m:List Int) (i j:Nat),Wk s i m j→i≤j
 |[],i,j,h=>Nat.le_of_eq h
 |r::m,i,j,h=>by
  have:=Wk_le s m _ j h.2.2
  omega
theorem byt_take {s:List UInt8} {j q:Nat} (h:q<j):byt (s.take j) q=byt s q:=by
 unfold byt
 rw [List.getElem?_take,if_pos h]
theorem byt_drop (s:List UInt8) (i q:Nat):byt (s.drop i) q=byt s (i+q):=by
 unfold byt
 rw [List.getElem?_drop]
theorem Wk_sub (s:List UInt8) (i0 e:Nat) (he:e<s.length) (h0:byt s e<128): ∀(m:List Int) (i:Nat),i0≤i→Wk s i m (e+1)→runesL ((s.take (e+1)).drop i0) (i - i0)=m
 |[],i,hi,h=>by
  rw [runesL_out]
  have:i=e+1:=h
  rw [List.length_drop,List.length_take]
  omega
 |r::m,i,hi,h=>by
  have hle:=Wk_le s m _ _ h.2.2
  have hp:=stepR_pos s i
  have g:i - i0<((s.take (e+1)).drop i0).length:=by rw [List.length_drop,List.length_take];omega
  have es:stepR ((s.take (e+1)).drop i0) (i - i0)=stepR s i:=by
   refine stepR_to (m:=e - i) (fun q hq=>?_) ?_
   ·rw [byt_drop,byt_take (by omega),show i0+(i - i0+q)=i+q by omega]
   ·rw [show i+(e - i)=e by omega];exact h0
  rw [runesL_in g,es,h.2.1,show i - i0+(stepR s i).2=(i+(stepR s i).2) - i0 by omega,Wk_sub s i0 e he h0 m _ (by omega) h.2.2]
theorem Wk_text (s:List UInt8): ∀(m:List Int) (i j:Nat),j≤s.length→Wk s i m j→(∀r∈m,r≠ -1)→(s.take j).drop i=textR m
 |[],i,j,hj,h,_=>by
  have:i=j:=h
  subst this
  rw [textR,List.drop_eq_nil_of_le (by rw [List.length_take];omega)]
 |r::m,i,j,hj,h,hr=>by
  have hle:=Wk_le s m _ _ h.2.2
  have ih:=Wk_text s m _ j hj h.2.2 (fun x hx=>hr x (by simp [hx]))
  have h1:=h.2.1
  have hne:(stepR s i).1≠ -1:=by rw [h1];exact hr r (by simp)
  have en:=enc_step s i h.1 hne
  have ok:=stepR_okR s i
  have er:encR r=encN (stepR s i).1.toNat:=by
   rw [←h1]
   unfold encR
   rw [if_neg]
   rcases ok with h|h
   ·exact absurd h hne
   ·omega
  rw [textR,er,en,←ih]
  have:(s.take j).drop i=((s.drop i).take (stepR s i).2)++(s.take j).drop (i+(stepR s i).2):=by
   rw [←List.drop_drop,List.drop_take,show List.take (stepR s i).2 (List.drop i s)=List.take (stepR s i).2 (List.take (j - i) (List.drop i s)) by rw [List.take_take,Nat.min_eq_left (by omega)],List.take_append_drop]
  exact this
open Go.Proofs
def qGo (l:List Int) (i:Nat):Nat:=
 if h:i<l.length then
  if l[i]=10 then 0 else if l[i]=34 then i+1
  else if l[i]=92 then (if l[i+1]?=some 10 then 0 else qGo l (i+2))
  else qGo l (i+1)
 else 0
termination_by l.length - i
theorem qGo_in {l:List Int} {i:Nat} (h:i<l.length):qGo l i=if l[i]=10 then 0 else if l[i]=34 then i+1 else if l[i]=92 then (if l[i+1]?=some 10 then 0 else qGo l (i+2)) else qGo l (i+1):=by
 rw [qGo,dif_pos h]
theorem qGo_out {l:List Int} {i:Nat} (h: ¬i<l.length):qGo l i=0:=by rw [qGo,dif_neg h]
def plc (a b:Int):List Int→List (Int×Int)
 |[]=>[(a,b)]
 |r::l=>(a,b)::(if r=10 then plc (a+1) 1 l else plc a (b+1) l)
open Go.Proofs
end Go.Ai
namespace Go.Ai
open Go.Proofs
def wthn (r:Int):Bool:=letter r||(digR r||(decide (r=95)||(decide (r=45)||(decide (r=46)||decide (r=37)))))
theorem sdigit_spec (r:Int):Sp Tryz.prog gl 117 [i3 r] (.bool (digR r)):=by
 refine s117 rfl rfl ?_
 unfold digR
 by_cases h:48≤r
 ·simp [c117,h]
 ·simp [c117,h]
theorem int_beq_decI (a b:Int):(a==b)=decide (a=b):=by
 by_cases h:a=b<;>simp [h]
theorem swithin_spec (r:Int):Sp Tryz.prog gl 63 [i3 r] (.bool (wthn r)):=by
 refine s63 rfl rfl ?_
 have L:=tletter_spec r
 have D:=sdigit_spec r
 unfold wthn
 generalize letter r=a at *
 generalize digR r=b at *
 cases a
 ·cases b
  ·have ne: ∀z:Int,¬r=z→(r==z)=false:=fun z h=>beq_eq_false_iff_ne.2 h
   by_cases h1:r=95
   ·simp [c63]
    refine onC_mk _ (L) ?_
    simp -implicitDefEqProofs
    refine onC_mk _ (D) ?_
    simp -implicitDefEqProofs [h1]
   ·by_cases h2:r=45
    ·simp [c63]
     refine onC_mk _ (L) ?_
     simp -implicitDefEqProofs
     refine onC_mk _ (D) ?_
     simp -implicitDefEqProofs [h1,h2,ne 95 h1]
    ·by_cases h3:r=46
     ·simp [c63]
      refine onC_mk _ (L) ?_
      simp -implicitDefEqProofs
      refine onC_mk _ (D) ?_
      simp -implicitDefEqProofs [h1,h2,h3,ne 95 h1,ne 45 h2]
     ·simp [c63]
      refine onC_mk _ (L) ?_
      simp -implicitDefEqProofs
      refine onC_mk _ (D) ?_
      simp -implicitDefEqProofs [h1,h2,h3,ne 95 h1,ne 45 h2,ne 46 h3]
      exact int_beq_decI r 37
  ·simp [c63]
   refine onC_mk _ (L) ?_
   simp -implicitDefEqProofs
   refine onC_mk _ (D) ?_
   simp -implicitDefEqProofs
 ·simp [c63]
  refine onC_mk _ (L) ?_
  simp -implicitDefEqProofs
open Go.Proofs
structure Tk where
 k:Int
 t:List UInt8
 n:Nat
 ln:Int
 co:Int
 deriving DecidableEq
def Tk.row (x:Tk):List AV:=[i6 x.k,.str x.t,u x.n,i6 x.ln,i6 x.co]
structure Sc where
 out:List Tk
 st:Int
 sa:Nat
 fl:Int
 fc:Int
 al:Int
 ac:Int
 cd:Int
 xl:Int
 xc:Int
def scB (s:List UInt8) (x:Sc):List AV:=[.str s,.sl (x.out.map Tk.row),i6 x.st,i6 x.sa,i6 x.fl,i6 x.fc,i6 x.al,i6 x.ac,i6 x.cd,i6 x.xl,i6 x.xc]
def Sc.begin (x:Sc) (i:Nat) (st:Int):Sc:={x with sa:=i,st:=st,fl:=x.al,fc:=x.ac}
def Sc.wrong (x:Sc) (e:Int):Sc:={x with cd:=e,xl:=x.fl,xc:=x.fc}
inductive TV where
 |e (c:Int)
 |t (k:Int) (w:List UInt8) (n:Nat)
def TV.av:TV→AV
 | .e c=> .ifc 38 (i6 c)
 | .t k w n=> .ifc 49 (.agg [i6 k,.str w,u n,i6 0,i6 0])
def TV.ok:TV→Bool
 | .e _=>false
 | .t _ _ _=>true
def Sc.add (x:Sc):TV→Sc
 | .e c=>x.wrong c
 | .t k w n=>{x with out:=x.out++[⟨k,w,n,x.fl,x.fc⟩],st:=0}
theorem tk_five (l:List Tk): ∀r∈l.map Tk.row,r.length=5:=by
 intro r hr
 obtain ⟨_,_,rfl⟩:=List.mem_map.1 hr
 rfl
theorem sbegin_spec (s:List UInt8) (x:Sc) (i:Nat) (st:Int) (d:Nat) (b:Id) (hb:b.isIt=false) (hbd:b.isNw d=false):
  SpH Tryz.prog gl 51 d ⟨[.ptr b 0,i6 i,i6 st],[(b,scB s x)],[(.b b 1,5)]⟩ ⟨.tup [],[(b,scB s (x.begin i st))],[(.b b 1,5)]⟩:=by
 refine h51 rfl ?_
 have hib:=inn_notNw hbd
 unfold scB Sc.begin
 generalize x.out.map Tk.row=L at *
 simp only [inSt,mpB,mpL,AV.mp,mpP,Pl.mp]
 simp -implicitDefEqProofs [c51]
 refine postH_r ⟨?_,?_,?_,?_,?_,?_⟩<;>simp -implicitDefEqProofs [hib,hb]
theorem swrong_spec (s:List UInt8) (x:Sc) (e:Int) (d:Nat) (b:Id) (hb:b.isIt=false) (hbd:b.isNw d=false):
  SpH Tryz.prog gl 52 d ⟨[.ptr b 0,i6 e],[(b,scB s x)],[(.b b 1,5)]⟩ ⟨.bool false,[(b,scB s (x.wrong e))],[(.b b 1,5)]⟩:=by
 refine h52 rfl ?_
 have hib:=inn_notNw hbd
 unfold scB Sc.wrong
 generalize x.out.map Tk.row=L at *
 simp only [inSt,mpB,mpL,AV.mp,mpP,Pl.mp]
 simp -implicitDefEqProofs [c52]
 refine postH_r ⟨?_,?_,?_,?_,?_,?_⟩<;>simp -implicitDefEqProofs [hib,hb]
theorem sadd_spec (s:List UInt8) (x:Sc) (hl:x.out.length≤1000000) (v:TV) (d:Nat) (b:Id) (hb:b.isIt=false) (hbd:b.isNw d=false):
  SpH Tryz.prog gl 105 d ⟨[.ptr b 0,v.av],[(b,scB s x)],[(.b b 1,5)]⟩ ⟨.bool v.ok,[(b,scB s (x.add v))],[(.b b 1,5)]⟩:=by
 refine h105 rfl ?_
 have hib:=inn_notNw hbd
 have hlim:lim=140737488355328:=rfl
 cases v with
 |e c=>
  have W:=fun e=>swrong_spec s x c e (.up b) hb
  unfold scB Sc.wrong at W
  unfold scB Sc.add Sc.wrong TV.av TV.ok
  generalize x.out.map Tk.row=L at *
  simp only [inSt,mpB,mpL,AV.mp,mpP,Pl.mp]
  simp -implicitDefEqProofs [c105]
  refine onH_mk _ _ (W _ rfl) ⟨?_,?_,?_,?_,?_,?_,?_⟩ ?_
  iterate 7 (· simp [hb])
  simp -implicitDefEqProofs
  refine postH_r ⟨?_,?_,?_,?_,?_,?_⟩<;>simp -implicitDefEqProofs [hib,hb]
 |t k w n=>
  have h5:=tk_five x.out
  have hll:((x.out.map Tk.row).length+1)*48≤140737488355328:=by simp;omega
  have he:(x.out++[(⟨k,w,n,x.fl,x.fc⟩:Tk)]).map Tk.row=x.out.map Tk.row++[[i6 k,.str w,u n,i6 x.fl,i6 x.fc]]:=by simp [Tk.row]
  unfold scB Sc.add TV.av TV.ok
  simp only [he]
  clear he
  generalize x.out.map Tk.row=L at *
  simp only [inSt,mpB,mpL,AV.mp,mpP,Pl.mp]
  simp -implicitDefEqProofs [c105,hlim]
  refine ⟨hll,h5,?_⟩
  refine postH_r ⟨?_,?_,?_,?_,?_,?_⟩<;>simp -implicitDefEqProofs [hib,hb]
end Go.Ai
