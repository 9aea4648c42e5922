/- P1: a part of the proof: the rules, or what functions compute. Conditions: as each theorem says. -/
import Derived.Test.YtggemlhclppciaaGreatDoorCode
import Derived.Laws.Bits64b
set_option linter.unusedSimpArgs false
set_option linter.unusedVariables false
set_option maxRecDepth 20000
namespace Go.Ai
open Go.Proofs
abbrev u (n:Nat):AV:= .int .u64 n
def wide (n:Nat):AV:= .agg [u (n / 18446744073709551616),u (n%18446744073709551616)]
abbrev i6 (n:Int):AV:= .int .i64 n

theorem sh32 (x:Int):x.fdiv (2^min 32 IntKind.u64.bits)=x / 4294967296:=by
 have:(2:Int)^min 32 IntKind.u64.bits=4294967296:=by decide
 rw [this];exact Int.fdiv_eq_ediv_of_nonneg _ (by decide)
theorem mask32 (n:Int) (h1:0≤n) (h2:n<18446744073709551616):bits BinOp.and IntKind.u64 n 4294967295=n%4294967296:=by
 obtain ⟨m,rfl⟩:=Int.eq_ofNat_of_zero_le h1
 have:=bits_and_u64_nat m 4294967295 (by omega) (by omega)
 rw [show ((4294967295:Nat):Int)=4294967295 from rfl] at this
 rw [this,show (4294967295:Nat)=2^32 - 1 from rfl,Nat.and_two_pow_sub_one_eq_mod]
 omega
theorem mul_law (x1 x0 y1 y0:Int) (h1:0≤x1) (h2:x1<4294967296) (h3:0≤x0) (h4:x0<4294967296) (h5:0≤y1) (h6:y1<4294967296) (h7:0≤y0) (h8:y0<4294967296):
  ((x1*y1%18446744073709551616+(x1*y0%18446744073709551616+x0*y0%18446744073709551616 / 4294967296)%18446744073709551616 / 4294967296)%18446744073709551616+
   ((x1*y0%18446744073709551616+x0*y0%18446744073709551616 / 4294967296)%18446744073709551616%4294967296+x0*y1%18446744073709551616)%18446744073709551616 / 4294967296)%18446744073709551616
   =(x1*4294967296+x0)*(y1*4294967296+y0) / 18446744073709551616:=by
 have e:(x1*4294967296+x0)*(y1*4294967296+y0)=x1*y1*18446744073709551616+(x1*y0+x0*y1)*4294967296+x0*y0:=by
  simp only [Int.add_mul,Int.mul_add]
  have:x1*4294967296*(y1*4294967296)=x1*y1*18446744073709551616:=by
   rw [show (18446744073709551616:Int)=4294967296*4294967296 from rfl];ac_rfl
  rw [this,show x1*4294967296*y0=x1*y0*4294967296 by ac_rfl,show x0*(y1*4294967296)=x0*y1*4294967296 by ac_rfl]
  omega
 rw [e]
 have b: ∀a c:Int,0≤a→a<4294967296→0≤c→c<4294967296→0≤a*c∧a*c≤18446744065119617025:=fun a c ha hb hc hd=>by
  refine ⟨Int.mul_nonneg ha hc,?_⟩
  have:=Int.mul_le_mul (show a≤4294967295 by omega) (show c≤4294967295 by omega) hc (by decide)
  simpa using this
 have b1:=b x1 y1 h1 h2 h5 h6
 have b2:=b x1 y0 h1 h2 h7 h8
 have b3:=b x0 y1 h3 h4 h5 h6
 have b4:=b x0 y0 h3 h4 h7 h8
 generalize x1*y1=p at *
 generalize x1*y0=q at *
 generalize x0*y1=r at *
 generalize x0*y0=s at *
 omega
theorem mul64 (x y:Nat) (hx:x<18446744073709551616) (hy:y<18446744073709551616):Sp Tryz.prog gl 177 [u x,u y] (.tup [u (x*y / 18446744073709551616),u (x*y%18446744073709551616)]):=by
 refine s177 rfl rfl ?_
 simp [c177]
 have wm: ∀n:Int,0≤n%18446744073709551616∧n%18446744073709551616<18446744073709551616:=fun n=>by omega
 rw [mask32 x (by omega) (by omega),mask32 y (by omega) (by omega)]
 simp only [sh32,wrap_u64m]
 rw [mask32 _ (wm _).1 (wm _).2]
 have:=mul_law (x / 4294967296) (x%4294967296) (y / 4294967296) (y%4294967296) (by omega) (by omega) (by omega) (by omega) (by omega) (by omega) (by omega) (by omega)
 refine ⟨?_,trivial⟩
 rw [this]
 congr 2<;>omega
theorem times_spec (x y:Nat) (hx:x<18446744073709551616) (hy:y<18446744073709551616):Sp Tryz.prog gl 194 [u x,u y] (wide (x*y)):=by
 refine s194 rfl rfl ?_
 simp [c194]
 refine onC_mk _ (mul64 x y hx hy) ?_
 simp [wide]
end Go.Ai
namespace Go.Ai
structure Tk where
 k:Int
 t:List UInt8
 n:Nat
 ln:Int
 co:Int
 deriving DecidableEq
def Tk.row (x:Tk):List AV:=[i6 x.k,.str x.t,u x.n,i6 x.ln,i6 x.co]
inductive It where
 |mk (n:List UInt8) (ws:List Tk) (b:Bool) (ks:List It) (ln co:Int)
mutual
def It.row:It→List AV
 | .mk n ws b ks ln co=>[.str n,.sl (ws.map Tk.row),.bool b,.sl (itRows ks),i6 ln,i6 co]
def itRows:List It→List (List AV)
 |[]=>[]
 |x::r=>x.row::itRows r
end
theorem itRows_app: ∀a b:List It,itRows (a++b)=itRows a++itRows b
 |[],b=>rfl
 |x::a,b=>by rw [List.cons_append,itRows,itRows,itRows_app a b,List.cons_append]
theorem itRows_len: ∀a:List It,(itRows a).length=a.length
 |[]=>rfl
 |x::a=>by rw [itRows,List.length_cons,List.length_cons,itRows_len a]
theorem it_six: ∀a:List It,∀r∈itRows a,r.length=6
 |[],r,h=>by cases h
 | .mk n ws b ks ln co::a,r,h=>by
  rw [itRows,List.mem_cons] at h
  rcases h with rfl|h
  ·rw [It.row];rfl
  ·exact it_six a r h
mutual
def cntI:It→Nat
 | .mk _ _ _ ks _ _=>1+cntL ks
def cntL:List It→Nat
 |[]=>0
 |x::r=>cntI x+cntL r
end
mutual
def depI:It→Nat
 | .mk _ _ _ ks _ _=>1+depL ks
def depL:List It→Nat
 |[]=>0
 |x::r=>max (depI x) (depL r)
end
theorem cntL_app: ∀a b:List It,cntL (a++b)=cntL a+cntL b
 |[],b=>by rw [cntL,List.nil_append,Nat.zero_add]
 |x::a,b=>by rw [List.cons_append,cntL,cntL,cntL_app a b,Nat.add_assoc]
theorem depL_app: ∀a b:List It,depL (a++b)=max (depL a) (depL b)
 |[],b=>by rw [depL,List.nil_append,Nat.zero_max]
 |x::a,b=>by rw [List.cons_append,depL,depL,depL_app a b,Nat.max_assoc]
theorem itRows_at: ∀(L:List It) (i:Nat) (h:i<L.length) (h2:i<(itRows L).length),(itRows L)[i]=L[i].row
 |x::L,0,h,h2=>rfl
 |x::L,i+1,h,h2=>by
  simp only [itRows,List.getElem_cons_succ]
  exact itRows_at L i _ _
theorem cnt_mem: ∀ {L:List It} {x:It},x∈L→cntI x≤cntL L
 |y::L,x,h=>by
  rw [cntL]
  rcases List.mem_cons.1 h with rfl|h
  ·omega
  ·have:=cnt_mem h;omega
theorem cntL_take (L:List It) (i:Nat):cntL (L.take i)≤cntL L:=by
 have:=cntL_app (L.take i) (L.drop i)
 rw [List.take_append_drop] at this
 omega
theorem len_cnt: ∀L:List It,L.length≤cntL L
 |[]=>Nat.zero_le _
 | .mk n ws b ks ln co::L=>by
  have:=len_cnt L
  rw [cntL,cntI,List.length_cons]
  omega
open Go.Proofs
theorem nget_at (s:List UInt8) (i:Nat) (h:i<s.length):(ByteArray.mk s.toArray).get! i=s[i]:=by
 simp [ByteArray.get!,getElem!_pos,h]
def byt (s:List UInt8) (j:Nat):Nat:=match s[j]? with |some b=>b.toNat|none=>0
def cont (s:List UInt8) (j:Nat):Bool:=decide (128≤byt s j∧byt s j≤191)
def rv (s:List UInt8) (i r0:Nat):Nat→Nat
 |0=>r0
 |k+1=>64*rv s i r0 k+(byt s (i+(k+1)) - 128)
def conts (s:List UInt8) (i:Nat):Nat→Bool
 |0=>true
 |k+1=>conts s i k&&cont s (i+(k+1))
def isRune (least r:Nat):Bool:=decide (least≤r∧r≤1114111∧ ¬(55296≤r∧r<57344))
def stepF (s:List UInt8) (i n r0 least:Nat):Int×Nat:=if conts s i n&&isRune least (rv s i r0 n) then ((rv s i r0 n:Nat),n+1) else (-1,1)
def stepR (s:List UInt8) (i:Nat):Int×Nat:=
 let b:=byt s i
 if b<128 then (b,1) else if 192≤b∧b<224 then stepF s i 1 (b - 192) 128 else if 224≤b∧b<240 then stepF s i 2 (b - 224) 2048 else if 240≤b∧b<248 then stepF s i 3 (b - 240) 65536 else (-1,1)
theorem byt_at {s:List UInt8} {i:Nat} (h:i<s.length):byt s i=s[i].toNat:=by unfold byt;rw [List.getElem?_eq_getElem h]
theorem byt_lt (s:List UInt8) (i:Nat):byt s i<256:=by
 unfold byt;split
 ·rename_i b _;exact b.toNat_lt
 ·omega
theorem byt_out {s:List UInt8} {i:Nat} (h: ¬i<s.length):byt s i=0:=by unfold byt;rw [List.getElem?_eq_none (by omega)]
theorem stepF1 (s:List UInt8) (i r0 least:Nat):stepF s i 1 r0 least=if cont s (i+1)&&isRune least (64*r0+(byt s (i+1) - 128)) then (((64*r0+(byt s (i+1) - 128):Nat):Int),2) else (-1,1):=rfl
theorem stepF2 (s:List UInt8) (i r0 least:Nat):stepF s i 2 r0 least=if (cont s (i+1)&&cont s (i+2))&&isRune least (64*(64*r0+(byt s (i+1) - 128))+(byt s (i+2) - 128)) then (((64*(64*r0+(byt s (i+1) - 128))+(byt s (i+2) - 128):Nat):Int),3) else (-1,1):=rfl
theorem stepF3 (s:List UInt8) (i r0 least:Nat):stepF s i 3 r0 least=if ((cont s (i+1)&&cont s (i+2))&&cont s (i+3))&&isRune least (64*(64*(64*r0+(byt s (i+1) - 128))+(byt s (i+2) - 128))+(byt s (i+3) - 128)) then (((64*(64*(64*r0+(byt s (i+1) - 128))+(byt s (i+2) - 128))+(byt s (i+3) - 128):Nat):Int),4) else (-1,1):=rfl
theorem stepF_pos (s:List UInt8) (i n r0 least:Nat):1≤(stepF s i n r0 least).2:=by unfold stepF;split<;>simp
theorem stepR_pos (s:List UInt8) (i:Nat):1≤(stepR s i).2:=by
 unfold stepR
 simp only
 split
 ·simp
 ·split
  ·exact stepF_pos ..
  ·split
   ·exact stepF_pos ..
   ·split
    ·exact stepF_pos ..
    ·simp
def runesL (s:List UInt8) (i:Nat):List Int:=if h:i<s.length then (stepR s i).1::runesL s (i+(stepR s i).2) else []
termination_by s.length - i
decreasing_by have:=stepR_pos s i;omega
theorem runesL_in {s:List UInt8} {i:Nat} (h:i<s.length):runesL s i=(stepR s i).1::runesL s (i+(stepR s i).2):=by rw [runesL,dif_pos h]
theorem runesL_out {s:List UInt8} {i:Nat} (h: ¬i<s.length):runesL s i=[]:=by rw [runesL,dif_neg h]
theorem get_byt {s:List UInt8} {j:Nat} (h:j<s.length):((ByteArray.mk s.toArray).get! j).toNat=byt s j:=by rw [nget_at s j h,byt_at h]
theorem cont_iff {s:List UInt8} {j:Nat}:cont s j=true↔j<s.length∧byt s j / 64=2:=by
 unfold cont
 rw [decide_eq_true_eq]
 constructor
 ·intro h
  rcases Nat.lt_or_ge j s.length with h1|h1
  ·exact ⟨h1,by omega⟩
  ·rw [byt_out (by omega)] at h;omega
 ·intro h;omega
theorem step_rune (s:List UInt8) (i:Nat) (h:i<s.length):runeAt s i=(if (stepR s i).1= -1 then (65533,1) else stepR s i):=by
 have hb:(ByteArray.mk s.toArray).size=s.length:=by simp [ByteArray.size]
 have c: ∀k,(decide (i+k<(ByteArray.mk s.toArray).size)&&((ByteArray.mk s.toArray).get! (i+k)).toNat / 64==2)=cont s (i+k):=by
  intro k
  rw [Bool.eq_iff_iff,cont_iff,hb]
  simp only [Bool.and_eq_true,decide_eq_true_eq,beq_iff_eq]
  constructor
  ·rintro ⟨h1,h2⟩;rw [get_byt h1] at h2;exact ⟨h1,h2⟩
  ·rintro ⟨h1,h2⟩;rw [get_byt h1];exact ⟨h1,h2⟩
 have e0:((ByteArray.mk s.toArray).get! (i+0)).toNat=byt s i:=get_byt (by omega)
 have bl:=byt_lt s i
 unfold runeAt Utf8.decode
 simp only [e0,c,Utf8.runeError]
 unfold stepR
 simp only
 by_cases h1:byt s i<128
 ·have h2: ¬((byt s i:Nat):Int)= -1:=by omega
  simp only [h1,if_true,h2,if_false]
 ·simp only [h1,if_false]
  have d1:(byt s i / 32==6)=decide (192≤byt s i∧byt s i<224):=by rw [Bool.eq_iff_iff];simp;omega
  have d2:(byt s i / 16==14)=decide (224≤byt s i∧byt s i<240):=by rw [Bool.eq_iff_iff];simp;omega
  have d3:(byt s i / 8==30)=decide (240≤byt s i∧byt s i<248):=by rw [Bool.eq_iff_iff];simp;omega
  rw [d1,d2,d3]
  by_cases r1:192≤byt s i∧byt s i<224
  ·have r2: ¬(224≤byt s i∧byt s i<240):=by omega
   have r3: ¬(240≤byt s i∧byt s i<248):=by omega
   simp only [r1,r2,r3,and_self,decide_true,decide_false,Bool.true_and,Bool.false_and,if_true,if_false,Bool.false_eq_true]
   rw [stepF1]
   cases c1:cont s (i+1)
   ·simp
   ·obtain ⟨l1,q1⟩:=cont_iff.1 c1
    simp only [if_true,Bool.true_and,get_byt l1]
    have b1:=byt_lt s (i+1)
    generalize byt s (i+1)=y at *
    generalize byt s i=x at *
    by_cases z:isRune 128 (64*(x - 192)+(y - 128))=true
    ·have zz:=z
     unfold isRune at zz
     rw [decide_eq_true_eq] at zz
     have e:x%32*64+y%64=64*(x - 192)+(y - 128):=by omega
     simp only [z,e,if_true]
     rw [if_neg (show ¬((64*(x - 192)+(y - 128):Nat):Int)= -1 by omega),if_pos (by omega)]
    ·have zz:=z
     unfold isRune at zz
     rw [decide_eq_true_eq] at zz
     have hz: ¬(x%32*64+y%64≥128):=by omega
     simp only [z,hz,Bool.false_eq_true,if_false]
     simp
  ·by_cases r2:224≤byt s i∧byt s i<240
   ·have r3: ¬(240≤byt s i∧byt s i<248):=by omega
    simp only [r1,r2,r3,and_self,decide_true,decide_false,Bool.true_and,Bool.false_and,if_true,if_false,Bool.false_eq_true]
    rw [stepF2]
    cases c1:cont s (i+1)
    ·simp
    ·cases c2:cont s (i+2)
     ·simp
     ·obtain ⟨l1,q1⟩:=cont_iff.1 c1
      obtain ⟨l2,q2⟩:=cont_iff.1 c2
      simp only [if_true,Bool.true_and,Bool.and_self,get_byt l1,get_byt l2]
      have b1:=byt_lt s (i+1)
      have b2:=byt_lt s (i+2)
      try rw [get_byt l2]
      generalize byt s (i+2)=w at *
      generalize byt s (i+1)=y at *
      generalize byt s i=x at *
      by_cases z:isRune 2048 (64*(64*(x - 224)+(y - 128))+(w - 128))=true
      ·have zz:=z
       unfold isRune at zz
       rw [decide_eq_true_eq] at zz
       have e:x%16*4096+y%64*64+w%64=64*(64*(x - 224)+(y - 128))+(w - 128):=by omega
       simp only [z,e,if_true]
       rw [if_neg (show ¬((64*(64*(x - 224)+(y - 128))+(w - 128):Nat):Int)= -1 by omega),if_pos (by simp [Utf8.valid];omega)]
      ·have zz:=z
       unfold isRune at zz
       rw [decide_eq_true_eq] at zz
       have hz:(decide (x%16*4096+y%64*64+w%64≥2048)&&Utf8.valid ((x%16*4096+y%64*64+w%64:Nat):Int))=false:=by
        rw [Bool.eq_false_iff];simp [Utf8.valid];omega
       simp only [z,hz,Bool.false_eq_true,if_false]
       simp
   ·by_cases r3:240≤byt s i∧byt s i<248
    ·simp only [r1,r2,r3,and_self,decide_true,decide_false,Bool.true_and,Bool.false_and,if_true,if_false,Bool.false_eq_true]
     rw [stepF3]
     cases c1:cont s (i+1)
     ·simp
     ·cases c2:cont s (i+2)
      ·simp
      ·cases c3:cont s (i+3)
       ·simp
       ·obtain ⟨l1,q1⟩:=cont_iff.1 c1
        obtain ⟨l2,q2⟩:=cont_iff.1 c2
        obtain ⟨l3,q3⟩:=cont_iff.1 c3
        simp only [if_true,Bool.true_and,Bool.and_self,get_byt l1]
        have b1:=byt_lt s (i+1)
        have b2:=byt_lt s (i+2)
        have b3:=byt_lt s (i+3)
        try simp only [get_byt l2,get_byt l3]
        generalize byt s (i+3)=t at *
        generalize byt s (i+2)=w at *
        generalize byt s (i+1)=y at *
        generalize byt s i=x at *
        by_cases z:isRune 65536 (64*(64*(64*(x - 240)+(y - 128))+(w - 128))+(t - 128))=true
        ·have zz:=z
         unfold isRune at zz
         rw [decide_eq_true_eq] at zz
         have e:x%8*262144+y%64*4096+w%64*64+t%64=64*(64*(64*(x - 240)+(y - 128))+(w - 128))+(t - 128):=by omega
         simp only [z,e,if_true]
         rw [if_neg (show ¬((64*(64*(64*(x - 240)+(y - 128))+(w - 128))+(t - 128):Nat):Int)= -1 by omega),if_pos (by simp [Utf8.valid];omega)]
        ·have zz:=z
         unfold isRune at zz
         rw [decide_eq_true_eq] at zz
         have hz:(decide (x%8*262144+y%64*4096+w%64*64+t%64≥65536)&&Utf8.valid ((x%8*262144+y%64*4096+w%64*64+t%64:Nat):Int))=false:=by
          rw [Bool.eq_false_iff];simp [Utf8.valid];omega
         simp only [z,hz,Bool.false_eq_true,if_false]
         simp
    ·simp [r1,r2,r3]
open Go.Proofs
abbrev i3 (n:Int):AV:= .int .i32 n
theorem wrap_i32' {n:Int} (h1: -2147483648≤n) (h2:n<2147483648):IntKind.i32.wrap n=n:=by
 have e1:(2:Int)^32=4294967296:=by decide
 have e2:(2:Int)^(32 - 1)=2147483648:=by decide
 have:IntKind.i32.wrap n=if (true&&decide (n%2^32≥2^(32 - 1)))=true then n%2^32 - 2^32 else n%2^32:=rfl
 rw [this]
 simp only [e1,e2,Bool.true_and,decide_eq_true_eq]
 split<;>omega
open Go.Proofs
theorem runesL_len (s:List UInt8): ∀(n i:Nat),s.length - i≤n→(runesL s i).length≤n
 |0,i,h=>by rw [runesL_out (by omega)];simp
 |n+1,i,h=>by
  by_cases hi:i<s.length
  ·rw [runesL_in hi]
   have:=stepR_pos s i
   have:=runesL_len s n (i+(stepR s i).2) (by omega)
   simp only [List.length_cons];omega
  ·rw [runesL_out hi];simp
theorem stepR_lt {s:List UInt8} {i:Nat} (h:i<s.length):i+(stepR s i).2≤s.length+3:=by
 have hF: ∀n r0 least,n≤3→(stepF s i n r0 least).2≤4:=by
  intro n r0 least hn
  unfold stepF;split
  ·simp only;omega
  ·simp
 have h1:=hF 1 (byt s i - 192) 128 (by omega)
 have h2:=hF 2 (byt s i - 224) 2048 (by omega)
 have h3:=hF 3 (byt s i - 240) 65536 (by omega)
 unfold stepR
 simp only
 split
 ·simp only;omega
 ·split
  ·omega
  ·split
   ·omega
   ·split
    ·omega
    ·simp only;omega
open Go.Proofs
theorem dle_t {a b:Int} (h:a≤b):decide (a≤b)=true:=decide_eq_true h
theorem dle_f {a b:Int} (h:b<a):decide (a≤b)=false:=decide_eq_false (by omega)
theorem dlt_t {a b:Int} (h:a<b):decide (a<b)=true:=decide_eq_true h
theorem dlt_f {a b:Int} (h:b≤a):decide (a<b)=false:=decide_eq_false (by omega)
theorem beq_t {a b:Int} (h:a=b):(a==b)=true:=by rw [beq_iff_eq];exact h
theorem beq_f {a b:Int} (h:a<b∨b<a):(a==b)=false:=by rw [beq_eq_false_iff_ne];omega
theorem bne_t {a b:Int} (h:a<b∨b<a):(a !=b)=true:=by rw [bne_iff_ne];omega
theorem bne_f {a b:Int} (h:a=b):(a !=b)=false:=by simp [h]
def letter (r:Int):Bool:=decide ((97≤r∧r≤122)∨(65≤r∧r≤90)∨(192≤r∧r≤591∧r≠215∧r≠247)∨(880≤r∧r≤1279))
def digR (r:Int):Bool:=decide (48≤r∧r≤57)
theorem letter_cases (r:Int):(r<65∧letter r=false)∨(65≤r∧r≤90∧letter r=true)∨(90<r∧r<97∧letter r=false)∨(97≤r∧r≤122∧letter r=true)∨(122<r∧r<192∧letter r=false)∨
  (192≤r∧r<215∧letter r=true)∨(r=215∧letter r=false)∨(215<r∧r<247∧letter r=true)∨(r=247∧letter r=false)∨(247<r∧r≤591∧letter r=true)∨
  (591<r∧r<880∧letter r=false)∨(880≤r∧r≤1279∧letter r=true)∨(1279<r∧letter r=false):=by
 unfold letter
 simp only [decide_eq_true_eq,decide_eq_false_iff_not]
 omega
theorem tletter_spec (r:Int):Sp Tryz.prog gl 67 [i3 r] (.bool (letter r)):=by
 refine s67 rfl rfl ?_
 rcases letter_cases r with ⟨h1,h2⟩|⟨h1,h2,h3⟩|⟨h1,h2,h3⟩|⟨h1,h2,h3⟩|⟨h1,h2,h3⟩|⟨h1,h2,h3⟩|⟨h1,h3⟩|⟨h1,h2,h3⟩|⟨h1,h3⟩|⟨h1,h2,h3⟩|⟨h1,h2,h3⟩|⟨h1,h2,h3⟩|⟨h1,h3⟩
 ·rw [h2];simp -implicitDefEqProofs (disch:=omega) [c67,dle_t,dle_f,dlt_t,dlt_f,beq_t,beq_f,bne_t,bne_f]
 all_goals (rw [h3];simp -implicitDefEqProofs (disch:=omega) [c67,dle_t,dle_f,dlt_t,dlt_f,beq_t,beq_f,bne_t,bne_f])
theorem tdigit_spec (r:Int):Sp Tryz.prog gl 68 [i3 r] (.bool (digR r)):=by
 refine s68 rfl rfl ?_
 unfold digR
 by_cases h1:48≤r
 ·simp [c68,h1]
 ·simp [c68,h1]
def nameGo:Nat→Int→List Int→Bool
 |n,last,[]=>decide (0<n∧n≤24)&&(letter last||digR last)
 |n,last,r::l=>(letter r||(decide (n≠0)&&(digR r||r==95||r==45)))&&nameGo (n+1) r l
def nameT (s:List UInt8):Bool:=nameGo 0 32 (runesL s 0)
theorem tname_spec (s:List UInt8) (hl:s.length≤900000):Sp Tryz.prog gl 43 [.str s] (.bool (nameT s)):=by
 refine s43 rfl rfl ?_
 obtain ⟨R,hR⟩: ∃R,R=nameT s:=⟨_,rfl⟩
 rw [←hR]
 unfold nameT at hR
 simp -implicitDefEqProofs [c43]
 refine wp_lpk (α:=Nat×Nat×Int) (fun x=>⟨[(0,.str s),(3,i6 x.2.1),(4,i3 x.2.2),(9,.itp 9)],[(.it 9,[.itr s x.1])],[]⟩)
  (fun x=>x.2.1≤x.1∧(x.2.1=0↔x.1=0)∧nameGo x.2.1 x.2.2 (runesL s x.1)=R∧x.1≤s.length+3) (fun x=>s.length+4 - x.1) ?_ (0,0,32) ?_ ?_
 ·rintro K ⟨i,n,last⟩ hK ⟨h1,h2,h3,h4⟩
  simp only at h1 h2 h3 h4
  by_cases g:i<s.length
  ·rw [runesL_in g] at h3
   simp only [nameGo] at h3
   have sr:=step_rune s i g
   have sl:=stepR_lt g
   have sp:=stepR_pos s i
   have fin:nameGo (n+1) (stepR s i).1 (runesL s (i+(stepR s i).2))=R→ ∀σ',Weak σ' ⟨[(0,.str s),(3,i6 (n+1:Nat)),(4,i3 (stepR s i).1),(9,.itp 9)],[(.it 9,[.itr s (i+(stepR s i).2)])],[]⟩→K σ':=
    fun hh σ' hσ=>hK (i+(stepR s i).2,n+1,(stepR s i).1) σ' ⟨by simp only;omega,by simp only;omega,hh,by simp only;omega⟩ (by simp only;omega) hσ
   have t1:IntKind.i64.wrap ((n:Int)+1)=(n+1:Nat):=by rw [wrap_i64]<;>omega
   clear hK hR
   by_cases hb:(stepR s i).1= -1
   ·rw [if_pos hb] at sr
    rw [hb] at h3
    have:R=false:=by
     rw [←h3]
     have:(letter (-1)||(decide (n≠0)&&(digR (-1)||(-1:Int)==95||(-1:Int)==45)))=false:=by cases decide (n≠0)<;>rfl
     rw [this];rfl
    subst this
    have L1:=tletter_spec 65533
    have D1:=tdigit_spec 65533
    rw [show letter 65533=false from rfl] at L1
    rw [show digR 65533=false from rfl] at D1
    clear h3 fin
    by_cases hi:i=0
    ·subst hi
     simp -implicitDefEqProofs [g,sr]
     refine onC_mk _ L1 ?_
     simp -implicitDefEqProofs
    ·have hi':0<i:=by omega
     simp -implicitDefEqProofs [g,sr]
     refine onC_mk _ L1 ?_
     simp -implicitDefEqProofs [hi']
     refine onC_mk _ D1 ?_
     simp -implicitDefEqProofs
   ·rw [if_neg hb] at sr
    have L1:=tletter_spec (stepR s i).1
    have D1:=tdigit_spec (stepR s i).1
    have esr:(stepR s i)=((stepR s i).1,(stepR s i).2):=rfl
    rw [esr] at sr
    generalize nameGo (n+1) (stepR s i).1 (runesL s (i+(stepR s i).2))=R2 at *
    clear esr hb
    generalize (stepR s i).1=r at *
    generalize (stepR s i).2=w at *
    have hn0:decide (n≠0)=decide (0<i):=by rw [Bool.eq_iff_iff];simp;omega
    rw [hn0] at h3
    cases hlt:letter r
    ·rw [hlt] at h3 L1
     by_cases hi:0<i
     ·cases hd:digR r
      ·rw [hd] at h3 D1
       by_cases e1:r=95
       ·have:=fin (by rw [←h3];simp [hi,e1])
        simp -implicitDefEqProofs (disch:=omega) [g,sr,beq_t,beq_f,e1]
        rw [e1] at L1 D1
        refine onC_mk _ L1 ?_
        simp -implicitDefEqProofs [hi]
        refine onC_mk _ D1 ?_
        simp -implicitDefEqProofs
        refine this _ (weak_mk ?_ ?_ ?_ ?_ ?_ ?_)<;>simp -implicitDefEqProofs [t1,e1]
       ·by_cases e2:r=45
        ·have:=fin (by rw [←h3];simp [hi,e2])
         simp -implicitDefEqProofs (disch:=omega) [g,sr,e2]
         rw [e2] at L1 D1
         refine onC_mk _ L1 ?_
         simp -implicitDefEqProofs [hi]
         refine onC_mk _ D1 ?_
         simp -implicitDefEqProofs
         refine this _ (weak_mk ?_ ?_ ?_ ?_ ?_ ?_)<;>simp -implicitDefEqProofs [t1,e2]
        ·have b1:(r==95)=false:=by rw [beq_eq_false_iff_ne];exact e1
         have b2:(r==45)=false:=by rw [beq_eq_false_iff_ne];exact e2
         have:R=false:=by rw [←h3,b1,b2];simp
         subst this
         simp -implicitDefEqProofs [g,sr]
         refine onC_mk _ L1 ?_
         simp -implicitDefEqProofs [hi]
         refine onC_mk _ D1 ?_
         simp -implicitDefEqProofs [b1,b2]
      ·rw [hd] at h3 D1
       have:=fin (by rw [←h3];simp [hi])
       simp -implicitDefEqProofs [g,sr]
       refine onC_mk _ L1 ?_
       simp -implicitDefEqProofs [hi]
       refine onC_mk _ D1 ?_
       simp -implicitDefEqProofs
       refine this _ (weak_mk ?_ ?_ ?_ ?_ ?_ ?_)<;>simp -implicitDefEqProofs [t1]
     ·have:R=false:=by rw [←h3];simp [hi]
      subst this
      simp -implicitDefEqProofs [g,sr]
      refine onC_mk _ L1 ?_
      simp -implicitDefEqProofs [hi]
    ·rw [hlt] at h3 L1
     have:=fin (by rw [←h3];simp)
     simp -implicitDefEqProofs [g,sr]
     refine onC_mk _ L1 ?_
     simp -implicitDefEqProofs
     refine this _ (weak_mk ?_ ?_ ?_ ?_ ?_ ?_)<;>simp -implicitDefEqProofs [t1]
  ·rw [runesL_out g] at h3
   simp only [nameGo] at h3
   have L1:=tletter_spec last
   have D1:=tdigit_spec last
   clear hK hR h2
   by_cases n0:0<n
   ·by_cases n1:n≤24
    ·have n1':(n:Int)≤24:=by omega
     rw [decide_eq_true (show 0<n∧n≤24 from ⟨n0,n1⟩),Bool.true_and] at h3
     cases hlt:letter last
     ·rw [hlt,Bool.false_or] at h3
      rw [hlt] at L1
      rw [h3] at D1
      simp -implicitDefEqProofs [g,n0,n1']
      refine onC_mk _ L1 ?_
      simp -implicitDefEqProofs
      refine onC_mk _ D1 ?_
      simp -implicitDefEqProofs
     ·rw [hlt] at h3 L1
      have:R=true:=by rw [←h3];rfl
      subst this
      simp -implicitDefEqProofs [g,n0,n1']
      refine onC_mk _ L1 ?_
      simp -implicitDefEqProofs
    ·have n1': ¬(n:Int)≤24:=by omega
     rw [decide_eq_false (show ¬(0<n∧n≤24) by omega)] at h3
     subst h3
     simp -implicitDefEqProofs [g,n0,n1']
   ·rw [decide_eq_false (show ¬(0<n∧n≤24) by omega)] at h3
    subst h3
    simp -implicitDefEqProofs [g,n0]
 ·exact ⟨Nat.le_refl _,by simp,hR.symm,by simp⟩
 ·refine weak_mk ?_ ?_ ?_ ?_ ?_ ?_<;>simp -implicitDefEqProofs
open Go.Proofs
structure Sc where
 out:List Tk
 st:Int
 sa:Nat
 fl:Int
 fc:Int
 al:Int
 ac:Int
 cd:Int
 xl:Int
 xc:Int
def scB (s:List UInt8) (x:Sc):List AV:=[.str s,.sl (x.out.map Tk.row),i6 x.st,i6 x.sa,i6 x.fl,i6 x.fc,i6 x.al,i6 x.ac,i6 x.cd,i6 x.xl,i6 x.xc]
def Sc.begin (x:Sc) (i:Nat) (st:Int):Sc:={x with sa:=i,st:=st,fl:=x.al,fc:=x.ac}
def Sc.wrong (x:Sc) (e:Int):Sc:={x with cd:=e,xl:=x.fl,xc:=x.fc}
inductive TV where
 |e (c:Int)
 |t (k:Int) (w:List UInt8) (n:Nat)
def TV.av:TV→AV
 | .e c=> .ifc 28 (i6 c)
 | .t k w n=> .ifc 55 (.agg [i6 k,.str w,u n,i6 0,i6 0])
def TV.ok:TV→Bool
 | .e _=>false
 | .t _ _ _=>true
def Sc.add (x:Sc):TV→Sc
 | .e c=>x.wrong c
 | .t k w n=>{x with out:=x.out++[⟨k,w,n,x.fl,x.fc⟩],st:=0}
theorem tk_five (l:List Tk): ∀r∈l.map Tk.row,r.length=5:=by
 intro r hr
 obtain ⟨_,_,rfl⟩:=List.mem_map.1 hr
 rfl
theorem sbegin_spec (s:List UInt8) (x:Sc) (i:Nat) (st:Int) (d:Nat) (b:Id) (hb:b.isIt=false) (hbd:b.isNw d=false):
  SpH Tryz.prog gl 75 d ⟨[.ptr b 0,i6 i,i6 st],[(b,scB s x)],[(.b b 1,5)]⟩ ⟨.tup [],[(b,scB s (x.begin i st))],[(.b b 1,5)]⟩:=by
 refine h75 rfl ?_
 have hib:=inn_notNw hbd
 unfold scB Sc.begin
 generalize x.out.map Tk.row=L at *
 simp only [inSt,mpB,mpL,AV.mp,mpP,Pl.mp]
 simp -implicitDefEqProofs [c75]
 refine postH_r ⟨?_,?_,?_,?_,?_,?_⟩<;>simp -implicitDefEqProofs [hib,hb]
theorem swrong_spec (s:List UInt8) (x:Sc) (e:Int) (d:Nat) (b:Id) (hb:b.isIt=false) (hbd:b.isNw d=false):
  SpH Tryz.prog gl 76 d ⟨[.ptr b 0,i6 e],[(b,scB s x)],[(.b b 1,5)]⟩ ⟨.bool false,[(b,scB s (x.wrong e))],[(.b b 1,5)]⟩:=by
 refine h76 rfl ?_
 have hib:=inn_notNw hbd
 unfold scB Sc.wrong
 generalize x.out.map Tk.row=L at *
 simp only [inSt,mpB,mpL,AV.mp,mpP,Pl.mp]
 simp -implicitDefEqProofs [c76]
 refine postH_r ⟨?_,?_,?_,?_,?_,?_⟩<;>simp -implicitDefEqProofs [hib,hb]
theorem sadd_spec (s:List UInt8) (x:Sc) (hl:x.out.length≤1000000) (v:TV) (d:Nat) (b:Id) (hb:b.isIt=false) (hbd:b.isNw d=false):
  SpH Tryz.prog gl 108 d ⟨[.ptr b 0,v.av],[(b,scB s x)],[(.b b 1,5)]⟩ ⟨.bool v.ok,[(b,scB s (x.add v))],[(.b b 1,5)]⟩:=by
 refine h108 rfl ?_
 have hib:=inn_notNw hbd
 have hlim:lim=140737488355328:=rfl
 cases v with
 |e c=>
  have W:=fun e=>swrong_spec s x c e (.up b) hb
  unfold scB Sc.wrong at W
  unfold scB Sc.add Sc.wrong TV.av TV.ok
  generalize x.out.map Tk.row=L at *
  simp only [inSt,mpB,mpL,AV.mp,mpP,Pl.mp]
  simp -implicitDefEqProofs [c108]
  refine onH_mk _ _ (W _ rfl) ⟨?_,?_,?_,?_,?_,?_,?_⟩ ?_
  iterate 7 (· simp [hb])
  simp -implicitDefEqProofs
  refine postH_r ⟨?_,?_,?_,?_,?_,?_⟩<;>simp -implicitDefEqProofs [hib,hb]
 |t k w n=>
  have h5:=tk_five x.out
  have hll:((x.out.map Tk.row).length+1)*48≤140737488355328:=by simp;omega
  have he:(x.out++[(⟨k,w,n,x.fl,x.fc⟩:Tk)]).map Tk.row=x.out.map Tk.row++[[i6 k,.str w,u n,i6 x.fl,i6 x.fc]]:=by simp [Tk.row]
  unfold scB Sc.add TV.av TV.ok
  simp only [he]
  clear he
  generalize x.out.map Tk.row=L at *
  simp only [inSt,mpB,mpL,AV.mp,mpP,Pl.mp]
  simp -implicitDefEqProofs [c108,hlim]
  refine ⟨hll,h5,?_⟩
  refine postH_r ⟨?_,?_,?_,?_,?_,?_⟩<;>simp -implicitDefEqProofs [hib,hb]
open Go.Proofs
def nxt:List Tk→List Tk
 |_::y::r=>y::r
 |l=>l
def paB (l:List Tk) (n:Nat):List AV:=[.sl (l.map Tk.row),i6 n]
theorem pnext_spec (t:Tk) (r:List Tk) (n:Nat) (d:Nat) (b:Id) (hb:b.isIt=false) (hbd:b.isNw d=false):
  SpH Tryz.prog gl 79 d ⟨[.ptr b 0],[(b,paB (t::r) n)],[]⟩ ⟨.agg t.row,[(b,paB (nxt (t::r)) n)],[]⟩:=by
 refine h79 rfl ?_
 have hib:=inn_notNw hbd
 obtain ⟨k,s,m,ln,co⟩:=t
 cases r with
 |nil=>
  simp only [nxt,paB,List.map_cons,List.map_nil,Tk.row,inSt,mpB,mpL,AV.mp,mpP,Pl.mp]
  simp -implicitDefEqProofs [c79]
  refine postH_r ⟨?_,?_,?_,?_,?_,?_⟩<;>simp -implicitDefEqProofs [hib,hb]
 |cons y r=>
  simp only [nxt,paB,List.map_cons,List.map_nil,Tk.row,inSt,mpB,mpL,AV.mp,mpP,Pl.mp]
  have h1:=tk_five r
  have hl:(1:Int)<((List.map Tk.row r).length:Int)+1+1:=by omega
  generalize List.map Tk.row r=L at *
  have hk:((L.length:Int)+1+1).toNat=L.length+1+1:=by omega
  have hg:(1:Int)≤(L.length:Int)+1+1:=by omega
  simp -implicitDefEqProofs [c79,hl,hk]
  refine ⟨hg,h1,?_⟩
  refine postH_r ⟨?_,?_,?_,?_,?_,?_⟩<;>simp -implicitDefEqProofs [hib,hb]
def fltV (c:Int) (t:Tk):AV:= .ifc 35 (.agg [i6 c,i6 t.ln,i6 t.co])
theorem throw_spec (c:Int) (t:Tk) (d:Nat):SpT Tryz.prog gl 80 d ⟨[i6 c,.agg t.row],[],[]⟩ ⟨fltV c t,[],[]⟩:=by
 refine t80 rfl ?_
 obtain ⟨k,s,m,ln,co⟩:=t
 simp only [Tk.row,fltV,inSt,mpB,mpL,AV.mp,mpP,Pl.mp]
 simp -implicitDefEqProofs [c80]
 refine ⟨rfl,by simp,⟨?_,?_,?_,?_,?_,?_⟩⟩<;>simp -implicitDefEqProofs
end Go.Ai
namespace Go.Ai
inductive Pr (α:Type) where
 |ok (a:α) (l:List Tk) (n:Nat)
 |th (c:Int) (t:Tk) (l:List Tk) (n:Nat)
 |no
mutual
def pL:Nat→Nat→Int→List It→List Tk→Nat→Pr (List It)
 |0,_,_,_,_,_=> .no
 |_+1,_,_,_,[],_=> .no
 |f+1,d,e,out,t::r,n=>
  if t.k=e then .ok out (nxt (t::r)) n
  else if t.k≠1 then .th 6 t (nxt (t::r)) n
  else if 4<d then .th 19 t (nxt (t::r)) n
  else if n=300 then .th 9 t (nxt (t::r)) n
  else match pI f d t.t t.ln t.co [] (nxt (t::r)) (n+1) with
   | .ok x l' n'=>pL f d e (out++[x]) l' n'
   | .th c t l' n'=> .th c t l' n'
   | .no=> .no
def pI:Nat→Nat→List UInt8→Int→Int→List Tk→List Tk→Nat→Pr It
 |0,_,_,_,_,_,_,_=> .no
 |_+1,_,_,_,_,_,[],_=> .no
 |f+1,d,nm,ln,co,ws,t::r,n=>
  if t.k=9 then .ok (.mk nm ws false [] ln co) (nxt (t::r)) n
  else if t.k=7 then match pL f (d+1) 8 [] (nxt (t::r)) n with
   | .ok ks l' n'=> .ok (.mk nm ws true ks ln co) l' n'
   | .th c t l' n'=> .th c t l' n'
   | .no=> .no
  else if t.k<1∨6<t.k then .th 6 t (nxt (t::r)) n
  else if ws.length=6 then .th 9 t (nxt (t::r)) n
  else pI f d nm ln co (ws++[t]) (nxt (t::r)) n
end
theorem p_cnt: ∀f:Nat,(∀d e out l n o l' n',pL f d e out l n= .ok o l' n'→n≤300→out.length≤n→n≤n'∧n'≤300∧o.length≤n')∧(∀d nm ln co ws l n x l' n',pI f d nm ln co ws l n= .ok x l' n'→n≤300→n≤n'∧n'≤300)
 |0=>⟨fun d e out l n o l' n' h _ _=>by simp [pL] at h,fun d nm ln co ws l n x l' n' h _=>by simp [pI] at h⟩
 |f+1=>by
  obtain ⟨ihL,ihI⟩:=p_cnt f
  refine ⟨fun d e out l n o l' n' h hn ho=>?_,fun d nm ln co ws l n x l' n' h hn=>?_⟩
  ·cases l with
   |nil=>simp [pL] at h
   |cons t r=>
    rw [pL] at h
    split at h
    ·cases h;exact ⟨Nat.le_refl _,hn,ho⟩
    split at h
    ·cases h
    split at h
    ·cases h
    split at h
    ·cases h
    rename_i c4
    split at h
    ·rename_i x l2 n2 he
     have h1:=ihI _ _ _ _ _ _ _ _ _ _ he (by omega)
     have h2:=ihL _ _ _ _ _ _ _ _ h h1.2 (by rw [List.length_append,List.length_singleton];omega)
     exact ⟨by omega,h2.2⟩
    ·cases h
    ·cases h
  ·cases l with
   |nil=>simp [pI] at h
   |cons t r=>
    rw [pI] at h
    split at h
    ·cases h;exact ⟨Nat.le_refl _,hn⟩
    split at h
    ·split at h
     ·rename_i ks l2 n2 he
      cases h
      have:=ihL _ _ _ _ _ _ _ _ he hn (Nat.zero_le _)
      exact ⟨this.1,this.2.1⟩
     ·cases h
     ·cases h
    split at h
    ·cases h
    split at h
    ·cases h
    exact ihI _ _ _ _ _ _ _ _ _ _ h hn
open Go.Proofs
def LOk (f:Nat):Prop:= ∀(d:Nat) (e:Int) (l:List Tk) (n:Nat) (D:Nat) (b:Id),b.isIt=false→b.isNw D=false→d≤5→n≤300→
 (∀o l' n',pL f d e [] l n= .ok o l' n'→SpH Tryz.prog gl 49 D ⟨[.ptr b 0,i6 d,i6 e],[(b,paB l n)],[]⟩ ⟨.sl (itRows o),[(b,paB l' n')],[]⟩)∧
 (∀c t l' n',pL f d e [] l n= .th c t l' n'→SpT Tryz.prog gl 49 D ⟨[.ptr b 0,i6 d,i6 e],[(b,paB l n)],[]⟩ ⟨fltV c t,[(b,paB l' n')],[]⟩)
def IOk (f:Nat):Prop:= ∀(d:Nat) (x:Tk) (l:List Tk) (n:Nat) (D:Nat) (b:Id),b.isIt=false→b.isNw D=false→d≤4→n≤300→
 (∀y l' n',pI f d x.t x.ln x.co [] l n= .ok y l' n'→SpH Tryz.prog gl 81 D ⟨[.ptr b 0,.agg x.row,i6 d],[(b,paB l n)],[]⟩ ⟨.agg y.row,[(b,paB l' n')],[]⟩)∧
 (∀c t l' n',pI f d x.t x.ln x.co [] l n= .th c t l' n'→SpT Tryz.prog gl 81 D ⟨[.ptr b 0,.agg x.row,i6 d],[(b,paB l n)],[]⟩ ⟨fltV c t,[(b,paB l' n')],[]⟩)
set_option maxHeartbeats 2000000 in
theorem list_wp (f d:Nat) (e:Int) (l:List Tk) (n:Nat) (D:Nat) (b:Id) (hb:b.isIt=false) (hbd:b.isNw D=false) (hd:d≤5) (hn:n≤300) (hI: ∀g,g<f→IOk g) (Q:AE→St→Prop) (Rp:AV→St→Prop) (hno:pL f d e [] l n≠ .no)
  (hQ: ∀o l' n',pL f d e [] l n= .ok o l' n'→ ∀σ,postH D [.t 6] ⟨.sl (itRows o),[(b,paB l' n')],[]⟩ .r σ→Q .r σ)
  (hR: ∀c t l' n',pL f d e [] l n= .th c t l' n'→ ∀v σ,postT D ⟨fltV c t,[(b,paB l' n')],[]⟩ v σ→Rp v σ):
  wpA2 (SpH Tryz.prog gl) (SpT Tryz.prog gl) Rp c49 Q (inSt ⟨[.ptr b 0,i6 d,i6 e],[(b,paB l n)],[]⟩):=by
 have hib:=inn_notNw hbd
 obtain ⟨R,hRR⟩: ∃R,R=pL f d e [] l n:=⟨_,rfl⟩
 rw [←hRR] at hno hQ hR
 have hlim:lim=140737488355328:=rfl
 unfold paB at *
 simp only [inSt,mpB,mpL,AV.mp,mpP,Pl.mp]
 simp -implicitDefEqProofs [c49]
 refine wp_lpk2 (α:=Nat×List It×List Tk×Nat) (fun y=>⟨[(0,.ptr (.up b) 0),(1,i6 d),(2,i6 e),(7,.sl (itRows y.2.1))],[(.up b,[.sl (y.2.2.1.map Tk.row),i6 y.2.2.2])],[(.s 7,6)]⟩) (fun y=>y.1≤f∧y.2.1.length≤y.2.2.2∧y.2.2.2≤300∧pL y.1 d e y.2.1 y.2.2.1 y.2.2.2=R) (fun y=>y.1) ?_ (f,[],l,n) ?_ ?_
 ·rintro K ⟨g,out,l,n⟩ hK ⟨hg,ho,hn,he⟩
  simp only at hg ho hn he
  cases g with
  |zero=>exact absurd (by rw [←he];simp [pL]) hno
  |succ g=>
   cases l with
   |nil=>exact absurd (by rw [←he];simp [pL]) hno
   |cons t r=>
    rw [pL] at he
    have NX:=fun D h=>pnext_spec t r n D (.up b) hb h
    unfold paB at NX
    have hri:=it_six out
    have hrl:=itRows_len out
    have hll:((itRows out).length+1)*88≤lim:=by rw [hlim,hrl];omega
    have TH:=fun (c:Int) (D:Nat)=>throw_spec c t D
    simp only [Tk.row] at NX TH
    rw [List.map_cons,Tk.row] at *
    have hi1:=hI g (by omega)
    obtain ⟨tk,tt,tn,tl,tc⟩:=t
    simp only [Tk.row] at NX TH he ⊢
    have e2:(tk==e)=decide (tk=e):=rfl
    generalize nxt (⟨tk,tt,tn,tl,tc⟩::r)=l2 at *
    generalize List.map Tk.row r=LR at *
    simp -implicitDefEqProofs
    refine onH_mk _ _ (NX _ rfl) ⟨?_,?_,?_,?_,?_,?_,?_⟩ ?_
    iterate 7 (· simp)
    simp -implicitDefEqProofs
    by_cases c1:tk=e
    ·rw [if_pos c1] at he
     have c1':(tk==e)=true:=by simpa using c1
     clear hK hR hI hi1
     simp -implicitDefEqProofs [c1,c1']
     refine hQ _ _ _ he.symm _ ?_
     refine postH_r ⟨?_,?_,?_,?_,?_,?_⟩<;>simp -implicitDefEqProofs [hib,hb]
    rw [if_neg c1] at he
    have c1':(tk==e)=false:=by simpa using c1
    by_cases c2:tk≠1
    ·rw [if_pos c2] at he
     have c2':(tk !=1)=true:=by simpa using c2
     clear hK hQ hI hi1
     simp -implicitDefEqProofs [c1,c1',c2,c2']
     refine onP_t _ _ (TH 6 _) ⟨?_,?_,?_,?_,?_,?_,?_⟩ rfl ?_
     iterate 7 (· simp)
     refine hR _ _ _ _ he.symm _ _ ⟨rfl,by simp,?_⟩
     refine ⟨?_,?_,?_,?_,?_,?_⟩<;>simp -implicitDefEqProofs [hib,hb]
    rw [if_neg c2] at he
    have c2:tk=1:=by omega
    by_cases c3:4<d
    ·rw [if_pos c3] at he
     have c3':(4:Int)<d:=by omega
     have c2':(tk !=1)=false:=by simpa using c2
     clear hK hQ hI hi1 c2
     simp -implicitDefEqProofs [c1,c1',c2',c3,c3']
     refine onP_t _ _ (TH 19 _) ⟨?_,?_,?_,?_,?_,?_,?_⟩ rfl ?_
     iterate 7 (· simp)
     refine hR _ _ _ _ he.symm _ _ ⟨rfl,by simp,?_⟩
     refine ⟨?_,?_,?_,?_,?_,?_⟩<;>simp -implicitDefEqProofs [hib,hb]
    rw [if_neg c3] at he
    have c3': ¬(4:Int)<d:=by omega
    by_cases c4:n=300
    ·rw [if_pos c4] at he
     have c4':((n:Int)==300)=true:=by rw [c4];rfl
     have c2':(tk !=1)=false:=by simpa using c2
     clear hK hQ hI hi1 c2
     subst c4
     simp -implicitDefEqProofs [c1,c1',c2',c3,c3',c4']
     refine onP_t _ _ (TH 9 _) ⟨?_,?_,?_,?_,?_,?_,?_⟩ rfl ?_
     iterate 7 (· simp)
     refine hR _ _ _ _ he.symm _ _ ⟨rfl,by simp,?_⟩
     refine ⟨?_,?_,?_,?_,?_,?_⟩<;>simp -implicitDefEqProofs [hib,hb]
    rw [if_neg c4] at he
    have c4':((n:Int)==300)=false:=beq_eq_false_iff_ne.2 (by omega)
    have c2':(tk !=1)=false:=by simpa using c2
    have t1:IntKind.i64.wrap ((n:Int)+1)=(n+1:Nat):=by rw [wrap_i64]<;>omega
    have hcn:=(p_cnt g).2 d tt tl tc [] l2 (n+1)
    have hiO:=fun D h=>(hi1 d ⟨tk,tt,tn,tl,tc⟩ l2 (n+1) D (.up b) hb h (by omega) (by omega)).1
    have hiT:=fun D h=>(hi1 d ⟨tk,tt,tn,tl,tc⟩ l2 (n+1) D (.up b) hb h (by omega) (by omega)).2
    simp only [Tk.row] at hiO hiT
    clear hi1 hI
    split at he
    ·rename_i x l3 n3 hx
     have IOk:=fun D h=>hiO D h _ _ _ hx
     have hc3:=hcn _ _ _ hx (by omega)
     have fin:=fun σ' hσ=>hK (g,out++[x],l3,n3) σ' ⟨by omega,by simp only [List.length_append,List.length_singleton];omega,hc3.2,he⟩ (by simp only;omega) hσ
     simp only [itRows_app,itRows] at fin
     obtain ⟨xn,ws,xb,ks,xl,xc⟩:=x
     simp only [It.row] at IOk fin
     unfold paB at IOk
     clear hiO hiT hK hQ hR TH NX hcn hx
     generalize itRows out=OR at *
     generalize itRows ks=KR at *
     generalize List.map Tk.row ws=WR at *
     generalize List.map Tk.row l3=L3 at *
     generalize List.map Tk.row l2=L2 at *
     simp -implicitDefEqProofs [c1,c1',c2',c3,c3',c4,c4',t1]
     refine onP_h _ _ (IOk _ rfl) ⟨?_,?_,?_,?_,?_,?_,?_⟩ ?_
     iterate 7 (· simp [t1])
     simp -implicitDefEqProofs [hlim]
     refine ⟨by omega,hri,?_⟩
     refine fin _ ?_
     refine weak_mk ?_ ?_ ?_ ?_ ?_ ?_<;>simp -implicitDefEqProofs [t1]
    ·rename_i c' t' l3 n3 hx
     have IT:=fun D h=>hiT D h _ _ _ _ hx
     unfold paB at IT
     clear hiO hiT hK hQ TH NX hcn hx
     simp -implicitDefEqProofs [c1,c1',c2',c3,c3',c4,c4',t1]
     refine onP_t _ _ (IT _ rfl) ⟨?_,?_,?_,?_,?_,?_,?_⟩ rfl ?_
     iterate 7 (· simp [t1])
     refine hR _ _ _ _ he.symm _ _ ⟨rfl,by simp,?_⟩
     refine ⟨?_,?_,?_,?_,?_,?_⟩<;>simp -implicitDefEqProofs [hib,hb]
    ·exact absurd he.symm hno
 ·exact ⟨Nat.le_refl _,Nat.zero_le _,hn,hRR.symm⟩
 ·refine weak_mk ?_ ?_ ?_ ?_ ?_ ?_<;>simp -implicitDefEqProofs [itRows]
theorem list_ok (f:Nat) (hI: ∀g,g<f→IOk g):LOk f:=by
 intro d e l n D b hb hbd hd hn
 refine ⟨fun o l' n' h=>?_,fun c t l' n' h=>?_⟩
 ·refine h49 rfl ?_
  refine list_wp f d e l n D b hb hbd hd hn hI _ _ (by rw [h];simp) (fun o2 l2 n2 h2 σ hp=>?_) (fun c t l' n' h2=>by rw [h] at h2;cases h2)
  rw [h] at h2
  cases h2
  exact hp
 ·refine t49 rfl ?_
  refine list_wp f d e l n D b hb hbd hd hn hI _ _ (by rw [h];simp) (fun o2 l2 n2 h2=>by rw [h] at h2;cases h2) (fun c2 t2 l2 n2 h2 v σ hp=>?_)
  rw [h] at h2
  cases h2
  exact hp
open Go.Proofs
set_option maxHeartbeats 2000000 in
theorem item_wp (f d:Nat) (x:Tk) (l:List Tk) (n:Nat) (D:Nat) (b:Id) (hb:b.isIt=false) (hbd:b.isNw D=false) (hd:d≤4) (hn:n≤300) (hL: ∀g,g<f→LOk g) (Q:AE→St→Prop) (Rp:AV→St→Prop) (hno:pI f d x.t x.ln x.co [] l n≠ .no)
  (hQ: ∀y l' n',pI f d x.t x.ln x.co [] l n= .ok y l' n'→ ∀σ,postH D [.ca 6 6] ⟨.agg y.row,[(b,paB l' n')],[]⟩ .r σ→Q .r σ)
  (hR: ∀c t l' n',pI f d x.t x.ln x.co [] l n= .th c t l' n'→ ∀v σ,postT D ⟨fltV c t,[(b,paB l' n')],[]⟩ v σ→Rp v σ):
  wpA2 (SpH Tryz.prog gl) (SpT Tryz.prog gl) Rp c81 Q (inSt ⟨[.ptr b 0,.agg x.row,i6 d],[(b,paB l n)],[]⟩):=by
 have hib:=inn_notNw hbd
 obtain ⟨R,hRR⟩: ∃R,R=pI f d x.t x.ln x.co [] l n:=⟨_,rfl⟩
 rw [←hRR] at hno hQ hR
 have hlim:lim=140737488355328:=rfl
 have w1:IntKind.i64.wrap ((d:Int)+1)=(d+1:Nat):=by rw [wrap_i64]<;>omega
 obtain ⟨xk,nm,xn,ln,co⟩:=x
 simp only [Tk.row] at *
 unfold paB at *
 simp only [inSt,mpB,mpL,AV.mp,mpP,Pl.mp]
 simp -implicitDefEqProofs [c81]
 refine wp_lpk2 (α:=Nat×List Tk×List Tk×Nat) (fun y=>⟨[(0,.ptr (.up b) 0),(2,i6 d),(6,.ptr (.n 6) 0),(7,.ptr (.n 7) 0)],[(.n 7,[.str nm,.sl (y.2.1.map Tk.row),.bool false,.sl [],i6 ln,i6 co]),(.n 6,[.str [],.nils,.bool false,.nils,i6 0,i6 0]),(.up b,[.sl (y.2.2.1.map Tk.row),i6 y.2.2.2])],[(.b (.n 7) 1,5)]⟩) (fun y=>y.1≤f∧y.2.1.length≤6∧y.2.2.2≤300∧pI y.1 d nm ln co y.2.1 y.2.2.1 y.2.2.2=R) (fun y=>y.1) ?_ (f,[],l,n) ?_ ?_
 ·rintro K ⟨g,ws,l,n⟩ hK ⟨hg,ho,hn,he⟩
  simp only at hg ho hn he
  cases g with
  |zero=>exact absurd (by rw [←he];simp [pI]) hno
  |succ g=>
   cases l with
   |nil=>exact absurd (by rw [←he];simp [pI]) hno
   |cons t r=>
    rw [pI] at he
    have NX:=fun D h=>pnext_spec t r n D (.up b) hb h
    unfold paB at NX
    have hwr:=tk_five ws
    have hwl:(ws.map Tk.row).length=ws.length:=List.length_map _
    have TH:=fun (c:Int) (D:Nat)=>throw_spec c t D
    simp only [Tk.row] at NX TH
    rw [List.map_cons,Tk.row] at *
    have hl1:=hL g (by omega)
    obtain ⟨tk,tt,tn,tl,tc⟩:=t
    simp only [Tk.row] at NX TH he ⊢
    have fin0:pI g d nm ln co (ws++[⟨tk,tt,tn,tl,tc⟩]) (nxt (⟨tk,tt,tn,tl,tc⟩::r)) n=R→ws.length≠6→ ∀σ',Weak σ' ⟨[(0,.ptr (.up b) 0),(2,i6 d),(6,.ptr (.n 6) 0),(7,.ptr (.n 7) 0)],[(.n 7,[.str nm,.sl (ws.map Tk.row++[[i6 tk,.str tt,u tn,i6 tl,i6 tc]]),.bool false,.sl [],i6 ln,i6 co]),(.n 6,[.str [],.nils,.bool false,.nils,i6 0,i6 0]),(.up b,[.sl ((nxt (⟨tk,tt,tn,tl,tc⟩::r)).map Tk.row),i6 n])],[(.b (.n 7) 1,5)]⟩→K σ':=fun hp h6 σ' hσ=>
     hK (g,ws++[⟨tk,tt,tn,tl,tc⟩],nxt (⟨tk,tt,tn,tl,tc⟩::r),n) σ' ⟨by omega,by simp only [List.length_append,List.length_singleton];omega,hn,hp⟩ (by simp only;omega) (by
      simp only [List.map_append,List.map_cons,List.map_nil,Tk.row]
      exact hσ)
    generalize nxt (⟨tk,tt,tn,tl,tc⟩::r)=l2 at *
    generalize List.map Tk.row r=LR at *
    clear hK
    simp -implicitDefEqProofs
    refine onH_mk _ _ (NX _ rfl) ⟨?_,?_,?_,?_,?_,?_,?_⟩ ?_
    iterate 7 (· simp)
    simp -implicitDefEqProofs
    by_cases c1:tk=9
    ·rw [if_pos c1] at he
     have c1':(tk==9)=true:=by simpa using c1
     have hq:=hQ _ _ _ he.symm
     simp only [It.row,itRows] at hq
     clear hQ hR hL hl1 fin0 NX TH
     generalize List.map Tk.row ws=WR at *
     generalize List.map Tk.row l2=L2 at *
     simp -implicitDefEqProofs [c1,c1']
     refine hq _ ?_
     refine postH_r ⟨?_,?_,?_,?_,?_,?_⟩<;>simp -implicitDefEqProofs [hib,hb]
    rw [if_neg c1] at he
    have c1':(tk==9)=false:=by simpa using c1
    by_cases c7:tk=7
    ·rw [if_pos c7] at he
     have c7':(tk==7)=true:=by simpa using c7
     have hlO:=fun D h=>(hl1 (d+1) 8 l2 n D (.up b) hb h (by omega) hn).1
     have hlT:=fun D h=>(hl1 (d+1) 8 l2 n D (.up b) hb h (by omega) hn).2
     unfold paB at hlO hlT
     clear hl1 hL fin0 NX TH
     split at he
     ·rename_i ks l3 n3 hx
      have LO:=fun D h=>hlO D h _ _ _ hx
      have hq:=hQ _ _ _ he.symm
      simp only [It.row] at hq
      clear hlO hlT hx hQ hR
      generalize itRows ks=KR at *
      generalize List.map Tk.row ws=WR at *
      generalize List.map Tk.row l3=L3 at *
      generalize List.map Tk.row l2=L2 at *
      simp -implicitDefEqProofs [c1,c1',c7,c7',w1]
      refine onP_h _ _ (LO _ rfl) ⟨?_,?_,?_,?_,?_,?_,?_⟩ ?_
      iterate 7 (· simp)
      simp -implicitDefEqProofs
      refine hq _ ?_
      refine postH_r ⟨?_,?_,?_,?_,?_,?_⟩<;>simp -implicitDefEqProofs [hib,hb]
     ·rename_i c' t' l3 n3 hx
      have LT:=fun D h=>hlT D h _ _ _ _ hx
      clear hlO hlT hQ hx
      generalize List.map Tk.row ws=WR at *
      simp -implicitDefEqProofs [c1,c1',c7,c7',w1]
      refine onP_t _ _ (LT _ rfl) ⟨?_,?_,?_,?_,?_,?_,?_⟩ rfl ?_
      iterate 7 (· simp)
      refine hR _ _ _ _ he.symm _ _ ⟨rfl,by simp,?_⟩
      refine ⟨?_,?_,?_,?_,?_,?_⟩<;>simp -implicitDefEqProofs [hib,hb]
     ·exact absurd he.symm hno
    rw [if_neg c7] at he
    have c7':(tk==7)=false:=by simpa using c7
    clear hl1 hL
    by_cases c2:tk<1∨6<tk
    ·rw [if_pos c2] at he
     by_cases c3:tk<1
     ·clear hQ fin0 NX
      generalize List.map Tk.row ws=WR at *
      simp -implicitDefEqProofs [c1,c1',c7,c7',c3]
      refine onP_t _ _ (TH 6 _) ⟨?_,?_,?_,?_,?_,?_,?_⟩ rfl ?_
      iterate 7 (· simp)
      refine hR _ _ _ _ he.symm _ _ ⟨rfl,by simp,?_⟩
      refine ⟨?_,?_,?_,?_,?_,?_⟩<;>simp -implicitDefEqProofs [hib,hb]
     ·have c4:6<tk:=by omega
      clear hQ fin0 NX
      generalize List.map Tk.row ws=WR at *
      simp -implicitDefEqProofs [c1,c1',c7,c7',c3,c4]
      refine onP_t _ _ (TH 6 _) ⟨?_,?_,?_,?_,?_,?_,?_⟩ rfl ?_
      iterate 7 (· simp)
      refine hR _ _ _ _ he.symm _ _ ⟨rfl,by simp,?_⟩
      refine ⟨?_,?_,?_,?_,?_,?_⟩<;>simp -implicitDefEqProofs [hib,hb]
    rw [if_neg c2] at he
    have c3: ¬tk<1:=by omega
    have c4: ¬6<tk:=by omega
    by_cases c5:ws.length=6
    ·rw [if_pos c5] at he
     have c5':((ws.length:Int)==6)=true:=by rw [c5];rfl
     clear hQ fin0 NX
     rw [c5] at hwl
     generalize List.map Tk.row ws=WR at *
     simp -implicitDefEqProofs [c1,c1',c7,c7',c3,c4,hwl,c5,c5']
     refine onP_t _ _ (TH 9 _) ⟨?_,?_,?_,?_,?_,?_,?_⟩ rfl ?_
     iterate 7 (· simp)
     refine hR _ _ _ _ he.symm _ _ ⟨rfl,by simp,?_⟩
     refine ⟨?_,?_,?_,?_,?_,?_⟩<;>simp -implicitDefEqProofs [hib,hb]
    rw [if_neg c5] at he
    have c5':((ws.length:Int)==6)=false:=beq_eq_false_iff_ne.2 (by omega)
    have fin:=fin0 he c5
    clear fin0 hQ hR NX TH
    generalize List.map Tk.row ws=WR at *
    have hll:(WR.length+1)*48≤140737488355328:=by omega
    simp -implicitDefEqProofs [c1,c1',c7,c7',c3,c4,hwl,c5,c5',hlim]
    refine ⟨by omega,hwr,?_⟩
    refine fin _ ?_
    refine weak_mk ?_ ?_ ?_ ?_ ?_ ?_<;>simp -implicitDefEqProofs
 ·exact ⟨Nat.le_refl _,Nat.zero_le _,hn,hRR.symm⟩
 ·refine weak_mk ?_ ?_ ?_ ?_ ?_ ?_<;>simp -implicitDefEqProofs
open Go.Proofs
def encN (r:Nat):List UInt8:=
 if r<128 then [UInt8.ofNat r]
 else if r<2048 then [UInt8.ofNat (192+r / 64),UInt8.ofNat (128+r%64)]
 else if r<65536 then [UInt8.ofNat (224+r / 4096),UInt8.ofNat (128+r / 64%64),UInt8.ofNat (128+r%64)]
 else [UInt8.ofNat (240+r / 262144),UInt8.ofNat (128+r / 4096%64),UInt8.ofNat (128+r / 64%64),UInt8.ofNat (128+r%64)]
def encR (r:Int):List UInt8:=if r<0 then [255] else encN r.toNat
def textR:List Int→List UInt8
 |[]=>[]
 |r::l=>encR r++textR l
theorem textR_append: ∀a b:List Int,textR (a++b)=textR a++textR b
 |[],b=>rfl
 |r::l,b=>by rw [List.cons_append,textR,textR,textR_append l b,List.append_assoc]
theorem encN_len (r:Nat):(encN r).length≤4∧1≤(encN r).length:=by
 unfold encN
 split
 ·simp
 ·split
  ·simp
  ·split<;>simp
theorem encR_len (r:Int):(encR r).length≤4:=by
 unfold encR
 split
 ·simp
 ·exact (encN_len _).1
theorem textR_len: ∀l:List Int,(textR l).length≤4*l.length
 |[]=>by simp [textR]
 |r::l=>by
  have h1:=textR_len l
  have h2:=encR_len r
  rw [textR,List.length_append,List.length_cons]
  omega
end Go.Ai
