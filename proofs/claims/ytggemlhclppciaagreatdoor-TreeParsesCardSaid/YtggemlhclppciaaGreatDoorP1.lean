/- P1: a part of the proof: the rules, or what functions compute. Conditions: as each theorem says. -/
import Derived.Test.YtggemlhclppciaaGreatDoorCode
import Derived.Laws.Bits64b
set_option linter.unusedSimpArgs false
set_option linter.unusedVariables false
set_option maxRecDepth 20000
namespace Go.Ai
open Go.Proofs
abbrev u (n:Nat):AV:= .int .u64 n
def wide (n:Nat):AV:= .agg [u (n / 18446744073709551616),u (n%18446744073709551616)]
abbrev i6 (n:Int):AV:= .int .i64 n

theorem sh32 (x:Int):x.fdiv (2^min 32 IntKind.u64.bits)=x / 4294967296:=by
 have:(2:Int)^min 32 IntKind.u64.bits=4294967296:=by decide
 rw [this];exact Int.fdiv_eq_ediv_of_nonneg _ (by decide)
theorem mask32 (n:Int) (h1:0≤n) (h2:n<18446744073709551616):bits BinOp.and IntKind.u64 n 4294967295=n%4294967296:=by
 obtain ⟨m,rfl⟩:=Int.eq_ofNat_of_zero_le h1
 have:=bits_and_u64_nat m 4294967295 (by omega) (by omega)
 rw [show ((4294967295:Nat):Int)=4294967295 from rfl] at this
 rw [this,show (4294967295:Nat)=2^32 - 1 from rfl,Nat.and_two_pow_sub_one_eq_mod]
 omega
theorem mul_law (x1 x0 y1 y0:Int) (h1:0≤x1) (h2:x1<4294967296) (h3:0≤x0) (h4:x0<4294967296) (h5:0≤y1) (h6:y1<4294967296) (h7:0≤y0) (h8:y0<4294967296):
  ((x1*y1%18446744073709551616+(x1*y0%18446744073709551616+x0*y0%18446744073709551616 / 4294967296)%18446744073709551616 / 4294967296)%18446744073709551616+
   ((x1*y0%18446744073709551616+x0*y0%18446744073709551616 / 4294967296)%18446744073709551616%4294967296+x0*y1%18446744073709551616)%18446744073709551616 / 4294967296)%18446744073709551616
   =(x1*4294967296+x0)*(y1*4294967296+y0) / 18446744073709551616:=by
 have e:(x1*4294967296+x0)*(y1*4294967296+y0)=x1*y1*18446744073709551616+(x1*y0+x0*y1)*4294967296+x0*y0:=by
  simp only [Int.add_mul,Int.mul_add]
  have:x1*4294967296*(y1*4294967296)=x1*y1*18446744073709551616:=by
   rw [show (18446744073709551616:Int)=4294967296*4294967296 from rfl];ac_rfl
  rw [this,show x1*4294967296*y0=x1*y0*4294967296 by ac_rfl,show x0*(y1*4294967296)=x0*y1*4294967296 by ac_rfl]
  omega
 rw [e]
 have b: ∀a c:Int,0≤a→a<4294967296→0≤c→c<4294967296→0≤a*c∧a*c≤18446744065119617025:=fun a c ha hb hc hd=>by
  refine ⟨Int.mul_nonneg ha hc,?_⟩
  have:=Int.mul_le_mul (show a≤4294967295 by omega) (show c≤4294967295 by omega) hc (by decide)
  simpa using this
 have b1:=b x1 y1 h1 h2 h5 h6
 have b2:=b x1 y0 h1 h2 h7 h8
 have b3:=b x0 y1 h3 h4 h5 h6
 have b4:=b x0 y0 h3 h4 h7 h8
 generalize x1*y1=p at *
 generalize x1*y0=q at *
 generalize x0*y1=r at *
 generalize x0*y0=s at *
 omega
theorem mul64 (x y:Nat) (hx:x<18446744073709551616) (hy:y<18446744073709551616):Sp Tryz.prog gl 177 [u x,u y] (.tup [u (x*y / 18446744073709551616),u (x*y%18446744073709551616)]):=by
 refine s177 rfl rfl ?_
 simp [c177]
 have wm: ∀n:Int,0≤n%18446744073709551616∧n%18446744073709551616<18446744073709551616:=fun n=>by omega
 rw [mask32 x (by omega) (by omega),mask32 y (by omega) (by omega)]
 simp only [sh32,wrap_u64m]
 rw [mask32 _ (wm _).1 (wm _).2]
 have:=mul_law (x / 4294967296) (x%4294967296) (y / 4294967296) (y%4294967296) (by omega) (by omega) (by omega) (by omega) (by omega) (by omega) (by omega) (by omega)
 refine ⟨?_,trivial⟩
 rw [this]
 congr 2<;>omega
theorem times_spec (x y:Nat) (hx:x<18446744073709551616) (hy:y<18446744073709551616):Sp Tryz.prog gl 194 [u x,u y] (wide (x*y)):=by
 refine s194 rfl rfl ?_
 simp [c194]
 refine onC_mk _ (mul64 x y hx hy) ?_
 simp [wide]
end Go.Ai
namespace Go.Ai
structure Tk where
 k:Int
 t:List UInt8
 n:Nat
 ln:Int
 co:Int
 deriving DecidableEq
def Tk.row (x:Tk):List AV:=[i6 x.k,.str x.t,u x.n,i6 x.ln,i6 x.co]
inductive It where
 |mk (n:List UInt8) (ws:List Tk) (b:Bool) (ks:List It) (ln co:Int)
mutual
def It.row:It→List AV
 | .mk n ws b ks ln co=>[.str n,.sl (ws.map Tk.row),.bool b,.sl (itRows ks),i6 ln,i6 co]
def itRows:List It→List (List AV)
 |[]=>[]
 |x::r=>x.row::itRows r
end
theorem itRows_app: ∀a b:List It,itRows (a++b)=itRows a++itRows b
 |[],b=>rfl
 |x::a,b=>by rw [List.cons_append,itRows,itRows,itRows_app a b,List.cons_append]
theorem itRows_len: ∀a:List It,(itRows a).length=a.length
 |[]=>rfl
 |x::a=>by rw [itRows,List.length_cons,List.length_cons,itRows_len a]
theorem it_six: ∀a:List It,∀r∈itRows a,r.length=6
 |[],r,h=>by cases h
 | .mk n ws b ks ln co::a,r,h=>by
  rw [itRows,List.mem_cons] at h
  rcases h with rfl|h
  ·rw [It.row];rfl
  ·exact it_six a r h
mutual
def cntI:It→Nat
 | .mk _ _ _ ks _ _=>1+cntL ks
def cntL:List It→Nat
 |[]=>0
 |x::r=>cntI x+cntL r
end
mutual
def depI:It→Nat
 | .mk _ _ _ ks _ _=>1+depL ks
def depL:List It→Nat
 |[]=>0
 |x::r=>max (depI x) (depL r)
end
mutual
def wfI:It→Prop
 | .mk _ ws b ks _ _=>ws.length≤6∧(∀w∈ws,1≤w.k∧w.k≤6)∧(b=false→ks=[])∧wfL ks
def wfL:List It→Prop
 |[]=>True
 |x::r=>wfI x∧wfL r
end
theorem itRows_at: ∀(L:List It) (i:Nat) (h:i<L.length) (h2:i<(itRows L).length),(itRows L)[i]=L[i].row
 |x::L,0,h,h2=>rfl
 |x::L,i+1,h,h2=>by
  simp only [itRows,List.getElem_cons_succ]
  exact itRows_at L i _ _
theorem cnt_mem: ∀ {L:List It} {x:It},x∈L→cntI x≤cntL L
 |y::L,x,h=>by
  rw [cntL]
  rcases List.mem_cons.1 h with rfl|h
  ·omega
  ·have:=cnt_mem h;omega
theorem wf_mem: ∀ {L:List It} {x:It},wfL L→x∈L→wfI x
 |y::L,x,hw,h=>by
  rw [wfL] at hw
  rcases List.mem_cons.1 h with rfl|h
  ·exact hw.1
  ·exact wf_mem hw.2 h
theorem len_cnt: ∀L:List It,L.length≤cntL L
 |[]=>Nat.zero_le _
 | .mk n ws b ks ln co::L=>by
  have:=len_cnt L
  rw [cntL,cntI,List.length_cons]
  omega
open Go.Proofs
theorem nget_at (s:List UInt8) (i:Nat) (h:i<s.length):(ByteArray.mk s.toArray).get! i=s[i]:=by
 simp [ByteArray.get!,getElem!_pos,h]
def byt (s:List UInt8) (j:Nat):Nat:=match s[j]? with |some b=>b.toNat|none=>0
def cont (s:List UInt8) (j:Nat):Bool:=decide (128≤byt s j∧byt s j≤191)
def rv (s:List UInt8) (i r0:Nat):Nat→Nat
 |0=>r0
 |k+1=>64*rv s i r0 k+(byt s (i+(k+1)) - 128)
def conts (s:List UInt8) (i:Nat):Nat→Bool
 |0=>true
 |k+1=>conts s i k&&cont s (i+(k+1))
def isRune (least r:Nat):Bool:=decide (least≤r∧r≤1114111∧ ¬(55296≤r∧r<57344))
def stepF (s:List UInt8) (i n r0 least:Nat):Int×Nat:=if conts s i n&&isRune least (rv s i r0 n) then ((rv s i r0 n:Nat),n+1) else (-1,1)
def stepR (s:List UInt8) (i:Nat):Int×Nat:=
 let b:=byt s i
 if b<128 then (b,1) else if 192≤b∧b<224 then stepF s i 1 (b - 192) 128 else if 224≤b∧b<240 then stepF s i 2 (b - 224) 2048 else if 240≤b∧b<248 then stepF s i 3 (b - 240) 65536 else (-1,1)
theorem byt_at {s:List UInt8} {i:Nat} (h:i<s.length):byt s i=s[i].toNat:=by unfold byt;rw [List.getElem?_eq_getElem h]
theorem byt_lt (s:List UInt8) (i:Nat):byt s i<256:=by
 unfold byt;split
 ·rename_i b _;exact b.toNat_lt
 ·omega
theorem byt_out {s:List UInt8} {i:Nat} (h: ¬i<s.length):byt s i=0:=by unfold byt;rw [List.getElem?_eq_none (by omega)]
theorem stepF1 (s:List UInt8) (i r0 least:Nat):stepF s i 1 r0 least=if cont s (i+1)&&isRune least (64*r0+(byt s (i+1) - 128)) then (((64*r0+(byt s (i+1) - 128):Nat):Int),2) else (-1,1):=rfl
theorem stepF2 (s:List UInt8) (i r0 least:Nat):stepF s i 2 r0 least=if (cont s (i+1)&&cont s (i+2))&&isRune least (64*(64*r0+(byt s (i+1) - 128))+(byt s (i+2) - 128)) then (((64*(64*r0+(byt s (i+1) - 128))+(byt s (i+2) - 128):Nat):Int),3) else (-1,1):=rfl
theorem stepF3 (s:List UInt8) (i r0 least:Nat):stepF s i 3 r0 least=if ((cont s (i+1)&&cont s (i+2))&&cont s (i+3))&&isRune least (64*(64*(64*r0+(byt s (i+1) - 128))+(byt s (i+2) - 128))+(byt s (i+3) - 128)) then (((64*(64*(64*r0+(byt s (i+1) - 128))+(byt s (i+2) - 128))+(byt s (i+3) - 128):Nat):Int),4) else (-1,1):=rfl
theorem stepF_pos (s:List UInt8) (i n r0 least:Nat):1≤(stepF s i n r0 least).2:=by unfold stepF;split<;>simp
theorem stepR_pos (s:List UInt8) (i:Nat):1≤(stepR s i).2:=by
 unfold stepR
 simp only
 split
 ·simp
 ·split
  ·exact stepF_pos ..
  ·split
   ·exact stepF_pos ..
   ·split
    ·exact stepF_pos ..
    ·simp
def runesL (s:List UInt8) (i:Nat):List Int:=if h:i<s.length then (stepR s i).1::runesL s (i+(stepR s i).2) else []
termination_by s.length - i
decreasing_by have:=stepR_pos s i;omega
theorem runesL_in {s:List UInt8} {i:Nat} (h:i<s.length):runesL s i=(stepR s i).1::runesL s (i+(stepR s i).2):=by rw [runesL,dif_pos h]
theorem runesL_out {s:List UInt8} {i:Nat} (h: ¬i<s.length):runesL s i=[]:=by rw [runesL,dif_neg h]
theorem get_byt {s:List UInt8} {j:Nat} (h:j<s.length):((ByteArray.mk s.toArray).get! j).toNat=byt s j:=by rw [nget_at s j h,byt_at h]
theorem cont_iff {s:List UInt8} {j:Nat}:cont s j=true↔j<s.length∧byt s j / 64=2:=by
 unfold cont
 rw [decide_eq_true_eq]
 constructor
 ·intro h
  rcases Nat.lt_or_ge j s.length with h1|h1
  ·exact ⟨h1,by omega⟩
  ·rw [byt_out (by omega)] at h;omega
 ·intro h;omega
theorem step_rune (s:List UInt8) (i:Nat) (h:i<s.length):runeAt s i=(if (stepR s i).1= -1 then (65533,1) else stepR s i):=by
 have hb:(ByteArray.mk s.toArray).size=s.length:=by simp [ByteArray.size]
 have c: ∀k,(decide (i+k<(ByteArray.mk s.toArray).size)&&((ByteArray.mk s.toArray).get! (i+k)).toNat / 64==2)=cont s (i+k):=by
  intro k
  rw [Bool.eq_iff_iff,cont_iff,hb]
  simp only [Bool.and_eq_true,decide_eq_true_eq,beq_iff_eq]
  constructor
  ·rintro ⟨h1,h2⟩;rw [get_byt h1] at h2;exact ⟨h1,h2⟩
  ·rintro ⟨h1,h2⟩;rw [get_byt h1];exact ⟨h1,h2⟩
 have e0:((ByteArray.mk s.toArray).get! (i+0)).toNat=byt s i:=get_byt (by omega)
 have bl:=byt_lt s i
 unfold runeAt Utf8.decode
 simp only [e0,c,Utf8.runeError]
 unfold stepR
 simp only
 by_cases h1:byt s i<128
 ·have h2: ¬((byt s i:Nat):Int)= -1:=by omega
  simp only [h1,if_true,h2,if_false]
 ·simp only [h1,if_false]
  have d1:(byt s i / 32==6)=decide (192≤byt s i∧byt s i<224):=by rw [Bool.eq_iff_iff];simp;omega
  have d2:(byt s i / 16==14)=decide (224≤byt s i∧byt s i<240):=by rw [Bool.eq_iff_iff];simp;omega
  have d3:(byt s i / 8==30)=decide (240≤byt s i∧byt s i<248):=by rw [Bool.eq_iff_iff];simp;omega
  rw [d1,d2,d3]
  by_cases r1:192≤byt s i∧byt s i<224
  ·have r2: ¬(224≤byt s i∧byt s i<240):=by omega
   have r3: ¬(240≤byt s i∧byt s i<248):=by omega
   simp only [r1,r2,r3,and_self,decide_true,decide_false,Bool.true_and,Bool.false_and,if_true,if_false,Bool.false_eq_true]
   rw [stepF1]
   cases c1:cont s (i+1)
   ·simp
   ·obtain ⟨l1,q1⟩:=cont_iff.1 c1
    simp only [if_true,Bool.true_and,get_byt l1]
    have b1:=byt_lt s (i+1)
    generalize byt s (i+1)=y at *
    generalize byt s i=x at *
    by_cases z:isRune 128 (64*(x - 192)+(y - 128))=true
    ·have zz:=z
     unfold isRune at zz
     rw [decide_eq_true_eq] at zz
     have e:x%32*64+y%64=64*(x - 192)+(y - 128):=by omega
     simp only [z,e,if_true]
     rw [if_neg (show ¬((64*(x - 192)+(y - 128):Nat):Int)= -1 by omega),if_pos (by omega)]
    ·have zz:=z
     unfold isRune at zz
     rw [decide_eq_true_eq] at zz
     have hz: ¬(x%32*64+y%64≥128):=by omega
     simp only [z,hz,Bool.false_eq_true,if_false]
     simp
  ·by_cases r2:224≤byt s i∧byt s i<240
   ·have r3: ¬(240≤byt s i∧byt s i<248):=by omega
    simp only [r1,r2,r3,and_self,decide_true,decide_false,Bool.true_and,Bool.false_and,if_true,if_false,Bool.false_eq_true]
    rw [stepF2]
    cases c1:cont s (i+1)
    ·simp
    ·cases c2:cont s (i+2)
     ·simp
     ·obtain ⟨l1,q1⟩:=cont_iff.1 c1
      obtain ⟨l2,q2⟩:=cont_iff.1 c2
      simp only [if_true,Bool.true_and,Bool.and_self,get_byt l1,get_byt l2]
      have b1:=byt_lt s (i+1)
      have b2:=byt_lt s (i+2)
      try rw [get_byt l2]
      generalize byt s (i+2)=w at *
      generalize byt s (i+1)=y at *
      generalize byt s i=x at *
      by_cases z:isRune 2048 (64*(64*(x - 224)+(y - 128))+(w - 128))=true
      ·have zz:=z
       unfold isRune at zz
       rw [decide_eq_true_eq] at zz
       have e:x%16*4096+y%64*64+w%64=64*(64*(x - 224)+(y - 128))+(w - 128):=by omega
       simp only [z,e,if_true]
       rw [if_neg (show ¬((64*(64*(x - 224)+(y - 128))+(w - 128):Nat):Int)= -1 by omega),if_pos (by simp [Utf8.valid];omega)]
      ·have zz:=z
       unfold isRune at zz
       rw [decide_eq_true_eq] at zz
       have hz:(decide (x%16*4096+y%64*64+w%64≥2048)&&Utf8.valid ((x%16*4096+y%64*64+w%64:Nat):Int))=false:=by
        rw [Bool.eq_false_iff];simp [Utf8.valid];omega
       simp only [z,hz,Bool.false_eq_true,if_false]
       simp
   ·by_cases r3:240≤byt s i∧byt s i<248
    ·simp only [r1,r2,r3,and_self,decide_true,decide_false,Bool.true_and,Bool.false_and,if_true,if_false,Bool.false_eq_true]
     rw [stepF3]
     cases c1:cont s (i+1)
     ·simp
     ·cases c2:cont s (i+2)
      ·simp
      ·cases c3:cont s (i+3)
       ·simp
       ·obtain ⟨l1,q1⟩:=cont_iff.1 c1
        obtain ⟨l2,q2⟩:=cont_iff.1 c2
        obtain ⟨l3,q3⟩:=cont_iff.1 c3
        simp only [if_true,Bool.true_and,Bool.and_self,get_byt l1]
        have b1:=byt_lt s (i+1)
        have b2:=byt_lt s (i+2)
        have b3:=byt_lt s (i+3)
        try simp only [get_byt l2,get_byt l3]
        generalize byt s (i+3)=t at *
        generalize byt s (i+2)=w at *
        generalize byt s (i+1)=y at *
        generalize byt s i=x at *
        by_cases z:isRune 65536 (64*(64*(64*(x - 240)+(y - 128))+(w - 128))+(t - 128))=true
        ·have zz:=z
         unfold isRune at zz
         rw [decide_eq_true_eq] at zz
         have e:x%8*262144+y%64*4096+w%64*64+t%64=64*(64*(64*(x - 240)+(y - 128))+(w - 128))+(t - 128):=by omega
         simp only [z,e,if_true]
         rw [if_neg (show ¬((64*(64*(64*(x - 240)+(y - 128))+(w - 128))+(t - 128):Nat):Int)= -1 by omega),if_pos (by simp [Utf8.valid];omega)]
        ·have zz:=z
         unfold isRune at zz
         rw [decide_eq_true_eq] at zz
         have hz:(decide (x%8*262144+y%64*4096+w%64*64+t%64≥65536)&&Utf8.valid ((x%8*262144+y%64*4096+w%64*64+t%64:Nat):Int))=false:=by
          rw [Bool.eq_false_iff];simp [Utf8.valid];omega
         simp only [z,hz,Bool.false_eq_true,if_false]
         simp
    ·simp [r1,r2,r3]
open Go.Proofs
abbrev i3 (n:Int):AV:= .int .i32 n
def runeRows (l:List Int):List (List AV):=l.map fun r=>[i3 r]
theorem runeRows_snoc (l:List Int) (r:Int):runeRows (l++[r])=runeRows l++[[i3 r]]:=by simp [runeRows]
theorem runeRows_len (l:List Int):(runeRows l).length=l.length:=by simp [runeRows]
theorem runeRows_one (l:List Int): ∀r∈runeRows l,r.length=1:=by
 intro r hr
 obtain ⟨m,_,rfl⟩:=List.mem_map.1 hr
 rfl
theorem wrap_i32' {n:Int} (h1: -2147483648≤n) (h2:n<2147483648):IntKind.i32.wrap n=n:=by
 have e1:(2:Int)^32=4294967296:=by decide
 have e2:(2:Int)^(32 - 1)=2147483648:=by decide
 have:IntKind.i32.wrap n=if (true&&decide (n%2^32≥2^(32 - 1)))=true then n%2^32 - 2^32 else n%2^32:=rfl
 rw [this]
 simp only [e1,e2,Bool.true_and,decide_eq_true_eq]
 split<;>omega
theorem conts_le {s:List UInt8} {i:Nat}: ∀ {n k:Nat},k≤n→conts s i n=true→conts s i k=true
 |0,k,h,hc=>by rw [show k=0 by omega];rfl
 |n+1,k,h,hc=>by
  simp only [conts,Bool.and_eq_true] at hc
  by_cases e:k=n+1
  ·rw [e];simp only [conts,hc,Bool.and_self]
  ·exact conts_le (by omega) hc.1
theorem rv_bound (s:List UInt8) (i r0:Nat) (h0:r0<32):rv s i r0 0<32∧rv s i r0 1<2048+128∧rv s i r0 2<139264+128∧rv s i r0 3<8921088+128:=by
 have b1:=byt_lt s (i+1)
 have b2:=byt_lt s (i+2)
 have b3:=byt_lt s (i+3)
 have e1:rv s i r0 1=64*r0+(byt s (i+1) - 128):=rfl
 have e2:rv s i r0 2=64*rv s i r0 1+(byt s (i+2) - 128):=rfl
 have e3:rv s i r0 3=64*rv s i r0 2+(byt s (i+3) - 128):=rfl
 have e0:rv s i r0 0=r0:=rfl
 omega
theorem runes_step {s:List UInt8} {i:Nat} {out:List Int} {R:List Int} (h:i<s.length) (hR:out++runesL s i=R):(out++[(stepR s i).1])++runesL s (i+(stepR s i).2)=R:=by
 rw [←hR,runesL_in h];simp
def AC.part:List Nat→AC→AC
 |[],c=>c
 |0::p,.sq a _=>a.part p
 |1::p,.sq _ b=>b.part p
 |2::p,.bl _ a=>a.part p
 |2::p,.lp a=>a.part p
 |_,c=>c
def AC.cutIn:List Nat→AC→AC→AC
 |[],T,_=>T
 |0::p,T,.sq a b=> .sq (AC.cutIn p T a) b
 |1::p,T,.sq a b=> .sq a (AC.cutIn p T b)
 |2::p,T,.bl i a=> .bl i (AC.cutIn p T a)
 |2::p,T,.lp a=> .lp (AC.cutIn p T a)
 |_,_,c=>c
def rsT:AC:=AC.part [1,1,1,0,2,2,1,2,1,1,1,1] c60
def rsU:AC:=AC.part [1,1] rsT
def resU (ok:Bool) (n r least:Nat):Int×Nat:=if ok&&isRune least r then ((r:Int),n+1) else (-1,1)
theorem rsU_spec (s:List UInt8) (i n r least:Nat) (ok:Bool) (out:List Int) (hi:i≤1000000) (hn:n≤3) (ho:out.length≤1000000) (Q:AE→St→Prop)
  (hQ: ∀e,e= .n∨e= .x 1→ ∀σ',Weak σ' ⟨[(0,.str s),(3,.sl (runeRows (out++[(resU ok n r least).1]))),(4,i6 (i+(resU ok n r least).2:Nat))],[],[(.s 3,1)]⟩→Q e σ')
  (e:List (Nat×AV)) (h0:lk e 0= .str s) (h3:lk e 3= .sl (runeRows out)) (h4:lk e 4=i6 i) (h5:lk e 5=i3 r) (h6:lk e 6=i6 n) (h7:lk e 7=i3 least) (h8:lk e 8= .bool ok):
  wpA (SpH Tryz.prog gl) rsU Q ⟨e,[],[(.s 3,1)]⟩:=by
 have hlim:lim=140737488355328:=rfl
 have ec:rsU=AC.part [1,1] (AC.part [1,1,1,0,2,2,1,2,1,1,1,1] c60):=rfl
 rw [ec]
 simp only [c60,AC.part]
 have one:=runeRows_one out
 have rl:=runeRows_len out
 have t1:IntKind.i64.wrap ((i:Int)+1)=(i+1:Nat):=by rw [wrap_i64]<;>omega
 have t3:IntKind.i64.wrap ((i:Int)+1+n)=(i:Int)+(n+1):=by rw [wrap_i64]<;>omega
 have hw:(out.length+1)*4≤140737488355328:=by omega
 rw [runeRows_snoc] at hQ
 generalize runeRows out=L at *
 have bad:isRune least r=false∨ok=false→resU ok n r least=(-1,1):=by
  intro h;unfold resU;rcases h with h|h<;>simp [h]
 have good:isRune least r=true→ok=true→resU ok n r least=((r:Int),n+1):=by
  intro h h';unfold resU;simp [h,h']
 generalize resU ok n r least=res at *
 have hb:isRune least r=false∨ok=false→ ∀e,e= .n∨e= .x 1→ ∀σ',Weak σ' ⟨[(0,.str s),(3,.sl (L++[[i3 (-1)]])),(4,i6 (i+1:Nat))],[],[(.s 3,1)]⟩→Q e σ':=by
  intro h
  have:=bad h
  subst this
  exact hQ
 cases ok with
 |false=>
  have hb:=hb (.inr rfl)
  clear hQ bad good
  simp -implicitDefEqProofs [h8,h3,hlim,rl,h4]
  refine ⟨hw,one,hb _ (.inr rfl) _ (weak_mk ?_ ?_ ?_ ?_ ?_ ?_)⟩<;>simp -implicitDefEqProofs [h0,t1]
 |true=>
  by_cases z:isRune least r=true
  ·have:=good z rfl
   subst this
   clear hb bad good
   unfold isRune at z
   rw [decide_eq_true_eq] at z
   have z1: ¬r<least:=by omega
   have z1': ¬(r:Int)<least:=by omega
   have z2: ¬(1114111:Int)<r:=by omega
   by_cases z3:(55296:Int)≤r
   ·have z4: ¬(r:Int)<57344:=by omega
    simp -implicitDefEqProofs [h8,h5,h7,z1,z1',z2,z3,z4,h3,hlim,rl,h4,h6]
    refine ⟨hw,one,hQ _ (.inl rfl) _ (weak_mk ?_ ?_ ?_ ?_ ?_ ?_)⟩<;>simp -implicitDefEqProofs [h0,t1,t3]
   ·simp [h8,h5,h7,z1,z1',z2,z3,h3,hlim,rl,h4,h6]
    refine ⟨hw,one,hQ _ (.inl rfl) _ (weak_mk ?_ ?_ ?_ ?_ ?_ ?_)⟩<;>simp -implicitDefEqProofs [h0,t1,t3]
  ·have hb:=hb (.inl (by simpa using z))
   clear hQ bad good
   unfold isRune at z
   rw [decide_eq_true_eq] at z
   by_cases z1:r<least
   ·have z1':(r:Int)<least:=by omega
    simp -implicitDefEqProofs [h8,h5,h7,z1,z1',h3,hlim,rl,h4,h6]
    refine ⟨hw,one,hb _ (.inr rfl) _ (weak_mk ?_ ?_ ?_ ?_ ?_ ?_)⟩<;>simp -implicitDefEqProofs [h0,t1]
   ·have z1': ¬(r:Int)<least:=by omega
    by_cases z2:(1114111:Int)<r
    ·simp [h8,h5,h7,z1,z1',z2,h3,hlim,rl,h4,h6]
     refine ⟨hw,one,hb _ (.inr rfl) _ (weak_mk ?_ ?_ ?_ ?_ ?_ ?_)⟩<;>simp -implicitDefEqProofs [h0,t1]
    ·have z3:(55296:Int)≤r:=by omega
     have z4:(r:Int)<57344:=by omega
     simp -implicitDefEqProofs [h8,h5,h7,z1,z1',z2,z3,z4,h3,hlim,rl,h4,h6]
     refine ⟨hw,one,hb _ (.inr rfl) _ (weak_mk ?_ ?_ ?_ ?_ ?_ ?_)⟩<;>simp -implicitDefEqProofs [h0,t1]
def stepG (s:List UInt8) (i n r0 least:Nat):Int×Nat:=if n=0 then (-1,1) else stepF s i n r0 least
theorem rsT_spec (s:List UInt8) (i n r0 least:Nat) (out:List Int) (hi:i≤1000000) (hn:n≤3) (h32:n=0∨r0<32) (ho:out.length≤1000000) (hsl:s.length≤1000000) (Q:AE→St→Prop)
  (hQ: ∀e,e= .n∨e= .x 1→ ∀σ',Weak σ' ⟨[(0,.str s),(3,.sl (runeRows (out++[(stepG s i n r0 least).1]))),(4,i6 (i+(stepG s i n r0 least).2:Nat))],[],[(.s 3,1)]⟩→Q e σ')
  (e:List (Nat×AV)) (h0:lk e 0= .str s) (h3:lk e 3= .sl (runeRows out)) (h4:lk e 4=i6 i) (h5:lk e 5=i3 r0) (h6:lk e 6=i6 n) (h7:lk e 7=i3 least):
  wpA (SpH Tryz.prog gl) rsT Q ⟨e,[],[(.s 3,1)]⟩:=by
 have ec:rsT=AC.cutIn [1,1] rsU rsT:=rfl
 rw [ec]
 have U:=rsU_spec s i n
 generalize rsU=t at U ⊢
 have eT:rsT=AC.part [1,1,1,0,2,2,1,2,1,1,1,1] c60:=rfl
 rw [eT]
 simp only [c60,AC.part,AC.cutIn]
 have good:n≠0→conts s i n=true→ ∀e,lk e 0= .str s→lk e 3= .sl (runeRows out)→lk e 4=i6 i→lk e 5=i3 (rv s i r0 n)→lk e 6=i6 n→lk e 7=i3 least→lk e 8= .bool true→wpA (SpH Tryz.prog gl) t Q ⟨e,[],[(.s 3,1)]⟩:=by
  intro hn0 hc e g0 g3 g4 g5 g6 g7 g8
  refine U (rv s i r0 n) least true out hi hn ho Q ?_ e g0 g3 g4 g5 g6 g7 g8
  have er:resU true n (rv s i r0 n) least=stepG s i n r0 least:=by
   unfold resU stepG stepF
   rw [if_neg hn0,hc]
  rw [er];exact hQ
 have bad: ∀r,(n=0∨conts s i n=false)→ ∀e,lk e 0= .str s→lk e 3= .sl (runeRows out)→lk e 4=i6 i→lk e 5=i3 (r:Nat)→lk e 6=i6 n→lk e 7=i3 least→lk e 8= .bool false→wpA (SpH Tryz.prog gl) t Q ⟨e,[],[(.s 3,1)]⟩:=by
  intro r hc e g0 g3 g4 g5 g6 g7 g8
  refine U r least false out hi hn ho Q ?_ e g0 g3 g4 g5 g6 g7 g8
  have er:resU false n r least=stepG s i n r0 least:=by
   unfold resU stepG stepF
   rcases hc with rfl|hc
   ·rw [if_pos rfl];rfl
   ·by_cases h:n=0
    ·rw [if_pos h];rfl
    ·rw [if_neg h,hc];rfl
  rw [er];exact hQ
 clear U hQ
 generalize runeRows out=L at *
 have hn0:(0:Int)<n↔n≠0:=by omega
 have hok:decide ((0:Int)<n)=decide (n≠0):=by rw [Bool.eq_iff_iff];simp;omega
 simp -implicitDefEqProofs [h6]
 refine wp_lpk (α:=Nat) (fun k=>⟨[(0,.str s),(3,.sl L),(4,i6 i),(5,i3 (rv s i r0 k)),(6,i6 n),(7,i3 least),(8,.bool (decide (0<n))),(9,i6 (k+1:Nat))],[],[(.s 3,1)]⟩)
  (fun k=>k≤n∧conts s i k=true) (fun k=>n - k) ?_ 0 ?_ ?_
 ·rintro K k hK ⟨h1,h2⟩
  by_cases g:k<n
  ·have gI:(k:Int)+1≤n:=by omega
   have t1:IntKind.i64.wrap ((i:Int)+((k:Int)+1))=(i+(k+1):Nat):=by rw [wrap_i64]<;>omega
   have t2:IntKind.i64.wrap ((k:Int)+1+1)=(k+1+1:Nat):=by rw [wrap_i64]<;>omega
   have fin:cont s (i+(k+1))=true→ ∀σ',Weak σ' ⟨[(0,.str s),(3,.sl L),(4,i6 i),(5,i3 (rv s i r0 (k+1))),(6,i6 n),(7,i3 least),(8,.bool (decide (0<n))),(9,i6 (k+1+1:Nat))],[],[(.s 3,1)]⟩→K σ':=
    fun hc σ' hσ=>hK (k+1) σ' ⟨by omega,by simp only [conts,h2,hc,Bool.and_self]⟩ (by omega) hσ
   have badk:cont s (i+(k+1))=false→conts s i n=false:=fun hc=>by
    rw [Bool.eq_false_iff];intro h
    have:=conts_le (show k+1≤n by omega) h
    simp only [conts,hc,Bool.and_false] at this;cases this
   by_cases l1:i+(k+1)<s.length
   ·have l1': ¬((s.length:Int)≤(i:Int)+((k:Int)+1)):=by omega
    have tn:((i:Int)+((k:Int)+1)).toNat=i+(k+1):=by omega
    have tp:(0:Int)≤(i:Int)+((k:Int)+1):=by omega
    have hb:=byt_at l1
    have rvs:rv s i r0 (k+1)=64*rv s i r0 k+(byt s (i+(k+1)) - 128):=rfl
    have hcd:cont s (i+(k+1))=decide (128≤byt s (i+(k+1))∧byt s (i+(k+1))≤191):=rfl
    have rk:rv s i r0 k<139264+128:=by
     obtain ⟨b0,b1,b2,b3⟩:=rv_bound s i r0 (h32.resolve_left (by omega))
     rcases (by omega:k=0∨k=1∨k=2) with rfl|rfl|rfl<;>omega
    rw [rvs] at fin
    obtain ⟨x,hx⟩: ∃x,s[i+(k+1)]=x:=⟨_,rfl⟩
    rw [hx] at hb
    rw [hb] at hcd fin
    clear hb rvs hK
    generalize rv s i r0 k=r at *
    by_cases x1:(x.toNat:Int)<128
    ·have bb:=bad r (.inr (badk (by rw [hcd,decide_eq_false_iff_not];omega)))
     clear fin bad good badk
     simp -implicitDefEqProofs [gI,t1,l1,l1',tn,tp,hx,x1]
     refine bb _ ?_ ?_ ?_ ?_ ?_ ?_ ?_<;>simp -implicitDefEqProofs
    ·by_cases x2:(191:Int)<x.toNat
     ·have bb:=bad r (.inr (badk (by rw [hcd,decide_eq_false_iff_not];omega)))
      clear fin bad good badk
      simp -implicitDefEqProofs [gI,t1,l1,l1',tn,tp,hx,x1,x2]
      refine bb _ ?_ ?_ ?_ ?_ ?_ ?_ ?_<;>simp -implicitDefEqProofs
     ·have fin:=fin (by rw [hcd,decide_eq_true_eq];omega)
      have w1:IntKind.i32.wrap (64*(r:Int))=(64*r:Nat):=by rw [wrap_i32']<;>omega
      have w2:IntKind.i32.wrap (x.toNat:Int)=x.toNat:=by rw [wrap_i32']<;>omega
      have w3:IntKind.i32.wrap (((64*r:Nat):Int)+x.toNat)=(64*r+x.toNat:Nat):=by rw [wrap_i32']<;>omega
      have w4:IntKind.i32.wrap (((64*r+x.toNat:Nat):Int) - 128)=(64*r+(x.toNat - 128):Nat):=by rw [wrap_i32']<;>omega
      clear bad good badk hcd
      generalize 64*r+(x.toNat - 128)=r' at *
      generalize 64*r+x.toNat=r2 at *
      generalize 64*r=r1 at *
      simp -implicitDefEqProofs [gI,t1,l1,l1',tn,tp,hx,x1,x2]
      refine fin _ (weak_mk ?_ ?_ ?_ ?_ ?_ ?_)<;>simp -implicitDefEqProofs [w1,w2,w3,w4,t2]
   ·have l1':((s.length:Int)≤((i+(k+1):Nat):Int)):=by omega
    have hb:=byt_out l1
    have hcd:cont s (i+(k+1))=decide (128≤byt s (i+(k+1))∧byt s (i+(k+1))≤191):=rfl
    have bb:=bad (rv s i r0 k) (.inr (badk (by rw [hcd,hb];rfl)))
    clear fin bad good badk hK
    generalize rv s i r0 k=r at *
    have l1n:(s.length:Int)≤(i:Int)+((k:Int)+1):=by omega
    simp -implicitDefEqProofs [gI,t1,l1,l1',l1n]
    refine bb _ ?_ ?_ ?_ ?_ ?_ ?_ ?_<;>simp -implicitDefEqProofs
  ·obtain rfl:k=n:=by omega
   have gI: ¬(k:Int)+1≤k:=by omega
   clear hK
   by_cases hz:k=0
   ·have bb:=bad (rv s i r0 k) (.inl hz)
    clear bad good
    generalize rv s i r0 k=r at *
    simp -implicitDefEqProofs [gI]
    refine bb _ ?_ ?_ ?_ ?_ ?_ ?_ ?_<;>simp -implicitDefEqProofs [hz]
   ·have gg:=good hz h2
    clear bad good
    have hz':0<k:=by omega
    generalize rv s i r0 k=r at *
    simp -implicitDefEqProofs [gI]
    refine gg _ ?_ ?_ ?_ ?_ ?_ ?_ ?_<;>simp -implicitDefEqProofs [hz']
 ·exact ⟨Nat.zero_le _,rfl⟩
 ·refine weak_mk ?_ ?_ ?_ ?_ ?_ ?_<;>simp -implicitDefEqProofs [h0,h3,h4,h5,h6,h7,show rv s i r0 0=r0 from rfl]
open Go.Proofs
theorem runesL_len (s:List UInt8): ∀(n i:Nat),s.length - i≤n→(runesL s i).length≤n
 |0,i,h=>by rw [runesL_out (by omega)];simp
 |n+1,i,h=>by
  by_cases hi:i<s.length
  ·rw [runesL_in hi]
   have:=stepR_pos s i
   have:=runesL_len s n (i+(stepR s i).2) (by omega)
   simp only [List.length_cons];omega
  ·rw [runesL_out hi];simp
theorem stepR_lt {s:List UInt8} {i:Nat} (h:i<s.length):i+(stepR s i).2≤s.length+3:=by
 have hF: ∀n r0 least,n≤3→(stepF s i n r0 least).2≤4:=by
  intro n r0 least hn
  unfold stepF;split
  ·simp only;omega
  ·simp
 have h1:=hF 1 (byt s i - 192) 128 (by omega)
 have h2:=hF 2 (byt s i - 224) 2048 (by omega)
 have h3:=hF 3 (byt s i - 240) 65536 (by omega)
 unfold stepR
 simp only
 split
 ·simp only;omega
 ·split
  ·omega
  ·split
   ·omega
   ·split
    ·omega
    ·simp only;omega
theorem runes_spec (s:List UInt8) (hl:s.length≤900000):Sp Tryz.prog gl 60 [.str s] (.sl (runeRows (runesL s 0))):=by
 refine s60 rfl rfl ?_
 have hlim:lim=140737488355328:=rfl
 have ec:c60=AC.cutIn [1,1,1,0,2,2,1,2,1,1,1,1] rsT c60:=rfl
 rw [ec]
 have T:=fun i n r0 least out=>rsT_spec s i n r0 least out
 generalize rsT=t at T ⊢
 simp only [c60,AC.cutIn]
 obtain ⟨R,hR⟩: ∃R,runesL s 0=R:=⟨_,rfl⟩
 rw [hR]
 simp -implicitDefEqProofs
 refine wp_lpk (α:=Nat×List Int) (fun x=>⟨[(0,.str s),(3,.sl (runeRows x.2)),(4,i6 x.1)],[],[(.s 3,1)]⟩)
  (fun x=>x.1≤s.length+3∧x.2.length≤x.1∧x.2++runesL s x.1=R) (fun x=>s.length+4 - x.1) ?_ (0,[]) ?_ ?_
 ·rintro K ⟨i,out⟩ hK ⟨h1,h2,h3⟩
  simp only at h1 h2 h3
  by_cases g:i<s.length
  ·have st:=runes_step g h3
   have sl:=stepR_lt g
   have sp:=stepR_pos s i
   have fin: ∀σ',Weak σ' ⟨[(0,.str s),(3,.sl (runeRows (out++[(stepR s i).1]))),(4,i6 (i+(stepR s i).2:Nat))],[],[(.s 3,1)]⟩→K σ':=
    fun σ' hσ=>hK (i+(stepR s i).2,out++[(stepR s i).1]) σ' ⟨by simp only;omega,by simp only [List.length_append,List.length_cons,List.length_nil];omega,st⟩ (by simp only;omega) hσ
   have hb:=byt_at g
   have hx255:=byt_lt s i
   have er:stepR s i=(if byt s i<128 then ((byt s i:Int),1) else if 192≤byt s i∧byt s i<224 then stepF s i 1 (byt s i - 192) 128 else if 224≤byt s i∧byt s i<240 then stepF s i 2 (byt s i - 224) 2048 else if 240≤byt s i∧byt s i<248 then stepF s i 3 (byt s i - 240) 65536 else (-1,1)):=rfl
   rw [hb] at er hx255
   obtain ⟨y,hy⟩: ∃y,s[i]=y:=⟨_,rfl⟩
   rw [hy] at er hx255
   have w0:IntKind.i32.wrap (y.toNat:Int)=y.toNat:=by rw [wrap_i32']<;>omega
   have T':=fun n r0 least hn h32 Q=>T i n r0 least out (by omega) hn h32 (by omega) (by omega) Q
   have one:=runeRows_one out
   have rl:=runeRows_len out
   have hw:(out.length+1)*4≤140737488355328:=by omega
   clear hK st hb T h3 sl sp
   by_cases x1:(y.toNat:Int)<128
   ·have x1n:y.toNat<128:=by omega
    rw [if_pos x1n] at er
    rw [er] at fin
    have t1:IntKind.i64.wrap ((i:Int)+1)=(i+1:Nat):=by rw [wrap_i64]<;>omega
    simp only [runeRows_snoc] at fin
    clear er
    generalize runeRows out=L at *
    simp -implicitDefEqProofs [g,hy,w0,x1,hlim,rl]
    refine ⟨hw,one,fin _ (weak_mk ?_ ?_ ?_ ?_ ?_ ?_)⟩<;>simp -implicitDefEqProofs [t1]
   ·have x1n: ¬y.toNat<128:=by omega
    rw [if_neg x1n] at er
    by_cases c1:(192:Int)≤y.toNat∧(y.toNat:Int)<224
    ·have c1n:192≤y.toNat∧y.toNat<224:=by omega
     rw [if_pos c1n] at er
     have eg:stepG s i 1 (y.toNat - 192) 128=stepR s i:=by rw [er];rfl
     have T':=T' 1 (y.toNat - 192) 128 (by omega) (.inr (by omega))
     rw [eg] at T'
     have w1:IntKind.i32.wrap ((y.toNat:Int) - 192)=(y.toNat - 192:Nat):=by rw [wrap_i32']<;>omega
     clear er eg
     generalize (stepR s i).1=s1 at *
     generalize (stepR s i).2=s2 at *
     simp -implicitDefEqProofs [g,hy,w0,x1,c1.1,c1.2]
     refine T' _ ?_ _ ?_ ?_ ?_ ?_ ?_ ?_
     ·rintro e (rfl|rfl) σ' hσ
      ·simp;exact fin _ hσ
      ·simp;exact fin _ hσ
     all_goals simp -implicitDefEqProofs [w1]
    ·have c1n: ¬(192≤y.toNat∧y.toNat<224):=by omega
     rw [if_neg c1n] at er
     by_cases c2:(224:Int)≤y.toNat∧(y.toNat:Int)<240
     ·have c2n:224≤y.toNat∧y.toNat<240:=by omega
      rw [if_pos c2n] at er
      have eg:stepG s i 2 (y.toNat - 224) 2048=stepR s i:=by rw [er];rfl
      have T':=T' 2 (y.toNat - 224) 2048 (by omega) (.inr (by omega))
      rw [eg] at T'
      have w1:IntKind.i32.wrap ((y.toNat:Int) - 224)=(y.toNat - 224:Nat):=by rw [wrap_i32']<;>omega
      have c3:(192:Int)≤y.toNat:=by omega
      have c4: ¬(y.toNat:Int)<224:=by omega
      clear er eg
      generalize (stepR s i).1=s1 at *
      generalize (stepR s i).2=s2 at *
      simp -implicitDefEqProofs [g,hy,w0,x1,c2.1,c2.2,c3,c4]
      refine T' _ ?_ _ ?_ ?_ ?_ ?_ ?_ ?_
      ·rintro e (rfl|rfl) σ' hσ
       ·simp;exact fin _ hσ
       ·simp;exact fin _ hσ
      all_goals simp -implicitDefEqProofs [w1]
     ·have c2n: ¬(224≤y.toNat∧y.toNat<240):=by omega
      rw [if_neg c2n] at er
      by_cases c5:(240:Int)≤y.toNat∧(y.toNat:Int)<248
      ·have c5n:240≤y.toNat∧y.toNat<248:=by omega
       rw [if_pos c5n] at er
       have eg:stepG s i 3 (y.toNat - 240) 65536=stepR s i:=by rw [er];rfl
       have T':=T' 3 (y.toNat - 240) 65536 (by omega) (.inr (by omega))
       rw [eg] at T'
       have w1:IntKind.i32.wrap ((y.toNat:Int) - 240)=(y.toNat - 240:Nat):=by rw [wrap_i32']<;>omega
       have c3:(192:Int)≤y.toNat:=by omega
       have c4: ¬(y.toNat:Int)<224:=by omega
       have c6:(224:Int)≤y.toNat:=by omega
       have c7: ¬(y.toNat:Int)<240:=by omega
       clear er eg
       generalize (stepR s i).1=s1 at *
       generalize (stepR s i).2=s2 at *
       simp -implicitDefEqProofs [g,hy,w0,x1,c5.1,c5.2,c3,c4,c6,c7]
       refine T' _ ?_ _ ?_ ?_ ?_ ?_ ?_ ?_
       ·rintro e (rfl|rfl) σ' hσ
        ·simp;exact fin _ hσ
        ·simp;exact fin _ hσ
       all_goals simp -implicitDefEqProofs [w1]
      ·have c5n: ¬(240≤y.toNat∧y.toNat<248):=by omega
       rw [if_neg c5n] at er
       have T':=T' 0 y.toNat 0 (by omega) (.inl rfl)
       have eg:stepG s i 0 y.toNat 0=stepR s i:=by rw [er];rfl
       rw [eg] at T'
       have hx:y.toNat<192∨248≤y.toNat:=by omega
       clear er eg
       generalize (stepR s i).1=s1 at *
       generalize (stepR s i).2=s2 at *
       rcases hx with hx|hx
       ·have c3: ¬(192:Int)≤y.toNat:=by omega
        have c4: ¬(224:Int)≤y.toNat:=by omega
        have c6: ¬(240:Int)≤y.toNat:=by omega
        simp -implicitDefEqProofs [g,hy,w0,x1,c3,c4,c6]
        refine T' _ ?_ _ ?_ ?_ ?_ ?_ ?_ ?_
        ·rintro e (rfl|rfl) σ' hσ
         ·simp;exact fin _ hσ
         ·simp;exact fin _ hσ
        all_goals simp -implicitDefEqProofs
       ·have c3:(192:Int)≤y.toNat:=by omega
        have c4: ¬(y.toNat:Int)<224:=by omega
        have c6:(224:Int)≤y.toNat:=by omega
        have c7: ¬(y.toNat:Int)<240:=by omega
        have c8:(240:Int)≤y.toNat:=by omega
        have c9: ¬(y.toNat:Int)<248:=by omega
        simp -implicitDefEqProofs [g,hy,w0,x1,c3,c4,c6,c7,c8,c9]
        refine T' _ ?_ _ ?_ ?_ ?_ ?_ ?_ ?_
        ·rintro e (rfl|rfl) σ' hσ
         ·simp;exact fin _ hσ
         ·simp;exact fin _ hσ
        all_goals simp -implicitDefEqProofs
  ·have ro:=runesL_out g
   rw [ro,List.append_nil] at h3
   subst h3
   clear hK T ro
   simp -implicitDefEqProofs [g]
 ·exact ⟨Nat.zero_le _,Nat.le_refl _,by simpa using hR⟩
 ·refine weak_mk ?_ ?_ ?_ ?_ ?_ ?_<;>simp -implicitDefEqProofs [runeRows]
open Go.Proofs
theorem dle_t {a b:Int} (h:a≤b):decide (a≤b)=true:=decide_eq_true h
theorem dle_f {a b:Int} (h:b<a):decide (a≤b)=false:=decide_eq_false (by omega)
theorem dlt_t {a b:Int} (h:a<b):decide (a<b)=true:=decide_eq_true h
theorem dlt_f {a b:Int} (h:b≤a):decide (a<b)=false:=decide_eq_false (by omega)
theorem beq_t {a b:Int} (h:a=b):(a==b)=true:=by rw [beq_iff_eq];exact h
theorem beq_f {a b:Int} (h:a<b∨b<a):(a==b)=false:=by rw [beq_eq_false_iff_ne];omega
theorem bne_t {a b:Int} (h:a<b∨b<a):(a !=b)=true:=by rw [bne_iff_ne];omega
theorem bne_f {a b:Int} (h:a=b):(a !=b)=false:=by simp [h]
def letter (r:Int):Bool:=decide ((97≤r∧r≤122)∨(65≤r∧r≤90)∨(192≤r∧r≤591∧r≠215∧r≠247)∨(880≤r∧r≤1279))
def digR (r:Int):Bool:=decide (48≤r∧r≤57)
theorem letter_cases (r:Int):(r<65∧letter r=false)∨(65≤r∧r≤90∧letter r=true)∨(90<r∧r<97∧letter r=false)∨(97≤r∧r≤122∧letter r=true)∨(122<r∧r<192∧letter r=false)∨
  (192≤r∧r<215∧letter r=true)∨(r=215∧letter r=false)∨(215<r∧r<247∧letter r=true)∨(r=247∧letter r=false)∨(247<r∧r≤591∧letter r=true)∨
  (591<r∧r<880∧letter r=false)∨(880≤r∧r≤1279∧letter r=true)∨(1279<r∧letter r=false):=by
 unfold letter
 simp only [decide_eq_true_eq,decide_eq_false_iff_not]
 omega
theorem rletter_spec (r:Int):Sp Tryz.prog gl 91 [i3 r] (.bool (letter r)):=by
 refine s91 rfl rfl ?_
 rcases letter_cases r with ⟨h1,h2⟩|⟨h1,h2,h3⟩|⟨h1,h2,h3⟩|⟨h1,h2,h3⟩|⟨h1,h2,h3⟩|⟨h1,h2,h3⟩|⟨h1,h3⟩|⟨h1,h2,h3⟩|⟨h1,h3⟩|⟨h1,h2,h3⟩|⟨h1,h2,h3⟩|⟨h1,h2,h3⟩|⟨h1,h3⟩
 ·rw [h2];simp -implicitDefEqProofs (disch:=omega) [c91,dle_t,dle_f,dlt_t,dlt_f,beq_t,beq_f,bne_t,bne_f]
 all_goals (rw [h3];simp -implicitDefEqProofs (disch:=omega) [c91,dle_t,dle_f,dlt_t,dlt_f,beq_t,beq_f,bne_t,bne_f])
theorem tletter_spec (r:Int):Sp Tryz.prog gl 67 [i3 r] (.bool (letter r)):=by
 refine s67 rfl rfl ?_
 rcases letter_cases r with ⟨h1,h2⟩|⟨h1,h2,h3⟩|⟨h1,h2,h3⟩|⟨h1,h2,h3⟩|⟨h1,h2,h3⟩|⟨h1,h2,h3⟩|⟨h1,h3⟩|⟨h1,h2,h3⟩|⟨h1,h3⟩|⟨h1,h2,h3⟩|⟨h1,h2,h3⟩|⟨h1,h2,h3⟩|⟨h1,h3⟩
 ·rw [h2];simp -implicitDefEqProofs (disch:=omega) [c67,dle_t,dle_f,dlt_t,dlt_f,beq_t,beq_f,bne_t,bne_f]
 all_goals (rw [h3];simp -implicitDefEqProofs (disch:=omega) [c67,dle_t,dle_f,dlt_t,dlt_f,beq_t,beq_f,bne_t,bne_f])
theorem tdigit_spec (r:Int):Sp Tryz.prog gl 68 [i3 r] (.bool (digR r)):=by
 refine s68 rfl rfl ?_
 unfold digR
 by_cases h1:48≤r
 ·simp [c68,h1]
 ·simp [c68,h1]
def nameGo:Nat→Int→List Int→Bool
 |n,last,[]=>decide (0<n∧n≤24)&&(letter last||digR last)
 |n,last,r::l=>(letter r||(decide (n≠0)&&(digR r||r==95||r==45)))&&nameGo (n+1) r l
def nameT (s:List UInt8):Bool:=nameGo 0 32 (runesL s 0)
theorem tname_spec (s:List UInt8) (hl:s.length≤900000):Sp Tryz.prog gl 43 [.str s] (.bool (nameT s)):=by
 refine s43 rfl rfl ?_
 obtain ⟨R,hR⟩: ∃R,R=nameT s:=⟨_,rfl⟩
 rw [←hR]
 unfold nameT at hR
 simp -implicitDefEqProofs [c43]
 refine wp_lpk (α:=Nat×Nat×Int) (fun x=>⟨[(0,.str s),(3,i6 x.2.1),(4,i3 x.2.2),(9,.itp 9)],[(.it 9,[.itr s x.1])],[]⟩)
  (fun x=>x.2.1≤x.1∧(x.2.1=0↔x.1=0)∧nameGo x.2.1 x.2.2 (runesL s x.1)=R∧x.1≤s.length+3) (fun x=>s.length+4 - x.1) ?_ (0,0,32) ?_ ?_
 ·rintro K ⟨i,n,last⟩ hK ⟨h1,h2,h3,h4⟩
  simp only at h1 h2 h3 h4
  by_cases g:i<s.length
  ·rw [runesL_in g] at h3
   simp only [nameGo] at h3
   have sr:=step_rune s i g
   have sl:=stepR_lt g
   have sp:=stepR_pos s i
   have fin:nameGo (n+1) (stepR s i).1 (runesL s (i+(stepR s i).2))=R→ ∀σ',Weak σ' ⟨[(0,.str s),(3,i6 (n+1:Nat)),(4,i3 (stepR s i).1),(9,.itp 9)],[(.it 9,[.itr s (i+(stepR s i).2)])],[]⟩→K σ':=
    fun hh σ' hσ=>hK (i+(stepR s i).2,n+1,(stepR s i).1) σ' ⟨by simp only;omega,by simp only;omega,hh,by simp only;omega⟩ (by simp only;omega) hσ
   have t1:IntKind.i64.wrap ((n:Int)+1)=(n+1:Nat):=by rw [wrap_i64]<;>omega
   clear hK hR
   by_cases hb:(stepR s i).1= -1
   ·rw [if_pos hb] at sr
    rw [hb] at h3
    have:R=false:=by
     rw [←h3]
     have:(letter (-1)||(decide (n≠0)&&(digR (-1)||(-1:Int)==95||(-1:Int)==45)))=false:=by cases decide (n≠0)<;>rfl
     rw [this];rfl
    subst this
    have L1:=tletter_spec 65533
    have D1:=tdigit_spec 65533
    rw [show letter 65533=false from rfl] at L1
    rw [show digR 65533=false from rfl] at D1
    clear h3 fin
    by_cases hi:i=0
    ·subst hi
     simp -implicitDefEqProofs [g,sr]
     refine onC_mk _ L1 ?_
     simp -implicitDefEqProofs
    ·have hi':0<i:=by omega
     simp -implicitDefEqProofs [g,sr]
     refine onC_mk _ L1 ?_
     simp -implicitDefEqProofs [hi']
     refine onC_mk _ D1 ?_
     simp -implicitDefEqProofs
   ·rw [if_neg hb] at sr
    have L1:=tletter_spec (stepR s i).1
    have D1:=tdigit_spec (stepR s i).1
    have esr:(stepR s i)=((stepR s i).1,(stepR s i).2):=rfl
    rw [esr] at sr
    generalize nameGo (n+1) (stepR s i).1 (runesL s (i+(stepR s i).2))=R2 at *
    clear esr hb
    generalize (stepR s i).1=r at *
    generalize (stepR s i).2=w at *
    have hn0:decide (n≠0)=decide (0<i):=by rw [Bool.eq_iff_iff];simp;omega
    rw [hn0] at h3
    cases hlt:letter r
    ·rw [hlt] at h3 L1
     by_cases hi:0<i
     ·cases hd:digR r
      ·rw [hd] at h3 D1
       by_cases e1:r=95
       ·have:=fin (by rw [←h3];simp [hi,e1])
        simp -implicitDefEqProofs (disch:=omega) [g,sr,beq_t,beq_f,e1]
        rw [e1] at L1 D1
        refine onC_mk _ L1 ?_
        simp -implicitDefEqProofs [hi]
        refine onC_mk _ D1 ?_
        simp -implicitDefEqProofs
        refine this _ (weak_mk ?_ ?_ ?_ ?_ ?_ ?_)<;>simp -implicitDefEqProofs [t1,e1]
       ·by_cases e2:r=45
        ·have:=fin (by rw [←h3];simp [hi,e2])
         simp -implicitDefEqProofs (disch:=omega) [g,sr,e2]
         rw [e2] at L1 D1
         refine onC_mk _ L1 ?_
         simp -implicitDefEqProofs [hi]
         refine onC_mk _ D1 ?_
         simp -implicitDefEqProofs
         refine this _ (weak_mk ?_ ?_ ?_ ?_ ?_ ?_)<;>simp -implicitDefEqProofs [t1,e2]
        ·have b1:(r==95)=false:=by rw [beq_eq_false_iff_ne];exact e1
         have b2:(r==45)=false:=by rw [beq_eq_false_iff_ne];exact e2
         have:R=false:=by rw [←h3,b1,b2];simp
         subst this
         simp -implicitDefEqProofs [g,sr]
         refine onC_mk _ L1 ?_
         simp -implicitDefEqProofs [hi]
         refine onC_mk _ D1 ?_
         simp -implicitDefEqProofs [b1,b2]
      ·rw [hd] at h3 D1
       have:=fin (by rw [←h3];simp [hi])
       simp -implicitDefEqProofs [g,sr]
       refine onC_mk _ L1 ?_
       simp -implicitDefEqProofs [hi]
       refine onC_mk _ D1 ?_
       simp -implicitDefEqProofs
       refine this _ (weak_mk ?_ ?_ ?_ ?_ ?_ ?_)<;>simp -implicitDefEqProofs [t1]
     ·have:R=false:=by rw [←h3];simp [hi]
      subst this
      simp -implicitDefEqProofs [g,sr]
      refine onC_mk _ L1 ?_
      simp -implicitDefEqProofs [hi]
    ·rw [hlt] at h3 L1
     have:=fin (by rw [←h3];simp)
     simp -implicitDefEqProofs [g,sr]
     refine onC_mk _ L1 ?_
     simp -implicitDefEqProofs
     refine this _ (weak_mk ?_ ?_ ?_ ?_ ?_ ?_)<;>simp -implicitDefEqProofs [t1]
  ·rw [runesL_out g] at h3
   simp only [nameGo] at h3
   have L1:=tletter_spec last
   have D1:=tdigit_spec last
   clear hK hR h2
   by_cases n0:0<n
   ·by_cases n1:n≤24
    ·have n1':(n:Int)≤24:=by omega
     rw [decide_eq_true (show 0<n∧n≤24 from ⟨n0,n1⟩),Bool.true_and] at h3
     cases hlt:letter last
     ·rw [hlt,Bool.false_or] at h3
      rw [hlt] at L1
      rw [h3] at D1
      simp -implicitDefEqProofs [g,n0,n1']
      refine onC_mk _ L1 ?_
      simp -implicitDefEqProofs
      refine onC_mk _ D1 ?_
      simp -implicitDefEqProofs
     ·rw [hlt] at h3 L1
      have:R=true:=by rw [←h3];rfl
      subst this
      simp -implicitDefEqProofs [g,n0,n1']
      refine onC_mk _ L1 ?_
      simp -implicitDefEqProofs
    ·have n1': ¬(n:Int)≤24:=by omega
     rw [decide_eq_false (show ¬(0<n∧n≤24) by omega)] at h3
     subst h3
     simp -implicitDefEqProofs [g,n0,n1']
   ·rw [decide_eq_false (show ¬(0<n∧n≤24) by omega)] at h3
    subst h3
    simp -implicitDefEqProofs [g,n0]
 ·exact ⟨Nat.le_refl _,by simp,hR.symm,by simp⟩
 ·refine weak_mk ?_ ?_ ?_ ?_ ?_ ?_<;>simp -implicitDefEqProofs
open Go.Proofs
structure Sc where
 out:List Tk
 st:Int
 sa:Nat
 fl:Int
 fc:Int
 al:Int
 ac:Int
 cd:Int
 xl:Int
 xc:Int
def scB (s:List UInt8) (x:Sc):List AV:=[.str s,.sl (x.out.map Tk.row),i6 x.st,i6 x.sa,i6 x.fl,i6 x.fc,i6 x.al,i6 x.ac,i6 x.cd,i6 x.xl,i6 x.xc]
def Sc.begin (x:Sc) (i:Nat) (st:Int):Sc:={x with sa:=i,st:=st,fl:=x.al,fc:=x.ac}
def Sc.wrong (x:Sc) (e:Int):Sc:={x with cd:=e,xl:=x.fl,xc:=x.fc}
inductive TV where
 |e (c:Int)
 |t (k:Int) (w:List UInt8) (n:Nat)
def TV.av:TV→AV
 | .e c=> .ifc 28 (i6 c)
 | .t k w n=> .ifc 55 (.agg [i6 k,.str w,u n,i6 0,i6 0])
def TV.ok:TV→Bool
 | .e _=>false
 | .t _ _ _=>true
def Sc.add (x:Sc):TV→Sc
 | .e c=>x.wrong c
 | .t k w n=>{x with out:=x.out++[⟨k,w,n,x.fl,x.fc⟩],st:=0}
theorem tk_five (l:List Tk): ∀r∈l.map Tk.row,r.length=5:=by
 intro r hr
 obtain ⟨_,_,rfl⟩:=List.mem_map.1 hr
 rfl
theorem sbegin_spec (s:List UInt8) (x:Sc) (i:Nat) (st:Int) (d:Nat) (b:Id) (hb:b.isIt=false) (hbd:b.isNw d=false):
  SpH Tryz.prog gl 75 d ⟨[.ptr b 0,i6 i,i6 st],[(b,scB s x)],[(.b b 1,5)]⟩ ⟨.tup [],[(b,scB s (x.begin i st))],[(.b b 1,5)]⟩:=by
 refine h75 rfl ?_
 have hib:=inn_notNw hbd
 unfold scB Sc.begin
 generalize x.out.map Tk.row=L at *
 simp only [inSt,mpB,mpL,AV.mp,mpP,Pl.mp]
 simp -implicitDefEqProofs [c75]
 refine postH_r ⟨?_,?_,?_,?_,?_,?_⟩<;>simp -implicitDefEqProofs [hib,hb]
theorem swrong_spec (s:List UInt8) (x:Sc) (e:Int) (d:Nat) (b:Id) (hb:b.isIt=false) (hbd:b.isNw d=false):
  SpH Tryz.prog gl 76 d ⟨[.ptr b 0,i6 e],[(b,scB s x)],[(.b b 1,5)]⟩ ⟨.bool false,[(b,scB s (x.wrong e))],[(.b b 1,5)]⟩:=by
 refine h76 rfl ?_
 have hib:=inn_notNw hbd
 unfold scB Sc.wrong
 generalize x.out.map Tk.row=L at *
 simp only [inSt,mpB,mpL,AV.mp,mpP,Pl.mp]
 simp -implicitDefEqProofs [c76]
 refine postH_r ⟨?_,?_,?_,?_,?_,?_⟩<;>simp -implicitDefEqProofs [hib,hb]
theorem sadd_spec (s:List UInt8) (x:Sc) (hl:x.out.length≤1000000) (v:TV) (d:Nat) (b:Id) (hb:b.isIt=false) (hbd:b.isNw d=false):
  SpH Tryz.prog gl 108 d ⟨[.ptr b 0,v.av],[(b,scB s x)],[(.b b 1,5)]⟩ ⟨.bool v.ok,[(b,scB s (x.add v))],[(.b b 1,5)]⟩:=by
 refine h108 rfl ?_
 have hib:=inn_notNw hbd
 have hlim:lim=140737488355328:=rfl
 cases v with
 |e c=>
  have W:=fun e=>swrong_spec s x c e (.up b) hb
  unfold scB Sc.wrong at W
  unfold scB Sc.add Sc.wrong TV.av TV.ok
  generalize x.out.map Tk.row=L at *
  simp only [inSt,mpB,mpL,AV.mp,mpP,Pl.mp]
  simp -implicitDefEqProofs [c108]
  refine onH_mk _ _ (W _ rfl) ⟨?_,?_,?_,?_,?_,?_,?_⟩ ?_
  iterate 7 (· simp [hb])
  simp -implicitDefEqProofs
  refine postH_r ⟨?_,?_,?_,?_,?_,?_⟩<;>simp -implicitDefEqProofs [hib,hb]
 |t k w n=>
  have h5:=tk_five x.out
  have hll:((x.out.map Tk.row).length+1)*48≤140737488355328:=by simp;omega
  have he:(x.out++[(⟨k,w,n,x.fl,x.fc⟩:Tk)]).map Tk.row=x.out.map Tk.row++[[i6 k,.str w,u n,i6 x.fl,i6 x.fc]]:=by simp [Tk.row]
  unfold scB Sc.add TV.av TV.ok
  simp only [he]
  clear he
  generalize x.out.map Tk.row=L at *
  simp only [inSt,mpB,mpL,AV.mp,mpP,Pl.mp]
  simp -implicitDefEqProofs [c108,hlim]
  refine ⟨hll,h5,?_⟩
  refine postH_r ⟨?_,?_,?_,?_,?_,?_⟩<;>simp -implicitDefEqProofs [hib,hb]
open Go.Proofs
def nxt:List Tk→List Tk
 |_::y::r=>y::r
 |l=>l
def paB (l:List Tk) (n:Nat):List AV:=[.sl (l.map Tk.row),i6 n]
theorem pnext_spec (t:Tk) (r:List Tk) (n:Nat) (d:Nat) (b:Id) (hb:b.isIt=false) (hbd:b.isNw d=false):
  SpH Tryz.prog gl 79 d ⟨[.ptr b 0],[(b,paB (t::r) n)],[]⟩ ⟨.agg t.row,[(b,paB (nxt (t::r)) n)],[]⟩:=by
 refine h79 rfl ?_
 have hib:=inn_notNw hbd
 obtain ⟨k,s,m,ln,co⟩:=t
 cases r with
 |nil=>
  simp only [nxt,paB,List.map_cons,List.map_nil,Tk.row,inSt,mpB,mpL,AV.mp,mpP,Pl.mp]
  simp -implicitDefEqProofs [c79]
  refine postH_r ⟨?_,?_,?_,?_,?_,?_⟩<;>simp -implicitDefEqProofs [hib,hb]
 |cons y r=>
  simp only [nxt,paB,List.map_cons,List.map_nil,Tk.row,inSt,mpB,mpL,AV.mp,mpP,Pl.mp]
  have h1:=tk_five r
  have hl:(1:Int)<((List.map Tk.row r).length:Int)+1+1:=by omega
  generalize List.map Tk.row r=L at *
  have hk:((L.length:Int)+1+1).toNat=L.length+1+1:=by omega
  have hg:(1:Int)≤(L.length:Int)+1+1:=by omega
  simp -implicitDefEqProofs [c79,hl,hk]
  refine ⟨hg,h1,?_⟩
  refine postH_r ⟨?_,?_,?_,?_,?_,?_⟩<;>simp -implicitDefEqProofs [hib,hb]
def fltV (c:Int) (t:Tk):AV:= .ifc 35 (.agg [i6 c,i6 t.ln,i6 t.co])
theorem throw_spec (c:Int) (t:Tk) (d:Nat):SpT Tryz.prog gl 80 d ⟨[i6 c,.agg t.row],[],[]⟩ ⟨fltV c t,[],[]⟩:=by
 refine t80 rfl ?_
 obtain ⟨k,s,m,ln,co⟩:=t
 simp only [Tk.row,fltV,inSt,mpB,mpL,AV.mp,mpP,Pl.mp]
 simp -implicitDefEqProofs [c80]
 refine ⟨rfl,by simp,⟨?_,?_,?_,?_,?_,?_⟩⟩<;>simp -implicitDefEqProofs
end Go.Ai
namespace Go.Ai
inductive Pr (α:Type) where
 |ok (a:α) (l:List Tk) (n:Nat)
 |th (c:Int) (t:Tk) (l:List Tk) (n:Nat)
 |no
mutual
def pL:Nat→Nat→Int→List It→List Tk→Nat→Pr (List It)
 |0,_,_,_,_,_=> .no
 |_+1,_,_,_,[],_=> .no
 |f+1,d,e,out,t::r,n=>
  if t.k=e then .ok out (nxt (t::r)) n
  else if t.k≠1 then .th 6 t (nxt (t::r)) n
  else if 4<d then .th 19 t (nxt (t::r)) n
  else if n=300 then .th 9 t (nxt (t::r)) n
  else match pI f d t.t t.ln t.co [] (nxt (t::r)) (n+1) with
   | .ok x l' n'=>pL f d e (out++[x]) l' n'
   | .th c t l' n'=> .th c t l' n'
   | .no=> .no
def pI:Nat→Nat→List UInt8→Int→Int→List Tk→List Tk→Nat→Pr It
 |0,_,_,_,_,_,_,_=> .no
 |_+1,_,_,_,_,_,[],_=> .no
 |f+1,d,nm,ln,co,ws,t::r,n=>
  if t.k=9 then .ok (.mk nm ws false [] ln co) (nxt (t::r)) n
  else if t.k=7 then match pL f (d+1) 8 [] (nxt (t::r)) n with
   | .ok ks l' n'=> .ok (.mk nm ws true ks ln co) l' n'
   | .th c t l' n'=> .th c t l' n'
   | .no=> .no
  else if t.k<1∨6<t.k then .th 6 t (nxt (t::r)) n
  else if ws.length=6 then .th 9 t (nxt (t::r)) n
  else pI f d nm ln co (ws++[t]) (nxt (t::r)) n
end
theorem p_cnt: ∀f:Nat,(∀d e out l n o l' n',pL f d e out l n= .ok o l' n'→n≤300→out.length≤n→n≤n'∧n'≤300∧o.length≤n')∧(∀d nm ln co ws l n x l' n',pI f d nm ln co ws l n= .ok x l' n'→n≤300→n≤n'∧n'≤300)
 |0=>⟨fun d e out l n o l' n' h _ _=>by simp [pL] at h,fun d nm ln co ws l n x l' n' h _=>by simp [pI] at h⟩
 |f+1=>by
  obtain ⟨ihL,ihI⟩:=p_cnt f
  refine ⟨fun d e out l n o l' n' h hn ho=>?_,fun d nm ln co ws l n x l' n' h hn=>?_⟩
  ·cases l with
   |nil=>simp [pL] at h
   |cons t r=>
    rw [pL] at h
    split at h
    ·cases h;exact ⟨Nat.le_refl _,hn,ho⟩
    split at h
    ·cases h
    split at h
    ·cases h
    split at h
    ·cases h
    rename_i c4
    split at h
    ·rename_i x l2 n2 he
     have h1:=ihI _ _ _ _ _ _ _ _ _ _ he (by omega)
     have h2:=ihL _ _ _ _ _ _ _ _ h h1.2 (by rw [List.length_append,List.length_singleton];omega)
     exact ⟨by omega,h2.2⟩
    ·cases h
    ·cases h
  ·cases l with
   |nil=>simp [pI] at h
   |cons t r=>
    rw [pI] at h
    split at h
    ·cases h;exact ⟨Nat.le_refl _,hn⟩
    split at h
    ·split at h
     ·rename_i ks l2 n2 he
      cases h
      have:=ihL _ _ _ _ _ _ _ _ he hn (Nat.zero_le _)
      exact ⟨this.1,this.2.1⟩
     ·cases h
     ·cases h
    split at h
    ·cases h
    split at h
    ·cases h
    exact ihI _ _ _ _ _ _ _ _ _ _ h hn
end Go.Ai
