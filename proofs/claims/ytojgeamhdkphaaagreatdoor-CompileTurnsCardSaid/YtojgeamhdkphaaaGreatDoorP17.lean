/- P17: a part of the proof. Conditions: as each theorem says. -/
import Derived.Test.YtojgeamhdkphaaaGreatDoorP16
set_option maxHeartbeats 4000000
set_option linter.unusedSimpArgs false
set_option linter.unusedVariables false
set_option maxRecDepth 20000
namespace Go.Ai
open Go.Proofs
def bf:List UInt8:=[111,98,106,101,99,116,105,118,101,32,97,32,123,32,116,97,114,103,101,116,32,57,57,46,57,37,59,32,114,117,108,101,32,114,32,112,97,103,101,32,123,32,108,111,110,103,32,49,104,59,32,115,104,111,114,116,32,53,109,59,32,102,97,99,116,111,114,32,49,52,46,52,59,32,125,32,125]
def Ud:List Tk:=[⟨1,[111,98,106,101,99,116,105,118,101],0,1,1⟩,⟨1,[97],0,1,11⟩,⟨7,[],0,1,13⟩,⟨1,[116,97,114,103,101,116],0,1,15⟩,⟨5,[],999000,1,22⟩,⟨9,[],0,1,27⟩,⟨1,[114,117,108,101],0,1,29⟩,⟨1,[114],0,1,34⟩,⟨1,[112,97,103,101],0,1,36⟩,⟨7,[],0,1,41⟩,⟨1,[108,111,110,103],0,1,43⟩,⟨6,[],3600,1,48⟩,⟨9,[],0,1,50⟩,⟨1,[115,104,111,114,116],0,1,52⟩,⟨6,[],300,1,58⟩,⟨9,[],0,1,60⟩,⟨1,[102,97,99,116,111,114],0,1,62⟩,⟨4,[],14400,1,69⟩,⟨9,[],0,1,73⟩,⟨8,[],0,1,75⟩,⟨8,[],0,1,77⟩,⟨0,[],0,1,78⟩]
def bD (k st sa fc ac:Nat):Sc:=⟨Ud.take k,st,sa,1,fc,1,ac,0,0,0⟩

theorem HP:vR [57,57,46,57,37]=57:=zu _ 57 _ rfl (by decide)
theorem HQ:sV [57,57,46,57,37]= .t 5 [] 999000:=by
 unfold sV;have hs:Fq [57,57,46,57,37]=(999000,0):=by
  unfold Fq;rw[if_neg (by decide),if_pos (by decide)];have e:(dk [57,57,46,57,37] [37]).drop (((dk [57,57,46,57,37] [37]).takeWhile (cM 46)).length+1)=[57]:=by decide
  have e2:(dk [57,57,46,57,37] [37]).takeWhile (cM 46)=[57,57]:=by decide
  have e3:eG [57,57]=(99,true):=by
   unfold eG;rw[lU [57,57] _ (by decide) (by decide),if_pos (by decide),if_neg (by decide)];rfl
  rw[e,e2,e3,lU [57] _ (by decide) (by decide)];rfl
 rw[HP,if_neg (by decide),if_neg (by decide),if_pos (by decide),hs];rfl
theorem ON:vR [49,104]=49:=zu _ 49 _ rfl (by decide)
theorem OO:sV [49,104]= .t 6 [] 3600:=by
 unfold sV;have hs:jC [49,104]=(3600,0):=by
  unfold jC;rw[if_neg (by simp),lU [49,104] _ (by decide) (by decide)];rfl
 rw[ON,if_neg (by decide),if_neg (by decide),if_neg (by decide),if_neg (by decide),hs];rfl
theorem OP:vR [53,109]=53:=zu _ 53 _ rfl (by decide)
theorem OQ:sV [53,109]= .t 6 [] 300:=by
 unfold sV;have hs:jC [53,109]=(300,0):=by
  unfold jC;rw[if_neg (by simp),lU [53,109] _ (by decide) (by decide)];rfl
 rw[OP,if_neg (by decide),if_neg (by decide),if_neg (by decide),if_neg (by decide),hs];rfl
theorem KL:vR [49,52,46,52]=49:=zu _ 49 _ rfl (by decide)
theorem KM:sV [49,52,46,52]= .t 4 [] 14400:=by
 unfold sV;rw[KL,if_neg (by decide),if_neg (by decide),if_neg (by decide),if_pos (by decide)];rfl
set_option maxRecDepth 100000 in
theorem zR:qk sV sU bf=⟨Ud,0,0,0⟩:=by
 have v0:=oe [] [111,98,106,101,99,116,105,118,101] 111 _ rfl (by decide) (by decide) (ed [111,98,106,101,99,116,105,118,101] _ (by decide) (by decide) (by decide));have v1:=oe [] [97] 97 _ rfl (by decide) (by decide) (ed [97] _ (by decide) (by decide) (by decide));have v2:=oe [] [116,97,114,103,101,116] 116 _ rfl (by decide) (by decide) (ed [116,97,114,103,101,116] _ (by decide) (by decide) (by decide));have v3:=HQ;have v4:=oe [] [114,117,108,101] 114 _ rfl (by decide) (by decide) (ed [114,117,108,101] _ (by decide) (by decide) (by decide));have v5:=oe [] [114] 114 _ rfl (by decide) (by decide) (ed [114] _ (by decide) (by decide) (by decide));have v6:=oe [] [112,97,103,101] 112 _ rfl (by decide) (by decide) (ed [112,97,103,101] _ (by decide) (by decide) (by decide));have v7:=oe [] [108,111,110,103] 108 _ rfl (by decide) (by decide) (ed [108,111,110,103] _ (by decide) (by decide) (by decide));have v8:=OO;have v9:=oe [] [115,104,111,114,116] 115 _ rfl (by decide) (by decide) (ed [115,104,111,114,116] _ (by decide) (by decide) (by decide));have v10:=OQ;have v11:=oe [] [102,97,99,116,111,114] 102 _ rfl (by decide) (by decide) (ed [102,97,99,116,111,114] _ (by decide) (by decide) (by decide));have v12:=KM;have R:eO sV sU bf xB 0=((bD 21 0 76 77 78),true):=by
  refine (aF sV sU bf (bD 0 0 0 1 1) _ (bD 0 1 0 1 2) 0 111 rfl (by decide) rfl rfl).trans ?_;refine (aF sV sU bf (bD 0 1 0 1 2) _ (bD 0 1 0 1 3) 1 98 rfl (by decide) rfl rfl).trans ?_;refine (aF sV sU bf (bD 0 1 0 1 3) _ (bD 0 1 0 1 4) 2 106 rfl (by decide) rfl rfl).trans ?_;refine (aF sV sU bf (bD 0 1 0 1 4) _ (bD 0 1 0 1 5) 3 101 rfl (by decide) rfl rfl).trans ?_;refine (aF sV sU bf (bD 0 1 0 1 5) _ (bD 0 1 0 1 6) 4 99 rfl (by decide) rfl rfl).trans ?_;refine (aF sV sU bf (bD 0 1 0 1 6) _ (bD 0 1 0 1 7) 5 116 rfl (by decide) rfl rfl).trans ?_;refine (aF sV sU bf (bD 0 1 0 1 7) _ (bD 0 1 0 1 8) 6 105 rfl (by decide) rfl rfl).trans ?_;refine (aF sV sU bf (bD 0 1 0 1 8) _ (bD 0 1 0 1 9) 7 118 rfl (by decide) rfl rfl).trans ?_;refine (aF sV sU bf (bD 0 1 0 1 9) _ (bD 0 1 0 1 10) 8 101 rfl (by decide) rfl rfl).trans ?_;refine (aF sV sU bf (bD 0 1 0 1 10) _ (bD 1 0 9 10 11) 9 32 rfl (by decide) ((gC rfl rfl v0).trans rfl) rfl).trans ?_;refine (aF sV sU bf (bD 1 0 9 10 11) _ (bD 1 1 10 11 12) 10 97 rfl (by decide) rfl rfl).trans ?_;refine (aF sV sU bf (bD 1 1 10 11 12) _ (bD 2 0 11 12 13) 11 32 rfl (by decide) ((gC rfl rfl v1).trans rfl) rfl).trans ?_;refine (aF sV sU bf (bD 2 0 11 12 13) _ (bD 3 0 12 13 14) 12 123 rfl (by decide) rfl rfl).trans ?_;refine (aF sV sU bf (bD 3 0 12 13 14) _ (bD 3 0 13 14 15) 13 32 rfl (by decide) rfl rfl).trans ?_;refine (aF sV sU bf (bD 3 0 13 14 15) _ (bD 3 1 14 15 16) 14 116 rfl (by decide) rfl rfl).trans ?_;refine (aF sV sU bf (bD 3 1 14 15 16) _ (bD 3 1 14 15 17) 15 97 rfl (by decide) rfl rfl).trans ?_;refine (aF sV sU bf (bD 3 1 14 15 17) _ (bD 3 1 14 15 18) 16 114 rfl (by decide) rfl rfl).trans ?_;refine (aF sV sU bf (bD 3 1 14 15 18) _ (bD 3 1 14 15 19) 17 103 rfl (by decide) rfl rfl).trans ?_;refine (aF sV sU bf (bD 3 1 14 15 19) _ (bD 3 1 14 15 20) 18 101 rfl (by decide) rfl rfl).trans ?_;refine (aF sV sU bf (bD 3 1 14 15 20) _ (bD 3 1 14 15 21) 19 116 rfl (by decide) rfl rfl).trans ?_;refine (aF sV sU bf (bD 3 1 14 15 21) _ (bD 4 0 20 21 22) 20 32 rfl (by decide) ((gC rfl rfl v2).trans rfl) rfl).trans ?_;refine (aF sV sU bf (bD 4 0 20 21 22) _ (bD 4 1 21 22 23) 21 57 rfl (by decide) rfl rfl).trans ?_;refine (aF sV sU bf (bD 4 1 21 22 23) _ (bD 4 1 21 22 24) 22 57 rfl (by decide) rfl rfl).trans ?_;refine (aF sV sU bf (bD 4 1 21 22 24) _ (bD 4 1 21 22 25) 23 46 rfl (by decide) rfl rfl).trans ?_;refine (aF sV sU bf (bD 4 1 21 22 25) _ (bD 4 1 21 22 26) 24 57 rfl (by decide) rfl rfl).trans ?_;refine (aF sV sU bf (bD 4 1 21 22 26) _ (bD 4 1 21 22 27) 25 37 rfl (by decide) rfl rfl).trans ?_;refine (aF sV sU bf (bD 4 1 21 22 27) _ (bD 6 0 26 27 28) 26 59 rfl (by decide) ((gC rfl rfl v3).trans rfl) rfl).trans ?_;refine (aF sV sU bf (bD 6 0 26 27 28) _ (bD 6 0 27 28 29) 27 32 rfl (by decide) rfl rfl).trans ?_;refine (aF sV sU bf (bD 6 0 27 28 29) _ (bD 6 1 28 29 30) 28 114 rfl (by decide) rfl rfl).trans ?_;refine (aF sV sU bf (bD 6 1 28 29 30) _ (bD 6 1 28 29 31) 29 117 rfl (by decide) rfl rfl).trans ?_;refine (aF sV sU bf (bD 6 1 28 29 31) _ (bD 6 1 28 29 32) 30 108 rfl (by decide) rfl rfl).trans ?_;refine (aF sV sU bf (bD 6 1 28 29 32) _ (bD 6 1 28 29 33) 31 101 rfl (by decide) rfl rfl).trans ?_;refine (aF sV sU bf (bD 6 1 28 29 33) _ (bD 7 0 32 33 34) 32 32 rfl (by decide) ((gC rfl rfl v4).trans rfl) rfl).trans ?_;refine (aF sV sU bf (bD 7 0 32 33 34) _ (bD 7 1 33 34 35) 33 114 rfl (by decide) rfl rfl).trans ?_;refine (aF sV sU bf (bD 7 1 33 34 35) _ (bD 8 0 34 35 36) 34 32 rfl (by decide) ((gC rfl rfl v5).trans rfl) rfl).trans ?_;refine (aF sV sU bf (bD 8 0 34 35 36) _ (bD 8 1 35 36 37) 35 112 rfl (by decide) rfl rfl).trans ?_;refine (aF sV sU bf (bD 8 1 35 36 37) _ (bD 8 1 35 36 38) 36 97 rfl (by decide) rfl rfl).trans ?_;refine (aF sV sU bf (bD 8 1 35 36 38) _ (bD 8 1 35 36 39) 37 103 rfl (by decide) rfl rfl).trans ?_;refine (aF sV sU bf (bD 8 1 35 36 39) _ (bD 8 1 35 36 40) 38 101 rfl (by decide) rfl rfl).trans ?_;refine (aF sV sU bf (bD 8 1 35 36 40) _ (bD 9 0 39 40 41) 39 32 rfl (by decide) ((gC rfl rfl v6).trans rfl) rfl).trans ?_;refine (aF sV sU bf (bD 9 0 39 40 41) _ (bD 10 0 40 41 42) 40 123 rfl (by decide) rfl rfl).trans ?_;refine (aF sV sU bf (bD 10 0 40 41 42) _ (bD 10 0 41 42 43) 41 32 rfl (by decide) rfl rfl).trans ?_;refine (aF sV sU bf (bD 10 0 41 42 43) _ (bD 10 1 42 43 44) 42 108 rfl (by decide) rfl rfl).trans ?_;refine (aF sV sU bf (bD 10 1 42 43 44) _ (bD 10 1 42 43 45) 43 111 rfl (by decide) rfl rfl).trans ?_;refine (aF sV sU bf (bD 10 1 42 43 45) _ (bD 10 1 42 43 46) 44 110 rfl (by decide) rfl rfl).trans ?_;refine (aF sV sU bf (bD 10 1 42 43 46) _ (bD 10 1 42 43 47) 45 103 rfl (by decide) rfl rfl).trans ?_;refine (aF sV sU bf (bD 10 1 42 43 47) _ (bD 11 0 46 47 48) 46 32 rfl (by decide) ((gC rfl rfl v7).trans rfl) rfl).trans ?_;refine (aF sV sU bf (bD 11 0 46 47 48) _ (bD 11 1 47 48 49) 47 49 rfl (by decide) rfl rfl).trans ?_;refine (aF sV sU bf (bD 11 1 47 48 49) _ (bD 11 1 47 48 50) 48 104 rfl (by decide) rfl rfl).trans ?_;refine (aF sV sU bf (bD 11 1 47 48 50) _ (bD 13 0 49 50 51) 49 59 rfl (by decide) ((gC rfl rfl v8).trans rfl) rfl).trans ?_;refine (aF sV sU bf (bD 13 0 49 50 51) _ (bD 13 0 50 51 52) 50 32 rfl (by decide) rfl rfl).trans ?_;refine (aF sV sU bf (bD 13 0 50 51 52) _ (bD 13 1 51 52 53) 51 115 rfl (by decide) rfl rfl).trans ?_;refine (aF sV sU bf (bD 13 1 51 52 53) _ (bD 13 1 51 52 54) 52 104 rfl (by decide) rfl rfl).trans ?_;refine (aF sV sU bf (bD 13 1 51 52 54) _ (bD 13 1 51 52 55) 53 111 rfl (by decide) rfl rfl).trans ?_;refine (aF sV sU bf (bD 13 1 51 52 55) _ (bD 13 1 51 52 56) 54 114 rfl (by decide) rfl rfl).trans ?_;refine (aF sV sU bf (bD 13 1 51 52 56) _ (bD 13 1 51 52 57) 55 116 rfl (by decide) rfl rfl).trans ?_;refine (aF sV sU bf (bD 13 1 51 52 57) _ (bD 14 0 56 57 58) 56 32 rfl (by decide) ((gC rfl rfl v9).trans rfl) rfl).trans ?_;refine (aF sV sU bf (bD 14 0 56 57 58) _ (bD 14 1 57 58 59) 57 53 rfl (by decide) rfl rfl).trans ?_;refine (aF sV sU bf (bD 14 1 57 58 59) _ (bD 14 1 57 58 60) 58 109 rfl (by decide) rfl rfl).trans ?_;refine (aF sV sU bf (bD 14 1 57 58 60) _ (bD 16 0 59 60 61) 59 59 rfl (by decide) ((gC rfl rfl v10).trans rfl) rfl).trans ?_;refine (aF sV sU bf (bD 16 0 59 60 61) _ (bD 16 0 60 61 62) 60 32 rfl (by decide) rfl rfl).trans ?_;refine (aF sV sU bf (bD 16 0 60 61 62) _ (bD 16 1 61 62 63) 61 102 rfl (by decide) rfl rfl).trans ?_;refine (aF sV sU bf (bD 16 1 61 62 63) _ (bD 16 1 61 62 64) 62 97 rfl (by decide) rfl rfl).trans ?_;refine (aF sV sU bf (bD 16 1 61 62 64) _ (bD 16 1 61 62 65) 63 99 rfl (by decide) rfl rfl).trans ?_;refine (aF sV sU bf (bD 16 1 61 62 65) _ (bD 16 1 61 62 66) 64 116 rfl (by decide) rfl rfl).trans ?_;refine (aF sV sU bf (bD 16 1 61 62 66) _ (bD 16 1 61 62 67) 65 111 rfl (by decide) rfl rfl).trans ?_;refine (aF sV sU bf (bD 16 1 61 62 67) _ (bD 16 1 61 62 68) 66 114 rfl (by decide) rfl rfl).trans ?_;refine (aF sV sU bf (bD 16 1 61 62 68) _ (bD 17 0 67 68 69) 67 32 rfl (by decide) ((gC rfl rfl v11).trans rfl) rfl).trans ?_;refine (aF sV sU bf (bD 17 0 67 68 69) _ (bD 17 1 68 69 70) 68 49 rfl (by decide) rfl rfl).trans ?_;refine (aF sV sU bf (bD 17 1 68 69 70) _ (bD 17 1 68 69 71) 69 52 rfl (by decide) rfl rfl).trans ?_;refine (aF sV sU bf (bD 17 1 68 69 71) _ (bD 17 1 68 69 72) 70 46 rfl (by decide) rfl rfl).trans ?_;refine (aF sV sU bf (bD 17 1 68 69 72) _ (bD 17 1 68 69 73) 71 52 rfl (by decide) rfl rfl).trans ?_;refine (aF sV sU bf (bD 17 1 68 69 73) _ (bD 19 0 72 73 74) 72 59 rfl (by decide) ((gC rfl rfl v12).trans rfl) rfl).trans ?_;refine (aF sV sU bf (bD 19 0 72 73 74) _ (bD 19 0 73 74 75) 73 32 rfl (by decide) rfl rfl).trans ?_;refine (aF sV sU bf (bD 19 0 73 74 75) _ (bD 20 0 74 75 76) 74 125 rfl (by decide) rfl rfl).trans ?_;refine (aF sV sU bf (bD 20 0 74 75 76) _ (bD 20 0 75 76 77) 75 32 rfl (by decide) rfl rfl).trans ?_;refine (aF sV sU bf (bD 20 0 75 76 77) _ (bD 21 0 76 77 78) 76 125 rfl (by decide) rfl rfl).trans ?_;rw[eO,dif_neg (by decide)]
 unfold qk;rw[if_neg (by decide),R];rfl
def HT:List It:=[.mk [111,98,106,101,99,116,105,118,101] [⟨1,[97],0,1,11⟩] true [.mk [116,97,114,103,101,116] [⟨5,[],999000,1,22⟩] false [] 1 15,.mk [114,117,108,101] [⟨1,[114],0,1,34⟩,⟨1,[112,97,103,101],0,1,36⟩] true [.mk [108,111,110,103] [⟨6,[],3600,1,48⟩] false [] 1 43,.mk [115,104,111,114,116] [⟨6,[],300,1,58⟩] false [] 1 52,.mk [102,97,99,116,111,114] [⟨4,[],14400,1,69⟩] false [] 1 62] 1 29] 1 1]
set_option maxRecDepth 100000 in
theorem EI:BF (qk sV sU bf)=(HT,0,0,0):=by
 rw[zR];rfl
theorem MR:Sp Tryz.prog gl 15 [.str bf] (lS (HT,0,0,0)):=by
 have T:=zi bf (qk sV sU bf) (oH sV sU bf (fun w hw=>mP w (by have:bf.length=77:=rfl;omega)) (fun w hw=>qo w (by have:bf.length=77:=rfl;omega))) (fun _ h=>by rw[zR] at h;cases h);rwa [EI] at T
theorem MT:lv HT:=by
 simp only[HT,lv,Dd];simp
set_option maxRecDepth 100000 in
theorem Vv:dz 0 (cT HT 1)=true:=by
 have n0:dx [111,98,106,101,99,116,105,118,101]=true:=ed [111,98,106,101,99,116,105,118,101] _ (by decide) (by decide) (by decide);have n1:dx [97]=true:=ed [97] _ (by decide) (by decide) (by decide);have n2:dx [116,97,114,103,101,116]=true:=ed [116,97,114,103,101,116] _ (by decide) (by decide) (by decide);have n3:dx [114,117,108,101]=true:=ed [114,117,108,101] _ (by decide) (by decide) (by decide);have n4:dx [114]=true:=ed [114] _ (by decide) (by decide) (by decide);have n5:dx [112,97,103,101]=true:=ed [112,97,103,101] _ (by decide) (by decide) (by decide);have n6:dx [108,111,110,103]=true:=ed [108,111,110,103] _ (by decide) (by decide) (by decide);have n7:dx [115,104,111,114,116]=true:=ed [115,104,111,114,116] _ (by decide) (by decide) (by decide);have n8:dx [102,97,99,116,111,114]=true:=ed [102,97,99,116,111,114] _ (by decide) (by decide) (by decide);have w0:cu ⟨1,[111,98,106,101,99,116,105,118,101],0,1,1⟩=true:=by
  unfold cu sK;rw[if_pos rfl,n0];rfl
 have w1:cu ⟨1,[97],0,1,11⟩=true:=by
  unfold cu sK;rw[if_pos rfl,n1];rfl
 have w3:cu ⟨1,[116,97,114,103,101,116],0,1,15⟩=true:=by
  unfold cu sK;rw[if_pos rfl,n2];rfl
 have w4:cu ⟨5,[],999000,1,22⟩=true:=rfl;have w6:cu ⟨1,[114,117,108,101],0,1,29⟩=true:=by
  unfold cu sK;rw[if_pos rfl,n3];rfl
 have w7:cu ⟨1,[114],0,1,34⟩=true:=by
  unfold cu sK;rw[if_pos rfl,n4];rfl
 have w8:cu ⟨1,[112,97,103,101],0,1,36⟩=true:=by
  unfold cu sK;rw[if_pos rfl,n5];rfl
 have w10:cu ⟨1,[108,111,110,103],0,1,43⟩=true:=by
  unfold cu sK;rw[if_pos rfl,n6];rfl
 have w11:cu ⟨6,[],3600,1,48⟩=true:=rfl;have w13:cu ⟨1,[115,104,111,114,116],0,1,52⟩=true:=by
  unfold cu sK;rw[if_pos rfl,n7];rfl
 have w14:cu ⟨6,[],300,1,58⟩=true:=rfl;have w16:cu ⟨1,[102,97,99,116,111,114],0,1,62⟩=true:=by
  unfold cu sK;rw[if_pos rfl,n8];rfl
 have w17:cu ⟨4,[],14400,1,69⟩=true:=rfl;rw[qJ];have h1:decide (f8 HT<=4)=true:=by decide
 have h2:decide (bJ HT<=300)=true:=by decide
 rw[h1,h2,nC,nC];simp only[HT,BG,Kh,n0,n1,n2,n3,n4,n5,n6,n7,n8,w0,w1,w3,w4,w6,w7,w8,w10,w11,w13,w14,w16,w17,List.all_cons,List.all_nil];rfl
def SH:Gl:=⟨[97],999000,60,0,0,0,[],[⟨[114],true,3600,300,14400,0,0⟩]⟩
set_option maxRecDepth 100000 in
theorem HY:eD 5 true HT=(⟨[SH],16,0,10,300,0⟩,[]):=by rfl
def Dt (x:List It×Int×Int×Int):Cf×List Ft:=if x.2.1≠0 then (NC,[⟨x.2.1,x.2.2.1,x.2.2.2⟩]) else eD 5 (dz 0 (cT x.1 1)) x.1
theorem HZ (s:List UInt8) (x:List It×Int×Int×Int) (TP:Sp Tryz.prog gl 15 [.str s] (lS x)) (hc:bJ x.1<=1000) (hb:lv x.1):Sp Tryz.prog gl 8 [.str s] (BO (Dt x)):=by
 refine s8 rfl rfl ?_;obtain ⟨L,c,a,b⟩:=x;have CO:=kV L 2 (by decide) hc hb;unfold Dt;simp only[lS] at TP;dsimp only at*;by_cases h:c=0
 ·subst h;rw[if_neg (by decide)];unfold BO at*;generalize eD (2+3) (dz 0 (cT L 1)) L=y at*;obtain ⟨y,f⟩:=y;have hy:y.row=[.sl (y.gs.map Gl.row),i6 y.r,i6 y.v,i6 y.i,i6 y.x,i6 y.y]:=rfl;dsimp only at*;rw[hy] at CO ⊢;generalize ab L=RR,y.gs.map Gl.row=GL,f.map Ft.row=FL at*;simp[c8];apply ag TP;simp;apply ag CO;simp
 ·rw[if_pos h];have h':(c !=0)=true:=by simpa using h
  generalize ab L=RR at*;unfold BO;simp[c8];apply ag TP;simp[h,h',NC,Cf.row,Ft.row]
theorem wL:Sp Tryz.prog gl 7 [] (.bool true):=by
 refine s7 rfl rfl ?_;have T:=HZ bf (HT,0,0,0) MR (by decide) MT;have e:Dt (HT,0,0,0)=(⟨[SH],16,0,10,300,0⟩,[]):=by
  unfold Dt;rw[if_neg (by decide),Vv];exact HY
 rw[e] at T;unfold bf BO at T;simp only[Cf.row,SH,fZ,l6,Gl.row,Ru.row] at T;simp[c7];apply ag T;simp
theorem H0 (f:Nat) (r:Bool) (L:List It) (hf:f<=20) (hc:bJ L<=1000):(eD (f+1) r L).1.gs.length<=1000000/\(∀g∈(eD (f+1) r L).1.gs,g.lb.length<=1000000/\g.ru.length<=1000000)/\(eD (f+1) r L).2.length<=1000000:=by
 have h0:=jz L;have hC:=lV (f+1) 0 L;have hF:=mm (f+1) 0 L;have hmul:2*(f+1)*bJ L<=2*21*1000:=Nat.mul_le_mul (by omega) hc;have hm:=Hx (f+1) 0 L;unfold eD;split
 ·exact ⟨jq _,fun g hg=>(by cases hg),by simp⟩
 ·split
  ·exact ⟨Nat.zero_le _,fun g hg=>(by cases hg),by dsimp only;omega⟩
  ·refine ⟨?_,fun g hg=>?_,jq _⟩
   ·show (b9 _ _).length<=_;exact mu (vd _ _) (by omega)
   ·have hg:g∈b9 (au (f+1)) (au (f+1) 0 L).1:=hg;unfold b9 at hg;rw[List.mem_flatMap] at hg;obtain ⟨y,hy,hg⟩:=hg;split at hg
    ·rw[FI] at hg;subst hg;have hk:=lV (f+1) 1 y.kd
     have:=jz y.kd
     have:=zL (hm y hy)
     refine ⟨?_,?_⟩
     ·show (dY _).length<=_;exact mu (Dk _) (by omega)
     ·show (dy _ _).length<=_;exact mu (Dm _ _) (by omega)
    ·cases hg
structure OS (x:Tk):Prop where
 k:1<=x.k/\x.k<=9
 n:x.n<18446744073709551616
 r:sK x.k x.t x.n=true
mutual
def SJ:It->Prop
 | .mk n ws _ ks _ _=>dx n=true/\(∀w∈ws,OS w)/\EJ ks
def EJ:List It->Prop
 |[]=>True
 |x::r=>SJ x/\EJ r
end
theorem H1 (s:List UInt8): ∀n i,s.length - i<=n->i<=s.length->Wk s i (ay s i) s.length
 |0,i,h,hi=>by
  rw[aS (by omega)];show i=s.length;omega
 |n+1,i,h,hi=>by
  by_cases g:i<s.length
  ·rw[bp g]
   have:=cN s i
   exact ⟨g,rfl,H1 s n _ (by omega) (jl s i g)⟩
  ·rw[aS g];show i=s.length;omega
theorem zS (s:List UInt8) (h: ∀r∈ay s 0,r≠ -1):aG (ay s 0)=s:=by
 have:=wW s (ay s 0) 0 s.length (eR _) (H1 s s.length 0 (by omega) (jq _)) h
 rw[tJ,Gc] at this;exact this.symm
theorem sC: ∀(l:List Int) (n:Nat) (la:Int),gu n la l=true-> ∀r∈l,(cR r||(ep r||r==95||r==45))=true
 |[],n,la,h,r,hr=>by cases hr
 |x::l,n,la,h,r,hr=>by
  rw[gu,aJ] at h;rcases nH.1 hr with rfl|hr
  ·have:=h.1
   rw[AG] at this ⊢;rcases this with g|g
   ·exact .inl g
   ·exact .inr (aJ .. ▸g).2
  ·exact sC l (n+1) x h.2 r hr
theorem EK (s:List UInt8) (h:dx s=true): ∀r∈ay s 0,eV r=true:=fun r hr=>by
 have:=sC _ _ _ h r hr
 unfold eV;simp only[AG,cI,qu] at this ⊢;rcases this with g|(g|g)|g
 ·exact .inl g
 ·exact .inr (.inl g)
 ·exact .inr (.inr (.inl g))
 ·exact .inr (.inr (.inr (.inl g)))
end Go.Ai
