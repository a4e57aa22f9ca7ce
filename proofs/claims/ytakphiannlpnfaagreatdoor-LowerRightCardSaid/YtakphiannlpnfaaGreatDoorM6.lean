/- Texts of one proof, one behind the other: Spell, Name, LineA, ExprA, ExprP, ExprB. -/
import Derived.Test.YtakphiannlpnfaaGreatDoorM2
import Derived.Test.YtakphiannlpnfaaGreatDoorM5
import Derived.Test.YtakphiannlpnfaaGreatDoorM4
namespace Go.Proofs.YtakphiannlpnfaaGreatDoor
open Go.RowKit Go.Proofs.Tryz
set_option maxRecDepth 100000
theorem bQf(n:Int)(h0: -9223372036854775808≤n)(h1:n≤9223372036854775807):cM prog 28 [.string (bs (fY n))] [] [iW] (fun x:Option Addr×Nat=> .tuple #[.slice x.1 1 x.2,.agg #[.int .i64 0,.int .i64 0]]) (fun _=>[]) (fun x=>[mY.sl (.slice x.1 1 x.2) [⟨2,0,[],n⟩],Fact.pure (1≤x.2)]):=by
 have:=bSw (fY n) (by have:=rV h0 h1;omega);rw [lexP_spell h0 h1] at this;exact this
theorem bGl(n:Int)(h0: -9223372036854775808≤n)(h1:n≤9223372036854775807):cM prog 141 [.string (bs (Lib.itoa n)),.string (bs [45]),.string (bs [95]),.int .i64 1] [] [iW] (fun _:Unit=> .string (bs (fY n))) (fun _=>[]) (fun _=>[]):=by
 have:=replace_spec (Lib.itoa n) (by have:=itoa_len h0 h1;omega);rw [replace_itoa] at this;exact this
def hZ (s:Bs):Int:=
 if s=[43] then 1 else if s=[45] then 2 else if s=[42] then 3 else if s=[37] then 4 else if s=[124] then 5 else if s=[109,105,110] then 6 else if s=[109,97,120] then 7 else if s=[61] then 8 else if s=[126] then 9
 else if s=[60] then 10 else if s=[60,61] then 11 else if s=[62,61] then 12 else if s=[62] then 13 else if s=[97,110,100] then 14 else if s=[111,114] then 15 else if s=[112,111,119] then 17 else if s=[114,104,111] then 37
 else if s=[116,97,107,101] then 38 else if s=[100,114,111,112] then 39 else if s=[99,97,116] then 40 else 0
def oU (s:Bs):Int:=
 if s=[43]∨s=[45]∨s=[42]∨s=[37]∨s=[124]∨s=[109,105,110]∨s=[109,97,120] then hZ s else if s=[126] then 16 else if s=[105,111,116,97] then 32 else if s=[115,104,97,112,101] then 33 else if s=[114,97,118,101,108] then 34
 else if s=[114,101,118] then 35 else if s=[116,117,114,110] then 36 else 0
def sG (s:Bs):Bool:=oU s !=0 || hZ s !=0
def fG (s:Bs)(t:Bool):Int:=if t then hZ s else oU s
theorem spell_spec(n:Int)(h0: -9223372036854775808≤n)(h1:n≤9223372036854775807):cM prog 126 [.agg #[.int .i64 2,.int .i64 0,.string (bs []),.int .i64 n]] [] [iW] (fun(_:Unit)=> .tuple #[.string (bs (fY n)),.bool true]) (fun _=>[]) (fun _=>[]):=by
 have hT:=fF;refine k6 func126 ntmps126 ?_;intro β hM;refine g2 ?_;refine j9 fun b1=>?_;refine g22 ?_;refine bM (t':=true) o9 ?_;refine g7 ?_;refine j5 func142 (bNr n h0 h1) ⟨d7,j0⟩ fun _=>?_;refine j5 func141 (bGl n h0 h1) ⟨d7,j0⟩ fun _=>?_;refine g7 ?_;refine j5 func28 (bQf n h0 h1) ⟨d7,j0⟩ fun⟨A2,c3⟩=>?_;refine g3 ?_;refine j6 bFo fun b4=>?_;refine g8 ?_;refine ss (k7 (bAb)) ?_;refine ss (gC ⟨0,0⟩ ⟨0,0⟩ rfl rfl rfl) ?_;refine bM (t':=false) (rfl) ?_;refine g4 ?_;refine bM (t':=false) o9 ?_;refine g4 ?_;refine cP (z':=(((fY n).length:Nat):Int)) rfl ?_;refine one ?_;refine bM (t':=false) (by have:=rV h0 h1;simp;omega) ?_;refine g14 ?_;refine bU _ _ [(true,0),(true,1),(true,2),(true,3),(true,4),(true,5),(true,6),(true,8),(false,7),(true,9),(true,10),(true,11),(true,12),(true,13),(true,14),(true,15),(true,16),(true,17),(false,18),(true,19)] bV o5 (.c0 (.c0 .nil)) bA.self ?_;refine one ?_;refine stM rfl (cF hT (k:=0) (cE d7) rfl rfl rfl rfl rfl rfl rfl o6) ?_;refine stM rfl (fJ hT (dQ.knows (cE d7) (k:=0) (x:=(⟨2,0,[],n⟩:TokV)) rfl 0) rfl rfl rfl rfl rfl) ?_;refine one ?_;refine stM rfl (sti_neq_tok (⟨2,0,[],n⟩:TokV) ⟨2,0,([]:Bs),n⟩ rfl rfl rfl) ?_;refine bM (t':=false) (by simp [tokEq]) ?_;refine g4 ?_;refine j5 func143 (bNq (fY n) (by have:=rV h0 h1;omega) (fun b hb=>(bAw n b hb).1)) ⟨d9,j0⟩ fun _=>?_;refine g2 ?_;refine bM (t':=false) (by rw [trim_spell];simp) ?_;refine g9 ?_;refine bD func144 (bTm _ 35) rfl rfl .nil j0 fun _=>?_;refine one ?_;refine bM (t':=false) (hash_spell n) ?_;refine g14 ?_;exact rs2 () trivial
theorem bHy(n:Int)(h0: -9223372036854775808≤n)(h1:n≤9223372036854775807):cM prog 93 [.int .i64 n] [] [iW] (fun(_:Unit)=> .string (bs (fY n))) (fun _=>[]) (fun _=>[]):=by
 have hT:=fF;refine k6 func93 ntmps93 ?_;intro β hM;refine g8 ?_;refine ss (k7 (pC _ _)) ?_;refine j5 func126 (spell_spec n h0 h1) ⟨d7,j0⟩ fun _=>?_;refine g14 ?_;exact rs1 () trivial
theorem jV(s:Bs):cM prog 125 [.string (bs s)] [] [] (fun(_:Unit)=> .int .u8 (hZ s)) (fun _=>[]) (fun _=>[]):=by
 have hT:=fF;refine k6 func125 ntmps125 ?_;intro β hM;refine g18 ?_;refine jA (fun hc4=>?_) fun hc4=>?_
 ·have hc4:s=([43]:Bs):=eq_of_beq hc4;refine g8 ?_;exact rs1 () j0 (he:=by simp [hZ, *])
 have hc4:s≠([43]:Bs):=fun h=>absurd (beq_iff_eq.2 h) (by rw [show(s==([43]:Bs))=false from hc4];simp);refine g6 ?_;refine jA (fun hc6=>?_) fun hc6=>?_
 ·have hc6:s=([45]:Bs):=eq_of_beq hc6;refine g8 ?_;exact rs1 () j0 (he:=by simp [hZ, *])
 have hc6:s≠([45]:Bs):=fun h=>absurd (beq_iff_eq.2 h) (by rw [show(s==([45]:Bs))=false from hc6];simp);refine g6 ?_;refine jA (fun hc8=>?_) fun hc8=>?_
 ·have hc8:s=([42]:Bs):=eq_of_beq hc8;refine g8 ?_;exact rs1 () j0 (he:=by simp [hZ, *])
 have hc8:s≠([42]:Bs):=fun h=>absurd (beq_iff_eq.2 h) (by rw [show(s==([42]:Bs))=false from hc8];simp);refine g6 ?_;refine jA (fun hc10=>?_) fun hc10=>?_
 ·have hc10:s=([37]:Bs):=eq_of_beq hc10;refine g8 ?_;exact rs1 () j0 (he:=by simp [hZ, *])
 have hc10:s≠([37]:Bs):=fun h=>absurd (beq_iff_eq.2 h) (by rw [show(s==([37]:Bs))=false from hc10];simp);refine g6 ?_;refine jA (fun hc12=>?_) fun hc12=>?_
 ·have hc12:s=([124]:Bs):=eq_of_beq hc12;refine g8 ?_;exact rs1 () j0 (he:=by simp [hZ, *])
 have hc12:s≠([124]:Bs):=fun h=>absurd (beq_iff_eq.2 h) (by rw [show(s==([124]:Bs))=false from hc12];simp);refine g6 ?_;refine jA (fun hc14=>?_) fun hc14=>?_
 ·have hc14:s=([109,105,110]:Bs):=eq_of_beq hc14;refine g8 ?_;exact rs1 () j0 (he:=by simp [hZ, *])
 have hc14:s≠([109,105,110]:Bs):=fun h=>absurd (beq_iff_eq.2 h) (by rw [show(s==([109,105,110]:Bs))=false from hc14];simp);refine g6 ?_;refine jA (fun hc16=>?_) fun hc16=>?_
 ·have hc16:s=([109,97,120]:Bs):=eq_of_beq hc16;refine g8 ?_;exact rs1 () j0 (he:=by simp [hZ, *])
 have hc16:s≠([109,97,120]:Bs):=fun h=>absurd (beq_iff_eq.2 h) (by rw [show(s==([109,97,120]:Bs))=false from hc16];simp);refine g6 ?_;refine jA (fun hc18=>?_) fun hc18=>?_
 ·have hc18:s=([61]:Bs):=eq_of_beq hc18;refine g8 ?_;exact rs1 () j0 (he:=by simp [hZ, *])
 have hc18:s≠([61]:Bs):=fun h=>absurd (beq_iff_eq.2 h) (by rw [show(s==([61]:Bs))=false from hc18];simp);refine g6 ?_;refine jA (fun hc20=>?_) fun hc20=>?_
 ·have hc20:s=([126]:Bs):=eq_of_beq hc20;refine g8 ?_;exact rs1 () j0 (he:=by simp [hZ, *])
 have hc20:s≠([126]:Bs):=fun h=>absurd (beq_iff_eq.2 h) (by rw [show(s==([126]:Bs))=false from hc20];simp);refine g6 ?_;refine jA (fun hc22=>?_) fun hc22=>?_
 ·have hc22:s=([60]:Bs):=eq_of_beq hc22;refine g8 ?_;exact rs1 () j0 (he:=by simp [hZ, *])
 have hc22:s≠([60]:Bs):=fun h=>absurd (beq_iff_eq.2 h) (by rw [show(s==([60]:Bs))=false from hc22];simp);refine g6 ?_;refine jA (fun hc24=>?_) fun hc24=>?_
 ·have hc24:s=([60,61]:Bs):=eq_of_beq hc24;refine g8 ?_;exact rs1 () j0 (he:=by simp [hZ, *])
 have hc24:s≠([60,61]:Bs):=fun h=>absurd (beq_iff_eq.2 h) (by rw [show(s==([60,61]:Bs))=false from hc24];simp);refine g6 ?_;refine jA (fun hc26=>?_) fun hc26=>?_
 ·have hc26:s=([62,61]:Bs):=eq_of_beq hc26;refine g8 ?_;exact rs1 () j0 (he:=by simp [hZ, *])
 have hc26:s≠([62,61]:Bs):=fun h=>absurd (beq_iff_eq.2 h) (by rw [show(s==([62,61]:Bs))=false from hc26];simp);refine g6 ?_;refine jA (fun hc28=>?_) fun hc28=>?_
 ·have hc28:s=([62]:Bs):=eq_of_beq hc28;refine g8 ?_;exact rs1 () j0 (he:=by simp [hZ, *])
 have hc28:s≠([62]:Bs):=fun h=>absurd (beq_iff_eq.2 h) (by rw [show(s==([62]:Bs))=false from hc28];simp);refine g6 ?_;refine jA (fun hc30=>?_) fun hc30=>?_
 ·have hc30:s=([97,110,100]:Bs):=eq_of_beq hc30;refine g8 ?_;exact rs1 () j0 (he:=by simp [hZ, *])
 have hc30:s≠([97,110,100]:Bs):=fun h=>absurd (beq_iff_eq.2 h) (by rw [show(s==([97,110,100]:Bs))=false from hc30];simp);refine g6 ?_;refine jA (fun hc32=>?_) fun hc32=>?_
 ·have hc32:s=([111,114]:Bs):=eq_of_beq hc32;refine g8 ?_;exact rs1 () j0 (he:=by simp [hZ, *])
 have hc32:s≠([111,114]:Bs):=fun h=>absurd (beq_iff_eq.2 h) (by rw [show(s==([111,114]:Bs))=false from hc32];simp);refine g6 ?_;refine jA (fun hc34=>?_) fun hc34=>?_
 ·have hc34:s=([112,111,119]:Bs):=eq_of_beq hc34;refine g8 ?_;exact rs1 () j0 (he:=by simp [hZ, *])
 have hc34:s≠([112,111,119]:Bs):=fun h=>absurd (beq_iff_eq.2 h) (by rw [show(s==([112,111,119]:Bs))=false from hc34];simp);refine g6 ?_;refine jA (fun hc36=>?_) fun hc36=>?_
 ·have hc36:s=([114,104,111]:Bs):=eq_of_beq hc36;refine g8 ?_;exact rs1 () j0 (he:=by simp [hZ, *])
 have hc36:s≠([114,104,111]:Bs):=fun h=>absurd (beq_iff_eq.2 h) (by rw [show(s==([114,104,111]:Bs))=false from hc36];simp);refine g6 ?_;refine jA (fun hc38=>?_) fun hc38=>?_
 ·have hc38:s=([116,97,107,101]:Bs):=eq_of_beq hc38;refine g8 ?_;exact rs1 () j0 (he:=by simp [hZ, *])
 have hc38:s≠([116,97,107,101]:Bs):=fun h=>absurd (beq_iff_eq.2 h) (by rw [show(s==([116,97,107,101]:Bs))=false from hc38];simp);refine g6 ?_;refine jA (fun hc40=>?_) fun hc40=>?_
 ·have hc40:s=([100,114,111,112]:Bs):=eq_of_beq hc40;refine g8 ?_;exact rs1 () j0 (he:=by simp [hZ, *])
 have hc40:s≠([100,114,111,112]:Bs):=fun h=>absurd (beq_iff_eq.2 h) (by rw [show(s==([100,114,111,112]:Bs))=false from hc40];simp);refine g6 ?_;refine jA (fun hc42=>?_) fun hc42=>?_
 ·have hc42:s=([99,97,116]:Bs):=eq_of_beq hc42;refine g8 ?_;exact rs1 () j0 (he:=by simp [hZ, *])
 have hc42:s≠([99,97,116]:Bs):=fun h=>absurd (beq_iff_eq.2 h) (by rw [show(s==([99,97,116]:Bs))=false from hc42];simp);refine g9 ?_;exact rs1 () j0 (he:=by simp [hZ, *])
theorem one_spec(s:Bs):cM prog 124 [.string (bs s)] [] [] (fun(_:Unit)=> .int .u8 (oU s)) (fun _=>[]) (fun _=>[]):=by
 have hT:=fF;refine k6 func124 ntmps124 ?_;intro β hM;refine g19 ?_;refine dP rfl (fun hc4=>?_) (fun hc4=>?_)
 ·have hc4_r:=hc4;have hc4:s=([43]:Bs):=eq_of_beq hc4;refine g2 ?_;refine pK rfl hc4_r ?_;refine g3 ?_;refine j5 func125 (jV s) j0 fun _=>?_;refine g6 ?_;exact rs1 () j0 (he:=by first | (simp [oU, *];done) | simp [oU,hZ, *])
 have hc4_r:=hc4;have hc4:s≠([43]:Bs):=fun h=>absurd (beq_iff_eq.2 h) (by rw [show(s==([43]:Bs))=false from hc4];simp);refine g6 ?_;refine dP rfl (fun hc4_1=>?_) (fun hc4_1=>?_)
 ·have hc4_1_r:=hc4_1;have hc4_1:s=([45]:Bs):=eq_of_beq hc4_1;refine g2 ?_;refine pK rfl hc4_1_r ?_;refine g3 ?_;refine j5 func125 (jV s) j0 fun _=>?_;refine g6 ?_;exact rs1 () j0 (he:=by first | (simp [oU, *];done) | simp [oU,hZ, *])
 have hc4_1_r:=hc4_1;have hc4_1:s≠([45]:Bs):=fun h=>absurd (beq_iff_eq.2 h) (by rw [show(s==([45]:Bs))=false from hc4_1];simp);refine g6 ?_;refine dP rfl (fun hc4_2=>?_) (fun hc4_2=>?_)
 ·have hc4_2_r:=hc4_2;have hc4_2:s=([42]:Bs):=eq_of_beq hc4_2;refine g2 ?_;refine pK rfl hc4_2_r ?_;refine g3 ?_;refine j5 func125 (jV s) j0 fun _=>?_;refine g6 ?_;exact rs1 () j0 (he:=by first | (simp [oU, *];done) | simp [oU,hZ, *])
 have hc4_2_r:=hc4_2;have hc4_2:s≠([42]:Bs):=fun h=>absurd (beq_iff_eq.2 h) (by rw [show(s==([42]:Bs))=false from hc4_2];simp);refine g6 ?_;refine dP rfl (fun hc4_3=>?_) (fun hc4_3=>?_)
 ·have hc4_3_r:=hc4_3;have hc4_3:s=([37]:Bs):=eq_of_beq hc4_3;refine g2 ?_;refine pK rfl hc4_3_r ?_;refine g3 ?_;refine j5 func125 (jV s) j0 fun _=>?_;refine g6 ?_;exact rs1 () j0 (he:=by first | (simp [oU, *];done) | simp [oU,hZ, *])
 have hc4_3_r:=hc4_3;have hc4_3:s≠([37]:Bs):=fun h=>absurd (beq_iff_eq.2 h) (by rw [show(s==([37]:Bs))=false from hc4_3];simp);refine g6 ?_;refine dP rfl (fun hc4_4=>?_) (fun hc4_4=>?_)
 ·have hc4_4_r:=hc4_4;have hc4_4:s=([124]:Bs):=eq_of_beq hc4_4;refine g2 ?_;refine pK rfl hc4_4_r ?_;refine g3 ?_;refine j5 func125 (jV s) j0 fun _=>?_;refine g6 ?_;exact rs1 () j0 (he:=by first | (simp [oU, *];done) | simp [oU,hZ, *])
 have hc4_4_r:=hc4_4;have hc4_4:s≠([124]:Bs):=fun h=>absurd (beq_iff_eq.2 h) (by rw [show(s==([124]:Bs))=false from hc4_4];simp);refine g6 ?_;refine dP rfl (fun hc4_5=>?_) (fun hc4_5=>?_)
 ·have hc4_5_r:=hc4_5;have hc4_5:s=([109,105,110]:Bs):=eq_of_beq hc4_5;refine g2 ?_;refine pK rfl hc4_5_r ?_;refine g3 ?_;refine j5 func125 (jV s) j0 fun _=>?_;refine g6 ?_;exact rs1 () j0 (he:=by first | (simp [oU, *];done) | simp [oU,hZ, *])
 have hc4_5_r:=hc4_5;have hc4_5:s≠([109,105,110]:Bs):=fun h=>absurd (beq_iff_eq.2 h) (by rw [show(s==([109,105,110]:Bs))=false from hc4_5];simp);refine g5 ?_;refine dP rfl (fun hc4_6=>?_) (fun hc4_6=>?_)
 ·have hc4_6_r:=hc4_6;have hc4_6:s=([109,97,120]:Bs):=eq_of_beq hc4_6;refine g3 ?_;refine j5 func125 (jV s) j0 fun _=>?_;refine g6 ?_;exact rs1 () j0 (he:=by first | (simp [oU, *];done) | simp [oU,hZ, *])
 have hc4_6_r:=hc4_6;have hc4_6:s≠([109,97,120]:Bs):=fun h=>absurd (beq_iff_eq.2 h) (by rw [show(s==([109,97,120]:Bs))=false from hc4_6];simp);refine g6 ?_;refine dP rfl (fun hc14=>?_) (fun hc14=>?_)
 ·have hc14_r:=hc14;have hc14:s=([126]:Bs):=eq_of_beq hc14;refine g8 ?_;exact rs1 () j0 (he:=by first | (simp [oU, *];done) | simp [oU,hZ, *])
 have hc14_r:=hc14;have hc14:s≠([126]:Bs):=fun h=>absurd (beq_iff_eq.2 h) (by rw [show(s==([126]:Bs))=false from hc14];simp);refine g6 ?_;refine dP rfl (fun hc16=>?_) (fun hc16=>?_)
 ·have hc16_r:=hc16;have hc16:s=([105,111,116,97]:Bs):=eq_of_beq hc16;refine g8 ?_;exact rs1 () j0 (he:=by first | (simp [oU, *];done) | simp [oU,hZ, *])
 have hc16_r:=hc16;have hc16:s≠([105,111,116,97]:Bs):=fun h=>absurd (beq_iff_eq.2 h) (by rw [show(s==([105,111,116,97]:Bs))=false from hc16];simp);refine g6 ?_;refine dP rfl (fun hc18=>?_) (fun hc18=>?_)
 ·have hc18_r:=hc18;have hc18:s=([115,104,97,112,101]:Bs):=eq_of_beq hc18;refine g8 ?_;exact rs1 () j0 (he:=by first | (simp [oU, *];done) | simp [oU,hZ, *])
 have hc18_r:=hc18;have hc18:s≠([115,104,97,112,101]:Bs):=fun h=>absurd (beq_iff_eq.2 h) (by rw [show(s==([115,104,97,112,101]:Bs))=false from hc18];simp);refine g6 ?_;refine dP rfl (fun hc20=>?_) (fun hc20=>?_)
 ·have hc20_r:=hc20;have hc20:s=([114,97,118,101,108]:Bs):=eq_of_beq hc20;refine g8 ?_;exact rs1 () j0 (he:=by first | (simp [oU, *];done) | simp [oU,hZ, *])
 have hc20_r:=hc20;have hc20:s≠([114,97,118,101,108]:Bs):=fun h=>absurd (beq_iff_eq.2 h) (by rw [show(s==([114,97,118,101,108]:Bs))=false from hc20];simp);refine g6 ?_;refine dP rfl (fun hc22=>?_) (fun hc22=>?_)
 ·have hc22_r:=hc22;have hc22:s=([114,101,118]:Bs):=eq_of_beq hc22;refine g8 ?_;exact rs1 () j0 (he:=by first | (simp [oU, *];done) | simp [oU,hZ, *])
 have hc22_r:=hc22;have hc22:s≠([114,101,118]:Bs):=fun h=>absurd (beq_iff_eq.2 h) (by rw [show(s==([114,101,118]:Bs))=false from hc22];simp);refine g6 ?_;refine dP rfl (fun hc24=>?_) (fun hc24=>?_)
 ·have hc24_r:=hc24;have hc24:s=([116,117,114,110]:Bs):=eq_of_beq hc24;refine g8 ?_;exact rs1 () j0 (he:=by first | (simp [oU, *];done) | simp [oU,hZ, *])
 have hc24_r:=hc24;have hc24:s≠([116,117,114,110]:Bs):=fun h=>absurd (beq_iff_eq.2 h) (by rw [show(s==([116,117,114,110]:Bs))=false from hc24];simp);refine g9 ?_;exact rs1 () j0 (he:=by first | (simp [oU, *];done) | simp [oU,hZ, *])
theorem pX(s:Bs):cM prog 102 [.string (bs s)] [] [] (fun(_:Unit)=> .bool (sG s)) (fun _=>[]) (fun _=>[]):=by
 have hT:=fF;refine k6 func102 ntmps102 ?_;intro β hM;refine g8 ?_;refine j5 func124 (one_spec s) j0 fun _=>?_;refine g2 ?_;refine bHo (fun hg6=>?_) fun hg6=>?_
 ·refine g8 ?_;exact rs1 () j0 (he:=by simp [sG, *])
 refine one ?_;refine j5 func125 (jV s) j0 fun _=>?_;refine g6 ?_;exact rs1 () j0 (he:=by simp [sG, *])
theorem bJy(s:Bs)(t:Bool):cM prog 92 [.string (bs s),.bool t] [] [] (fun(_:Unit)=> .tuple #[.int .u8 (fG s t),.bool (fG s t !=0)]) (fun _=>[]) (fun _=>[]):=by
 have hT:=fF;refine k6 func92 ntmps92 ?_;intro β hM;refine g9 ?_;refine j5 func124 (one_spec s) j0 fun _=>?_;refine g9 ?_;refine jA (fun hc9=>?_) fun hc9=>?_
 ·refine g2 ?_;refine j5 func125 (jV s) j0 fun _=>?_;refine g13 ?_;exact rs2 () j0 (he:=by simp [fG, *])
 refine g12 ?_;exact rs2 () j0 (he:=by simp [fG, *])
def bKj (s:Bs):Bool:=pB ⟨(gK s).2.1,(gK s).2.2⟩ ⟨0,0⟩&&match (gK s).1 with
 | [t]=>t.kind==1&&t.word==s
 | _=>false
def dD (s:Bs):Bool:= !(sG s)&&(!(s==[105,110])&&(!(s==[111,117,116])&&bKj s))
section
variable {s : Bs}
theorem bFj(h:sG s=true):Value.bool false= .bool (dD s):=by simp [dD,h]
theorem bEn(h:s=[105,110]):Value.bool false= .bool (dD s):=by simp [dD,h]
theorem bGb(h:s=[111,117,116]):Value.bool false= .bool (dD s):=by simp [dD,h]
theorem bGc(h:pB ⟨(gK s).2.1,(gK s).2.2⟩ ⟨0,0⟩=false):Value.bool false= .bool (dD s):=by simp [dD,bKj,h]
theorem bFw(h:(((gK s).1.length:Nat):Int)≠1):Value.bool false= .bool (dD s):=by
 unfold dD bKj;split
 ·rename_i t ht;rw [ht] at h;simp at h
 ·simp
theorem list_one{α:Type}{l:List α}{x:α}(h:((l.length:Nat):Int)=1)(hx:l[0]?=some x):l=[x]:=by
 match l,h with
 | [a],_=>simp at hx;rw [hx]
 | [],h=>simp at h
 | _::_::_,h=>simp at h;omega
variable (h0 : sG s = false) (h1 : s ≠ [105, 110]) (h2 : s ≠ [111, 117, 116]) (hf : pB ⟨(gK s).2.1, (gK s).2.2⟩ ⟨0, 0⟩ = true) (hl : (((gK s).1.length : Nat) : Int) = 1) {x : TokV} (hx : (gK s).1[0]? = some x)
include h0 h1 h2 hf hl hx
theorem name_at:dD s=(x.kind==1&&x.word==s):=by
 unfold dD bKj;rw [list_one hl hx,h0,hf,beq_eq_false_iff_ne.2 h1,beq_eq_false_iff_ne.2 h2];simp
theorem bFr(hk:x.kind≠1):Value.bool false= .bool (dD s):=by
 rw [name_at h0 h1 h2 hf hl hx];simp [hk]
theorem bFy(hk:x.kind=1):Value.bool (x.word==s)= .bool (dD s):=by
 rw [name_at h0 h1 h2 hf hl hx];simp [hk]
end
theorem oE(s:Bs)(hs:s.length≤140737488355328):cM prog 63 [.string (bs s)] [] [iW] (fun(_:Unit)=> .bool (dD s)) (fun _=>[]) (fun _=>[]):=by
 have hT:=fF;refine k6 func63 ntmps63 ?_;intro β hM;refine g9 ?_;refine j5 func102 (pX s) j0 fun _=>?_;refine one ?_;refine cI (fun hg7=>?_) (fun hg7=>?_)
 ·refine g17 ?_;exact rs1 () j0 (he:=by first | exact bFj hg7 | exact bEn hg11 | exact bGb hc14 | exact bGc hg23 | exact bFw hg28 | exact bFr hg7 hg11 hc14 hg23 hg28 ‹(gK s).1[0]?=some _› hg35 | exact bFy hg7 hg11 hc14 hg23 hg28 ‹(gK s).1[0]?=some _› hg35)
 refine g4 ?_;refine cI (fun hg11=>?_) (fun hg11=>?_)
 ·have hg11:s=([105,110]:Bs):=eq_of_beq hg11;refine g13 ?_;exact rs1 () j0 (he:=by first | exact bFj hg7 | exact bEn hg11 | exact bGb hc14 | exact bGc hg23 | exact bFw hg28 | exact bFr hg7 hg11 hc14 hg23 hg28 ‹(gK s).1[0]?=some _› hg35 | exact bFy hg7 hg11 hc14 hg23 hg28 ‹(gK s).1[0]?=some _› hg35)
 have hg11:s≠([105,110]:Bs):=fun h=>absurd (beq_iff_eq.2 h) (by rw [show(s==([105,110]:Bs))=false from hg11];simp);refine g5 ?_;refine jA (fun hc14=>?_) fun hc14=>?_
 ·have hc14:s=([111,117,116]:Bs):=eq_of_beq hc14;refine g7 ?_;exact rs1 () j0 (he:=by first | exact bFj hg7 | exact bEn hg11 | exact bGb hc14 | exact bGc hg23 | exact bFw hg28 | exact bFr hg7 hg11 hc14 hg23 hg28 ‹(gK s).1[0]?=some _› hg35 | exact bFy hg7 hg11 hc14 hg23 hg28 ‹(gK s).1[0]?=some _› hg35)
 have hc14:s≠([111,117,116]:Bs):=fun h=>absurd (beq_iff_eq.2 h) (by rw [show(s==([111,117,116]:Bs))=false from hc14];simp);refine g5 ?_;refine j5 func28 (bSw s n7) ⟨d7,j0⟩ fun⟨A1,c2⟩=>?_;refine g3 ?_;refine j6 bFo fun b3=>?_;refine g7 ?_;refine ss (k7 (bAb)) ?_;refine ss (bLu ⟨(gK s).2.1,(gK s).2.2⟩ ⟨0,0⟩ rfl rfl rfl) ?_;refine one ?_;refine cI (fun hg23=>?_) (fun hg23=>?_)
 ·refine g5 ?_;refine oX (fun hg28=>?_) fun hg28=>?_
  ·refine one ?_;obtain⟨x4,hx5⟩:=gx ((gK s).1) 0;refine ss (ixs 0) ?_;refine one ?_;refine ss (fL hx5 0) ?_;refine g3 ?_;refine oX (fun hg35=>?_) fun hg35=>?_
   ·refine one ?_;refine ss (ixs 0) ?_;refine one ?_;refine ss (fL hx5 2) ?_;refine g7 ?_;exact rs1 () j0 (he:=by first | exact bFj hg7 | exact bEn hg11 | exact bGb hc14 | exact bGc hg23 | exact bFw hg28 | exact bFr hg7 hg11 hc14 hg23 hg28 ‹(gK s).1[0]?=some _› hg35 | exact bFy hg7 hg11 hc14 hg23 hg28 ‹(gK s).1[0]?=some _› hg35)
   refine g11 ?_;exact rs1 () j0 (he:=by first | exact bFj hg7 | exact bEn hg11 | exact bGb hc14 | exact bGc hg23 | exact bFw hg28 | exact bFr hg7 hg11 hc14 hg23 hg28 ‹(gK s).1[0]?=some _› hg35 | exact bFy hg7 hg11 hc14 hg23 hg28 ‹(gK s).1[0]?=some _› hg35)
  refine g18 ?_;exact rs1 () j0 (he:=by first | exact bFj hg7 | exact bEn hg11 | exact bGb hc14 | exact bGc hg23 | exact bFw hg28 | exact bFr hg7 hg11 hc14 hg23 hg28 ‹(gK s).1[0]?=some _› hg35 | exact bFy hg7 hg11 hc14 hg23 hg28 ‹(gK s).1[0]?=some _› hg35)
 refine g23 ?_;exact rs1 () j0 (he:=by first | exact bFj hg7 | exact bEn hg11 | exact bGb hc14 | exact bGc hg23 | exact bFw hg28 | exact bFr hg7 hg11 hc14 hg23 hg28 ‹(gK s).1[0]?=some _› hg35 | exact bFy hg7 hg11 hc14 hg23 hg28 ‹(gK s).1[0]?=some _› hg35)
def atP (toks:List TokV)(k:Nat)(e:Int):Int:=match toks[k]? with
 | some t=>t.at_
 | none=>e
def bG (toks:List TokV)(k:Nat):TokV:=match toks[k]? with
 | some t=>t
 | none=>⟨4,0,[],0⟩
def tokV (t:TokV):Value:= .agg #[.int .i64 t.kind,.int .i64 t.at_,.string (bs t.word),.int .i64 t.n]
section
variable {toks : List TokV} {k : Nat} {e : Int}
theorem bHh{t:TokV}(h:toks[k]?=some t):atP toks k e=t.at_:=by unfold atP;rw [h]
theorem bQz(h:toks.length≤k):atP toks k e=e:=by unfold atP;rw [List.getElem?_eq_none h]
theorem uU{t:TokV}(h:toks[k]?=some t):bG toks k=t:=by unfold bG;rw [h]
theorem bEt(h:toks.length≤k):bG toks k=⟨4,0,[],0⟩:=by unfold bG;rw [List.getElem?_eq_none h]
end
structure Phr where
 how:Int
 at_:Int
 fn:Int
 flt:Flt
 next:Nat
def bI (toks:List TokV)(k:Nat)(e:Int)(left:Bool):Phr:=
 if (bG toks (k+1)).kind=3∧((bG toks (k+1)).word=[47]∨(bG toks (k+1)).word=[92]∨(bG toks (k+1)).word=[46]) then
  if 17<hZ (bG toks k).word∨((bG toks (k+1)).word==[46])≠left then ⟨if left then 4 else 3,(bG toks k).at_,hZ (bG toks k).word,(atP toks k e,43),k+1+1⟩
  else ⟨if (bG toks (k+1)).word=[47] then 5 else if (bG toks (k+1)).word=[92] then 6 else 7,(bG toks k).at_,hZ (bG toks k).word,if hZ (bG toks k).word=0 then (atP toks k e,43) else (0,0),k+1+1⟩
 else ⟨if left then 4 else 3,(bG toks k).at_,fG (bG toks k).word left,if fG (bG toks k).word left=0 then (atP toks k e,43) else (0,0),k+1⟩
def phrV (p:Phr):Value:= .tuple #[.agg #[.int .i64 p.how,.int .i64 p.at_,.int .u8 p.fn,.string (bs []),.slice none 0 0],.agg #[.int .i64 p.flt.1,.int .i64 p.flt.2]]
theorem oG:(prog.info? 87).bind (·.zero)=some (.agg #[.int .i64 0,.int .i64 0,.int .u8 0,.string (bs []),.slice none 0 0]):=n9
theorem sK(z0:Int)(z1:Int):prog.built 87 [(0,.int .i64 z0),(1,.int .i64 z1)]=some #[.int .i64 z0,.int .i64 z1,.int .u8 0,.string (bs []),.slice none 0 0]:=n9
theorem at_spec(bl:Nat)(A:Option Addr)(c:Nat)(toks:List TokV)(k:Nat)(e:Int):cM prog 101 [.pointer (some ⟨bl,0,none⟩)] [.obj bl (.cells [.slice A toks.length c,.int .i64 (k:Nat),.int .i64 e].toArray 110)] [mY.sl (.slice A toks.length c) toks] (fun(_:Unit)=> .int .i64 (atP toks k e)) (fun(_:Unit)=>[.obj bl (.cells [.slice A toks.length c,.int .i64 (k:Nat),.int .i64 e].toArray 110)]) (fun _=>[]):=by
 have hT:=fF;refine k6 func101 ntmps101 ?_;intro β hM;refine g7 ?_;refine bU _ _ [(true,0),(true,1),(true,2),(true,3),(true,4),(true,5),(true,6),(true,7),(true,8),(true,9)] bV o5 (.c0 .nil) bA.self ?_;refine g12 ?_;refine dJ (fun hc12=>?_) fun hc12=>?_
 ·refine cO<|bU _ _ [(true,0),(true,1),(true,2),(true,3),(true,4),(true,5),(true,6),(true,7),(true,8),(true,9),(true,10),(true,11)] bV o5 (.c0 .nil) bA.self ?_;refine g8 ?_;obtain⟨x1,hx2⟩:=gx toks k;refine stM rfl (ixs k) ?_;refine one ?_;refine stM rfl (fL hx2 1) ?_;refine g5 ?_;exact rs1 () j0 (he:=by rw [bHh hx2])
 refine g12 ?_;exact rs1 () j0 (he:=by rw [bQz n7])
theorem iL(bl:Nat)(A:Option Addr)(c:Nat)(toks:List TokV)(k:Nat)(e:Int):cM prog 60 [.pointer (some ⟨bl,0,none⟩)] [.obj bl (.cells [.slice A toks.length c,.int .i64 (k:Nat),.int .i64 e].toArray 110)] [mY.sl (.slice A toks.length c) toks] (fun(_:Unit)=>tokV (bG toks k)) (fun(_:Unit)=>[.obj bl (.cells [.slice A toks.length c,.int .i64 (k:Nat),.int .i64 e].toArray 110)]) (fun _=>[]):=by
 have hT:=fF;refine k6 func60 ntmps60 ?_;intro β hM;refine g2 ?_;refine j6 bBm fun b1=>?_;refine g4 ?_;refine bU _ _ [(true,0),(true,1),(true,2),(true,3),(true,4),(true,5),(true,6),(true,7),(true,8),(true,9)] bV o5 (.c0 (.c0 .nil)) bA.self ?_;refine g12 ?_;refine dJ (fun hc12=>?_) fun hc12=>?_
 ·refine cO<|bU _ _ [(true,0),(true,1),(true,2),(true,3),(true,4),(true,5),(true,6),(true,7),(true,8),(true,9),(false,10)] bV o5 (.c1 .nil) bA.self ?_;refine g8 ?_;obtain⟨x2,hx3⟩:=gx toks k;refine stM rfl (ixs k) ?_;refine stM rfl (lS hx3 0) ?_;refine g2 ?_;refine gO (.c1 .nil) ⟨d7,j0⟩ ?_;refine g4 ?_;exact rs1 () j0 (he:=by rw [uU hx3];rfl)
 refine g4 ?_;refine ss (k7 (xA _)) ?_;refine g4 ?_;exact rs1 () j0 (he:=by rw [bEt n7];rfl)
theorem cC(bl:Nat)(A:Option Addr)(c:Nat)(toks:List TokV)(k:Nat)(e:Int)(z:Int):cM prog 61 [.pointer (some ⟨bl,0,none⟩),.int .i64 z] [.obj bl (.cells [.slice A toks.length c,.int .i64 (k:Nat),.int .i64 e].toArray 110)] [mY.sl (.slice A toks.length c) toks] (fun(_:Unit)=> .agg #[.int .i64 (atP toks k e),.int .i64 z]) (fun(_:Unit)=>[.obj bl (.cells [.slice A toks.length c,.int .i64 (k:Nat),.int .i64 e].toArray 110)]) (fun _=>[]):=by
 have hT:=fF;refine k6 func61 ntmps61 ?_;intro β hM;refine g2 ?_;refine j6 bFo fun b1=>?_;refine g5 ?_;refine bD func101 (at_spec bl A c toks (k) e) rfl rfl (.c1 .nil) ⟨d7,j0⟩ fun _=>?_;refine one ?_;refine ss (k7 (zF _ _)) ?_;refine g4 ?_;exact rs1 () trivial
theorem phraseT_spec(bl:Nat)(A:Option Addr)(c:Nat)(toks:List TokV)(k:Nat)(e:Int)(hk:k≤1000000):cM prog 105 [.pointer (some ⟨bl,0,none⟩),.bool true] [.obj bl (.cells [.slice A toks.length c,.int .i64 (k:Nat),.int .i64 e].toArray 110)] [mY.sl (.slice A toks.length c) toks] (fun(_:Unit)=>phrV (bI toks k e true)) (fun(_:Unit)=>[.obj bl (.cells [.slice A toks.length c,.int .i64 ((bI toks k e true).next:Nat),.int .i64 e].toArray 110)]) (fun _=>[]):=by
 have hT:=fF;refine k6 func105 ntmps105 ?_;intro β hM;refine g2 ?_;refine j6 oG fun b1=>?_;refine j6 bFo fun b2=>?_;refine g5 ?_;refine bD func60 (iL bl A c toks (k) e) rfl rfl (.c2 .nil) ⟨d7,j0⟩ fun _=>?_;refine j6 bBm fun b3=>?_;refine g6 ?_;refine bD func61 (cC bl A c toks (k) e _) rfl rfl (.c1 .nil) ⟨d7,j0⟩ fun _=>?_;refine j6 bFo fun b4=>?_;refine g10 ?_;refine inc (k+1) ?_;refine g9 ?_;refine ss (k7 (sK _ _)) ?_;refine j6 oG fun b5=>?_;refine g20 ?_;refine bD func92 (bJy _ true) rfl rfl .nil j0 fun _=>?_;refine g11 ?_;refine bD func60 (iL bl A c toks ((k+1)) e) rfl rfl (.c1 .nil) ⟨d7,j0⟩ fun _=>?_;refine j6 bBm fun b6=>?_;refine g9 ?_;refine oX (fun hg39=>?_) fun hg39=>?_
 ·refine g4 ?_;refine cI (fun hg43=>?_) (fun hg43=>?_)
  ·have hg43:(bG toks ((k+1))).word=([47]:Bs):=eq_of_beq hg43;refine g20 ?_;refine inc ((k+1)+1) ?_;refine g9 ?_;refine bD func125 (jV _) rfl rfl .nil j0 fun _=>?_;refine g11 ?_;refine jX (fun hg68=>?_) fun hg68=>?_
   ·refine g10 ?_;refine bU _ _ [(true,0),(true,1),(false,2),(false,3)] bV o5 (.c0 (.c0 (.c0 (.c0 (.c0 .nil))))) bA.self ?_;refine g4 ?_;refine gO (.c1 (.c1 (.c1 (.c1 (.c1 .nil))))) ⟨d7,j0⟩ ?_;refine g2 ?_;refine gO (.c2 (.c2 (.c2 (.c2 (.c2 .nil))))) ⟨d7,j0⟩ ?_;refine g5 ?_;have hph:bI toks k e true=⟨4,(bG toks (k)).at_,(hZ (bG toks k).word),((atP toks (k) e),43),((k+1)+1)⟩:=by first | (simp [bI, *];done) | simp_all [bI]
    rw [hph];exact rs2 () trivial
   refine g3 ?_;refine bM (t':=false) (ag1) ?_;refine g2 ?_;refine bM (t':=true) rfl ?_;refine g5 ?_;refine bU _ _ [(true,0),(true,1),(false,2),(false,3)] bV o5 (.c0 (.c0 (.c0 (.c0 (.c0 .nil))))) bA.self ?_;refine g4 ?_;refine gO (.c1 (.c1 (.c1 (.c1 (.c1 .nil))))) ⟨d7,j0⟩ ?_;refine g2 ?_;refine gO (.c2 (.c2 (.c2 (.c2 (.c2 .nil))))) ⟨d7,j0⟩ ?_;refine g5 ?_;have hph:bI toks k e true=⟨4,(bG toks (k)).at_,(hZ (bG toks k).word),((atP toks (k) e),43),((k+1)+1)⟩:=by first | (simp [bI, *];done) | simp_all [bI]
   rw [hph];exact rs2 () trivial
  have hg43:(bG toks ((k+1))).word≠([47]:Bs):=fun h=>absurd (beq_iff_eq.2 h) af2;refine g5 ?_;refine cI (fun hg48=>?_) (fun hg48=>?_)
  ·have hg48:(bG toks ((k+1))).word=([92]:Bs):=eq_of_beq hg48;refine g15 ?_;refine inc ((k+1)+1) ?_;refine g9 ?_;refine bD func125 (jV _) rfl rfl .nil j0 fun _=>?_;refine g11 ?_;refine jX (fun hg68=>?_) fun hg68=>?_
   ·refine g10 ?_;refine bU _ _ [(true,0),(true,1),(false,2),(false,3)] bV o5 (.c0 (.c0 (.c0 (.c0 (.c0 .nil))))) bA.self ?_;refine g4 ?_;refine gO (.c1 (.c1 (.c1 (.c1 (.c1 .nil))))) ⟨d7,j0⟩ ?_;refine g2 ?_;refine gO (.c2 (.c2 (.c2 (.c2 (.c2 .nil))))) ⟨d7,j0⟩ ?_;refine g5 ?_;have hph:bI toks k e true=⟨4,(bG toks (k)).at_,(hZ (bG toks k).word),((atP toks (k) e),43),((k+1)+1)⟩:=by first | (simp [bI, *];done) | simp_all [bI]
    rw [hph];exact rs2 () trivial
   refine g3 ?_;refine bM (t':=false) (ag2) ?_;refine g2 ?_;refine bM (t':=true) rfl ?_;refine g5 ?_;refine bU _ _ [(true,0),(true,1),(false,2),(false,3)] bV o5 (.c0 (.c0 (.c0 (.c0 (.c0 .nil))))) bA.self ?_;refine g4 ?_;refine gO (.c1 (.c1 (.c1 (.c1 (.c1 .nil))))) ⟨d7,j0⟩ ?_;refine g2 ?_;refine gO (.c2 (.c2 (.c2 (.c2 (.c2 .nil))))) ⟨d7,j0⟩ ?_;refine g5 ?_;have hph:bI toks k e true=⟨4,(bG toks (k)).at_,(hZ (bG toks k).word),((atP toks (k) e),43),((k+1)+1)⟩:=by first | (simp [bI, *];done) | simp_all [bI]
   rw [hph];exact rs2 () trivial
  have hg48:(bG toks ((k+1))).word≠([92]:Bs):=fun h=>absurd (beq_iff_eq.2 h) af3;refine g7 ?_;refine jA (fun hc53=>?_) fun hc53=>?_
  ·have hc53:(bG toks ((k+1))).word=([46]:Bs):=eq_of_beq hc53;refine g7 ?_;refine inc ((k+1)+1) ?_;refine g9 ?_;refine bD func125 (jV _) rfl rfl .nil j0 fun _=>?_;refine g11 ?_;refine jX (fun hg68=>?_) fun hg68=>?_
   ·refine g10 ?_;refine bU _ _ [(true,0),(true,1),(false,2),(false,3)] bV o5 (.c0 (.c0 (.c0 (.c0 (.c0 .nil))))) bA.self ?_;refine g4 ?_;refine gO (.c1 (.c1 (.c1 (.c1 (.c1 .nil))))) ⟨d7,j0⟩ ?_;refine g2 ?_;refine gO (.c2 (.c2 (.c2 (.c2 (.c2 .nil))))) ⟨d7,j0⟩ ?_;refine g5 ?_;have hph:bI toks k e true=⟨4,(bG toks (k)).at_,(hZ (bG toks k).word),((atP toks (k) e),43),((k+1)+1)⟩:=by first | (simp [bI, *];done) | simp_all [bI]
    rw [hph];exact rs2 () trivial
   refine g3 ?_;refine bM (t':=true) (ag3) ?_;refine g2 ?_;refine bM (t':=false) rfl ?_;refine g16 ?_;refine bM (t':=false) ((by show((bG toks ((k+1))).word==([47]:Bs))=_;rw [hc53];rfl)) ?_;refine g7 ?_;refine bM (t':=false) ((by show((bG toks ((k+1))).word==([92]:Bs))=_;rw [hc53];rfl)) ?_;refine g18 ?_;refine fN (fun hc88=>?_) fun hc88=>?_
   ·refine cO<|bU _ _ [(true,0),(true,1),(false,2),(false,3)] bV o5 (.c0 (.c0 (.c0 (.c0 (.c0 .nil))))) bA.self ?_;refine g4 ?_;refine gO (.c1 (.c1 (.c1 (.c1 (.c1 .nil))))) ⟨d7,j0⟩ ?_;refine g2 ?_;refine gO (.c2 (.c2 (.c2 (.c2 (.c2 .nil))))) ⟨d7,j0⟩ ?_;refine g4 ?_;have hph:bI toks k e true=⟨7,(bG toks (k)).at_,(hZ (bG toks k).word),((atP toks (k) e),43),((k+1)+1)⟩:=by first | (simp [bI, *];done) | simp_all [bI]
    rw [hph];exact rs2 () trivial
   refine g5 ?_;refine ss (k7 (bAb)) ?_;refine g5 ?_;have hph:bI toks k e true=⟨7,(bG toks (k)).at_,(hZ (bG toks k).word),(0,0),((k+1)+1)⟩:=by first | (simp [bI, *];done) | simp_all [bI]
   rw [hph];exact rs2 () trivial
  have hc53:(bG toks ((k+1))).word≠([46]:Bs):=fun h=>absurd (beq_iff_eq.2 h) af4;refine g10 ?_;refine fN (fun hc88=>?_) fun hc88=>?_
  ·refine cO<|bU _ _ [(true,0),(true,1),(false,2),(false,3)] bV o5 (.c0 (.c0 (.c0 (.c0 (.c0 .nil))))) bA.self ?_;refine g4 ?_;refine gO (.c1 (.c1 (.c1 (.c1 (.c1 .nil))))) ⟨d7,j0⟩ ?_;refine g2 ?_;refine gO (.c2 (.c2 (.c2 (.c2 (.c2 .nil))))) ⟨d7,j0⟩ ?_;refine g4 ?_;have hph:bI toks k e true=⟨4,(bG toks (k)).at_,(fG (bG toks k).word true),((atP toks (k) e),43),(k+1)⟩:=by first | (simp [bI, *];done) | simp_all [bI]
   rw [hph];exact rs2 () trivial
  refine g5 ?_;refine ss (k7 (bAb)) ?_;refine g5 ?_;have hph:bI toks k e true=⟨4,(bG toks (k)).at_,(fG (bG toks k).word true),(0,0),(k+1)⟩:=by first | (simp [bI, *];done) | simp_all [bI]
  rw [hph];exact rs2 () trivial
 refine g27 ?_;refine fN (fun hc88=>?_) fun hc88=>?_
 ·refine cO<|bU _ _ [(true,0),(true,1),(false,2),(false,3)] bV o5 (.c0 (.c0 (.c0 (.c0 (.c0 .nil))))) bA.self ?_;refine g4 ?_;refine gO (.c1 (.c1 (.c1 (.c1 (.c1 .nil))))) ⟨d7,j0⟩ ?_;refine g2 ?_;refine gO (.c2 (.c2 (.c2 (.c2 (.c2 .nil))))) ⟨d7,j0⟩ ?_;refine g4 ?_;have hph:bI toks k e true=⟨4,(bG toks (k)).at_,(fG (bG toks k).word true),((atP toks (k) e),43),(k+1)⟩:=by first | (simp [bI, *];done) | simp_all [bI]
  rw [hph];exact rs2 () trivial
 refine g5 ?_;refine ss (k7 (bAb)) ?_;refine g5 ?_;have hph:bI toks k e true=⟨4,(bG toks (k)).at_,(fG (bG toks k).word true),(0,0),(k+1)⟩:=by first | (simp [bI, *];done) | simp_all [bI]
 rw [hph];exact rs2 () trivial
theorem phraseF_spec(bl:Nat)(A:Option Addr)(c:Nat)(toks:List TokV)(k:Nat)(e:Int)(hk:k≤1000000):cM prog 105 [.pointer (some ⟨bl,0,none⟩),.bool false] [.obj bl (.cells [.slice A toks.length c,.int .i64 (k:Nat),.int .i64 e].toArray 110)] [mY.sl (.slice A toks.length c) toks] (fun(_:Unit)=>phrV (bI toks k e false)) (fun(_:Unit)=>[.obj bl (.cells [.slice A toks.length c,.int .i64 ((bI toks k e false).next:Nat),.int .i64 e].toArray 110)]) (fun _=>[]):=by
 have hT:=fF;refine k6 func105 ntmps105 ?_;intro β hM;refine g2 ?_;refine j6 oG fun b1=>?_;refine j6 bFo fun b2=>?_;refine g5 ?_;refine bD func60 (iL bl A c toks (k) e) rfl rfl (.c2 .nil) ⟨d7,j0⟩ fun _=>?_;refine j6 bBm fun b3=>?_;refine g6 ?_;refine bD func61 (cC bl A c toks (k) e _) rfl rfl (.c1 .nil) ⟨d7,j0⟩ fun _=>?_;refine j6 bFo fun b4=>?_;refine g10 ?_;refine inc (k+1) ?_;refine g9 ?_;refine ss (k7 (sK _ _)) ?_;refine j6 oG fun b5=>?_;refine g17 ?_;refine bD func92 (bJy _ false) rfl rfl .nil j0 fun _=>?_;refine g11 ?_;refine bD func60 (iL bl A c toks ((k+1)) e) rfl rfl (.c1 .nil) ⟨d7,j0⟩ fun _=>?_;refine j6 bBm fun b6=>?_;refine g9 ?_;refine oX (fun hg39=>?_) fun hg39=>?_
 ·refine g4 ?_;refine cI (fun hg43=>?_) (fun hg43=>?_)
  ·have hg43:(bG toks ((k+1))).word=([47]:Bs):=eq_of_beq hg43;refine g20 ?_;refine inc ((k+1)+1) ?_;refine g9 ?_;refine bD func125 (jV _) rfl rfl .nil j0 fun _=>?_;refine g11 ?_;refine jX (fun hg68=>?_) fun hg68=>?_
   ·refine g10 ?_;refine bU _ _ [(true,0),(true,1),(false,2),(false,3)] bV o5 (.c0 (.c0 (.c0 (.c0 (.c0 .nil))))) bA.self ?_;refine g4 ?_;refine gO (.c1 (.c1 (.c1 (.c1 (.c1 .nil))))) ⟨d7,j0⟩ ?_;refine g2 ?_;refine gO (.c2 (.c2 (.c2 (.c2 (.c2 .nil))))) ⟨d7,j0⟩ ?_;refine g5 ?_;have hph:bI toks k e false=⟨3,(bG toks (k)).at_,(hZ (bG toks k).word),((atP toks (k) e),43),((k+1)+1)⟩:=by first | (simp [bI, *];done) | simp_all [bI]
    rw [hph];exact rs2 () trivial
   refine g3 ?_;refine bM (t':=false) (ag1) ?_;refine g2 ?_;refine bM (t':=false) rfl ?_;refine g16 ?_;refine bM (t':=true) ((by show((bG toks ((k+1))).word==([47]:Bs))=_;rw [hg43];rfl)) ?_;refine g18 ?_;refine fN (fun hc88=>?_) fun hc88=>?_
   ·refine cO<|bU _ _ [(true,0),(true,1),(false,2),(false,3)] bV o5 (.c0 (.c0 (.c0 (.c0 (.c0 .nil))))) bA.self ?_;refine g4 ?_;refine gO (.c1 (.c1 (.c1 (.c1 (.c1 .nil))))) ⟨d7,j0⟩ ?_;refine g2 ?_;refine gO (.c2 (.c2 (.c2 (.c2 (.c2 .nil))))) ⟨d7,j0⟩ ?_;refine g4 ?_;have hph:bI toks k e false=⟨5,(bG toks (k)).at_,(hZ (bG toks k).word),((atP toks (k) e),43),((k+1)+1)⟩:=by first | (simp [bI, *];done) | simp_all [bI]
    rw [hph];exact rs2 () trivial
   refine g5 ?_;refine ss (k7 (bAb)) ?_;refine g5 ?_;have hph:bI toks k e false=⟨5,(bG toks (k)).at_,(hZ (bG toks k).word),(0,0),((k+1)+1)⟩:=by first | (simp [bI, *];done) | simp_all [bI]
   rw [hph];exact rs2 () trivial
  have hg43:(bG toks ((k+1))).word≠([47]:Bs):=fun h=>absurd (beq_iff_eq.2 h) af2;refine g5 ?_;refine cI (fun hg48=>?_) (fun hg48=>?_)
  ·have hg48:(bG toks ((k+1))).word=([92]:Bs):=eq_of_beq hg48;refine g15 ?_;refine inc ((k+1)+1) ?_;refine g9 ?_;refine bD func125 (jV _) rfl rfl .nil j0 fun _=>?_;refine g11 ?_;refine jX (fun hg68=>?_) fun hg68=>?_
   ·refine g10 ?_;refine bU _ _ [(true,0),(true,1),(false,2),(false,3)] bV o5 (.c0 (.c0 (.c0 (.c0 (.c0 .nil))))) bA.self ?_;refine g4 ?_;refine gO (.c1 (.c1 (.c1 (.c1 (.c1 .nil))))) ⟨d7,j0⟩ ?_;refine g2 ?_;refine gO (.c2 (.c2 (.c2 (.c2 (.c2 .nil))))) ⟨d7,j0⟩ ?_;refine g5 ?_;have hph:bI toks k e false=⟨3,(bG toks (k)).at_,(hZ (bG toks k).word),((atP toks (k) e),43),((k+1)+1)⟩:=by first | (simp [bI, *];done) | simp_all [bI]
    rw [hph];exact rs2 () trivial
   refine g3 ?_;refine bM (t':=false) (ag2) ?_;refine g2 ?_;refine bM (t':=false) rfl ?_;refine g16 ?_;refine bM (t':=false) ((by show((bG toks ((k+1))).word==([47]:Bs))=_;rw [hg48];rfl)) ?_;refine g7 ?_;refine bM (t':=true) ((by show((bG toks ((k+1))).word==([92]:Bs))=_;rw [hg48];rfl)) ?_;refine g18 ?_;refine fN (fun hc88=>?_) fun hc88=>?_
   ·refine cO<|bU _ _ [(true,0),(true,1),(false,2),(false,3)] bV o5 (.c0 (.c0 (.c0 (.c0 (.c0 .nil))))) bA.self ?_;refine g4 ?_;refine gO (.c1 (.c1 (.c1 (.c1 (.c1 .nil))))) ⟨d7,j0⟩ ?_;refine g2 ?_;refine gO (.c2 (.c2 (.c2 (.c2 (.c2 .nil))))) ⟨d7,j0⟩ ?_;refine g4 ?_;have hph:bI toks k e false=⟨6,(bG toks (k)).at_,(hZ (bG toks k).word),((atP toks (k) e),43),((k+1)+1)⟩:=by first | (simp [bI, *];done) | simp_all [bI]
    rw [hph];exact rs2 () trivial
   refine g5 ?_;refine ss (k7 (bAb)) ?_;refine g5 ?_;have hph:bI toks k e false=⟨6,(bG toks (k)).at_,(hZ (bG toks k).word),(0,0),((k+1)+1)⟩:=by first | (simp [bI, *];done) | simp_all [bI]
   rw [hph];exact rs2 () trivial
  have hg48:(bG toks ((k+1))).word≠([92]:Bs):=fun h=>absurd (beq_iff_eq.2 h) af3;refine g7 ?_;refine jA (fun hc53=>?_) fun hc53=>?_
  ·have hc53:(bG toks ((k+1))).word=([46]:Bs):=eq_of_beq hc53;refine g7 ?_;refine inc ((k+1)+1) ?_;refine g9 ?_;refine bD func125 (jV _) rfl rfl .nil j0 fun _=>?_;refine g11 ?_;refine jX (fun hg68=>?_) fun hg68=>?_
   ·refine g10 ?_;refine bU _ _ [(true,0),(true,1),(false,2),(false,3)] bV o5 (.c0 (.c0 (.c0 (.c0 (.c0 .nil))))) bA.self ?_;refine g4 ?_;refine gO (.c1 (.c1 (.c1 (.c1 (.c1 .nil))))) ⟨d7,j0⟩ ?_;refine g2 ?_;refine gO (.c2 (.c2 (.c2 (.c2 (.c2 .nil))))) ⟨d7,j0⟩ ?_;refine g5 ?_;have hph:bI toks k e false=⟨3,(bG toks (k)).at_,(hZ (bG toks k).word),((atP toks (k) e),43),((k+1)+1)⟩:=by first | (simp [bI, *];done) | simp_all [bI]
    rw [hph];exact rs2 () trivial
   refine g3 ?_;refine bM (t':=true) (ag3) ?_;refine g2 ?_;refine bM (t':=true) rfl ?_;refine g5 ?_;refine bU _ _ [(true,0),(true,1),(false,2),(false,3)] bV o5 (.c0 (.c0 (.c0 (.c0 (.c0 .nil))))) bA.self ?_;refine g4 ?_;refine gO (.c1 (.c1 (.c1 (.c1 (.c1 .nil))))) ⟨d7,j0⟩ ?_;refine g2 ?_;refine gO (.c2 (.c2 (.c2 (.c2 (.c2 .nil))))) ⟨d7,j0⟩ ?_;refine g5 ?_;have hph:bI toks k e false=⟨3,(bG toks (k)).at_,(hZ (bG toks k).word),((atP toks (k) e),43),((k+1)+1)⟩:=by first | (simp [bI, *];done) | simp_all [bI]
   rw [hph];exact rs2 () trivial
  have hc53:(bG toks ((k+1))).word≠([46]:Bs):=fun h=>absurd (beq_iff_eq.2 h) af4;refine g10 ?_;refine fN (fun hc88=>?_) fun hc88=>?_
  ·refine cO<|bU _ _ [(true,0),(true,1),(false,2),(false,3)] bV o5 (.c0 (.c0 (.c0 (.c0 (.c0 .nil))))) bA.self ?_;refine g4 ?_;refine gO (.c1 (.c1 (.c1 (.c1 (.c1 .nil))))) ⟨d7,j0⟩ ?_;refine g2 ?_;refine gO (.c2 (.c2 (.c2 (.c2 (.c2 .nil))))) ⟨d7,j0⟩ ?_;refine g4 ?_;have hph:bI toks k e false=⟨3,(bG toks (k)).at_,(fG (bG toks k).word false),((atP toks (k) e),43),(k+1)⟩:=by first | (simp [bI, *];done) | simp_all [bI]
   rw [hph];exact rs2 () trivial
  refine g5 ?_;refine ss (k7 (bAb)) ?_;refine g5 ?_;have hph:bI toks k e false=⟨3,(bG toks (k)).at_,(fG (bG toks k).word false),(0,0),(k+1)⟩:=by first | (simp [bI, *];done) | simp_all [bI]
  rw [hph];exact rs2 () trivial
 refine g27 ?_;refine fN (fun hc88=>?_) fun hc88=>?_
 ·refine cO<|bU _ _ [(true,0),(true,1),(false,2),(false,3)] bV o5 (.c0 (.c0 (.c0 (.c0 (.c0 .nil))))) bA.self ?_;refine g4 ?_;refine gO (.c1 (.c1 (.c1 (.c1 (.c1 .nil))))) ⟨d7,j0⟩ ?_;refine g2 ?_;refine gO (.c2 (.c2 (.c2 (.c2 (.c2 .nil))))) ⟨d7,j0⟩ ?_;refine g4 ?_;have hph:bI toks k e false=⟨3,(bG toks (k)).at_,(fG (bG toks k).word false),((atP toks (k) e),43),(k+1)⟩:=by first | (simp [bI, *];done) | simp_all [bI]
  rw [hph];exact rs2 () trivial
 refine g5 ?_;refine ss (k7 (bAb)) ?_;refine g5 ?_;have hph:bI toks k e false=⟨3,(bG toks (k)).at_,(fG (bG toks k).word false),(0,0),(k+1)⟩:=by first | (simp [bI, *];done) | simp_all [bI]
 rw [hph];exact rs2 () trivial
abbrev nL:=Option (Nat×ItemV)
def fnV (b4:Nat):nL→Value
 | none=> .nilFunc
 | some x=> .func (.func 106) #[] #[.pointer (some ⟨b4,0,none⟩),.pointer (some ⟨x.1,0,none⟩)]
def fnE (b4:Nat):Flat nL where
 size:=1
 cells:=fun x=>[fnV b4 x]
 len:=fun _=>rfl
 one:=fun x u hu=>by
  simp at hu;subst hu;cases x<;>rfl
 pos:=o9
theorem fnInfo: ∃i:TypeInfo,prog.info? 1=some i∧i.zero=some .nilFunc∧i.size=1∧i.bytes=8:=by
 have h:(prog.info? 1).map (fun i=>(i.zero,i.size,i.bytes))=some (some .nilFunc,1,8):=n9
 cases hi:prog.info? 1 with
 | none=>simp [hi] at h
 | some i=>simp [hi] at h;exact⟨i,rfl,h.1,h.2.1,h.2.2⟩
section
variable {β : dF} {n : Nat} {Γ : Env} {H : List bH} {F : List Fact} {Q : Exit → Act → World → Prop} {ops : Array Oper} {rest : List Oper} {o : Oper} {d : Nat}
theorem bIt{b4:Nat}{x:Operand}{m:nL}(hw:want ops Γ o=some true)(ho:o.op= .buildSlice 196 1 #[(0,x)])(hd:o.dst=some d)(hn:Nat.blt d n=true)
  (hx:Γ.ev x=some (fnV b4 m)) (k: ∀b,At β n ((d,.slice (some ⟨b,0,none⟩) 1 1)::Γ) (.obj b (.cells ((fnE b4).all [m]).toArray 1)::H) F (wpList prog ops Q rest)):At β n Γ H F (wpList prog ops Q (o::rest)):=by
 obtain⟨i,hi,hz,hs,_⟩:=fnInfo;refine gG hw ho hd hn hx underlying196 hi hz n7 n7 ?_ k;rw [hs];cases m<;>kernel_rfl
theorem bKm{b4:Nat}{x y:Operand}{c q:Nat}{v:Value}{A:Option Addr}{xs ys:List nL}{H':List bH}(hH:cD H ((fnE b4).row v 1 xs) H')(hr:dQ β H F (fnE b4) A ys)(hg:o.guard=none)
  (ho:o.op= .call {callee:= .builtin .append,args:= #[x,y],argTypes:= #[196,196]}) (hd:o.dst=some d) (hn:Nat.blt d n=true)
  (hx:Γ.ev x=some v) (hy:Γ.ev y=some (.slice A q c)) (hq:q=ys.length) (hl:xs.length+ys.length≤10000000)
  (k: ∀A' cap',At β n ((d,.slice A' (xs++ys).length cap')::Γ) ((fnE b4).row (.slice A' (xs++ys).length cap') 1 (xs++ys)::H') F (wpList prog ops Q rest)):At β n Γ H F (wpList prog ops Q (o::rest)):=by
 obtain⟨i,hi,hz,hs,hb⟩:=fnInfo;exact dK hH hr hg ho hd hn underlying196 hi hz hs hb rfl hx hy hq n7 o9 k
end
def nP (st:List nL):Fact:=Fact.each st fun o=>match o with
 | none=>Fact.true
 | some x=>Fact.cells x.1 0 (mK.cells x.2)
def finP:List nL→List ItemV×List nL
 | some x::r=>(x.2::(finP r).1,(finP r).2)
 | none::r=>([],none::r)
 | []=>([],[])
theorem itemZ:(prog.info? 52).bind (·.zero)=some (.slice none 0 0):=n9
theorem funcZ:(prog.info? 196).bind (·.zero)=some (.slice none 0 0):=n9
theorem bJo{x:nL}{r:List nL}:(x::r).reverse[(r.length+1)-1]?=some x:=by
 simp
theorem bIv{x:nL}{r:List nL}:(x::r).reverse.take ((r.length+1)-1)=r.reverse:=by
 simp
theorem kV(x:nL)(r:List nL):(x::r).reverse.length=r.length+1:=by simp
section
variable {F : List Fact} {x : Nat × ItemV} {o : nL} {r : List nL}
theorem todo_head(h:Has F (nP (some x::r))):Has F (Fact.cells x.1 0 (mK.cells x.2)):=fun S w k=>h S w k (some x) (List.mem_cons_self ..)
theorem bIp(h:Has F (nP (o::r))):Has F (nP r):=fun S w k y hy=>h S w k y (List.mem_cons_of_mem _ hy)
theorem todo_nil:Has F (nP []):=fun _ _ _ y hy=>by simp at hy
theorem todo_none(h:Has F (nP r)):Has F (nP (none::r)):=fun S w k y hy=>by
 rcases List.mem_cons.1 hy with rfl | hy
 ·trivial
 ·exact h S w k y hy
theorem bUu(hx:Has F (Fact.cells x.1 0 (mK.cells x.2)))(h:Has F (nP r)):Has F (nP (some x::r)):=fun S w k y hy=>by
 rcases List.mem_cons.1 hy with rfl | hy
 ·exact hx S w k
 ·exact h S w k y hy
end
def tI (p:Phr):ItemV:=⟨p.how,p.at_,p.fn,[],⟨none,0,[]⟩⟩
theorem push_spec(b4 bi:Nat)(C:Option Addr)(e:Nat)(out:List ItemV)(it:ItemV)(ho:out.length≤1000000):cM prog 106 [.pointer (some ⟨b4,0,none⟩),.pointer (some ⟨bi,0,none⟩)] [.obj b4 (.cells [.slice C out.length e].toArray 52),mK.row (.slice C out.length e) 87 out] [Fact.cells bi 0 (mK.cells it)] (fun(_:Option Addr×Nat)=> .tuple #[]) (fun(x:Option Addr×Nat)=>[.obj b4 (.cells [.slice x.1 (out++[it]).length x.2].toArray 52),mK.row (.slice x.1 (out++[it]).length x.2) 87 (out++[it])]) (fun _=>[]):=by
 have hT:=fF;refine k6 func106 ntmps106 ?_;intro β hM;refine g2 ?_;refine ss (fJ hT (knows_fact d7) rfl rfl rfl rfl rfl) ?_;refine bAp (m:=it) rfl rfl rfl rfl rfl fun b1=>?_;refine bBx kT2 (bW .head rfl) rfl rfl rfl rfl rfl rfl rfl y9 fun A2 c3=>?_;refine g2 ?_;exact kC (A2,c3) rfl (.c0 (.c0 .nil)) j0 (rfl)
theorem pT(b5 b4:Nat)(D:Option Addr)(f:Nat)(st0:List nL)(C:Option Addr)(e:Nat)(out0:List ItemV)(hs:out0.length+st0.length≤100000):cM prog 103 [.pointer (some ⟨b5,0,none⟩)] [.obj b5 (.cells [.slice D st0.reverse.length f].toArray 196),(fnE b4).row (.slice D st0.reverse.length f) 1 st0.reverse,.obj b4 (.cells [.slice C out0.length e].toArray 52),mK.row (.slice C out0.length e) 87 out0] [nP st0] (fun(_:(Option Addr×Nat)×(Option Addr×Nat))=> .tuple #[]) (fun(x:(Option Addr×Nat)×(Option Addr×Nat))=>[.obj b5 (.cells [.slice x.1.1 (finP st0).2.reverse.length x.1.2].toArray 196),(fnE b4).row (.slice x.1.1 (finP st0).2.reverse.length x.1.2) 1 (finP st0).2.reverse,.obj b4 (.cells [.slice x.2.1 (out0++(finP st0).1).length x.2.2].toArray 52),mK.row (.slice x.2.1 (out0++(finP st0).1).length x.2.2) 87 (out0++(finP st0).1)]) (fun _=>[nP (finP st0).2]):=by
 have hT:=fF;refine k6 func103 ntmps103 ?_;intro β hM;refine one ?_;refine cB (ι:=List nL×List ItemV×Option Addr×Nat×Option Addr×Nat) [(0,_)] ⟨rfl,j0⟩ (fun _=>[]) (fun⟨st,out,D,f,C,e⟩=>[.obj b5 (.cells [.slice D st.reverse.length f].toArray 196),(fnE b4).row (.slice D st.reverse.length f) 1 st.reverse,.obj b4 (.cells [.slice C out.length e].toArray 52),mK.row (.slice C out.length e) 87 out]) (fun⟨st,out,D,f,C,e⟩=>[Fact.pure (out0++(finP st0).1=out++(finP st).1∧(finP st0).2=(finP st).2∧out.length+st.length≤100000),nP st]) (fun⟨st,out,D,f,C,e⟩=>st.length) (st0,out0,D,f,C,e) j0 (.c0 (.c0 (.c0 (.c0 .nil)))) ⟨j3 (⟨rfl,rfl,hs⟩),d7,j0⟩ ?_;rintro⟨st,out,D,f,C,e⟩;dsimp only;refine bC d7 fun hinv0=>?_;refine g2 ?_
 rcases st with _ | ⟨_ | ⟨b,it⟩,r⟩
 ·skip
  refine g5 ?_;refine jX (fun hg4=>?_) fun hg4=>?_
  ·simp at hg4
  refine g15 ?_;have e1:(finP st0).2=[]:=hinv0.2.1;have e2:out0++(finP st0).1=out:=by rw [hinv0.1];simp [finP]
  rw [e1,e2];exact kC ((D,f),(C,e)) rfl (.c0 (.c0 (.c0 (.c0 .nil)))) ⟨d8,j0⟩ (rfl)
 ·have hsl:r.length≤100000:=by have:=hinv0.2.2;simp at this;omega
  refine g3 ?_;refine cP (z':=(((r.length+1):Nat):Int)) (congrArg Nat.cast (kV _ r)) ?_;refine g2 ?_;refine jX (fun hg4=>?_) fun hg4=>?_
  ·refine g3 ?_;refine cP (z':=(((r.length+1):Nat):Int)) (congrArg Nat.cast (kV _ r)) ?_;refine one ?_;refine inc ((r.length+1)-1) ?_;refine ss (cF hT (k:=((r.length+1)-1)) (cN kT1) rfl rfl rfl rfl rfl rfl rfl ah5) ?_;refine ss (fL bJo 0) ?_;refine ss (sti_nofn underlying1 rfl rfl) ?_;refine g8 ?_;have e1:(finP st0).2=(none:nL)::r:=hinv0.2.1;have e2:out0++(finP st0).1=out:=by rw [hinv0.1];simp [finP]
   rw [e1,e2];exact kC ((D,f),(C,e)) rfl (.c0 (.c0 (.c0 (.c0 .nil)))) ⟨d8,j0⟩ (rfl)
  omega
 have hsl:r.length≤100000:=by have:=hinv0.2.2;simp at this;omega
 have hol:out.length≤100000:=by have:=hinv0.2.2;omega
 refine g3 ?_;refine cP (z':=(((r.length+1):Nat):Int)) (congrArg Nat.cast (kV _ r)) ?_;refine g2 ?_;refine jX (fun hg4=>?_) fun hg4=>?_
 ·refine g3 ?_;refine cP (z':=(((r.length+1):Nat):Int)) (congrArg Nat.cast (kV _ r)) ?_;refine one ?_;refine inc ((r.length+1)-1) ?_;refine ss (cF hT (k:=((r.length+1)-1)) (cN kT1) rfl rfl rfl rfl rfl rfl rfl ah5) ?_;refine ss (fL bJo 0) ?_;refine ss (sti_fn underlying1 rfl rfl) ?_;refine g12 ?_;refine cP (z':=(((r.length+1):Nat):Int)) (congrArg Nat.cast (kV _ r)) ?_;refine one ?_;refine inc ((r.length+1)-1) ?_;refine ss (cF hT (k:=((r.length+1)-1)) (cN kT1) rfl rfl rfl rfl rfl rfl rfl ah5) ?_;refine ss (fL bJo 0) ?_;refine fV (bO func106 rfl rfl) (push_spec b4 b _ _ out it n7) rfl rfl rfl rfl rfl rfl rfl (.c2 (.c2 .nil)) ⟨todo_head d8,j0⟩ fun⟨C1,e2⟩=>?_;refine g6 ?_;refine cP (z':=(((r.length+1):Nat):Int)) (congrArg Nat.cast (kV _ r)) ?_;refine one ?_;refine inc ((r.length+1)-1) ?_;refine iK hT (k:=((r.length+1)-1)) kT3 rfl rfl rfl rfl rfl rfl rfl rfl rfl ah5 ?_;rw [bIv];refine g4 ?_;refine bB (nP r) (bIp d8) ?_;exact dM (r,_,_,_,_,_) (by dsimp only;simp) j0 ⟨rfl,j0⟩ (.c0 (.c0 (.c0 (.c0 .nil)))) ⟨j3 (⟨by rw [hinv0.1];simp [finP],by rw [hinv0.2.1];rfl,by have:=hinv0.2.2;simp at*;omega⟩),d7,j0⟩ (bA.drop 3)
 omega
theorem pZ(bl:Nat)(A:Option Addr)(c:Nat)(toks:List TokV)(k:Nat)(e:Int)(b1 b5 b4:Nat)(D:Option Addr)(f:Nat)(st:List nL)(hk:k≤1000000)(hs:st.length≤100000):cM prog 104 [.bool true,.pointer (some ⟨b1,0,none⟩),.pointer (some ⟨b5,0,none⟩),.pointer (some ⟨b4,0,none⟩)] [.obj bl (.cells [.slice A toks.length c,.int .i64 (k:Nat),.int .i64 e].toArray 110),.obj b1 (.cells [.pointer (some ⟨bl,0,none⟩)].toArray 108),.obj b5 (.cells [.slice D st.reverse.length f].toArray 196),(fnE b4).row (.slice D st.reverse.length f) 1 st.reverse] [mY.sl (.slice A toks.length c) toks,nP st] (fun(_:(Option Addr×Nat)×Nat)=> .agg #[.int .i64 (bI toks (k) e true).flt.1,.int .i64 (bI toks (k) e true).flt.2]) (fun(x:(Option Addr×Nat)×Nat)=>[.obj bl (.cells [.slice A toks.length c,.int .i64 ((bI toks (k) e true).next:Nat),.int .i64 e].toArray 110),.obj b1 (.cells [.pointer (some ⟨bl,0,none⟩)].toArray 108),.obj b5 (.cells [.slice x.1.1 (some (x.2,(tI (bI toks (k) e true)))::st).reverse.length x.1.2].toArray 196),(fnE b4).row (.slice x.1.1 (some (x.2,(tI (bI toks (k) e true)))::st).reverse.length x.1.2) 1 (some (x.2,(tI (bI toks (k) e true)))::st).reverse]) (fun(x:(Option Addr×Nat)×Nat)=>[nP (some (x.2,(tI (bI toks (k) e true)))::st)]):=by
 have hT:=fF;refine k6 func104 ntmps104 ?_;intro β hM;refine g2 ?_;refine j6 bFo fun b1=>?_;refine g6 ?_;refine bD func105 (phraseT_spec bl A c toks (k) e n7) rfl rfl (.c1 .nil) ⟨d7,j0⟩ fun _=>?_;refine g3 ?_;refine j6 oG fun b2=>?_;refine j6 bFo fun b3=>?_;refine g8 ?_;refine bIt (b4:=b4) (m:=(some (b2,(tI (bI toks (k) e true))):nL)) rfl rfl rfl rfl rfl fun b4=>?_;refine bKm kT7 (bW .head rfl) rfl rfl rfl rfl rfl rfl rfl ad8 fun A5 c6=>?_;rw [←List.reverse_cons];refine g10 ?_;refine fR kT5 ?_;exact rs1 ((A5,c6),b2) ⟨bUu d7 d9,j0⟩
theorem laterF_spec(bl:Nat)(A:Option Addr)(c:Nat)(toks:List TokV)(k:Nat)(e:Int)(b1 b5 b4:Nat)(D:Option Addr)(f:Nat)(st:List nL)(hk:k≤1000000)(hs:st.length≤100000):cM prog 104 [.bool false,.pointer (some ⟨b1,0,none⟩),.pointer (some ⟨b5,0,none⟩),.pointer (some ⟨b4,0,none⟩)] [.obj bl (.cells [.slice A toks.length c,.int .i64 (k:Nat),.int .i64 e].toArray 110),.obj b1 (.cells [.pointer (some ⟨bl,0,none⟩)].toArray 108),.obj b5 (.cells [.slice D st.reverse.length f].toArray 196),(fnE b4).row (.slice D st.reverse.length f) 1 st.reverse] [mY.sl (.slice A toks.length c) toks,nP st] (fun(_:(Option Addr×Nat)×Nat)=> .agg #[.int .i64 (bI toks (k) e false).flt.1,.int .i64 (bI toks (k) e false).flt.2]) (fun(x:(Option Addr×Nat)×Nat)=>[.obj bl (.cells [.slice A toks.length c,.int .i64 ((bI toks (k) e false).next:Nat),.int .i64 e].toArray 110),.obj b1 (.cells [.pointer (some ⟨bl,0,none⟩)].toArray 108),.obj b5 (.cells [.slice x.1.1 (some (x.2,(tI (bI toks (k) e false)))::st).reverse.length x.1.2].toArray 196),(fnE b4).row (.slice x.1.1 (some (x.2,(tI (bI toks (k) e false)))::st).reverse.length x.1.2) 1 (some (x.2,(tI (bI toks (k) e false)))::st).reverse]) (fun(x:(Option Addr×Nat)×Nat)=>[nP (some (x.2,(tI (bI toks (k) e false)))::st)]):=by
 have hT:=fF;refine k6 func104 ntmps104 ?_;intro β hM;refine g2 ?_;refine j6 bFo fun b1=>?_;refine g6 ?_;refine bD func105 (phraseF_spec bl A c toks (k) e n7) rfl rfl (.c1 .nil) ⟨d7,j0⟩ fun _=>?_;refine g3 ?_;refine j6 oG fun b2=>?_;refine j6 bFo fun b3=>?_;refine g8 ?_;refine bIt (b4:=b4) (m:=(some (b2,(tI (bI toks (k) e false))):nL)) rfl rfl rfl rfl rfl fun b4=>?_;refine bKm kT7 (bW .head rfl) rfl rfl rfl rfl rfl rfl rfl ad8 fun A5 c6=>?_;rw [←List.reverse_cons];refine g10 ?_;refine fR kT5 ?_;exact rs1 ((A5,c6),b2) ⟨bUu d7 d9,j0⟩
structure cT where
 how:Int
 at_:Int
 fn:Int
 name:Bs
 nums:List Int
 deriving Inhabited,DecidableEq
def ItemV.it(x:ItemV):cT:=⟨x.how,x.at_,x.fn,x.name,x.nums.list⟩
def Phr.it(p:Phr):cT:=⟨p.how,p.at_,p.fn,[],[]⟩
abbrev Stk:=List (Option cT)
def bEi (st:List nL):Stk:=st.map fun o=>o.map fun x=>x.2.it
def oZ:Stk→List cT×Stk
 | some x::r=>(x::(oZ r).1,(oZ r).2)
 | none::r=>([],none::r)
 | []=>([],[])
theorem bDc: ∀st:List nL,(finP st).1.map ItemV.it=(oZ (bEi st)).1∧bEi (finP st).2=(oZ (bEi st)).2
 | []=>⟨rfl,rfl⟩
 | none::r=>⟨rfl,rfl⟩
 | some x::r=>by
  obtain⟨h1,h2⟩:=bDc r;exact⟨by simp [finP,oZ,bEi] at*;exact h1,h2⟩
def opens:List nL→Nat
 | []=>0
 | none::r=>opens r+1
 | some _::r=>opens r
theorem yR: ∀st:List nL,(finP st).1.length+(finP st).2.length=st.length
 | []=>rfl
 | none::r=>by simp [finP]
 | some x::r=>by have:=yR r;simp [finP];omega
theorem fin_open{st:List nL}(h:0<opens st): ∃r,(finP st).2=none::r∧opens r+1=opens st:=by
 induction st with
 | nil=>simp [opens] at h
 | cons o st ih=>
  cases o with
  | none=>exact⟨st,rfl,rfl⟩
  | some x=>exact ih h
section
variable (toks : List TokV) (e : Int)
def gJ (k:Nat):List Int:=((toks.drop k).takeWhile fun t=>t.kind==2).map (·.n)
def nN (f:Flt):Bool:=pB ⟨f.1,f.2⟩ ⟨0,0⟩
abbrev zO:=List cT×Flt
def bGd (rec:Nat→List cT→Stk→Nat→zO)(o k:Nat)(out:List cT)(st:Stk):zO:=
 if (bG toks k).kind=4 then (if 0<o then ([],(atP toks k e,42)) else (out++(oZ st).1,(0,0)))
 else if (bG toks k).kind=2∨sG (bG toks k).word=false then ([],(atP toks k e,46))
 else if nN (bI toks k e true).flt then rec (bI toks k e true).next out (some (bI toks k e true).it::st) o else ([],(bI toks k e true).flt)
def vD (rec:Nat→List cT→Stk→Nat→zO):Nat→Nat→List cT→Stk→zO
 | 0,k,out,st=>bGd toks e rec 0 k out st
 | o+1,k,out,st=>if (bG toks k).kind=3∧(bG toks k).word=[41] then vD rec o (k+1) (out++(oZ st).1) (oZ st).2.tail else bGd toks e rec (o+1) k out st
def bCm (k:Nat):cT:=⟨1,(bG toks k).at_,0,[],gJ toks k⟩
def uD (k:Nat):cT:=⟨2,(bG toks k).at_,0,(bG toks k).word,[]⟩
def nO:Nat→Nat→List cT→Stk→Nat→zO
 | 0,_,_,_,_=>([],(0,0))
 | f+1,k,out,st,o=>
  if (bG toks k).kind≠2∧(bG toks k).kind≠4∧sG (bG toks k).word=true then
   if nN (bI toks k e false).flt then nO f (bI toks k e false).next out (some (bI toks k e false).it::st) o else ([],(bI toks k e false).flt)
  else if (bG toks k).kind=3∧(bG toks k).word=[40] then
   if o=32 then ([],(atP toks k e,44)) else nO f (k+1) out (none::st) (o+1)
  else if (bG toks k).kind=2 then vD toks e (nO f) o (k+(gJ toks k).length) (out++[bCm toks k]) st
  else if (bG toks k).kind=1∧dD (bG toks k).word=true then vD toks e (nO f) o (k+1) (out++[uD toks k]) st
  else if (bG toks k).kind=1 then ([],(atP toks k e,41)) else ([],(atP toks k e,42))
def uO (k:Nat):zO:=nO toks e (toks.length+1) k [] [] 0
def bIl (r:zO)(k:Nat)(out:List cT)(st:Stk)(o:Nat):Prop:=k≤toks.length∧ ∃f,toks.length+1≤f+k∧nO toks e f k out st o=r
def bAo (r:zO)(k:Nat)(out:List cT)(st:Stk)(o:Nat):Prop:=k≤toks.length∧ ∃f,toks.length+1≤f+k∧vD toks e (nO toks e f) o k out st=r
end
theorem jG{toks:List TokV}{k:Nat}(h:(bG toks k).kind≠4):k<toks.length:=by
 rcases Nat.lt_or_ge k toks.length with h' | h'
 ·exact h'
 ·rw [bEt h'] at h;exact absurd rfl h
theorem wP{toks:List TokV}{k:Nat}(h:(bG toks k).kind=2):gJ toks k=(bG toks k).n::gJ toks (k+1):=by
 have hk:=jG (toks:=toks) (k:=k) (by rw [h];decide);have e:toks[k]?=some toks[k]:=List.getElem?_eq_getElem hk;rw [uU e] at h⊢;unfold gJ;rw [List.drop_eq_getElem_cons hk,List.takeWhile_cons_of_pos ac1];rfl
theorem nums_end{toks:List TokV}{k:Nat}(h:(bG toks k).kind≠2):gJ toks k=[]:=by
 unfold gJ
 rcases Nat.lt_or_ge k toks.length with hk | hk
 ·have e:toks[k]?=some toks[k]:=List.getElem?_eq_getElem hk;rw [uU e] at h;rw [List.drop_eq_getElem_cons hk,List.takeWhile_cons_of_neg ac1];rfl
 ·rw [List.drop_of_length_le hk];rfl
theorem nums_le(toks:List TokV)(k:Nat):(gJ toks k).length≤toks.length-k:=by
 unfold gJ;rw [List.length_map];have:=(List.takeWhile_sublist (fun t:TokV=>t.kind==2) (l:=toks.drop k)).length_le
 simpa using this
theorem cZ(toks:List TokV)(k:Nat)(e:Int)(b:Bool):k+1≤(bI toks k e b).next∧(bI toks k e b).next≤k+2:=by
 unfold bI;split
 ·split
  ·exact⟨o6,o6⟩
  ·exact⟨o6,o6⟩
 ·exact⟨o6,o6⟩
theorem bCr{toks:List TokV}{k:Nat}{e:Int}{b:Bool}(h:k<toks.length):(bI toks k e b).next≤toks.length:=by
 unfold bI;split
 ·rename_i h3;have:=jG (toks:=toks) (k:=k+1) (by rw [h3.1];decide);split<;>(simp only;omega)
 ·simp only;omega
theorem bracket_verb:sG [40]=false:=o9
theorem name_verb{s:Bs}(h:dD s=true):sG s=false:=by
 unfold dD at h;simp only [Bool.and_eq_true,Bool.not_eq_true'] at h;exact h.1
section
variable {toks : List TokV} {e : Int} {r : zO} {k o : Nat} {out : List cT} {st : Stk}
theorem e_start(h:k≤toks.length):bIl toks e (uO toks e k) k [] [] 0:=⟨h,toks.length+1,n7,rfl⟩
theorem e_verb(h:bIl toks e r k out st o)(h2:(bG toks k).kind≠2)(h4:(bG toks k).kind≠4)(hv:sG (bG toks k).word=true):
  (nN (bI toks k e false).flt=true→bIl toks e r (bI toks k e false).next out (some (bI toks k e false).it::st) o)∧(nN (bI toks k e false).flt=false→r=([],(bI toks k e false).flt)):=by
 obtain⟨hk,f,hf,h⟩:=h;have hlt:=jG h4
 obtain⟨f,rfl⟩: ∃g,f=g+1:=⟨f-1,n7⟩
 rw [nO,if_pos ⟨h2,h4,hv⟩] at h;have:=cZ toks k e false;refine⟨fun hi=>?_,fun hi=>?_⟩
 ·rw [if_pos hi] at h;exact⟨bCr hlt,f,n7,h⟩
 ·rw [if_neg ag6] at h;exact h.symm
theorem e_open(h:bIl toks e r k out st o)(h3:(bG toks k).kind=3)(hw:(bG toks k).word=[40]):
  (o≠32→bIl toks e r (k+1) out (none::st) (o+1))∧(o=32→r=([],(atP toks k e,44))):=by
 obtain⟨hk,f,hf,h⟩:=h;have hlt:=jG (toks:=toks) (k:=k) (by rw [h3];decide)
 obtain⟨f,rfl⟩: ∃g,f=g+1:=⟨f-1,n7⟩
 rw [nO,if_neg (by rw [hw,bracket_verb];simp),if_pos ⟨h3,hw⟩] at h;refine⟨fun hi=>?_,fun hi=>?_⟩
 ·rw [if_neg hi] at h;exact⟨hlt,f,n7,h⟩
 ·rw [if_pos hi] at h;exact h.symm
theorem e_num(h:bIl toks e r k out st o)(h2:(bG toks k).kind=2):bAo toks e r (k+(gJ toks k).length) (out++[bCm toks k]) st o:=by
 obtain⟨hk,f,hf,h⟩:=h;have hlt:=jG (toks:=toks) (k:=k) (by rw [h2];decide)
 obtain⟨f,rfl⟩: ∃g,f=g+1:=⟨f-1,n7⟩
 rw [nO,if_neg (by rw [h2];simp),if_neg (by rw [h2];simp),if_pos h2] at h;have h1:=nums_le toks k;have h3:=wP h2;have h4:1≤(gJ toks k).length:=by rw [h3];simp
 exact⟨n7,f,n7,h⟩
theorem e_name(h:bIl toks e r k out st o)(h1:(bG toks k).kind=1)(hn:dD (bG toks k).word=true):bAo toks e r (k+1) (out++[uD toks k]) st o:=by
 obtain⟨hk,f,hf,h⟩:=h;have hlt:=jG (toks:=toks) (k:=k) (by rw [h1];decide)
 obtain⟨f,rfl⟩: ∃g,f=g+1:=⟨f-1,n7⟩
 rw [nO,if_neg (by rw [name_verb hn];simp),if_neg ai7,if_neg ai7,if_pos ⟨h1,hn⟩] at h;exact⟨n7,f,n7,h⟩
theorem e_word(h:bIl toks e r k out st o)(h1:(bG toks k).kind=1)(hv:sG (bG toks k).word=false)(hn:dD (bG toks k).word=false):r=([],(atP toks k e,41)):=by
 obtain⟨hk,f,hf,h⟩:=h;have hlt:=jG (toks:=toks) (k:=k) (by rw [h1];decide)
 obtain⟨f,rfl⟩: ∃g,f=g+1:=⟨f-1,n7⟩
 rw [nO,if_neg (by rw [hv];simp),if_neg ai7,if_neg ai7,if_neg (by rw [hn];simp),if_pos h1] at h;exact h.symm
theorem e_want(h:bIl toks e r k out st o)(h1:(bG toks k).kind≠1)(h2:(bG toks k).kind≠2)(hv:(bG toks k).kind=4∨sG (bG toks k).word=false)(hw:(bG toks k).kind≠3∨(bG toks k).word≠[40]):r=([],(atP toks k e,42)):=by
 obtain⟨hk,f,hf,h⟩:=h
 obtain⟨f,rfl⟩: ∃g,f=g+1:=⟨f-1,n7⟩
 rw [nO,if_neg (by rcases hv with hv | hv<;>simp [hv]),if_neg (by rcases hw with hw | hw<;>simp [hw]),if_neg h2,if_neg (by simp [h1]),if_neg h1] at h;exact h.symm
theorem b_close(h:bAo toks e r k out st o)(ho:0<o)(h3:(bG toks k).kind=3)(hw:(bG toks k).word=[41]):bAo toks e r (k+1) (out++(oZ st).1) (oZ st).2.tail (o-1):=by
 obtain⟨hk,f,hf,h⟩:=h;have hlt:=jG (toks:=toks) (k:=k) (by rw [h3];decide)
 obtain⟨o,rfl⟩: ∃g,o=g+1:=⟨o-1,n7⟩
 rw [vD,if_pos ⟨h3,hw⟩] at h;exact⟨hlt,f,n7,h⟩
theorem b_rest(h:bAo toks e r k out st o)(hn:o=0∨(bG toks k).kind≠3∨(bG toks k).word≠[41]):k≤toks.length∧ ∃f,toks.length+1≤f+k∧bGd toks e (nO toks e f) o k out st=r:=by
 obtain⟨hk,f,hf,h⟩:=h;refine⟨hk,f,hf,?_⟩
 cases o with
 | zero=>exact h
 | succ o=>
  rw [vD,if_neg (by
   rintro⟨a,b⟩
   rcases hn with hn | hn | hn
   ·omega
   ·exact hn a
   ·exact hn b)] at h
  exact h
theorem r_open(h:bAo toks e r k out st o)(h4:(bG toks k).kind=4)(ho:0<o):r=([],(atP toks k e,42)):=by
 obtain⟨_,f,_,h⟩:=b_rest h (.inr (.inl (by rw [h4];decide)));rw [bGd,if_pos h4,if_pos ho] at h;exact h.symm
theorem r_end(h:bAo toks e r k out st o)(h4:(bG toks k).kind=4)(ho: ¬0<o):r=(out++(oZ st).1,(0,0)):=by
 obtain⟨_,f,_,h⟩:=b_rest h (.inr (.inl (by rw [h4];decide)));rw [bGd,if_pos h4,if_neg ho] at h;exact h.symm
theorem wF(h:bAo toks e r k out st o)(hn:o=0∨(bG toks k).kind≠3∨(bG toks k).word≠[41])(h4:(bG toks k).kind≠4)(hm:(bG toks k).kind=2∨sG (bG toks k).word=false):r=([],(atP toks k e,46)):=by
 obtain⟨_,f,_,h⟩:=b_rest h hn;rw [bGd,if_neg h4,if_pos hm] at h;exact h.symm
theorem rW(h:bAo toks e r k out st o)(hn:o=0∨(bG toks k).kind≠3∨(bG toks k).word≠[41])(h4:(bG toks k).kind≠4)(h2:(bG toks k).kind≠2)(hv:sG (bG toks k).word=true):
  (nN (bI toks k e true).flt=true→bIl toks e r (bI toks k e true).next out (some (bI toks k e true).it::st) o)∧(nN (bI toks k e true).flt=false→r=([],(bI toks k e true).flt)):=by
 obtain⟨_,f,hf,h⟩:=b_rest h hn;have hlt:=jG h4;rw [bGd,if_neg h4,if_neg (by rw [hv];simp [h2])] at h;have:=cZ toks k e true;refine⟨fun hi=>?_,fun hi=>?_⟩
 ·rw [if_pos hi] at h;exact⟨bCr hlt,f,n7,h⟩
 ·rw [if_neg ag6] at h;exact h.symm
end
def numF (it:ItemV):Fact:=sZ.sl (.slice it.nums.addr it.nums.list.length it.nums.cap) it.nums.list
def nY (l:List ItemV):Fact:=Fact.each l numF
def tnF (st:List nL):Fact:=Fact.each st fun o=>match o with
 | none=>Fact.true
 | some x=>numF x.2
section
variable {F : List Fact} {b : Nat} {it : ItemV} {o : nL} {l : List ItemV} {st : List nL}
theorem tn_none(h:Has F (tnF st)):Has F (tnF (none::st)):=Has.each_cons Has.true h
theorem yA(h:Has F (tnF st))(hx:Has F (numF it)):Has F (tnF (some (b,it)::st)):=Has.each_cons hx h
theorem bNj(h:Has F (tnF (o::st))):Has F (tnF st):=Has.each_tail h
theorem bRt(h:Has F (nY l))(hx:Has F (numF it)):Has F (nY (l++[it])):=Has.each_snoc h hx
theorem xD(hn:Has F (nY l))(h:Has F (tnF st)):Has F (nY (l++(finP st).1)):=by
 induction st generalizing l with
 | nil=>rw [finP,List.append_nil];exact hn
 | cons o st ih=>
  cases o with
  | none=>rw [finP,List.append_nil];exact hn
  | some x=>
   have:=ih (bRt hn (fun S w k=>h S w k (some x) (List.mem_cons_self ..))) (bNj h);rw [List.append_assoc] at this;exact this
theorem bJz(h:Has F (tnF st)):Has F (tnF (finP st).2):=by
 induction st with
 | nil=>exact h
 | cons o st ih=>
  cases o with
  | none=>exact h
  | some x=>exact ih (bNj h)
end
section
variable {toks : List TokV} {e : Int} {r : zO} {k o : Nat} {out : List ItemV} {st s2 : List nL}
theorem b_num{s:Stk}(h:bIl toks e r k (out.map ItemV.it) s o)(h2:(bG toks k).kind=2){j:Nat}{cur:List Int}{C:Option Addr}{c:Nat}(hj:j=k+cur.length)(hc:gJ toks k=cur):
  bAo toks e r j ((out++[(⟨1,(bG toks k).at_,0,[],⟨C,c,cur⟩⟩:ItemV)]).map ItemV.it) s o:=by
 have:=e_num h h2;subst hc;subst hj;rw [List.map_append];exact this
theorem b_name{s:Stk}(h:bIl toks e r k (out.map ItemV.it) s o)(h1:(bG toks k).kind=1)(hn:dD (bG toks k).word=true):
  bAo toks e r (k+1) ((out++[(⟨2,(bG toks k).at_,0,(bG toks k).word,⟨none,0,[]⟩⟩:ItemV)]).map ItemV.it) s o:=by
 rw [List.map_append];exact e_name h h1 hn
theorem b_closed(h:bAo toks e r k (out.map ItemV.it) (bEi st) o)(ho:0<o)(h3:(bG toks k).kind=3)(hw:(bG toks k).word=[41])(hs:(finP st).2=none::s2):
  bAo toks e r (k+1) ((out++(finP st).1).map ItemV.it) (bEi s2) (o-1):=by
 have h1:=b_close h ho h3 hw;rw [←(bDc st).2,hs] at h1;rw [List.map_append,(bDc st).1];exact h1
theorem bNf(h:bAo toks e r k (out.map ItemV.it) (bEi st) o)(h4:(bG toks k).kind=4)(ho: ¬0<o):r=((out++(finP st).1).map ItemV.it,(0,0)):=by
 rw [List.map_append,(bDc st).1];exact r_end h h4 ho
end
theorem wZ(z0:Int)(z1:Int)(s3:ByteArray):prog.built 87 [(0,.int .i64 z0),(1,.int .i64 z1),(3,.string s3)]=some #[.int .i64 z0,.int .i64 z1,.int .u8 0,.string s3,.slice none 0 0]:=n9
set_option maxHeartbeats 1000000 in
theorem bUr(bl:Nat)(A:Option Addr)(c:Nat)(toks:List TokV)(k0:Nat)(e:Int)(hk:k0≤toks.length)(hl:toks.length≤1000)(hw: ∀k,(bG toks k).word.length≤65536):cM prog 64 [.pointer (some ⟨bl,0,none⟩)] [.obj bl (.cells [.slice A toks.length c,.int .i64 (k0:Nat),.int .i64 e].toArray 110)] [mY.sl (.slice A toks.length c) toks,iW] (fun(x:Option Addr×Nat×List ItemV×Nat)=> .tuple #[.slice x.1 x.2.2.1.length x.2.1,.agg #[.int .i64 (uO toks e k0).2.1,.int .i64 (uO toks e k0).2.2]]) (fun(x:Option Addr×Nat×List ItemV×Nat)=>[.obj bl (.cells [.slice A toks.length c,.int .i64 (x.2.2.2:Nat),.int .i64 e].toArray 110)]) (fun(x:Option Addr×Nat×List ItemV×Nat)=>[mK.sl (.slice x.1 x.2.2.1.length x.2.1) x.2.2.1,nY x.2.2.1,Fact.pure (x.2.2.1.map ItemV.it=(uO toks e k0).1)]):=by
 have hT:=fF;have he0:=e_start (e:=e) hk;generalize uO toks e k0=r at he0⊢;refine k6 func64 ntmps64 ?_;intro β hM;refine g2 ?_;refine j9 fun b1=>?_;refine one ?_;refine j6 bFo fun b2=>?_;refine g4 ?_;refine j6 itemZ fun b4=>?_;refine g4 ?_;refine j6 funcZ fun b5=>?_;refine g20 ?_;refine cK (t:=87) mK<|cK (t:=1) (fnE b4)<|bB (nY []) (Has.each_nil)<|bB (tnF []) (Has.each_nil)<|bB (nP []) (todo_nil) ?_;refine cB (ι:=Nat×Nat×List ItemV×List nL×Option Addr×Nat×Option Addr×Nat) [(1,_),(3,_),(4,_),(5,_),(7,_),(8,_)] ⟨rfl,rfl,rfl,rfl,rfl,rfl,j0⟩ (fun⟨k,o,out,st,C,e1,D,f⟩=>[(6,.int .i64 (o:Nat))]) (fun⟨k,o,out,st,C,e1,D,f⟩=>[.obj bl (.cells [.slice A toks.length c,.int .i64 (k:Nat),.int .i64 e].toArray 110),.obj b4 (.cells [.slice C out.length e1].toArray 52),mK.row (.slice C out.length e1) 87 out,.obj b5 (.cells [.slice D st.reverse.length f].toArray 196),(fnE b4).row (.slice D st.reverse.length f) 1 st.reverse]) (fun⟨k,o,out,st,C,e1,D,f⟩=>[Fact.pure (bIl toks e r k (out.map ItemV.it) (bEi st) o∧opens st=o∧o≤32∧out.length+st.length≤k∧k≤toks.length),nP st,tnF st,nY out]) (fun⟨k,o,out,st,C,e1,D,f⟩=>toks.length-k) (k0,0,[],[],none,0,none,0) ⟨rfl,j0⟩ (.c6 (.c3 (.c1 (.c1 (.c0 .nil))))) ⟨j3 (⟨he0,rfl,n7,o6,hk⟩),d7,d8,d9,j0⟩ ?_;rintro⟨k,o,out,st,C,e1,D,f⟩;dsimp only;refine bC d7 fun hinv6=>?_;refine g4 ?_;refine bD func60 (iL bl A c toks (k) e) rfl rfl (.c0 .nil) ⟨f3,j0⟩ fun _=>?_;refine j6 bBm fun b3=>?_;refine g11 ?_;refine bHo (fun hg23=>?_) fun hg23=>?_
 ·refine g5 ?_;refine bHo (fun hg28=>?_) fun hg28=>?_
  ·refine g2 ?_;refine bD func102 (pX _) rfl rfl .nil j0 fun _=>?_;refine g4 ?_;refine jA (fun hc19=>?_) fun hc19=>?_
   ·refine g4 ?_;refine fV (bO func104 rfl rfl) (laterF_spec bl A c toks (k) e b1 b5 b4 _ _ st n7 n7) rfl rfl rfl rfl rfl rfl rfl (.c1 (.c6 (.c3 (.c3 .nil)))) ⟨f3,d8,j0⟩ fun⟨⟨A4,c5⟩,b6⟩=>?_;refine bB (tnF (some (b6,(tI (bI toks (k) e false)))::st)) (yA e6 cY) ?_;refine j6 bFo fun b7=>?_;refine g6 ?_;refine ss (k7 (bAb)) ?_;refine ss (gC ⟨(bI toks (k) e false).flt.1,(bI toks (k) e false).flt.2⟩ ⟨0,0⟩ rfl rfl rfl) ?_;refine g2 ?_;refine jJ (fun hc37=>?_) fun hc37=>?_
    ·refine cO<|bU _ _ [(true,0),(true,1),(false,2)] bV o5 (.c0 (.c0 (.c0 (.c0 (.c0 (.c0 (.c0 (.c0 .nil)))))))) bA.self ?_;refine g14 ?_;obtain rfl:=(e_verb hinv6.1 ‹_› ‹_› ‹_›).2 hc37;exact rs2 (none,0,[],_) ⟨cY,Has.each_nil,j3 rfl,j0⟩
    have he:=(e_verb hinv6.1 ‹_› ‹_› ‹_›).1 hc37;refine g7 ?_;exact dM ((bI toks (k) e false).next,o,out,(some (b6,(tI (bI toks (k) e false)))::st),_,_,_,_) s9 ⟨rfl,j0⟩ ⟨rfl,rfl,rfl,rfl,rfl,rfl,j0⟩ (.c1 (.c5 (.c5 (.c2 (.c2 (.c3 (.c1 .nil))))))) ⟨j3 (⟨he,hinv6.2.1,hinv6.2.2.1,by have:=cZ toks k e false;first | omega | (simp;omega),he.1⟩),d8,d7,e8,j0⟩ (bA.drop 6)
   refine g6 ?_;refine oX (fun hg43=>?_) fun hg43=>?_
   ·refine g7 ?_;refine jA (fun hc39=>?_) fun hc39=>?_
    ·have hc39:(bG toks (k)).word=([40]:Bs):=eq_of_beq hc39;refine g7 ?_;refine fN (fun hc49=>?_) fun hc49=>?_
     ·refine g3 ?_;refine bD func61 (cC bl A c toks (k) e _) rfl rfl (.c1 .nil) ⟨f3,j0⟩ fun _=>?_;refine g11 ?_;have hr:=(e_open hinv6.1 ‹_› ‹_›).2 n7;subst hr;exact rs2 (none,0,[],_) ⟨cY,Has.each_nil,j3 rfl,j0⟩
     have he:=(e_open hinv6.1 ‹_› ‹_›).1 n7;refine g6 ?_;refine inc (o+1) ?_;refine g10 ?_;refine inc (k+1) ?_;refine g8 ?_;refine bIt (b4:=b4) (m:=(none:nL)) rfl rfl rfl rfl rfl fun b8=>?_;refine bKm kT6 (bW .head rfl) rfl rfl rfl rfl rfl rfl rfl ad8 fun A9 c10=>?_;rw [←List.reverse_cons];refine bB (nP (none::st)) (todo_none d8)<|bB (tnF (none::st)) (tn_none e6) ?_;refine g8 ?_;exact dM ((k+1),(o+1),out,(none::st),_,_,_,_) s9 ⟨rfl,j0⟩ ⟨rfl,rfl,rfl,rfl,rfl,rfl,j0⟩ (.c3 (.c4 (.c4 (.c0 (.c0 (.c2 (.c2 .nil))))))) ⟨j3 (⟨he,by show opens st+1=_;rw [hinv6.2.1],by dsimp only;omega,by first | omega | (simp;omega),he.1⟩),d8,d7,e8,j0⟩ (bA.drop 6)
    have hc39:(bG toks (k)).word≠([40]:Bs):=fun h=>absurd (beq_iff_eq.2 h) (by rw [show((bG toks (k)).word==([40]:Bs))=false from hc39];simp);refine g5 ?_;refine bM (t':=false) (by rw [hg43];rfl) ?_;refine g9 ?_;refine bM (t':=false) (by rw [hg43];rfl) ?_;refine g14 ?_;refine bM (t':=false) (by rw [hg43];rfl) ?_;refine g7 ?_;refine bD func61 (cC bl A c toks (k) e _) rfl rfl (.c1 .nil) ⟨f3,j0⟩ fun _=>?_;refine g10 ?_;have hr:=e_want hinv6.1 n7 n7 o7 v7;subst hr;exact rs2 (none,0,[],_) ⟨cY,Has.each_nil,j3 rfl,j0⟩
   refine g13 ?_;refine bM (t':=false) (beq_eq_false_iff_ne.2 hg23) ?_;refine g10 ?_;refine oX (fun hg98=>?_) fun hg98=>?_
   ·refine g2 ?_;refine bD func63 (oE _ (by have:=hw k;omega)) rfl rfl .nil ⟨f4,j0⟩ fun _=>?_;refine g4 ?_;refine jA (fun hc94=>?_) fun hc94=>?_
    ·refine cO ?_;have hbi:=b_name hinv6.1 ‹_› ‹_›;refine g6 ?_;refine ss (k7 (wZ _ _ _)) ?_;refine bAp (m:=(⟨2,(bG toks k).at_,0,(bG toks k).word,⟨none,0,[]⟩⟩:ItemV)) rfl rfl rfl rfl rfl fun b11=>?_;refine bBx kT4 (bW .head rfl) rfl rfl rfl rfl rfl rfl rfl y9 fun A12 c13=>?_;refine bB (nY (out++[(⟨2,(bG toks k).at_,0,(bG toks k).word,⟨none,0,[]⟩⟩:ItemV)])) (bRt e6 cY) ?_;refine g9 ?_;refine inc (k+1) ?_;refine g10 ?_;refine bD func60 (iL bl A c toks ((k+1)) e) rfl rfl (.c0 .nil) ⟨f4,j0⟩ fun _=>?_;refine g4 ?_
     obtain⟨kk,hkk⟩: ∃kk,kk=k:=⟨_,rfl⟩
     refine cB (ι:=Nat×Nat×List ItemV×List nL×Option Addr×Nat×Option Addr×Nat) [(1,_),(3,_),(4,_),(5,_),(7,_),(8,_),(9,_),(24,_),(25,_),(26,_),(29,_),(30,_),(31,_),(44,_),(45,_),(46,_),(99,_),(100,_),(101,_)] ⟨rfl,rfl,rfl,rfl,rfl,rfl,rfl,rfl,rfl,rfl,rfl,rfl,rfl,rfl,rfl,rfl,rfl,rfl,rfl,j0⟩ (fun⟨k,o,out,st,C,e1,D,f⟩=>[(6,.int .i64 (o:Nat))]) (fun⟨k,o,out,st,C,e1,D,f⟩=>[.obj bl (.cells [.slice A toks.length c,.int .i64 (k:Nat),.int .i64 e].toArray 110),.obj b4 (.cells [.slice C out.length e1].toArray 52),mK.row (.slice C out.length e1) 87 out,.obj b5 (.cells [.slice D st.reverse.length f].toArray 196),(fnE b4).row (.slice D st.reverse.length f) 1 st.reverse,.obj b3 (.cells [.int .i64 (bG toks k).kind,.int .i64 (bG toks k).at_,.string (bs (bG toks k).word),.int .i64 (bG toks k).n].toArray 112)]) (fun⟨k,o,out,st,C,e1,D,f⟩=>[Fact.pure (bAo toks e r k (out.map ItemV.it) (bEi st) o∧opens st=o∧o≤32∧out.length+st.length≤k∧k≤toks.length∧kk<k),nP st,tnF st,nY out]) (fun⟨k,o,out,st,C,e1,D,f⟩=>toks.length-k) ((k+1),o,(out++[(⟨2,(bG toks k).at_,0,(bG toks k).word,⟨none,0,[]⟩⟩:ItemV)]),st,_,_,_,_) ⟨rfl,j0⟩ (.c1 (.c1 (.c1 (.c2 (.c2 (.c0 .nil)))))) ⟨j3 (⟨hbi,hinv6.2.1,hinv6.2.2.1,by first | omega | (simp;omega),hbi.1,n7⟩),d9,e6,d7,j0⟩ ?_;rintro⟨k,o,out,st,C,e1,D,f⟩;dsimp only;refine bC d7 fun hinv30=>?_;refine g6 ?_;refine jX (fun hg128=>?_) fun hg128=>?_
     ·refine g5 ?_;refine oX (fun hg133=>?_) fun hg133=>?_
      ·refine g6 ?_;refine jA (fun hc137=>?_) fun hc137=>?_
       ·have hc137:(bG toks k).word=([41]:Bs):=eq_of_beq hc137;refine g7 ?_;refine fV (bO func103 rfl rfl) (pT b5 b4 _ _ st _ _ out n7) rfl rfl rfl rfl rfl rfl rfl (.c3 (.c3 (.c1 (.c1 .nil)))) ⟨d8,j0⟩ fun⟨⟨D14,f15⟩,⟨C16,e17⟩⟩=>?_;refine bB (nY (out++(finP st).1)) (xD e7 e6)<|bB (tnF (finP st).2) (bJz e7) ?_;have hfl:=yR st;obtain⟨s2,hs2,ho2⟩:=fin_open (st:=st) n7;have hb2:=b_closed hinv30.1 n7 ‹_› ‹_› hs2;rw [hs2] at hfl⊢;simp only [List.length_cons] at hfl;refine bB (nP s2) (bIp d9)<|bB (tnF s2) (bNj d8) ?_;refine g7 ?_;refine cP (z':=(((s2.length+1):Nat):Int)) (congrArg Nat.cast (kV _ s2)) ?_;refine one ?_;refine inc ((s2.length+1)-1) ?_;refine iK hT (k:=((s2.length+1)-1)) kT1 rfl rfl rfl rfl rfl rfl rfl rfl rfl ah5 ?_;rw [bIv];refine g7 ?_;refine inc (o-1) ?_;refine g9 ?_;refine inc (k+1) ?_;refine g8 ?_;refine bD func60 (iL bl A c toks ((k+1)) e) rfl rfl (.c0 .nil) ⟨Has.of (u8 (u8 mT1)),j0⟩ fun _=>?_;refine g3 ?_;exact dM ((k+1),(o-1),(out++(finP st).1),s2,_,_,_,_) (by have:=hb2.1;dsimp only;omega) ⟨rfl,j0⟩ ⟨rfl,rfl,rfl,rfl,rfl,rfl,rfl,rfl,rfl,rfl,rfl,rfl,rfl,rfl,rfl,rfl,rfl,rfl,rfl,j0⟩ (.c1 (.c3 (.c3 (.c1 (.c1 (.c0 (.c0 (.c0 (.c0 .nil))))))))) ⟨j3 (⟨hb2,by dsimp only;omega,by dsimp only;omega,by first | omega | (simp;omega),hb2.1,by dsimp only;omega⟩),d8,d7,e6,j0⟩ (bA.drop 9)
       have hc137:(bG toks k).word≠([41]:Bs):=fun h=>absurd (beq_iff_eq.2 h) af8;refine g12 ?_;refine bM (t':=false) ag8 ?_;refine g13 ?_;refine bM (t':=false) ag8 ?_;refine g9 ?_;refine bM (t':=false) ag8 ?_;refine g3 ?_;refine bD func102 (pX _) rfl rfl .nil j0 fun _=>?_;refine g5 ?_;refine jJ (fun hc174=>?_) fun hc174=>?_
       ·refine g3 ?_;refine bD func61 (cC bl A c toks (k) e _) rfl rfl (.c0 .nil) ⟨i6,j0⟩ fun _=>?_;refine g10 ?_;have hr:=wF hinv30.1 p6 n7 v7;subst hr;exact rs2 (none,0,[],_) ⟨cY,Has.each_nil,j3 rfl,j0⟩
       refine g6 ?_;refine fV (bO func104 rfl rfl) (pZ bl A c toks (k) e b1 b5 b4 _ _ st n7 n7) rfl rfl rfl rfl rfl rfl rfl (.c0 (.c7 (.c2 (.c2 .nil)))) ⟨i6,d8,j0⟩ fun⟨⟨A18,c19⟩,b20⟩=>?_;refine bB (tnF (some (b20,(tI (bI toks (k) e true)))::st)) (yA e6 cY) ?_;refine j6 bFo fun b21=>?_;refine g6 ?_;refine ss (k7 (bAb)) ?_;refine ss (gC ⟨(bI toks (k) e true).flt.1,(bI toks (k) e true).flt.2⟩ ⟨0,0⟩ rfl rfl rfl) ?_;refine g2 ?_;refine jJ (fun hc190=>?_) fun hc190=>?_
       ·refine cO<|bU _ _ [(true,0),(true,1),(false,2)] bV o5 (.c0 (.c0 (.c0 (.c0 (.c0 (.c0 (.c0 (.c0 (.c0 .nil))))))))) bA.self ?_;refine g11 ?_;have hr:=(rW hinv30.1 p6 n7 n7 ‹_›).2 hc190;subst hr;exact rs2 (none,0,[],_) ⟨cY,Has.each_nil,j3 rfl,j0⟩
       have he:=(rW hinv30.1 p6 n7 n7 ‹_›).1 hc190;refine g3 ?_;exact dM ((bI toks (k) e true).next,o,out,(some (b20,(tI (bI toks (k) e true)))::st),_,_,_,_) s9 ⟨rfl,j0⟩ ⟨rfl,rfl,rfl,rfl,rfl,rfl,j0⟩ (.c1 (.c4 (.c4 (.c2 (.c2 (.c4 (.c1 .nil))))))) ⟨j3 (⟨he,hinv30.2.1,hinv30.2.2.1,by have:=cZ toks k e true;first | omega | (simp;omega),he.1⟩),d8,d7,e8,j0⟩ (bA.drop 11)
      refine g20 ?_;refine oX (fun hg160=>?_) fun hg160=>?_
      ·refine g6 ?_;refine dJ (fun hc156=>?_) fun hc156=>?_
       ·refine g3 ?_;refine bD func61 (cC bl A c toks (k) e _) rfl rfl (.c0 .nil) ⟨i6,j0⟩ fun _=>?_;refine g10 ?_;have hr:=r_open hinv30.1 ‹_› n7;subst hr;exact rs2 (none,0,[],_) ⟨cY,Has.each_nil,j3 rfl,j0⟩
       refine g5 ?_;refine bM (t':=true) aj0 ?_;refine g7 ?_;refine fV (bO func103 rfl rfl) (pT b5 b4 _ _ st _ _ out n7) rfl rfl rfl rfl rfl rfl rfl (.c3 (.c3 (.c1 (.c1 .nil)))) ⟨d8,j0⟩ fun⟨⟨D22,f23⟩,⟨C24,e25⟩⟩=>?_;refine bB (nY (out++(finP st).1)) (xD e7 e6)<|bB (tnF (finP st).2) (bJz e7) ?_;have hfl:=yR st;refine g5 ?_;refine ss (k7 (bAb)) ?_;refine g10 ?_;have hr:=bNf hinv30.1 ‹_› n7;subst hr;refine bE kT4 ?_;exact rs2 (_,_,(out++(finP st).1),_) ⟨d7,d9,j3 rfl,j0⟩
      refine g12 ?_;refine bM (t':=false) (beq_eq_false_iff_ne.2 hg160) ?_;refine g10 ?_;refine oX (fun hg178=>?_) fun hg178=>?_
      ·refine g12 ?_;refine bD func61 (cC bl A c toks (k) e _) rfl rfl (.c0 .nil) ⟨i6,j0⟩ fun _=>?_;refine g10 ?_;have hr:=wF hinv30.1 p6 n7 v7;subst hr;exact rs2 (none,0,[],_) ⟨cY,Has.each_nil,j3 rfl,j0⟩
      refine g2 ?_;refine bD func102 (pX _) rfl rfl .nil j0 fun _=>?_;refine g5 ?_;refine jJ (fun hc174=>?_) fun hc174=>?_
      ·refine g3 ?_;refine bD func61 (cC bl A c toks (k) e _) rfl rfl (.c0 .nil) ⟨i6,j0⟩ fun _=>?_;refine g10 ?_;have hr:=wF hinv30.1 p6 n7 v7;subst hr;exact rs2 (none,0,[],_) ⟨cY,Has.each_nil,j3 rfl,j0⟩
      refine g6 ?_;refine fV (bO func104 rfl rfl) (pZ bl A c toks (k) e b1 b5 b4 _ _ st n7 n7) rfl rfl rfl rfl rfl rfl rfl (.c0 (.c7 (.c2 (.c2 .nil)))) ⟨i6,d8,j0⟩ fun⟨⟨A26,c27⟩,b28⟩=>?_;refine bB (tnF (some (b28,(tI (bI toks (k) e true)))::st)) (yA e6 cY) ?_;refine j6 bFo fun b29=>?_;refine g6 ?_;refine ss (k7 (bAb)) ?_;refine ss (gC ⟨(bI toks (k) e true).flt.1,(bI toks (k) e true).flt.2⟩ ⟨0,0⟩ rfl rfl rfl) ?_;refine g2 ?_;refine jJ (fun hc190=>?_) fun hc190=>?_
      ·refine cO<|bU _ _ [(true,0),(true,1),(false,2)] bV o5 (.c0 (.c0 (.c0 (.c0 (.c0 (.c0 (.c0 (.c0 (.c0 .nil))))))))) bA.self ?_;refine g11 ?_;have hr:=(rW hinv30.1 p6 n7 n7 ‹_›).2 hc190;subst hr;exact rs2 (none,0,[],_) ⟨cY,Has.each_nil,j3 rfl,j0⟩
      have he:=(rW hinv30.1 p6 n7 n7 ‹_›).1 hc190;refine g3 ?_;exact dM ((bI toks (k) e true).next,o,out,(some (b28,(tI (bI toks (k) e true)))::st),_,_,_,_) s9 ⟨rfl,j0⟩ ⟨rfl,rfl,rfl,rfl,rfl,rfl,j0⟩ (.c1 (.c4 (.c4 (.c2 (.c2 (.c4 (.c1 .nil))))))) ⟨j3 (⟨he,hinv30.2.1,hinv30.2.2.1,by have:=cZ toks k e true;first | omega | (simp;omega),he.1⟩),d8,d7,e8,j0⟩ (bA.drop 11)
     refine g25 ?_;refine oX (fun hg160=>?_) fun hg160=>?_
     ·refine g6 ?_;refine dJ (fun hc156=>?_) fun hc156=>?_
      ·refine g3 ?_;refine bD func61 (cC bl A c toks (k) e _) rfl rfl (.c0 .nil) ⟨i6,j0⟩ fun _=>?_;refine g10 ?_;have hr:=r_open hinv30.1 ‹_› n7;subst hr;exact rs2 (none,0,[],_) ⟨cY,Has.each_nil,j3 rfl,j0⟩
      refine g5 ?_;refine bM (t':=true) aj0 ?_;refine g7 ?_;refine fV (bO func103 rfl rfl) (pT b5 b4 _ _ st _ _ out n7) rfl rfl rfl rfl rfl rfl rfl (.c3 (.c3 (.c1 (.c1 .nil)))) ⟨d8,j0⟩ fun⟨⟨D30,f31⟩,⟨C32,e33⟩⟩=>?_;refine bB (nY (out++(finP st).1)) (xD e7 e6)<|bB (tnF (finP st).2) (bJz e7) ?_;have hfl:=yR st;refine g5 ?_;refine ss (k7 (bAb)) ?_;refine g10 ?_;have hr:=bNf hinv30.1 ‹_› n7;subst hr;refine bE kT4 ?_;exact rs2 (_,_,(out++(finP st).1),_) ⟨d7,d9,j3 rfl,j0⟩
     refine g12 ?_;refine bM (t':=false) (beq_eq_false_iff_ne.2 hg160) ?_;refine g10 ?_;refine oX (fun hg178=>?_) fun hg178=>?_
     ·refine g12 ?_;refine bD func61 (cC bl A c toks (k) e _) rfl rfl (.c0 .nil) ⟨i6,j0⟩ fun _=>?_;refine g10 ?_;have hr:=wF hinv30.1 p6 n7 v7;subst hr;exact rs2 (none,0,[],_) ⟨cY,Has.each_nil,j3 rfl,j0⟩
     refine g2 ?_;refine bD func102 (pX _) rfl rfl .nil j0 fun _=>?_;refine g5 ?_;refine jJ (fun hc174=>?_) fun hc174=>?_
     ·refine g3 ?_;refine bD func61 (cC bl A c toks (k) e _) rfl rfl (.c0 .nil) ⟨i6,j0⟩ fun _=>?_;refine g10 ?_;have hr:=wF hinv30.1 p6 n7 v7;subst hr;exact rs2 (none,0,[],_) ⟨cY,Has.each_nil,j3 rfl,j0⟩
     refine g6 ?_;refine fV (bO func104 rfl rfl) (pZ bl A c toks (k) e b1 b5 b4 _ _ st n7 n7) rfl rfl rfl rfl rfl rfl rfl (.c0 (.c7 (.c2 (.c2 .nil)))) ⟨i6,d8,j0⟩ fun⟨⟨A34,c35⟩,b36⟩=>?_;refine bB (tnF (some (b36,(tI (bI toks (k) e true)))::st)) (yA e6 cY) ?_;refine j6 bFo fun b37=>?_;refine g6 ?_;refine ss (k7 (bAb)) ?_;refine ss (gC ⟨(bI toks (k) e true).flt.1,(bI toks (k) e true).flt.2⟩ ⟨0,0⟩ rfl rfl rfl) ?_;refine g2 ?_;refine jJ (fun hc190=>?_) fun hc190=>?_
     ·refine cO<|bU _ _ [(true,0),(true,1),(false,2)] bV o5 (.c0 (.c0 (.c0 (.c0 (.c0 (.c0 (.c0 (.c0 (.c0 .nil))))))))) bA.self ?_;refine g11 ?_;have hr:=(rW hinv30.1 p6 n7 n7 ‹_›).2 hc190;subst hr;exact rs2 (none,0,[],_) ⟨cY,Has.each_nil,j3 rfl,j0⟩
     have he:=(rW hinv30.1 p6 n7 n7 ‹_›).1 hc190;refine g3 ?_;exact dM ((bI toks (k) e true).next,o,out,(some (b36,(tI (bI toks (k) e true)))::st),_,_,_,_) s9 ⟨rfl,j0⟩ ⟨rfl,rfl,rfl,rfl,rfl,rfl,j0⟩ (.c1 (.c4 (.c4 (.c2 (.c2 (.c4 (.c1 .nil))))))) ⟨j3 (⟨he,hinv30.2.1,hinv30.2.2.1,by have:=cZ toks k e true;first | omega | (simp;omega),he.1⟩),d8,d7,e8,j0⟩ (bA.drop 11)
    refine g5 ?_;refine bM (t':=true) (by rw [hg98];rfl) ?_;refine g7 ?_;refine bD func61 (cC bl A c toks (k) e _) rfl rfl (.c1 .nil) ⟨f3,j0⟩ fun _=>?_;refine g10 ?_;obtain rfl:=e_word hinv6.1 ‹_› ‹_› ‹_›;exact rs2 (none,0,[],_) ⟨cY,Has.each_nil,j3 rfl,j0⟩
   refine g13 ?_;refine bM (t':=false) (beq_eq_false_iff_ne.2 hg98) ?_;refine g7 ?_;refine bD func61 (cC bl A c toks (k) e _) rfl rfl (.c1 .nil) ⟨f3,j0⟩ fun _=>?_;refine g10 ?_;have hr:=e_want hinv6.1 n7 n7 o7 v7;subst hr;exact rs2 (none,0,[],_) ⟨cY,Has.each_nil,j3 rfl,j0⟩
  refine g13 ?_;refine bM (t':=false) (by rw [hg28];rfl) ?_;refine g14 ?_;refine bM (t':=false) (by rw [hg28];rfl) ?_;refine g9 ?_;refine bM (t':=false) (by rw [hg28];rfl) ?_;refine g14 ?_;refine bM (t':=false) (by rw [hg28];rfl) ?_;refine g7 ?_;refine bD func61 (cC bl A c toks (k) e _) rfl rfl (.c1 .nil) ⟨f3,j0⟩ fun _=>?_;refine g10 ?_;have hr:=e_want hinv6.1 n7 n7 o7 v7;subst hr;exact rs2 (none,0,[],_) ⟨cY,Has.each_nil,j3 rfl,j0⟩
 refine g18 ?_;refine bM (t':=false) (by rw [hg23];rfl) ?_;refine g14 ?_;refine bM (t':=true) (by rw [hg23];rfl) ?_;refine g8 ?_;refine ss (k7 (sK _ _)) ?_;refine j6 oG fun b38=>?_;refine g5 ?_;refine cK (t:=2) sZ ?_;refine cB (ι:=Nat×List Int×Option Addr×Nat) [(1,_),(3,_),(4,_),(5,_),(6,_),(7,_),(8,_),(9,_),(11,_),(24,_),(25,_),(26,_),(29,_),(30,_),(31,_),(44,_),(45,_),(46,_)] ⟨rfl,rfl,rfl,rfl,rfl,rfl,rfl,rfl,rfl,rfl,rfl,rfl,rfl,rfl,rfl,rfl,rfl,rfl,j0⟩ (fun _=>[]) (fun⟨j,cur,C2,e2⟩=>[.obj bl (.cells [.slice A toks.length c,.int .i64 (j:Nat),.int .i64 e].toArray 110),.obj b38 (.cells [.int .i64 1,.int .i64 (bG toks k).at_,.int .u8 0,.string (bs []),.slice C2 cur.length e2].toArray 87),sZ.row (.slice C2 cur.length e2) 2 cur]) (fun⟨j,cur,C2,e2⟩=>[Fact.pure (gJ toks k=cur++gJ toks j∧j=k+cur.length∧j≤toks.length)]) (fun⟨j,cur,C2,e2⟩=>toks.length-j) (k,[],none,0) j0 (.c3 (.c1 (.c0 .nil))) ⟨j3 (⟨rfl,rfl,hinv6.2.2.2.2⟩),j0⟩ ?_;rintro⟨j,cur,C2,e2⟩;dsimp only;refine bC d7 fun hinv20=>?_;refine g4 ?_;refine bD func60 (iL bl A c toks (j) e) rfl rfl (.c0 .nil) ⟨f4,j0⟩ fun _=>?_;refine g4 ?_;refine fN (fun hc74=>?_) fun hc74=>?_
 ·refine g4 ?_;refine lC 8 _ _ [(true,0),(true,1),(true,2),(false,3),(true,4),(false,5),(false,6),(true,7)] bV o5 (.c0 (.c0 (.c1 (.c1 (.c1 (.c1 (.c1 (.c1 (.c1 .nil))))))))) bA.self ?_;refine g4 ?_;refine bD func60 (iL bl A c toks (j) e) rfl rfl (.c0 .nil) ⟨f4,j0⟩ fun _=>?_;refine g3 ?_;refine at_one_int (m:=(bG toks (j)).n) rfl rfl rfl rfl rfl fun b39=>?_;refine g2 ?_;refine at_app_int kT3 (bW .head rfl) rfl rfl rfl rfl rfl rfl rfl y9 fun A40 c41=>?_;refine g13 ?_;refine inc (j+1) ?_;refine g5 ?_;exact dM (j+1,_,_,_) (by have:=jG (toks:=toks) (k:=j) (by rw [hc74];decide);dsimp only;omega) j0 ⟨rfl,rfl,rfl,rfl,rfl,rfl,rfl,rfl,rfl,rfl,rfl,rfl,rfl,rfl,rfl,rfl,rfl,rfl,j0⟩ (.c0 (.c0 (.c0 (.c1 (.c1 (.c1 (.c1 (.c1 (.c1 (.c1 .nil)))))))))) ⟨j3 (⟨by rw [hinv20.1,wP hc74];simp,by simp;omega,jG (by rw [hc74];decide)⟩),j0⟩ (bA.drop 1)
 refine g5 ?_;have hcur:gJ toks k=cur:=by rw [hinv20.1,nums_end hc74,List.append_nil]
 have hbi:=b_num (C:=C2) (c:=e2) hinv6.1 ‹_› hinv20.2.1 hcur;have hcl:1≤cur.length:=by rw [←hcur,wP ‹_›];simp
 refine bE kT2 ?_;refine g3 ?_;refine bAp (m:=(⟨1,(bG toks k).at_,0,[],⟨C2,e2,cur⟩⟩:ItemV)) rfl rfl rfl rfl rfl fun b42=>?_;refine bBx kT5 (bW .head rfl) rfl rfl rfl rfl rfl rfl rfl y9 fun A43 c44=>?_;refine bB (nY (out++[(⟨1,(bG toks k).at_,0,[],⟨C2,e2,cur⟩⟩:ItemV)])) (bRt e8 d7) ?_;refine g8 ?_;refine bD func60 (iL bl A c toks (j) e) rfl rfl (.c3 .nil) ⟨f7,j0⟩ fun _=>?_;refine g4 ?_
 obtain⟨kk,hkk⟩: ∃kk,kk=k:=⟨_,rfl⟩
 refine cB (ι:=Nat×Nat×List ItemV×List nL×Option Addr×Nat×Option Addr×Nat) [(1,_),(3,_),(4,_),(5,_),(7,_),(8,_),(9,_),(24,_),(25,_),(26,_),(29,_),(30,_),(31,_),(44,_),(45,_),(46,_)] ⟨rfl,rfl,rfl,rfl,rfl,rfl,rfl,rfl,rfl,rfl,rfl,rfl,rfl,rfl,rfl,rfl,j0⟩ (fun⟨k,o,out,st,C,e1,D,f⟩=>[(6,.int .i64 (o:Nat))]) (fun⟨k,o,out,st,C,e1,D,f⟩=>[.obj bl (.cells [.slice A toks.length c,.int .i64 (k:Nat),.int .i64 e].toArray 110),.obj b4 (.cells [.slice C out.length e1].toArray 52),mK.row (.slice C out.length e1) 87 out,.obj b5 (.cells [.slice D st.reverse.length f].toArray 196),(fnE b4).row (.slice D st.reverse.length f) 1 st.reverse,.obj b3 (.cells [.int .i64 (bG toks k).kind,.int .i64 (bG toks k).at_,.string (bs (bG toks k).word),.int .i64 (bG toks k).n].toArray 112)]) (fun⟨k,o,out,st,C,e1,D,f⟩=>[Fact.pure (bAo toks e r k (out.map ItemV.it) (bEi st) o∧opens st=o∧o≤32∧out.length+st.length≤k∧k≤toks.length∧kk<k),nP st,tnF st,nY out]) (fun⟨k,o,out,st,C,e1,D,f⟩=>toks.length-k) (j,o,(out++[(⟨1,(bG toks k).at_,0,[],⟨C2,e2,cur⟩⟩:ItemV)]),st,_,_,_,_) ⟨rfl,j0⟩ (.c1 (.c1 (.c1 (.c3 (.c3 (.c0 .nil)))))) ⟨j3 (⟨hbi,hinv6.2.1,hinv6.2.2.1,by first | omega | (simp;omega),hbi.1,n7⟩),e7,e8,d7,j0⟩ ?_;rintro⟨k,o,out,st,C,e1,D,f⟩;dsimp only;refine bC d7 fun hinv30=>?_;refine g6 ?_;refine jX (fun hg128=>?_) fun hg128=>?_
 ·refine g5 ?_;refine oX (fun hg133=>?_) fun hg133=>?_
  ·refine g6 ?_;refine jA (fun hc137=>?_) fun hc137=>?_
   ·have hc137:(bG toks k).word=([41]:Bs):=eq_of_beq hc137;refine g7 ?_;refine fV (bO func103 rfl rfl) (pT b5 b4 _ _ st _ _ out n7) rfl rfl rfl rfl rfl rfl rfl (.c3 (.c3 (.c1 (.c1 .nil)))) ⟨d8,j0⟩ fun⟨⟨D45,f46⟩,⟨C47,e48⟩⟩=>?_;refine bB (nY (out++(finP st).1)) (xD e7 e6)<|bB (tnF (finP st).2) (bJz e7) ?_;have hfl:=yR st;obtain⟨s2,hs2,ho2⟩:=fin_open (st:=st) n7;have hb2:=b_closed hinv30.1 n7 ‹_› ‹_› hs2;rw [hs2] at hfl⊢;simp only [List.length_cons] at hfl;refine bB (nP s2) (bIp d9)<|bB (tnF s2) (bNj d8) ?_;refine g7 ?_;refine cP (z':=(((s2.length+1):Nat):Int)) (congrArg Nat.cast (kV _ s2)) ?_;refine one ?_;refine inc ((s2.length+1)-1) ?_;refine iK hT (k:=((s2.length+1)-1)) kT1 rfl rfl rfl rfl rfl rfl rfl rfl rfl ah5 ?_;rw [bIv];refine g7 ?_;refine inc (o-1) ?_;refine g9 ?_;refine inc (k+1) ?_;refine g8 ?_;refine bD func60 (iL bl A c toks ((k+1)) e) rfl rfl (.c0 .nil) ⟨Has.of (u8 (u8 mT3)),j0⟩ fun _=>?_;refine g3 ?_;exact dM ((k+1),(o-1),(out++(finP st).1),s2,_,_,_,_) (by have:=hb2.1;dsimp only;omega) ⟨rfl,j0⟩ ⟨rfl,rfl,rfl,rfl,rfl,rfl,rfl,rfl,rfl,rfl,rfl,rfl,rfl,rfl,rfl,rfl,j0⟩ (.c1 (.c3 (.c3 (.c1 (.c1 (.c0 (.c0 (.c0 (.c0 (.c0 .nil)))))))))) ⟨j3 (⟨hb2,by dsimp only;omega,by dsimp only;omega,by first | omega | (simp;omega),hb2.1,by dsimp only;omega⟩),d8,d7,e6,j0⟩ (bA.drop 9)
   have hc137:(bG toks k).word≠([41]:Bs):=fun h=>absurd (beq_iff_eq.2 h) af8;refine g12 ?_;refine bM (t':=false) ag8 ?_;refine g13 ?_;refine bM (t':=false) ag8 ?_;refine g9 ?_;refine bM (t':=false) ag8 ?_;refine g3 ?_;refine bD func102 (pX _) rfl rfl .nil j0 fun _=>?_;refine g5 ?_;refine jJ (fun hc174=>?_) fun hc174=>?_
   ·refine g3 ?_;refine bD func61 (cC bl A c toks (k) e _) rfl rfl (.c0 .nil) ⟨Has.of tJ,j0⟩ fun _=>?_;refine g10 ?_;have hr:=wF hinv30.1 p6 n7 v7;subst hr;exact rs2 (none,0,[],_) ⟨cY,Has.each_nil,j3 rfl,j0⟩
   refine g6 ?_;refine fV (bO func104 rfl rfl) (pZ bl A c toks (k) e b1 b5 b4 _ _ st n7 n7) rfl rfl rfl rfl rfl rfl rfl (.c0 (.cons kT8 (.c2 (.c2 .nil)))) ⟨(Has.of tJ),d8,j0⟩ fun⟨⟨A49,c50⟩,b51⟩=>?_;refine bB (tnF (some (b51,(tI (bI toks (k) e true)))::st)) (yA e6 cY) ?_;refine j6 bFo fun b52=>?_;refine g6 ?_;refine ss (k7 (bAb)) ?_;refine ss (gC ⟨(bI toks (k) e true).flt.1,(bI toks (k) e true).flt.2⟩ ⟨0,0⟩ rfl rfl rfl) ?_;refine g2 ?_;refine jJ (fun hc190=>?_) fun hc190=>?_
   ·refine cO<|bU _ _ [(true,0),(true,1),(false,2)] bV o5 (.c0 (.c0 (.c0 (.c0 (.c0 (.c0 (.c0 (.c0 (.c0 (.c0 .nil)))))))))) bA.self ?_;refine g11 ?_;have hr:=(rW hinv30.1 p6 n7 n7 ‹_›).2 hc190;subst hr;exact rs2 (none,0,[],_) ⟨cY,Has.each_nil,j3 rfl,j0⟩
   have he:=(rW hinv30.1 p6 n7 n7 ‹_›).1 hc190;refine g3 ?_;exact dM ((bI toks (k) e true).next,o,out,(some (b51,(tI (bI toks (k) e true)))::st),_,_,_,_) s9 ⟨rfl,j0⟩ ⟨rfl,rfl,rfl,rfl,rfl,rfl,j0⟩ (.c1 (.c4 (.c4 (.c2 (.c2 (.c5 (.c1 .nil))))))) ⟨j3 (⟨he,hinv30.2.1,hinv30.2.2.1,by have:=cZ toks k e true;first | omega | (simp;omega),he.1⟩),d8,d7,e8,j0⟩ (bA.drop 13)
  refine g20 ?_;refine oX (fun hg160=>?_) fun hg160=>?_
  ·refine g6 ?_;refine dJ (fun hc156=>?_) fun hc156=>?_
   ·refine g3 ?_;refine bD func61 (cC bl A c toks (k) e _) rfl rfl (.c0 .nil) ⟨Has.of tJ,j0⟩ fun _=>?_;refine g10 ?_;have hr:=r_open hinv30.1 ‹_› n7;subst hr;exact rs2 (none,0,[],_) ⟨cY,Has.each_nil,j3 rfl,j0⟩
   refine g5 ?_;refine bM (t':=true) aj0 ?_;refine g7 ?_;refine fV (bO func103 rfl rfl) (pT b5 b4 _ _ st _ _ out n7) rfl rfl rfl rfl rfl rfl rfl (.c3 (.c3 (.c1 (.c1 .nil)))) ⟨d8,j0⟩ fun⟨⟨D53,f54⟩,⟨C55,e56⟩⟩=>?_;refine bB (nY (out++(finP st).1)) (xD e7 e6)<|bB (tnF (finP st).2) (bJz e7) ?_;have hfl:=yR st;refine g5 ?_;refine ss (k7 (bAb)) ?_;refine g10 ?_;have hr:=bNf hinv30.1 ‹_› n7;subst hr;refine bE kT4 ?_;exact rs2 (_,_,(out++(finP st).1),_) ⟨d7,d9,j3 rfl,j0⟩
  refine g12 ?_;refine bM (t':=false) (beq_eq_false_iff_ne.2 hg160) ?_;refine g10 ?_;refine oX (fun hg178=>?_) fun hg178=>?_
  ·refine g12 ?_;refine bD func61 (cC bl A c toks (k) e _) rfl rfl (.c0 .nil) ⟨Has.of tJ,j0⟩ fun _=>?_;refine g10 ?_;have hr:=wF hinv30.1 p6 n7 v7;subst hr;exact rs2 (none,0,[],_) ⟨cY,Has.each_nil,j3 rfl,j0⟩
  refine g2 ?_;refine bD func102 (pX _) rfl rfl .nil j0 fun _=>?_;refine g5 ?_;refine jJ (fun hc174=>?_) fun hc174=>?_
  ·refine g3 ?_;refine bD func61 (cC bl A c toks (k) e _) rfl rfl (.c0 .nil) ⟨Has.of tJ,j0⟩ fun _=>?_;refine g10 ?_;have hr:=wF hinv30.1 p6 n7 v7;subst hr;exact rs2 (none,0,[],_) ⟨cY,Has.each_nil,j3 rfl,j0⟩
  refine g6 ?_;refine fV (bO func104 rfl rfl) (pZ bl A c toks (k) e b1 b5 b4 _ _ st n7 n7) rfl rfl rfl rfl rfl rfl rfl (.c0 (.cons kT8 (.c2 (.c2 .nil)))) ⟨(Has.of tJ),d8,j0⟩ fun⟨⟨A57,c58⟩,b59⟩=>?_;refine bB (tnF (some (b59,(tI (bI toks (k) e true)))::st)) (yA e6 cY) ?_;refine j6 bFo fun b60=>?_;refine g6 ?_;refine ss (k7 (bAb)) ?_;refine ss (gC ⟨(bI toks (k) e true).flt.1,(bI toks (k) e true).flt.2⟩ ⟨0,0⟩ rfl rfl rfl) ?_;refine g2 ?_;refine jJ (fun hc190=>?_) fun hc190=>?_
  ·refine cO<|bU _ _ [(true,0),(true,1),(false,2)] bV o5 (.c0 (.c0 (.c0 (.c0 (.c0 (.c0 (.c0 (.c0 (.c0 (.c0 .nil)))))))))) bA.self ?_;refine g11 ?_;have hr:=(rW hinv30.1 p6 n7 n7 ‹_›).2 hc190;subst hr;exact rs2 (none,0,[],_) ⟨cY,Has.each_nil,j3 rfl,j0⟩
  have he:=(rW hinv30.1 p6 n7 n7 ‹_›).1 hc190;refine g3 ?_;exact dM ((bI toks (k) e true).next,o,out,(some (b59,(tI (bI toks (k) e true)))::st),_,_,_,_) s9 ⟨rfl,j0⟩ ⟨rfl,rfl,rfl,rfl,rfl,rfl,j0⟩ (.c1 (.c4 (.c4 (.c2 (.c2 (.c5 (.c1 .nil))))))) ⟨j3 (⟨he,hinv30.2.1,hinv30.2.2.1,by have:=cZ toks k e true;first | omega | (simp;omega),he.1⟩),d8,d7,e8,j0⟩ (bA.drop 13)
 refine g25 ?_;refine oX (fun hg160=>?_) fun hg160=>?_
 ·refine g6 ?_;refine dJ (fun hc156=>?_) fun hc156=>?_
  ·refine g3 ?_;refine bD func61 (cC bl A c toks (k) e _) rfl rfl (.c0 .nil) ⟨Has.of tJ,j0⟩ fun _=>?_;refine g10 ?_;have hr:=r_open hinv30.1 ‹_› n7;subst hr;exact rs2 (none,0,[],_) ⟨cY,Has.each_nil,j3 rfl,j0⟩
  refine g5 ?_;refine bM (t':=true) aj0 ?_;refine g7 ?_;refine fV (bO func103 rfl rfl) (pT b5 b4 _ _ st _ _ out n7) rfl rfl rfl rfl rfl rfl rfl (.c3 (.c3 (.c1 (.c1 .nil)))) ⟨d8,j0⟩ fun⟨⟨D61,f62⟩,⟨C63,e64⟩⟩=>?_;refine bB (nY (out++(finP st).1)) (xD e7 e6)<|bB (tnF (finP st).2) (bJz e7) ?_;have hfl:=yR st;refine g5 ?_;refine ss (k7 (bAb)) ?_;refine g10 ?_;have hr:=bNf hinv30.1 ‹_› n7;subst hr;refine bE kT4 ?_;exact rs2 (_,_,(out++(finP st).1),_) ⟨d7,d9,j3 rfl,j0⟩
 refine g12 ?_;refine bM (t':=false) (beq_eq_false_iff_ne.2 hg160) ?_;refine g10 ?_;refine oX (fun hg178=>?_) fun hg178=>?_
 ·refine g12 ?_;refine bD func61 (cC bl A c toks (k) e _) rfl rfl (.c0 .nil) ⟨Has.of tJ,j0⟩ fun _=>?_;refine g10 ?_;have hr:=wF hinv30.1 p6 n7 v7;subst hr;exact rs2 (none,0,[],_) ⟨cY,Has.each_nil,j3 rfl,j0⟩
 refine g2 ?_;refine bD func102 (pX _) rfl rfl .nil j0 fun _=>?_;refine g5 ?_;refine jJ (fun hc174=>?_) fun hc174=>?_
 ·refine g3 ?_;refine bD func61 (cC bl A c toks (k) e _) rfl rfl (.c0 .nil) ⟨Has.of tJ,j0⟩ fun _=>?_;refine g10 ?_;have hr:=wF hinv30.1 p6 n7 v7;subst hr;exact rs2 (none,0,[],_) ⟨cY,Has.each_nil,j3 rfl,j0⟩
 refine g6 ?_;refine fV (bO func104 rfl rfl) (pZ bl A c toks (k) e b1 b5 b4 _ _ st n7 n7) rfl rfl rfl rfl rfl rfl rfl (.c0 (.cons kT8 (.c2 (.c2 .nil)))) ⟨(Has.of tJ),d8,j0⟩ fun⟨⟨A65,c66⟩,b67⟩=>?_;refine bB (tnF (some (b67,(tI (bI toks (k) e true)))::st)) (yA e6 cY) ?_;refine j6 bFo fun b68=>?_;refine g6 ?_;refine ss (k7 (bAb)) ?_;refine ss (gC ⟨(bI toks (k) e true).flt.1,(bI toks (k) e true).flt.2⟩ ⟨0,0⟩ rfl rfl rfl) ?_;refine g2 ?_;refine jJ (fun hc190=>?_) fun hc190=>?_
 ·refine cO<|bU _ _ [(true,0),(true,1),(false,2)] bV o5 (.c0 (.c0 (.c0 (.c0 (.c0 (.c0 (.c0 (.c0 (.c0 (.c0 .nil)))))))))) bA.self ?_;refine g11 ?_;have hr:=(rW hinv30.1 p6 n7 n7 ‹_›).2 hc190;subst hr;exact rs2 (none,0,[],_) ⟨cY,Has.each_nil,j3 rfl,j0⟩
 have he:=(rW hinv30.1 p6 n7 n7 ‹_›).1 hc190;refine g3 ?_;exact dM ((bI toks (k) e true).next,o,out,(some (b67,(tI (bI toks (k) e true)))::st),_,_,_,_) s9 ⟨rfl,j0⟩ ⟨rfl,rfl,rfl,rfl,rfl,rfl,j0⟩ (.c1 (.c4 (.c4 (.c2 (.c2 (.c5 (.c1 .nil))))))) ⟨j3 (⟨he,hinv30.2.1,hinv30.2.2.1,by have:=cZ toks k e true;first | omega | (simp;omega),he.1⟩),d8,d7,e8,j0⟩ (bA.drop 13)
end Go.Proofs.YtakphiannlpnfaaGreatDoor
