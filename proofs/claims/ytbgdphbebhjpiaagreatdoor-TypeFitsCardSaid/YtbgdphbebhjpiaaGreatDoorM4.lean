/- Texts of one proof, one behind the other: Spell, Name, LineA, MixL, ExprA, ExprP. -/
import Derived.Test.YtbgdphbebhjpiaaGreatDoorM3
import Derived.Test.YtbgdphbebhjpiaaGreatDoorM1
import Derived.Test.YtbgdphbebhjpiaaGreatDoorM2
namespace Go.Proofs.YtbgdphbebhjpiaaGreatDoor
open Go.RowKit
theorem bHy(n:Int)(h0: -9223372036854775808≤n)(h1:n≤9223372036854775807):dM Tryz.prog 37 [.string (bs (fW n))] [] [iA] (fun x:Option Addr×Nat=> .tuple #[.slice x.1 1 x.2,.agg #[.int .i64 0,.int .i64 0]]) (fun _=>[]) (fun x=>[kO.sl (.slice x.1 1 x.2) [⟨2,0,[],n⟩],Fact.pure (1≤x.2)]):=by
 have:=bIs (fW n) (by have:=oR h0 h1;omega);rw [lexP_spell h0 h1] at this;exact this
theorem zT(n:Int)(h0: -9223372036854775808≤n)(h1:n≤9223372036854775807):dM Tryz.prog 255 [.string (bs (Lib.itoa n)),.string (bs [45]),.string (bs [95]),.int .i64 1] [] [iA] (fun _:Unit=> .string (bs (fW n))) (fun _=>[]) (fun _=>[]):=by
 have:=replace_spec (Lib.itoa n) (by have:=itoa_len h0 h1;omega);rw [replace_itoa] at this;exact this
def gV (s:Bs):Int:=
 if s=[43] then 1 else if s=[45] then 2 else if s=[42] then 3 else if s=[37] then 4 else if s=[124] then 5 else if s=[109,105,110] then 6 else if s=[109,97,120] then 7 else if s=[61] then 8 else if s=[126] then 9
 else if s=[60] then 10 else if s=[60,61] then 11 else if s=[62,61] then 12 else if s=[62] then 13 else if s=[97,110,100] then 14 else if s=[111,114] then 15 else if s=[112,111,119] then 17 else if s=[114,104,111] then 37
 else if s=[116,97,107,101] then 38 else if s=[100,114,111,112] then 39 else if s=[99,97,116] then 40 else 0
def mH (s:Bs):Int:=
 if s=[43]∨s=[45]∨s=[42]∨s=[37]∨s=[124]∨s=[109,105,110]∨s=[109,97,120] then gV s else if s=[126] then 16 else if s=[105,111,116,97] then 32 else if s=[115,104,97,112,101] then 33 else if s=[114,97,118,101,108] then 34
 else if s=[114,101,118] then 35 else if s=[116,117,114,110] then 36 else 0
def qF (s:Bs):Bool:=mH s !=0 || gV s !=0
def gI (s:Bs)(t:Bool):Int:=if t then gV s else mH s
set_option maxRecDepth 100000 in
theorem spell_spec(n:Int)(h0: -9223372036854775808≤n)(h1:n≤9223372036854775807):dM Tryz.prog 222 [.agg #[.int .i64 2,.int .i64 0,.string (bs []),.int .i64 n]] [] [iA] (fun(_:Unit)=> .tuple #[.string (bs (fW n)),.bool true]) (fun _=>[]) (fun _=>[]):=by
 have hT:=fN;refine cQ Tryz.func222 rfl Tryz.ntmps222 rfl ?_;intro β hM;refine sr<|gC rfl rfl rfl rfl rfl rfl fun b1=>?_;refine sp2 hT ?_;refine nn<|sr<|sp hT ?_;refine ss (ldO hT (dH .head)) ?_;refine sp hT ?_;refine nn<|bB<|sr<|sp hT ?_;refine ss (ldO hT (bJ .head)) ?_;refine nn<|bU<|sr<|sp hT ?_;refine cA (t':=true) (by decide) ?_;refine sp hT ?_;refine nn<|cH rfl rfl ?_;refine bD<|sp hT ?_;refine ss (ldO hT (uW .head)) ?_;refine bQ Tryz.func256 (bGf n h0 h1) rfl rfl .nil ⟨Has.of mT0,trivial⟩ fun _=>?_;refine bQ Tryz.func255 (zT n h0 h1) rfl rfl .nil ⟨Has.of mT0,trivial⟩ fun _=>?_;refine sp hT ?_;refine dX<|bZ<|bC<|sr<|sp hT ?_;refine bQ Tryz.func37 (bHy n h0 h1) rfl rfl .nil ⟨Has.of mT0,trivial⟩ fun⟨A2,c3⟩=>?_;refine sp3 hT ?_;refine cC rfl rfl rfl rfl yT rfl fun b4=>?_;refine sp hT ?_;refine sto hT .head ?_;refine nn<|bB<|sr<|ss (ldN hT (bJ .head)) ?_;refine ss (cF rfl rfl (vW)) ?_;refine ss (fP ⟨0,0⟩ ⟨0,0⟩ rfl rfl rfl) ?_;refine cA (t':=false) (rfl) ?_;refine sp4 hT ?_;refine cA (t':=false) (by decide) ?_;refine sp4 hT ?_;refine bT (z':=(((fW n).length:Nat):Int)) rfl ?_;refine sp hT ?_;refine cA (t':=false) (by have:=oR h0 h1;simp;omega) ?_;refine sp hT ?_;refine nn<|cG rfl rfl ?_;refine bM<|bC<|sr<|sp hT ?_;refine sto hT kT1 ?_;refine nn<|bB<|bB<|dD _ _ [(true,0),(true,1),(true,2),(true,3),(true,4),(true,5),(true,6),(true,8),(false,7),(true,9),(true,10),(true,11),(true,12),(true,13),(true,14),(true,15),(true,16),(true,17),(false,18),(true,19)] dG (by decide+kernel) (.cons .head (.cons .head .nil)) bI.self ?_;refine puM hT ?_;refine stM rfl (bV hT (k:=0) (bL (Has.of mT0)) rfl rfl rfl rfl rfl rfl rfl (by simp)) ?_;refine stM rfl (fA hT (cP.knows (bL (Has.of mT0)) (k:=0) (x:=(⟨2,0,[],n⟩:TokV)) rfl 0) rfl rfl rfl rfl rfl) ?_;refine stM rfl (ldN hT (bJ .head)) ?_;refine stM rfl (sti_neq_tok (⟨2,0,[],n⟩:TokV) ⟨2,0,([]:Bs),n⟩ rfl rfl rfl) ?_;refine cA (t':=false) (by simp [tokEq]) ?_;refine puM hT ?_;refine puM hT ?_;refine puM hT ?_;refine cM (o:=_) rfl ?_;refine bQ Tryz.func257 (bHg (fW n) (by have:=oR h0 h1;omega) (fun b hb=>(vO n b hb).1)) rfl rfl .nil ⟨Has.of mT2,trivial⟩ fun _=>?_;refine cN (.cons .head (.cons .head .nil)) (bI.drop 0) ?_;refine puM hT ?_;refine cA (t':=false) (by rw [trim_spell];simp) ?_;refine puM hT ?_;refine dY rfl rfl rfl rfl ?_;refine dY rfl rfl rfl rfl ?_;refine dY rfl rfl rfl rfl ?_;refine puM hT ?_;refine puM hT ?_;refine puM hT ?_;refine puM hT ?_;refine cM (o:=_) rfl ?_;refine bQ Tryz.func258 (bJw _ 35) rfl rfl .nil trivial fun _=>?_;refine cN (.cons .head (.cons .head .nil)) (bI.drop 0) ?_;refine cA (t':=false) (hash_spell n) ?_;refine puM hT ?_;refine cS<|bC<|cG rfl rfl ?_;refine bM<|bC<|sr<|sp3 hT ?_;refine nn<|bF ?_;exact bO () rfl (bE rfl) (bE rfl) .nil trivial (rfl)
set_option maxRecDepth 100000 in
theorem zZ(n:Int)(h0: -9223372036854775808≤n)(h1:n≤9223372036854775807):dM Tryz.prog 167 [.int .i64 n] [] [iA] (fun(_:Unit)=> .string (bs (fW n))) (fun _=>[]) (fun _=>[]):=by
 have hT:=fN;refine cQ Tryz.func167 rfl Tryz.ntmps167 rfl ?_;intro β hM;refine sr<|sp hT ?_;refine nn<|sr<|sp hT ?_;refine ss (cF rfl rfl (mK _ _)) ?_;refine bQ Tryz.func222 (spell_spec n h0 h1) rfl rfl .nil ⟨Has.of mT0,trivial⟩ fun _=>?_;refine sp4 hT ?_;refine sp hT ?_;refine nn<|sr<|sp2 hT ?_;refine nn<|bF ?_;exact bS () rfl (bE rfl) .nil trivial (rfl)
set_option maxRecDepth 100000 in
theorem jB(s:Bs):dM Tryz.prog 200 [.string (bs s)] [] [] (fun(_:Unit)=> .int .u8 (gV s)) (fun _=>[]) (fun _=>[]):=by
 have hT:=fN;refine cQ Tryz.func200 rfl Tryz.ntmps200 rfl ?_;intro β hM;refine sr<|sp hT ?_;refine nn<|bB<|sr<|sp hT ?_;refine nn<|bU<|sr<|sp2 hT ?_;refine nn<|bK rfl (fun hc4=>?_) (fun hc4=>?_)
 ·have hc4:s=([43]:Bs):=eq_of_beq hc4;refine sr<|sp hT ?_;refine nn<|bF<|bG<|bA ?_;exact bS () rfl (bE rfl) .nil trivial (by simp [gV, *])
 have hc4:s≠([43]:Bs):=fun h=>absurd (beq_iff_eq.2 h) (by rw [show(s==([43]:Bs))=false from hc4];simp);refine sr<|sp2 hT ?_;refine nn<|bK rfl (fun hc6=>?_) (fun hc6=>?_)
 ·have hc6:s=([45]:Bs):=eq_of_beq hc6;refine sr<|sp hT ?_;refine nn<|bF<|bG<|bA ?_;exact bS () rfl (bE rfl) .nil trivial (by simp [gV, *])
 have hc6:s≠([45]:Bs):=fun h=>absurd (beq_iff_eq.2 h) (by rw [show(s==([45]:Bs))=false from hc6];simp);refine sr<|sp2 hT ?_;refine nn<|bK rfl (fun hc8=>?_) (fun hc8=>?_)
 ·have hc8:s=([42]:Bs):=eq_of_beq hc8;refine sr<|sp hT ?_;refine nn<|bF<|bG<|bA ?_;exact bS () rfl (bE rfl) .nil trivial (by simp [gV, *])
 have hc8:s≠([42]:Bs):=fun h=>absurd (beq_iff_eq.2 h) (by rw [show(s==([42]:Bs))=false from hc8];simp);refine sr<|sp2 hT ?_;refine nn<|bK rfl (fun hc10=>?_) (fun hc10=>?_)
 ·have hc10:s=([37]:Bs):=eq_of_beq hc10;refine sr<|sp hT ?_;refine nn<|bF<|bG<|bA ?_;exact bS () rfl (bE rfl) .nil trivial (by simp [gV, *])
 have hc10:s≠([37]:Bs):=fun h=>absurd (beq_iff_eq.2 h) (by rw [show(s==([37]:Bs))=false from hc10];simp);refine sr<|sp2 hT ?_;refine nn<|bK rfl (fun hc12=>?_) (fun hc12=>?_)
 ·have hc12:s=([124]:Bs):=eq_of_beq hc12;refine sr<|sp hT ?_;refine nn<|bF<|bG<|bA ?_;exact bS () rfl (bE rfl) .nil trivial (by simp [gV, *])
 have hc12:s≠([124]:Bs):=fun h=>absurd (beq_iff_eq.2 h) (by rw [show(s==([124]:Bs))=false from hc12];simp);refine sr<|sp2 hT ?_;refine nn<|bK rfl (fun hc14=>?_) (fun hc14=>?_)
 ·have hc14:s=([109,105,110]:Bs):=eq_of_beq hc14;refine sr<|sp hT ?_;refine nn<|bF<|bG<|bA ?_;exact bS () rfl (bE rfl) .nil trivial (by simp [gV, *])
 have hc14:s≠([109,105,110]:Bs):=fun h=>absurd (beq_iff_eq.2 h) (by rw [show(s==([109,105,110]:Bs))=false from hc14];simp);refine sr<|sp2 hT ?_;refine nn<|bK rfl (fun hc16=>?_) (fun hc16=>?_)
 ·have hc16:s=([109,97,120]:Bs):=eq_of_beq hc16;refine sr<|sp hT ?_;refine nn<|bF<|bG<|bA ?_;exact bS () rfl (bE rfl) .nil trivial (by simp [gV, *])
 have hc16:s≠([109,97,120]:Bs):=fun h=>absurd (beq_iff_eq.2 h) (by rw [show(s==([109,97,120]:Bs))=false from hc16];simp);refine sr<|sp2 hT ?_;refine nn<|bK rfl (fun hc18=>?_) (fun hc18=>?_)
 ·have hc18:s=([61]:Bs):=eq_of_beq hc18;refine sr<|sp hT ?_;refine nn<|bF<|bG<|bA ?_;exact bS () rfl (bE rfl) .nil trivial (by simp [gV, *])
 have hc18:s≠([61]:Bs):=fun h=>absurd (beq_iff_eq.2 h) (by rw [show(s==([61]:Bs))=false from hc18];simp);refine sr<|sp2 hT ?_;refine nn<|bK rfl (fun hc20=>?_) (fun hc20=>?_)
 ·have hc20:s=([126]:Bs):=eq_of_beq hc20;refine sr<|sp hT ?_;refine nn<|bF<|bG<|bA ?_;exact bS () rfl (bE rfl) .nil trivial (by simp [gV, *])
 have hc20:s≠([126]:Bs):=fun h=>absurd (beq_iff_eq.2 h) (by rw [show(s==([126]:Bs))=false from hc20];simp);refine sr<|sp2 hT ?_;refine nn<|bK rfl (fun hc22=>?_) (fun hc22=>?_)
 ·have hc22:s=([60]:Bs):=eq_of_beq hc22;refine sr<|sp hT ?_;refine nn<|bF<|bG<|bA ?_;exact bS () rfl (bE rfl) .nil trivial (by simp [gV, *])
 have hc22:s≠([60]:Bs):=fun h=>absurd (beq_iff_eq.2 h) (by rw [show(s==([60]:Bs))=false from hc22];simp);refine sr<|sp2 hT ?_;refine nn<|bK rfl (fun hc24=>?_) (fun hc24=>?_)
 ·have hc24:s=([60,61]:Bs):=eq_of_beq hc24;refine sr<|sp hT ?_;refine nn<|bF<|bG<|bA ?_;exact bS () rfl (bE rfl) .nil trivial (by simp [gV, *])
 have hc24:s≠([60,61]:Bs):=fun h=>absurd (beq_iff_eq.2 h) (by rw [show(s==([60,61]:Bs))=false from hc24];simp);refine sr<|sp2 hT ?_;refine nn<|bK rfl (fun hc26=>?_) (fun hc26=>?_)
 ·have hc26:s=([62,61]:Bs):=eq_of_beq hc26;refine sr<|sp hT ?_;refine nn<|bF<|bG<|bA ?_;exact bS () rfl (bE rfl) .nil trivial (by simp [gV, *])
 have hc26:s≠([62,61]:Bs):=fun h=>absurd (beq_iff_eq.2 h) (by rw [show(s==([62,61]:Bs))=false from hc26];simp);refine sr<|sp2 hT ?_;refine nn<|bK rfl (fun hc28=>?_) (fun hc28=>?_)
 ·have hc28:s=([62]:Bs):=eq_of_beq hc28;refine sr<|sp hT ?_;refine nn<|bF<|bG<|bA ?_;exact bS () rfl (bE rfl) .nil trivial (by simp [gV, *])
 have hc28:s≠([62]:Bs):=fun h=>absurd (beq_iff_eq.2 h) (by rw [show(s==([62]:Bs))=false from hc28];simp);refine sr<|sp2 hT ?_;refine nn<|bK rfl (fun hc30=>?_) (fun hc30=>?_)
 ·have hc30:s=([97,110,100]:Bs):=eq_of_beq hc30;refine sr<|sp hT ?_;refine nn<|bF<|bG<|bA ?_;exact bS () rfl (bE rfl) .nil trivial (by simp [gV, *])
 have hc30:s≠([97,110,100]:Bs):=fun h=>absurd (beq_iff_eq.2 h) (by rw [show(s==([97,110,100]:Bs))=false from hc30];simp);refine sr<|sp2 hT ?_;refine nn<|bK rfl (fun hc32=>?_) (fun hc32=>?_)
 ·have hc32:s=([111,114]:Bs):=eq_of_beq hc32;refine sr<|sp hT ?_;refine nn<|bF<|bG<|bA ?_;exact bS () rfl (bE rfl) .nil trivial (by simp [gV, *])
 have hc32:s≠([111,114]:Bs):=fun h=>absurd (beq_iff_eq.2 h) (by rw [show(s==([111,114]:Bs))=false from hc32];simp);refine sr<|sp2 hT ?_;refine nn<|bK rfl (fun hc34=>?_) (fun hc34=>?_)
 ·have hc34:s=([112,111,119]:Bs):=eq_of_beq hc34;refine sr<|sp hT ?_;refine nn<|bF<|bG<|bA ?_;exact bS () rfl (bE rfl) .nil trivial (by simp [gV, *])
 have hc34:s≠([112,111,119]:Bs):=fun h=>absurd (beq_iff_eq.2 h) (by rw [show(s==([112,111,119]:Bs))=false from hc34];simp);refine sr<|sp2 hT ?_;refine nn<|bK rfl (fun hc36=>?_) (fun hc36=>?_)
 ·have hc36:s=([114,104,111]:Bs):=eq_of_beq hc36;refine sr<|sp hT ?_;refine nn<|bF<|bG<|bA ?_;exact bS () rfl (bE rfl) .nil trivial (by simp [gV, *])
 have hc36:s≠([114,104,111]:Bs):=fun h=>absurd (beq_iff_eq.2 h) (by rw [show(s==([114,104,111]:Bs))=false from hc36];simp);refine sr<|sp2 hT ?_;refine nn<|bK rfl (fun hc38=>?_) (fun hc38=>?_)
 ·have hc38:s=([116,97,107,101]:Bs):=eq_of_beq hc38;refine sr<|sp hT ?_;refine nn<|bF<|bG<|bA ?_;exact bS () rfl (bE rfl) .nil trivial (by simp [gV, *])
 have hc38:s≠([116,97,107,101]:Bs):=fun h=>absurd (beq_iff_eq.2 h) (by rw [show(s==([116,97,107,101]:Bs))=false from hc38];simp);refine sr<|sp2 hT ?_;refine nn<|bK rfl (fun hc40=>?_) (fun hc40=>?_)
 ·have hc40:s=([100,114,111,112]:Bs):=eq_of_beq hc40;refine sr<|sp hT ?_;refine nn<|bF<|bG<|bA ?_;exact bS () rfl (bE rfl) .nil trivial (by simp [gV, *])
 have hc40:s≠([100,114,111,112]:Bs):=fun h=>absurd (beq_iff_eq.2 h) (by rw [show(s==([100,114,111,112]:Bs))=false from hc40];simp);refine sr<|sp2 hT ?_;refine nn<|bK rfl (fun hc42=>?_) (fun hc42=>?_)
 ·have hc42:s=([99,97,116]:Bs):=eq_of_beq hc42;refine sr<|sp hT ?_;refine nn<|bF<|bG<|bA ?_;exact bS () rfl (bE rfl) .nil trivial (by simp [gV, *])
 have hc42:s≠([99,97,116]:Bs):=fun h=>absurd (beq_iff_eq.2 h) (by rw [show(s==([99,97,116]:Bs))=false from hc42];simp);refine bM<|bZ<|bC<|sr<|sp hT ?_;refine nn<|bF ?_;exact bS () rfl (bE rfl) .nil trivial (by simp [gV, *])
set_option maxRecDepth 100000 in
theorem one_spec(s:Bs):dM Tryz.prog 199 [.string (bs s)] [] [] (fun(_:Unit)=> .int .u8 (mH s)) (fun _=>[]) (fun _=>[]):=by
 have hT:=fN;refine cQ Tryz.func199 rfl Tryz.ntmps199 rfl ?_;intro β hM;refine sr<|sp hT ?_;refine nn<|bB<|sr<|sp hT ?_;refine nn<|bU<|bB<|sr<|sp2 hT ?_;refine nn<|bK rfl (fun hc4=>?_) (fun hc4=>?_)
 ·have hc4_r:=hc4;have hc4:s=([43]:Bs):=eq_of_beq hc4;refine bM<|bC<|cH rfl hc4_r ?_;refine sr<|sp hT ?_;refine bQ Tryz.func200 (jB s) rfl rfl .nil trivial fun _=>?_;refine sp hT ?_;refine nn<|bF<|bG<|bA ?_;exact bS () rfl (bE rfl) .nil trivial (by first | (simp [mH, *];done) | simp [mH,gV, *])
 have hc4_r:=hc4;have hc4:s≠([43]:Bs):=fun h=>absurd (beq_iff_eq.2 h) (by rw [show(s==([43]:Bs))=false from hc4];simp);refine sr<|sp2 hT ?_;refine nn<|bK rfl (fun hc4_1=>?_) (fun hc4_1=>?_)
 ·have hc4_1_r:=hc4_1;have hc4_1:s=([45]:Bs):=eq_of_beq hc4_1;refine bM<|bC<|cH rfl hc4_1_r ?_;refine sr<|sp hT ?_;refine bQ Tryz.func200 (jB s) rfl rfl .nil trivial fun _=>?_;refine sp hT ?_;refine nn<|bF<|bG<|bA ?_;exact bS () rfl (bE rfl) .nil trivial (by first | (simp [mH, *];done) | simp [mH,gV, *])
 have hc4_1_r:=hc4_1;have hc4_1:s≠([45]:Bs):=fun h=>absurd (beq_iff_eq.2 h) (by rw [show(s==([45]:Bs))=false from hc4_1];simp);refine sr<|sp2 hT ?_;refine nn<|bK rfl (fun hc4_2=>?_) (fun hc4_2=>?_)
 ·have hc4_2_r:=hc4_2;have hc4_2:s=([42]:Bs):=eq_of_beq hc4_2;refine bM<|bC<|cH rfl hc4_2_r ?_;refine sr<|sp hT ?_;refine bQ Tryz.func200 (jB s) rfl rfl .nil trivial fun _=>?_;refine sp hT ?_;refine nn<|bF<|bG<|bA ?_;exact bS () rfl (bE rfl) .nil trivial (by first | (simp [mH, *];done) | simp [mH,gV, *])
 have hc4_2_r:=hc4_2;have hc4_2:s≠([42]:Bs):=fun h=>absurd (beq_iff_eq.2 h) (by rw [show(s==([42]:Bs))=false from hc4_2];simp);refine sr<|sp2 hT ?_;refine nn<|bK rfl (fun hc4_3=>?_) (fun hc4_3=>?_)
 ·have hc4_3_r:=hc4_3;have hc4_3:s=([37]:Bs):=eq_of_beq hc4_3;refine bM<|bC<|cH rfl hc4_3_r ?_;refine sr<|sp hT ?_;refine bQ Tryz.func200 (jB s) rfl rfl .nil trivial fun _=>?_;refine sp hT ?_;refine nn<|bF<|bG<|bA ?_;exact bS () rfl (bE rfl) .nil trivial (by first | (simp [mH, *];done) | simp [mH,gV, *])
 have hc4_3_r:=hc4_3;have hc4_3:s≠([37]:Bs):=fun h=>absurd (beq_iff_eq.2 h) (by rw [show(s==([37]:Bs))=false from hc4_3];simp);refine sr<|sp2 hT ?_;refine nn<|bK rfl (fun hc4_4=>?_) (fun hc4_4=>?_)
 ·have hc4_4_r:=hc4_4;have hc4_4:s=([124]:Bs):=eq_of_beq hc4_4;refine bM<|bC<|cH rfl hc4_4_r ?_;refine sr<|sp hT ?_;refine bQ Tryz.func200 (jB s) rfl rfl .nil trivial fun _=>?_;refine sp hT ?_;refine nn<|bF<|bG<|bA ?_;exact bS () rfl (bE rfl) .nil trivial (by first | (simp [mH, *];done) | simp [mH,gV, *])
 have hc4_4_r:=hc4_4;have hc4_4:s≠([124]:Bs):=fun h=>absurd (beq_iff_eq.2 h) (by rw [show(s==([124]:Bs))=false from hc4_4];simp);refine sr<|sp2 hT ?_;refine nn<|bK rfl (fun hc4_5=>?_) (fun hc4_5=>?_)
 ·have hc4_5_r:=hc4_5;have hc4_5:s=([109,105,110]:Bs):=eq_of_beq hc4_5;refine bM<|bC<|cH rfl hc4_5_r ?_;refine sr<|sp hT ?_;refine bQ Tryz.func200 (jB s) rfl rfl .nil trivial fun _=>?_;refine sp hT ?_;refine nn<|bF<|bG<|bA ?_;exact bS () rfl (bE rfl) .nil trivial (by first | (simp [mH, *];done) | simp [mH,gV, *])
 have hc4_5_r:=hc4_5;have hc4_5:s≠([109,105,110]:Bs):=fun h=>absurd (beq_iff_eq.2 h) (by rw [show(s==([109,105,110]:Bs))=false from hc4_5];simp);refine bD<|sp2 hT ?_;refine nn<|bK rfl (fun hc4_6=>?_) (fun hc4_6=>?_)
 ·have hc4_6_r:=hc4_6;have hc4_6:s=([109,97,120]:Bs):=eq_of_beq hc4_6;refine sr<|sp hT ?_;refine bQ Tryz.func200 (jB s) rfl rfl .nil trivial fun _=>?_;refine sp hT ?_;refine nn<|bF<|bG<|bA ?_;exact bS () rfl (bE rfl) .nil trivial (by first | (simp [mH, *];done) | simp [mH,gV, *])
 have hc4_6_r:=hc4_6;have hc4_6:s≠([109,97,120]:Bs):=fun h=>absurd (beq_iff_eq.2 h) (by rw [show(s==([109,97,120]:Bs))=false from hc4_6];simp);refine sr<|sp2 hT ?_;refine nn<|bK rfl (fun hc14=>?_) (fun hc14=>?_)
 ·have hc14_r:=hc14;have hc14:s=([126]:Bs):=eq_of_beq hc14;refine sr<|sp hT ?_;refine nn<|bF<|bG<|bA ?_;exact bS () rfl (bE rfl) .nil trivial (by first | (simp [mH, *];done) | simp [mH,gV, *])
 have hc14_r:=hc14;have hc14:s≠([126]:Bs):=fun h=>absurd (beq_iff_eq.2 h) (by rw [show(s==([126]:Bs))=false from hc14];simp);refine sr<|sp2 hT ?_;refine nn<|bK rfl (fun hc16=>?_) (fun hc16=>?_)
 ·have hc16_r:=hc16;have hc16:s=([105,111,116,97]:Bs):=eq_of_beq hc16;refine sr<|sp hT ?_;refine nn<|bF<|bG<|bA ?_;exact bS () rfl (bE rfl) .nil trivial (by first | (simp [mH, *];done) | simp [mH,gV, *])
 have hc16_r:=hc16;have hc16:s≠([105,111,116,97]:Bs):=fun h=>absurd (beq_iff_eq.2 h) (by rw [show(s==([105,111,116,97]:Bs))=false from hc16];simp);refine sr<|sp2 hT ?_;refine nn<|bK rfl (fun hc18=>?_) (fun hc18=>?_)
 ·have hc18_r:=hc18;have hc18:s=([115,104,97,112,101]:Bs):=eq_of_beq hc18;refine sr<|sp hT ?_;refine nn<|bF<|bG<|bA ?_;exact bS () rfl (bE rfl) .nil trivial (by first | (simp [mH, *];done) | simp [mH,gV, *])
 have hc18_r:=hc18;have hc18:s≠([115,104,97,112,101]:Bs):=fun h=>absurd (beq_iff_eq.2 h) (by rw [show(s==([115,104,97,112,101]:Bs))=false from hc18];simp);refine sr<|sp2 hT ?_;refine nn<|bK rfl (fun hc20=>?_) (fun hc20=>?_)
 ·have hc20_r:=hc20;have hc20:s=([114,97,118,101,108]:Bs):=eq_of_beq hc20;refine sr<|sp hT ?_;refine nn<|bF<|bG<|bA ?_;exact bS () rfl (bE rfl) .nil trivial (by first | (simp [mH, *];done) | simp [mH,gV, *])
 have hc20_r:=hc20;have hc20:s≠([114,97,118,101,108]:Bs):=fun h=>absurd (beq_iff_eq.2 h) (by rw [show(s==([114,97,118,101,108]:Bs))=false from hc20];simp);refine sr<|sp2 hT ?_;refine nn<|bK rfl (fun hc22=>?_) (fun hc22=>?_)
 ·have hc22_r:=hc22;have hc22:s=([114,101,118]:Bs):=eq_of_beq hc22;refine sr<|sp hT ?_;refine nn<|bF<|bG<|bA ?_;exact bS () rfl (bE rfl) .nil trivial (by first | (simp [mH, *];done) | simp [mH,gV, *])
 have hc22_r:=hc22;have hc22:s≠([114,101,118]:Bs):=fun h=>absurd (beq_iff_eq.2 h) (by rw [show(s==([114,101,118]:Bs))=false from hc22];simp);refine sr<|sp2 hT ?_;refine nn<|bK rfl (fun hc24=>?_) (fun hc24=>?_)
 ·have hc24_r:=hc24;have hc24:s=([116,117,114,110]:Bs):=eq_of_beq hc24;refine sr<|sp hT ?_;refine nn<|bF<|bG<|bA ?_;exact bS () rfl (bE rfl) .nil trivial (by first | (simp [mH, *];done) | simp [mH,gV, *])
 have hc24_r:=hc24;have hc24:s≠([116,117,114,110]:Bs):=fun h=>absurd (beq_iff_eq.2 h) (by rw [show(s==([116,117,114,110]:Bs))=false from hc24];simp);refine bM<|bZ<|bC<|sr<|sp hT ?_;refine nn<|bF ?_;exact bS () rfl (bE rfl) .nil trivial (by first | (simp [mH, *];done) | simp [mH,gV, *])
set_option maxRecDepth 100000 in
theorem nK(s:Bs):dM Tryz.prog 135 [.string (bs s)] [] [] (fun(_:Unit)=> .bool (qF s)) (fun _=>[]) (fun _=>[]):=by
 have hT:=fN;refine cQ Tryz.func135 rfl Tryz.ntmps135 rfl ?_;intro β hM;refine sr<|sp hT ?_;refine nn<|sr<|sp hT ?_;refine bQ Tryz.func199 (one_spec s) rfl rfl .nil trivial fun _=>?_;refine sp2 hT ?_;refine cB (fun hg6=>?_) (fun hg6=>?_)
 ·have hg6:=bne_iff_ne.1 hg6;refine sk3 ?_;refine sp2 hT ?_;refine nn<|bF ?_;exact bS () rfl (bE rfl) .nil trivial (by simp [qF, *])
 have hg6:=bne_eq_false_iff_eq.1 hg6;refine sp hT ?_;refine bQ Tryz.func200 (jB s) rfl rfl .nil trivial fun _=>?_;refine sp3 hT ?_;refine nn<|bF ?_;exact bS () rfl (bE rfl) .nil trivial (by simp [qF, *])
set_option maxRecDepth 100000 in
theorem bCy(s:Bs)(t:Bool):dM Tryz.prog 166 [.string (bs s),.bool t] [] [] (fun(_:Unit)=> .tuple #[.int .u8 (gI s t),.bool (gI s t !=0)]) (fun _=>[]) (fun _=>[]):=by
 have hT:=fN;refine cQ Tryz.func166 rfl Tryz.ntmps166 rfl ?_;intro β hM;refine sr<|sp2 hT ?_;refine nn<|sr<|sp hT ?_;refine bQ Tryz.func199 (one_spec s) rfl rfl .nil trivial fun _=>?_;refine sp hT ?_;refine nn<|bB<|sr<|sp hT ?_;refine nn<|bK rfl (fun hc9=>?_) (fun hc9=>?_)
 ·refine bD<|sp hT ?_;refine bQ Tryz.func200 (jB s) rfl rfl .nil trivial fun _=>?_;refine sp hT ?_;refine nn<|sr<|sp4 hT ?_;refine sp hT ?_;refine nn<|bF ?_;exact bO () rfl (bE rfl) (bE rfl) .nil trivial (by simp [gI, *])
 refine bM<|bC<|sr<|sp4 hT ?_;refine sp hT ?_;refine nn<|bF ?_;exact bO () rfl (bE rfl) (bE rfl) .nil trivial (by simp [gI, *])
def bBt (s:Bs):Bool:=pF ⟨(lexP s).2.1,(lexP s).2.2⟩ ⟨0,0⟩&&match (lexP s).1 with
 | [t]=>t.kind==1&&t.word==s
 | _=>false
def fJ (s:Bs):Bool:= !(qF s)&&(!(s==[105,110])&&(!(s==[111,117,116])&&bBt s))
section
variable {s : Bs}
theorem yR(h:qF s=true):Value.bool false= .bool (fJ s):=by simp [fJ,h]
theorem zF(h:s=[105,110]):Value.bool false= .bool (fJ s):=by simp [fJ,h]
theorem zA(h:s=[111,117,116]):Value.bool false= .bool (fJ s):=by simp [fJ,h]
theorem yJ(h:pF ⟨(lexP s).2.1,(lexP s).2.2⟩ ⟨0,0⟩=false):Value.bool false= .bool (fJ s):=by simp [fJ,bBt,h]
theorem yL(h:(((lexP s).1.length:Nat):Int)≠1):Value.bool false= .bool (fJ s):=by
 unfold fJ bBt;split
 ·rename_i t ht;rw [ht] at h;simp at h
 ·simp
theorem list_one{α:Type}{l:List α}{x:α}(h:((l.length:Nat):Int)=1)(hx:l[0]?=some x):l=[x]:=by
 match l,h with
 | [a],_=>simp at hx;rw [hx]
 | [],h=>simp at h
 | _::_::_,h=>simp at h;omega
variable (h0 : qF s = false) (h1 : s ≠ [105, 110]) (h2 : s ≠ [111, 117, 116]) (hf : pF ⟨(lexP s).2.1, (lexP s).2.2⟩ ⟨0, 0⟩ = true) (hl : (((lexP s).1.length : Nat) : Int) = 1) {x : TokV} (hx : (lexP s).1[0]? = some x)
include h0 h1 h2 hf hl hx
theorem name_at:fJ s=(x.kind==1&&x.word==s):=by
 unfold fJ bBt;rw [list_one hl hx,h0,hf,beq_eq_false_iff_ne.2 h1,beq_eq_false_iff_ne.2 h2];simp
theorem yV(hk:x.kind≠1):Value.bool false= .bool (fJ s):=by
 rw [name_at h0 h1 h2 hf hl hx];simp [hk]
theorem yA(hk:x.kind=1):Value.bool (x.word==s)= .bool (fJ s):=by
 rw [name_at h0 h1 h2 hf hl hx];simp [hk]
end
set_option maxRecDepth 100000 in
theorem lV(s:Bs)(hs:s.length≤140737488355328):dM Tryz.prog 76 [.string (bs s)] [] [iA] (fun(_:Unit)=> .bool (fJ s)) (fun _=>[]) (fun _=>[]):=by
 have hT:=fN;refine cQ Tryz.func76 rfl Tryz.ntmps76 rfl ?_;intro β hM;refine sr<|sp hT ?_;refine nn<|bB<|sr<|sp hT ?_;refine bQ Tryz.func135 (nK s) rfl rfl .nil trivial fun _=>?_;refine sp hT ?_;refine cB (fun hg7=>?_) (fun hg7=>?_)
 ·refine sk2 ?_;refine sp2 hT ?_;refine sk2 ?_;refine sp hT ?_;refine nn<|cH rfl rfl ?_;refine sr<|sp hT ?_;refine nn<|bF<|bA ?_;exact bS () rfl (bE rfl) .nil trivial (by first | exact yR hg7 | exact zF hg11 | exact zA hc14 | exact yJ hg23 | exact yL hg28 | exact yV hg7 hg11 hc14 hg23 hg28 ‹(lexP s).1[0]?=some _› hg35 | exact yA hg7 hg11 hc14 hg23 hg28 ‹(lexP s).1[0]?=some _› hg35)
 refine sp4 hT ?_;refine cB (fun hg11=>?_) (fun hg11=>?_)
 ·have hg11:s=([105,110]:Bs):=eq_of_beq hg11;refine sk2 ?_;refine sp hT ?_;refine nn<|cH rfl rfl ?_;refine sr<|sp hT ?_;refine nn<|bF<|bA ?_;exact bS () rfl (bE rfl) .nil trivial (by first | exact yR hg7 | exact zF hg11 | exact zA hc14 | exact yJ hg23 | exact yL hg28 | exact yV hg7 hg11 hc14 hg23 hg28 ‹(lexP s).1[0]?=some _› hg35 | exact yA hg7 hg11 hc14 hg23 hg28 ‹(lexP s).1[0]?=some _› hg35)
 have hg11:s≠([105,110]:Bs):=fun h=>absurd (beq_iff_eq.2 h) (by rw [show(s==([105,110]:Bs))=false from hg11];simp);refine sp3 hT ?_;refine nn<|bK rfl (fun hc14=>?_) (fun hc14=>?_)
 ·have hc14:s=([111,117,116]:Bs):=eq_of_beq hc14;refine sr<|sp hT ?_;refine nn<|bF<|bA ?_;exact bS () rfl (bE rfl) .nil trivial (by first | exact yR hg7 | exact zF hg11 | exact zA hc14 | exact yJ hg23 | exact yL hg28 | exact yV hg7 hg11 hc14 hg23 hg28 ‹(lexP s).1[0]?=some _› hg35 | exact yA hg7 hg11 hc14 hg23 hg28 ‹(lexP s).1[0]?=some _› hg35)
 have hc14:s≠([111,117,116]:Bs):=fun h=>absurd (beq_iff_eq.2 h) (by rw [show(s==([111,117,116]:Bs))=false from hc14];simp);refine bM<|bC<|sr<|sp hT ?_;refine bQ Tryz.func37 (bIs s (by omega)) rfl rfl .nil ⟨Has.of mT0,trivial⟩ fun⟨A1,c2⟩=>?_;refine sp3 hT ?_;refine cC rfl rfl rfl rfl yT rfl fun b3=>?_;refine sp hT ?_;refine sto hT .head ?_;refine nn<|sr<|ss (ldN hT (bJ .head)) ?_;refine ss (cF rfl rfl (vW)) ?_;refine ss (wG ⟨(lexP s).2.1,(lexP s).2.2⟩ ⟨0,0⟩ rfl rfl rfl) ?_;refine sp hT ?_;refine cB (fun hg23=>?_) (fun hg23=>?_)
 ·refine sp4 hT ?_;refine sp hT ?_;refine cB (fun hg28=>?_) (fun hg28=>?_)
  ·have hg28:=eq_of_beq hg28;refine sp hT ?_
   obtain⟨x4,hx5⟩: ∃x,(lexP s).1[0]?=some x:=⟨_,List.getElem?_eq_getElem (by omega)⟩
   refine ss (bV hT (k:=0) (bL (Has.of mT0)) rfl rfl rfl rfl rfl rfl rfl (by omega)) ?_;refine sp hT ?_;refine ss (cE hT (cP.knows (bL (Has.of mT0)) (k:=0) (x:=x4) hx5 0) rfl rfl rfl rfl rfl) ?_;refine sp3 hT ?_;refine cB (fun hg35=>?_) (fun hg35=>?_)
   ·have hg35:=eq_of_beq hg35;refine sp hT ?_;refine ss (bV hT (k:=0) (bL (Has.of mT0)) rfl rfl rfl rfl rfl rfl rfl (by omega)) ?_;refine sp hT ?_;refine ss (cE hT (cP.knows (bL (Has.of mT0)) (k:=0) (x:=x4) hx5 2) rfl rfl rfl rfl rfl) ?_;refine sp4 hT ?_;refine nn<|bF ?_;exact bS () rfl (bE rfl) .nil trivial (by first | exact yR hg7 | exact zF hg11 | exact zA hc14 | exact yJ hg23 | exact yL hg28 | exact yV hg7 hg11 hc14 hg23 hg28 ‹(lexP s).1[0]?=some _› hg35 | exact yA hg7 hg11 hc14 hg23 hg28 ‹(lexP s).1[0]?=some _› hg35)
   have hg35:=beq_eq_false_iff_ne.1 hg35;refine sk4 ?_;refine sk2 ?_;refine sp2 hT ?_;refine nn<|bF ?_;exact bS () rfl (bE rfl) .nil trivial (by first | exact yR hg7 | exact zF hg11 | exact zA hc14 | exact yJ hg23 | exact yL hg28 | exact yV hg7 hg11 hc14 hg23 hg28 ‹(lexP s).1[0]?=some _› hg35 | exact yA hg7 hg11 hc14 hg23 hg28 ‹(lexP s).1[0]?=some _› hg35)
  have hg28:=beq_eq_false_iff_ne.1 hg28;refine sk4 ?_;refine sk ?_;refine sp2 hT ?_;refine sk4 ?_;refine sk2 ?_;refine sp2 hT ?_;refine nn<|bF ?_;exact bS () rfl (bE rfl) .nil trivial (by first | exact yR hg7 | exact zF hg11 | exact zA hc14 | exact yJ hg23 | exact yL hg28 | exact yV hg7 hg11 hc14 hg23 hg28 ‹(lexP s).1[0]?=some _› hg35 | exact yA hg7 hg11 hc14 hg23 hg28 ‹(lexP s).1[0]?=some _› hg35)
 refine sk3 ?_;refine sp2 hT ?_;refine sk4 ?_;refine sk ?_;refine sp2 hT ?_;refine sk4 ?_;refine sk2 ?_;refine sp2 hT ?_;refine nn<|bF ?_;exact bS () rfl (bE rfl) .nil trivial (by first | exact yR hg7 | exact zF hg11 | exact zA hc14 | exact yJ hg23 | exact yL hg28 | exact yV hg7 hg11 hc14 hg23 hg28 ‹(lexP s).1[0]?=some _› hg35 | exact yA hg7 hg11 hc14 hg23 hg28 ‹(lexP s).1[0]?=some _› hg35)
def atP (toks:List TokV)(k:Nat)(e:Int):Int:=match toks[k]? with
 | some t=>t.at_
 | none=>e
def bR (toks:List TokV)(k:Nat):TokV:=match toks[k]? with
 | some t=>t
 | none=>⟨4,0,[],0⟩
def tokV (t:TokV):Value:= .agg #[.int .i64 t.kind,.int .i64 t.at_,.string (bs t.word),.int .i64 t.n]
section
variable {toks : List TokV} {k : Nat} {e : Int}
theorem bAs{t:TokV}(h:toks[k]?=some t):atP toks k e=t.at_:=by unfold atP;rw [h]
theorem bIm(h:toks.length≤k):atP toks k e=e:=by unfold atP;rw [List.getElem?_eq_none h]
theorem rL{t:TokV}(h:toks[k]?=some t):bR toks k=t:=by unfold bR;rw [h]
theorem yS(h:toks.length≤k):bR toks k=⟨4,0,[],0⟩:=by unfold bR;rw [List.getElem?_eq_none h]
end
structure Phr where
 how:Int
 at_:Int
 fn:Int
 flt:Flt
 next:Nat
def bW (toks:List TokV)(k:Nat)(e:Int)(left:Bool):Phr:=
 if (bR toks (k+1)).kind=3∧((bR toks (k+1)).word=[47]∨(bR toks (k+1)).word=[92]∨(bR toks (k+1)).word=[46]) then
  if 17<gV (bR toks k).word∨((bR toks (k+1)).word==[46])≠left then ⟨if left then 4 else 3,(bR toks k).at_,gV (bR toks k).word,(atP toks k e,43),k+1+1⟩
  else ⟨if (bR toks (k+1)).word=[47] then 5 else if (bR toks (k+1)).word=[92] then 6 else 7,(bR toks k).at_,gV (bR toks k).word,if gV (bR toks k).word=0 then (atP toks k e,43) else (0,0),k+1+1⟩
 else ⟨if left then 4 else 3,(bR toks k).at_,gI (bR toks k).word left,if gI (bR toks k).word left=0 then (atP toks k e,43) else (0,0),k+1⟩
def phrV (p:Phr):Value:= .tuple #[.agg #[.int .i64 p.how,.int .i64 p.at_,.int .u8 p.fn,.string (bs []),.slice none 0 0],.agg #[.int .i64 p.flt.1,.int .i64 p.flt.2]]
theorem lU:(Tryz.prog.info? 52).bind (·.zero)=some (.agg #[.int .i64 0,.int .i64 0,.int .u8 0,.string (bs []),.slice none 0 0]):=by kernel_rfl
theorem pP(z0:Int)(z1:Int):Tryz.prog.built 52 [(0,.int .i64 z0),(1,.int .i64 z1)]=some #[.int .i64 z0,.int .i64 z1,.int .u8 0,.string (bs []),.slice none 0 0]:=by kernel_rfl
set_option maxRecDepth 100000 in
theorem at_spec(bl:Nat)(A:Option Addr)(c:Nat)(toks:List TokV)(k:Nat)(e:Int):dM Tryz.prog 134 [.pointer (some ⟨bl,0,none⟩)] [.obj bl (.cells [.slice A toks.length c,.int .i64 (k:Nat),.int .i64 e].toArray 102)] [kO.sl (.slice A toks.length c) toks] (fun(_:Unit)=> .int .i64 (atP toks k e)) (fun(_:Unit)=>[.obj bl (.cells [.slice A toks.length c,.int .i64 (k:Nat),.int .i64 e].toArray 102)]) (fun _=>[]):=by
 have hT:=fN;refine cQ Tryz.func134 rfl Tryz.ntmps134 rfl ?_;intro β hM;refine sr<|sp hT ?_;refine nn<|bB<|bB<|dD _ _ [(true,0),(true,1),(true,2),(true,3),(true,4),(true,5),(true,6),(true,7),(true,8),(true,9)] dG (by decide+kernel) (.cons .head .nil) bI.self ?_;refine puM hT ?_;refine puM hT ?_;refine puM hT ?_;refine stM rfl (ldO hT (fK .head)) ?_;refine puM hT ?_;refine puM hT ?_;refine puM hT ?_;refine stM rfl (ldO hT (bJ .head)) ?_;refine puM hT ?_;refine puM hT ?_;refine cS<|bC<|bK rfl (fun hc12=>?_) (fun hc12=>?_)
 ·have hc12:=of_decide_eq_true hc12;refine bB<|dD _ _ [(true,0),(true,1),(true,2),(true,3),(true,4),(true,5),(true,6),(true,7),(true,8),(true,9),(true,10),(true,11)] dG (by decide+kernel) (.cons .head .nil) bI.self ?_;refine puM hT ?_;refine puM hT ?_;refine puM hT ?_;refine stM rfl (ldO hT (bJ .head)) ?_;refine puM hT ?_;refine puM hT ?_;refine puM hT ?_;refine stM rfl (ldO hT (fK .head)) ?_
  obtain⟨x1,hx2⟩: ∃x,toks[k]?=some x:=⟨_,List.getElem?_eq_getElem (by omega)⟩
  refine stM rfl (bV hT (k:=k) (bL (Has.of mT0)) rfl rfl rfl rfl rfl rfl rfl (by omega)) ?_;refine puM hT ?_;refine stM rfl (cE hT (cP.knows (bL (Has.of mT0)) (k:=k) (x:=x1) hx2 1) rfl rfl rfl rfl rfl) ?_;refine puM hT ?_;refine cS<|bC<|bF<|bA ?_;exact bS () rfl (bE rfl) (.cons .head .nil) trivial (by rw [bAs hx2])
 have hc12:=Int.not_lt.1 (of_decide_eq_false hc12);refine bM<|bC<|sr<|sp3 hT ?_;refine ss (ldO hT (dH .head)) ?_;refine sp hT ?_;refine nn<|bF ?_;exact bS () rfl (bE rfl) (.cons .head .nil) trivial (by rw [bIm (by omega)])
set_option maxRecDepth 100000 in
theorem gZ(bl:Nat)(A:Option Addr)(c:Nat)(toks:List TokV)(k:Nat)(e:Int):dM Tryz.prog 73 [.pointer (some ⟨bl,0,none⟩)] [.obj bl (.cells [.slice A toks.length c,.int .i64 (k:Nat),.int .i64 e].toArray 102)] [kO.sl (.slice A toks.length c) toks] (fun(_:Unit)=>tokV (bR toks k)) (fun(_:Unit)=>[.obj bl (.cells [.slice A toks.length c,.int .i64 (k:Nat),.int .i64 e].toArray 102)]) (fun _=>[]):=by
 have hT:=fN;refine cQ Tryz.func73 rfl Tryz.ntmps73 rfl ?_;intro β hM;refine sr<|cC rfl rfl rfl rfl vR rfl fun b1=>?_;refine nn<|bB<|bB<|dD _ _ [(true,0),(true,1),(true,2),(true,3),(true,4),(true,5),(true,6),(true,7),(true,8),(true,9)] dG (by decide+kernel) (.cons .head (.cons .head .nil)) bI.self ?_;refine puM hT ?_;refine puM hT ?_;refine puM hT ?_;refine stM rfl (ldO hT (fK kT1)) ?_;refine puM hT ?_;refine puM hT ?_;refine puM hT ?_;refine stM rfl (ldO hT (bJ kT1)) ?_;refine puM hT ?_;refine puM hT ?_;refine cS<|bC<|bK rfl (fun hc12=>?_) (fun hc12=>?_)
 ·have hc12:=of_decide_eq_true hc12;refine bB<|dD _ _ [(true,0),(true,1),(true,2),(true,3),(true,4),(true,5),(true,6),(true,7),(true,8),(true,9),(false,10)] dG (by decide+kernel) (.cons kT1 .nil) bI.self ?_;refine puM hT ?_;refine puM hT ?_;refine puM hT ?_;refine stM rfl (ldO hT (bJ .head)) ?_;refine puM hT ?_;refine puM hT ?_;refine puM hT ?_;refine stM rfl (ldO hT (fK .head)) ?_
  obtain⟨x2,hx3⟩: ∃x,toks[k]?=some x:=⟨_,List.getElem?_eq_getElem (by omega)⟩
  refine stM rfl (bV hT (k:=k) (bL (Has.of mT0)) rfl rfl rfl rfl rfl rfl rfl (by omega)) ?_;refine stM rfl (fA hT (cP.knows (bL (Has.of mT0)) (k:=k) (x:=x2) hx3 0) rfl rfl rfl rfl rfl) ?_;refine cM (o:=_) rfl ?_;refine sto hT .head ?_;refine cN (.cons kT1 .nil) ⟨Has.of mT0,trivial⟩ ?_;refine cS<|bC<|bF<|bA ?_;exact bS () rfl (bN hT (bJ .head) rfl rfl rfl rfl) (.cons kT1 .nil) trivial (by rw [rL hx3];rfl)
 have hc12:=Int.not_lt.1 (of_decide_eq_false hc12);refine bM<|bC<|sr<|ss (cF rfl rfl (sW _)) ?_;refine sto hT .head ?_;refine nn<|bF ?_;exact bS () rfl (bN hT (bJ .head) rfl rfl rfl rfl) (.cons kT1 .nil) trivial (by rw [yS (by omega)];rfl)
set_option maxRecDepth 100000 in
theorem cV(bl:Nat)(A:Option Addr)(c:Nat)(toks:List TokV)(k:Nat)(e:Int)(z:Int):dM Tryz.prog 74 [.pointer (some ⟨bl,0,none⟩),.int .i64 z] [.obj bl (.cells [.slice A toks.length c,.int .i64 (k:Nat),.int .i64 e].toArray 102)] [kO.sl (.slice A toks.length c) toks] (fun(_:Unit)=> .agg #[.int .i64 (atP toks k e),.int .i64 z]) (fun(_:Unit)=>[.obj bl (.cells [.slice A toks.length c,.int .i64 (k:Nat),.int .i64 e].toArray 102)]) (fun _=>[]):=by
 have hT:=fN;refine cQ Tryz.func74 rfl Tryz.ntmps74 rfl ?_;intro β hM;refine sr<|cC rfl rfl rfl rfl yT rfl fun b1=>?_;refine nn<|sr<|sp hT ?_;refine bQ Tryz.func134 (at_spec bl A c toks (k) e) rfl rfl (.cons kT1 .nil) ⟨Has.of mT0,trivial⟩ fun _=>?_;refine sp hT ?_;refine ss (cF rfl rfl (tS _ _)) ?_;refine sto hT kT1 ?_;refine nn<|bF ?_;exact bS () rfl (bN hT (bJ .head) rfl rfl rfl rfl) (.cons kT1 .nil) trivial (rfl)
set_option maxRecDepth 100000 in
theorem phraseT_spec(bl:Nat)(A:Option Addr)(c:Nat)(toks:List TokV)(k:Nat)(e:Int)(hk:k≤1000000):dM Tryz.prog 138 [.pointer (some ⟨bl,0,none⟩),.bool true] [.obj bl (.cells [.slice A toks.length c,.int .i64 (k:Nat),.int .i64 e].toArray 102)] [kO.sl (.slice A toks.length c) toks] (fun(_:Unit)=>phrV (bW toks k e true)) (fun(_:Unit)=>[.obj bl (.cells [.slice A toks.length c,.int .i64 ((bW toks k e true).next:Nat),.int .i64 e].toArray 102)]) (fun _=>[]):=by
 have hT:=fN;refine cQ Tryz.func138 rfl Tryz.ntmps138 rfl ?_;intro β hM;refine sr<|cC rfl rfl rfl rfl lU rfl fun b1=>?_;refine cC rfl rfl rfl rfl yT rfl fun b2=>?_;refine nn<|sr<|sp hT ?_;refine bQ Tryz.func73 (gZ bl A c toks (k) e) rfl rfl (.cons kT2 .nil) ⟨Has.of mT0,trivial⟩ fun _=>?_;refine cC rfl rfl rfl rfl vR rfl fun b3=>?_;refine sto hT .head ?_;refine nn<|sr<|sp hT ?_;refine bQ Tryz.func74 (cV bl A c toks (k) e _) rfl rfl (.cons kT1 .nil) ⟨Has.of mT0,trivial⟩ fun _=>?_;refine cC rfl rfl rfl rfl yT rfl fun b4=>?_;refine sto hT .head ?_;refine nn<|sr<|sp3 hT ?_;refine ss (ldO hT (fK kT1)) ?_;refine sp hT ?_;refine bT (z':=(((k+1):Nat):Int)) (cO (by omega) (by omega)) ?_;refine sp2 hT ?_;refine sto hT kT1 ?_;refine nn<|sr<|sp hT ?_;refine ss (ldO hT (fK kT2)) ?_;refine ss (cF rfl rfl (pP _ _)) ?_;refine cC rfl rfl rfl rfl lU rfl fun b5=>?_;refine sto hT .head ?_;refine nn<|bB<|sr<|sp hT ?_;refine nn<|cH rfl rfl ?_;refine bD<|sp hT ?_;refine sto hT .head ?_;refine nn<|sr<|sp hT ?_;refine ss (ldO hT (dH kT3)) ?_;refine sp hT ?_;refine bQ Tryz.func166 (bCy _ true) rfl rfl .nil trivial fun _=>?_;refine sp4 hT ?_;refine sto hT .head ?_;refine nn<|bB<|sr<|sp hT ?_;refine bQ Tryz.func73 (gZ bl A c toks ((k+1)) e) rfl rfl (.cons kT1 .nil) ⟨Has.of mT0,trivial⟩ fun _=>?_;refine cC rfl rfl rfl rfl vR rfl fun b6=>?_;refine sto hT .head ?_;refine nn<|sr<|sp hT ?_;refine ss (ldO hT (bJ .head)) ?_;refine sp2 hT ?_;refine cB (fun hg39=>?_) (fun hg39=>?_)
 ·have hg39:=eq_of_beq hg39;refine sp hT ?_;refine ss (ldO hT (dH .head)) ?_;refine sp2 hT ?_;refine cB (fun hg43=>?_) (fun hg43=>?_)
  ·have hg43:(bR toks ((k+1))).word=([47]:Bs):=eq_of_beq hg43;refine sk3 ?_;refine sp2 hT ?_;refine sk3 ?_;refine sp2 hT ?_;refine nn<|cH rfl rfl ?_;refine sr<|sp3 hT ?_;refine ss (ldO hT (fK kT1)) ?_;refine sp hT ?_;refine bT (z':=((((k+1)+1):Nat):Int)) (cO (by omega) (by omega)) ?_;refine sp2 hT ?_;refine sto hT kT1 ?_;refine nn<|sr<|sp hT ?_;refine ss (ldO hT (dH kT4)) ?_;refine bQ Tryz.func200 (jB _) rfl rfl .nil trivial fun _=>?_;refine sp hT ?_;refine sto hT kT2 ?_;refine nn<|bB<|sr<|sp hT ?_;refine ss (ldO hT (dH .head)) ?_;refine sp2 hT ?_;refine cB (fun hg68=>?_) (fun hg68=>?_)
   ·have hg68:=of_decide_eq_true hg68;refine sk4 ?_;refine sk ?_;refine sp hT ?_;refine nn<|cH rfl rfl ?_;refine bB<|dD _ _ [(true,0),(true,1),(false,2),(false,3)] dG (by decide+kernel) (.cons .head (.cons .head (.cons .head (.cons .head (.cons .head .nil))))) bI.self ?_;refine stM rfl (ldN hT (bJ .head)) ?_;refine stM rfl (ldN hT (bJ kT3)) ?_;refine cM (o:=_) rfl ?_;refine sto hT kT6 ?_;refine cN (.cons kT1 (.cons kT1 (.cons kT1 (.cons kT1 (.cons kT1 .nil))))) ⟨Has.of mT0,trivial⟩ ?_;refine cM (o:=_) rfl ?_;refine sto hT kT6 ?_;refine cN (.cons kT2 (.cons kT2 (.cons kT2 (.cons kT2 (.cons kT2 .nil))))) ⟨Has.of mT0,trivial⟩ ?_;refine cS<|bC<|bF<|bA<|bA ?_;have hph:bW toks k e true=⟨4,(bR toks (k)).at_,(gV (bR toks k).word),((atP toks (k) e),43),((k+1)+1)⟩:=by first | (simp [bW, *];done) | simp_all [bW]
    rw [hph];exact bO () rfl (bN hT (bJ kT1) rfl rfl rfl rfl) (bN hT (bJ .head) rfl rfl rfl rfl) (.cons kT3 .nil) trivial (rfl)
   have hg68:=Int.not_lt.1 (of_decide_eq_false hg68);refine sp hT ?_;refine ss (ldO hT (dH kT2)) ?_;refine sp hT ?_;refine cA (t':=false) ((by show((bR toks ((k+1))).word==([46]:Bs))=_;rw [hg43];rfl)) ?_;refine sp2 hT ?_;refine cA (t':=true) rfl ?_;refine sp hT ?_;refine nn<|cH rfl rfl ?_;refine bB<|dD _ _ [(true,0),(true,1),(false,2),(false,3)] dG (by decide+kernel) (.cons .head (.cons .head (.cons .head (.cons .head (.cons .head .nil))))) bI.self ?_;refine stM rfl (ldN hT (bJ .head)) ?_;refine stM rfl (ldN hT (bJ kT3)) ?_;refine cM (o:=_) rfl ?_;refine sto hT kT6 ?_;refine cN (.cons kT1 (.cons kT1 (.cons kT1 (.cons kT1 (.cons kT1 .nil))))) ⟨Has.of mT0,trivial⟩ ?_;refine cM (o:=_) rfl ?_;refine sto hT kT6 ?_;refine cN (.cons kT2 (.cons kT2 (.cons kT2 (.cons kT2 (.cons kT2 .nil))))) ⟨Has.of mT0,trivial⟩ ?_;refine cS<|bC<|bF<|bA<|bA ?_;have hph:bW toks k e true=⟨4,(bR toks (k)).at_,(gV (bR toks k).word),((atP toks (k) e),43),((k+1)+1)⟩:=by first | (simp [bW, *];done) | simp_all [bW]
   rw [hph];exact bO () rfl (bN hT (bJ kT1) rfl rfl rfl rfl) (bN hT (bJ .head) rfl rfl rfl rfl) (.cons kT3 .nil) trivial (rfl)
  have hg43:(bR toks ((k+1))).word≠([47]:Bs):=fun h=>absurd (beq_iff_eq.2 h) (by rw [show((bR toks ((k+1))).word==([47]:Bs))=false from hg43];simp);refine sp hT ?_;refine ss (ldO hT (dH .head)) ?_;refine sp3 hT ?_;refine cB (fun hg48=>?_) (fun hg48=>?_)
  ·have hg48:(bR toks ((k+1))).word=([92]:Bs):=eq_of_beq hg48;refine sk3 ?_;refine sp2 hT ?_;refine nn<|cH rfl rfl ?_;refine sr<|sp3 hT ?_;refine ss (ldO hT (fK kT1)) ?_;refine sp hT ?_;refine bT (z':=((((k+1)+1):Nat):Int)) (cO (by omega) (by omega)) ?_;refine sp2 hT ?_;refine sto hT kT1 ?_;refine nn<|sr<|sp hT ?_;refine ss (ldO hT (dH kT4)) ?_;refine bQ Tryz.func200 (jB _) rfl rfl .nil trivial fun _=>?_;refine sp hT ?_;refine sto hT kT2 ?_;refine nn<|bB<|sr<|sp hT ?_;refine ss (ldO hT (dH .head)) ?_;refine sp2 hT ?_;refine cB (fun hg68=>?_) (fun hg68=>?_)
   ·have hg68:=of_decide_eq_true hg68;refine sk4 ?_;refine sk ?_;refine sp hT ?_;refine nn<|cH rfl rfl ?_;refine bB<|dD _ _ [(true,0),(true,1),(false,2),(false,3)] dG (by decide+kernel) (.cons .head (.cons .head (.cons .head (.cons .head (.cons .head .nil))))) bI.self ?_;refine stM rfl (ldN hT (bJ .head)) ?_;refine stM rfl (ldN hT (bJ kT3)) ?_;refine cM (o:=_) rfl ?_;refine sto hT kT6 ?_;refine cN (.cons kT1 (.cons kT1 (.cons kT1 (.cons kT1 (.cons kT1 .nil))))) ⟨Has.of mT0,trivial⟩ ?_;refine cM (o:=_) rfl ?_;refine sto hT kT6 ?_;refine cN (.cons kT2 (.cons kT2 (.cons kT2 (.cons kT2 (.cons kT2 .nil))))) ⟨Has.of mT0,trivial⟩ ?_;refine cS<|bC<|bF<|bA<|bA ?_;have hph:bW toks k e true=⟨4,(bR toks (k)).at_,(gV (bR toks k).word),((atP toks (k) e),43),((k+1)+1)⟩:=by first | (simp [bW, *];done) | simp_all [bW]
    rw [hph];exact bO () rfl (bN hT (bJ kT1) rfl rfl rfl rfl) (bN hT (bJ .head) rfl rfl rfl rfl) (.cons kT3 .nil) trivial (rfl)
   have hg68:=Int.not_lt.1 (of_decide_eq_false hg68);refine sp hT ?_;refine ss (ldO hT (dH kT2)) ?_;refine sp hT ?_;refine cA (t':=false) ((by show((bR toks ((k+1))).word==([46]:Bs))=_;rw [hg48];rfl)) ?_;refine sp2 hT ?_;refine cA (t':=true) rfl ?_;refine sp hT ?_;refine nn<|cH rfl rfl ?_;refine bB<|dD _ _ [(true,0),(true,1),(false,2),(false,3)] dG (by decide+kernel) (.cons .head (.cons .head (.cons .head (.cons .head (.cons .head .nil))))) bI.self ?_;refine stM rfl (ldN hT (bJ .head)) ?_;refine stM rfl (ldN hT (bJ kT3)) ?_;refine cM (o:=_) rfl ?_;refine sto hT kT6 ?_;refine cN (.cons kT1 (.cons kT1 (.cons kT1 (.cons kT1 (.cons kT1 .nil))))) ⟨Has.of mT0,trivial⟩ ?_;refine cM (o:=_) rfl ?_;refine sto hT kT6 ?_;refine cN (.cons kT2 (.cons kT2 (.cons kT2 (.cons kT2 (.cons kT2 .nil))))) ⟨Has.of mT0,trivial⟩ ?_;refine cS<|bC<|bF<|bA<|bA ?_;have hph:bW toks k e true=⟨4,(bR toks (k)).at_,(gV (bR toks k).word),((atP toks (k) e),43),((k+1)+1)⟩:=by first | (simp [bW, *];done) | simp_all [bW]
   rw [hph];exact bO () rfl (bN hT (bJ kT1) rfl rfl rfl rfl) (bN hT (bJ .head) rfl rfl rfl rfl) (.cons kT3 .nil) trivial (rfl)
  have hg48:(bR toks ((k+1))).word≠([92]:Bs):=fun h=>absurd (beq_iff_eq.2 h) (by rw [show((bR toks ((k+1))).word==([92]:Bs))=false from hg48];simp);refine sp hT ?_;refine ss (ldO hT (dH .head)) ?_;refine sp3 hT ?_;refine nn<|bK rfl (fun hc53=>?_) (fun hc53=>?_)
  ·have hc53:(bR toks ((k+1))).word=([46]:Bs):=eq_of_beq hc53;refine sr<|sp3 hT ?_;refine ss (ldO hT (fK kT1)) ?_;refine sp hT ?_;refine bT (z':=((((k+1)+1):Nat):Int)) (cO (by omega) (by omega)) ?_;refine sp2 hT ?_;refine sto hT kT1 ?_;refine nn<|sr<|sp hT ?_;refine ss (ldO hT (dH kT4)) ?_;refine bQ Tryz.func200 (jB _) rfl rfl .nil trivial fun _=>?_;refine sp hT ?_;refine sto hT kT2 ?_;refine nn<|bB<|sr<|sp hT ?_;refine ss (ldO hT (dH .head)) ?_;refine sp2 hT ?_;refine cB (fun hg68=>?_) (fun hg68=>?_)
   ·have hg68:=of_decide_eq_true hg68;refine sk4 ?_;refine sk ?_;refine sp hT ?_;refine nn<|cH rfl rfl ?_;refine bB<|dD _ _ [(true,0),(true,1),(false,2),(false,3)] dG (by decide+kernel) (.cons .head (.cons .head (.cons .head (.cons .head (.cons .head .nil))))) bI.self ?_;refine stM rfl (ldN hT (bJ .head)) ?_;refine stM rfl (ldN hT (bJ kT3)) ?_;refine cM (o:=_) rfl ?_;refine sto hT kT6 ?_;refine cN (.cons kT1 (.cons kT1 (.cons kT1 (.cons kT1 (.cons kT1 .nil))))) ⟨Has.of mT0,trivial⟩ ?_;refine cM (o:=_) rfl ?_;refine sto hT kT6 ?_;refine cN (.cons kT2 (.cons kT2 (.cons kT2 (.cons kT2 (.cons kT2 .nil))))) ⟨Has.of mT0,trivial⟩ ?_;refine cS<|bC<|bF<|bA<|bA ?_;have hph:bW toks k e true=⟨4,(bR toks (k)).at_,(gV (bR toks k).word),((atP toks (k) e),43),((k+1)+1)⟩:=by first | (simp [bW, *];done) | simp_all [bW]
    rw [hph];exact bO () rfl (bN hT (bJ kT1) rfl rfl rfl rfl) (bN hT (bJ .head) rfl rfl rfl rfl) (.cons kT3 .nil) trivial (rfl)
   have hg68:=Int.not_lt.1 (of_decide_eq_false hg68);refine sp hT ?_;refine ss (ldO hT (dH kT2)) ?_;refine sp hT ?_;refine cA (t':=true) ((by show((bR toks ((k+1))).word==([46]:Bs))=_;rw [hc53];rfl)) ?_;refine sp2 hT ?_;refine cA (t':=false) rfl ?_;refine sp hT ?_;refine nn<|cG rfl rfl ?_;refine bM<|bC<|sr<|sp hT ?_;refine ss (ldO hT (dH kT2)) ?_;refine nn<|bU<|sr<|sp hT ?_;refine cA (t':=false) ((by show((bR toks ((k+1))).word==([47]:Bs))=_;rw [hc53];rfl)) ?_;refine sp hT ?_;refine nn<|cG rfl rfl ?_;refine sr<|sp hT ?_;refine cA (t':=false) ((by show((bR toks ((k+1))).word==([92]:Bs))=_;rw [hc53];rfl)) ?_;refine sp hT ?_;refine nn<|cG rfl rfl ?_;refine bD<|sp hT ?_;refine sto hT .head ?_;refine dX<|bZ<|bC<|bB<|sr<|sp hT ?_;refine ss (ldO hT (dH .head)) ?_;refine sp hT ?_;refine nn<|bK rfl (fun hc88=>?_) (fun hc88=>?_)
   ·have hc88:=eq_of_beq hc88;refine bB<|dD _ _ [(true,0),(true,1),(false,2),(false,3)] dG (by decide+kernel) (.cons .head (.cons .head (.cons .head (.cons .head (.cons .head .nil))))) bI.self ?_;refine stM rfl (ldN hT (bJ .head)) ?_;refine stM rfl (ldN hT (bJ kT3)) ?_;refine cM (o:=_) rfl ?_;refine sto hT kT6 ?_;refine cN (.cons kT1 (.cons kT1 (.cons kT1 (.cons kT1 (.cons kT1 .nil))))) ⟨Has.of mT0,trivial⟩ ?_;refine cM (o:=_) rfl ?_;refine sto hT kT6 ?_;refine cN (.cons kT2 (.cons kT2 (.cons kT2 (.cons kT2 (.cons kT2 .nil))))) ⟨Has.of mT0,trivial⟩ ?_;refine cS<|bC<|bF<|bA ?_;have hph:bW toks k e true=⟨7,(bR toks (k)).at_,(gV (bR toks k).word),((atP toks (k) e),43),((k+1)+1)⟩:=by first | (simp [bW, *];done) | simp_all [bW]
    rw [hph];exact bO () rfl (bN hT (bJ kT1) rfl rfl rfl rfl) (bN hT (bJ .head) rfl rfl rfl rfl) (.cons kT3 .nil) trivial (rfl)
   have hc88:=beq_eq_false_iff_ne.1 hc88;refine bM<|bC<|sr<|ss (ldN hT (bJ .head)) ?_;refine ss (cF rfl rfl (vW)) ?_;refine sto hT kT6 ?_;refine sto hT kT6 ?_;refine nn<|bF ?_;have hph:bW toks k e true=⟨7,(bR toks (k)).at_,(gV (bR toks k).word),(0,0),((k+1)+1)⟩:=by first | (simp [bW, *];done) | simp_all [bW]
   rw [hph];exact bO () rfl (bN hT (bJ kT1) rfl rfl rfl rfl) (bN hT (bJ .head) rfl rfl rfl rfl) (.cons kT3 .nil) trivial (rfl)
  have hc53:(bR toks ((k+1))).word≠([46]:Bs):=fun h=>absurd (beq_iff_eq.2 h) (by rw [show((bR toks ((k+1))).word==([46]:Bs))=false from hc53];simp);refine bM<|bC<|bB<|sr<|sp hT ?_;refine ss (ldO hT (dH kT2)) ?_;refine sp hT ?_;refine nn<|bK rfl (fun hc88=>?_) (fun hc88=>?_)
  ·have hc88:=eq_of_beq hc88;refine bB<|dD _ _ [(true,0),(true,1),(false,2),(false,3)] dG (by decide+kernel) (.cons .head (.cons .head (.cons .head (.cons .head (.cons .head .nil))))) bI.self ?_;refine stM rfl (ldN hT (bJ kT2)) ?_;refine stM rfl (ldN hT (bJ kT3)) ?_;refine cM (o:=_) rfl ?_;refine sto hT kT6 ?_;refine cN (.cons kT1 (.cons kT1 (.cons kT1 (.cons kT1 (.cons kT1 .nil))))) ⟨Has.of mT0,trivial⟩ ?_;refine cM (o:=_) rfl ?_;refine sto hT kT6 ?_;refine cN (.cons kT2 (.cons kT2 (.cons kT2 (.cons kT2 (.cons kT2 .nil))))) ⟨Has.of mT0,trivial⟩ ?_;refine cS<|bC<|bF<|bA ?_;have hph:bW toks k e true=⟨4,(bR toks (k)).at_,(gI (bR toks k).word true),((atP toks (k) e),43),(k+1)⟩:=by first | (simp [bW, *];done) | simp_all [bW]
   rw [hph];exact bO () rfl (bN hT (bJ kT1) rfl rfl rfl rfl) (bN hT (bJ .head) rfl rfl rfl rfl) (.cons kT3 .nil) trivial (rfl)
  have hc88:=beq_eq_false_iff_ne.1 hc88;refine bM<|bC<|sr<|ss (ldN hT (bJ kT2)) ?_;refine ss (cF rfl rfl (vW)) ?_;refine sto hT kT6 ?_;refine sto hT kT6 ?_;refine nn<|bF ?_;have hph:bW toks k e true=⟨4,(bR toks (k)).at_,(gI (bR toks k).word true),(0,0),(k+1)⟩:=by first | (simp [bW, *];done) | simp_all [bW]
  rw [hph];exact bO () rfl (bN hT (bJ kT1) rfl rfl rfl rfl) (bN hT (bJ .head) rfl rfl rfl rfl) (.cons kT3 .nil) trivial (rfl)
 have hg39:=beq_eq_false_iff_ne.1 hg39;refine sk4 ?_;refine sk4 ?_;refine sk4 ?_;refine sk ?_;refine sp hT ?_;refine nn<|cG rfl rfl ?_;refine bM<|bC<|bB<|sr<|sp hT ?_;refine ss (ldO hT (dH kT2)) ?_;refine sp hT ?_;refine nn<|bK rfl (fun hc88=>?_) (fun hc88=>?_)
 ·have hc88:=eq_of_beq hc88;refine bB<|dD _ _ [(true,0),(true,1),(false,2),(false,3)] dG (by decide+kernel) (.cons .head (.cons .head (.cons .head (.cons .head (.cons .head .nil))))) bI.self ?_;refine stM rfl (ldN hT (bJ kT2)) ?_;refine stM rfl (ldN hT (bJ kT3)) ?_;refine cM (o:=_) rfl ?_;refine sto hT kT6 ?_;refine cN (.cons kT1 (.cons kT1 (.cons kT1 (.cons kT1 (.cons kT1 .nil))))) ⟨Has.of mT0,trivial⟩ ?_;refine cM (o:=_) rfl ?_;refine sto hT kT6 ?_;refine cN (.cons kT2 (.cons kT2 (.cons kT2 (.cons kT2 (.cons kT2 .nil))))) ⟨Has.of mT0,trivial⟩ ?_;refine cS<|bC<|bF<|bA ?_;have hph:bW toks k e true=⟨4,(bR toks (k)).at_,(gI (bR toks k).word true),((atP toks (k) e),43),(k+1)⟩:=by first | (simp [bW, *];done) | simp_all [bW]
  rw [hph];exact bO () rfl (bN hT (bJ kT1) rfl rfl rfl rfl) (bN hT (bJ .head) rfl rfl rfl rfl) (.cons kT3 .nil) trivial (rfl)
 have hc88:=beq_eq_false_iff_ne.1 hc88;refine bM<|bC<|sr<|ss (ldN hT (bJ kT2)) ?_;refine ss (cF rfl rfl (vW)) ?_;refine sto hT kT6 ?_;refine sto hT kT6 ?_;refine nn<|bF ?_;have hph:bW toks k e true=⟨4,(bR toks (k)).at_,(gI (bR toks k).word true),(0,0),(k+1)⟩:=by first | (simp [bW, *];done) | simp_all [bW]
 rw [hph];exact bO () rfl (bN hT (bJ kT1) rfl rfl rfl rfl) (bN hT (bJ .head) rfl rfl rfl rfl) (.cons kT3 .nil) trivial (rfl)
set_option maxRecDepth 100000 in
theorem phraseF_spec(bl:Nat)(A:Option Addr)(c:Nat)(toks:List TokV)(k:Nat)(e:Int)(hk:k≤1000000):dM Tryz.prog 138 [.pointer (some ⟨bl,0,none⟩),.bool false] [.obj bl (.cells [.slice A toks.length c,.int .i64 (k:Nat),.int .i64 e].toArray 102)] [kO.sl (.slice A toks.length c) toks] (fun(_:Unit)=>phrV (bW toks k e false)) (fun(_:Unit)=>[.obj bl (.cells [.slice A toks.length c,.int .i64 ((bW toks k e false).next:Nat),.int .i64 e].toArray 102)]) (fun _=>[]):=by
 have hT:=fN;refine cQ Tryz.func138 rfl Tryz.ntmps138 rfl ?_;intro β hM;refine sr<|cC rfl rfl rfl rfl lU rfl fun b1=>?_;refine cC rfl rfl rfl rfl yT rfl fun b2=>?_;refine nn<|sr<|sp hT ?_;refine bQ Tryz.func73 (gZ bl A c toks (k) e) rfl rfl (.cons kT2 .nil) ⟨Has.of mT0,trivial⟩ fun _=>?_;refine cC rfl rfl rfl rfl vR rfl fun b3=>?_;refine sto hT .head ?_;refine nn<|sr<|sp hT ?_;refine bQ Tryz.func74 (cV bl A c toks (k) e _) rfl rfl (.cons kT1 .nil) ⟨Has.of mT0,trivial⟩ fun _=>?_;refine cC rfl rfl rfl rfl yT rfl fun b4=>?_;refine sto hT .head ?_;refine nn<|sr<|sp3 hT ?_;refine ss (ldO hT (fK kT1)) ?_;refine sp hT ?_;refine bT (z':=(((k+1):Nat):Int)) (cO (by omega) (by omega)) ?_;refine sp2 hT ?_;refine sto hT kT1 ?_;refine nn<|sr<|sp hT ?_;refine ss (ldO hT (fK kT2)) ?_;refine ss (cF rfl rfl (pP _ _)) ?_;refine cC rfl rfl rfl rfl lU rfl fun b5=>?_;refine sto hT .head ?_;refine nn<|bB<|sr<|sp hT ?_;refine nn<|cG rfl rfl ?_;refine bM<|bC<|sr<|sp hT ?_;refine ss (ldO hT (dH kT3)) ?_;refine sp hT ?_;refine bQ Tryz.func166 (bCy _ false) rfl rfl .nil trivial fun _=>?_;refine sp4 hT ?_;refine sto hT .head ?_;refine nn<|bB<|sr<|sp hT ?_;refine bQ Tryz.func73 (gZ bl A c toks ((k+1)) e) rfl rfl (.cons kT1 .nil) ⟨Has.of mT0,trivial⟩ fun _=>?_;refine cC rfl rfl rfl rfl vR rfl fun b6=>?_;refine sto hT .head ?_;refine nn<|sr<|sp hT ?_;refine ss (ldO hT (bJ .head)) ?_;refine sp2 hT ?_;refine cB (fun hg39=>?_) (fun hg39=>?_)
 ·have hg39:=eq_of_beq hg39;refine sp hT ?_;refine ss (ldO hT (dH .head)) ?_;refine sp2 hT ?_;refine cB (fun hg43=>?_) (fun hg43=>?_)
  ·have hg43:(bR toks ((k+1))).word=([47]:Bs):=eq_of_beq hg43;refine sk3 ?_;refine sp2 hT ?_;refine sk3 ?_;refine sp2 hT ?_;refine nn<|cH rfl rfl ?_;refine sr<|sp3 hT ?_;refine ss (ldO hT (fK kT1)) ?_;refine sp hT ?_;refine bT (z':=((((k+1)+1):Nat):Int)) (cO (by omega) (by omega)) ?_;refine sp2 hT ?_;refine sto hT kT1 ?_;refine nn<|sr<|sp hT ?_;refine ss (ldO hT (dH kT4)) ?_;refine bQ Tryz.func200 (jB _) rfl rfl .nil trivial fun _=>?_;refine sp hT ?_;refine sto hT kT2 ?_;refine nn<|bB<|sr<|sp hT ?_;refine ss (ldO hT (dH .head)) ?_;refine sp2 hT ?_;refine cB (fun hg68=>?_) (fun hg68=>?_)
   ·have hg68:=of_decide_eq_true hg68;refine sk4 ?_;refine sk ?_;refine sp hT ?_;refine nn<|cH rfl rfl ?_;refine bB<|dD _ _ [(true,0),(true,1),(false,2),(false,3)] dG (by decide+kernel) (.cons .head (.cons .head (.cons .head (.cons .head (.cons .head .nil))))) bI.self ?_;refine stM rfl (ldN hT (bJ .head)) ?_;refine stM rfl (ldN hT (bJ kT3)) ?_;refine cM (o:=_) rfl ?_;refine sto hT kT6 ?_;refine cN (.cons kT1 (.cons kT1 (.cons kT1 (.cons kT1 (.cons kT1 .nil))))) ⟨Has.of mT0,trivial⟩ ?_;refine cM (o:=_) rfl ?_;refine sto hT kT6 ?_;refine cN (.cons kT2 (.cons kT2 (.cons kT2 (.cons kT2 (.cons kT2 .nil))))) ⟨Has.of mT0,trivial⟩ ?_;refine cS<|bC<|bF<|bA<|bA ?_;have hph:bW toks k e false=⟨3,(bR toks (k)).at_,(gV (bR toks k).word),((atP toks (k) e),43),((k+1)+1)⟩:=by first | (simp [bW, *];done) | simp_all [bW]
    rw [hph];exact bO () rfl (bN hT (bJ kT1) rfl rfl rfl rfl) (bN hT (bJ .head) rfl rfl rfl rfl) (.cons kT3 .nil) trivial (rfl)
   have hg68:=Int.not_lt.1 (of_decide_eq_false hg68);refine sp hT ?_;refine ss (ldO hT (dH kT2)) ?_;refine sp hT ?_;refine cA (t':=false) ((by show((bR toks ((k+1))).word==([46]:Bs))=_;rw [hg43];rfl)) ?_;refine sp2 hT ?_;refine cA (t':=false) rfl ?_;refine sp hT ?_;refine nn<|cG rfl rfl ?_;refine bM<|bC<|sr<|sp hT ?_;refine ss (ldO hT (dH kT2)) ?_;refine nn<|bU<|sr<|sp hT ?_;refine cA (t':=true) ((by show((bR toks ((k+1))).word==([47]:Bs))=_;rw [hg43];rfl)) ?_;refine sp hT ?_;refine nn<|cH rfl rfl ?_;refine bD<|sp hT ?_;refine sto hT .head ?_;refine dX<|bZ<|bC<|bB<|sr<|sp hT ?_;refine ss (ldO hT (dH .head)) ?_;refine sp hT ?_;refine nn<|bK rfl (fun hc88=>?_) (fun hc88=>?_)
   ·have hc88:=eq_of_beq hc88;refine bB<|dD _ _ [(true,0),(true,1),(false,2),(false,3)] dG (by decide+kernel) (.cons .head (.cons .head (.cons .head (.cons .head (.cons .head .nil))))) bI.self ?_;refine stM rfl (ldN hT (bJ .head)) ?_;refine stM rfl (ldN hT (bJ kT3)) ?_;refine cM (o:=_) rfl ?_;refine sto hT kT6 ?_;refine cN (.cons kT1 (.cons kT1 (.cons kT1 (.cons kT1 (.cons kT1 .nil))))) ⟨Has.of mT0,trivial⟩ ?_;refine cM (o:=_) rfl ?_;refine sto hT kT6 ?_;refine cN (.cons kT2 (.cons kT2 (.cons kT2 (.cons kT2 (.cons kT2 .nil))))) ⟨Has.of mT0,trivial⟩ ?_;refine cS<|bC<|bF<|bA ?_;have hph:bW toks k e false=⟨5,(bR toks (k)).at_,(gV (bR toks k).word),((atP toks (k) e),43),((k+1)+1)⟩:=by first | (simp [bW, *];done) | simp_all [bW]
    rw [hph];exact bO () rfl (bN hT (bJ kT1) rfl rfl rfl rfl) (bN hT (bJ .head) rfl rfl rfl rfl) (.cons kT3 .nil) trivial (rfl)
   have hc88:=beq_eq_false_iff_ne.1 hc88;refine bM<|bC<|sr<|ss (ldN hT (bJ .head)) ?_;refine ss (cF rfl rfl (vW)) ?_;refine sto hT kT6 ?_;refine sto hT kT6 ?_;refine nn<|bF ?_;have hph:bW toks k e false=⟨5,(bR toks (k)).at_,(gV (bR toks k).word),(0,0),((k+1)+1)⟩:=by first | (simp [bW, *];done) | simp_all [bW]
   rw [hph];exact bO () rfl (bN hT (bJ kT1) rfl rfl rfl rfl) (bN hT (bJ .head) rfl rfl rfl rfl) (.cons kT3 .nil) trivial (rfl)
  have hg43:(bR toks ((k+1))).word≠([47]:Bs):=fun h=>absurd (beq_iff_eq.2 h) (by rw [show((bR toks ((k+1))).word==([47]:Bs))=false from hg43];simp);refine sp hT ?_;refine ss (ldO hT (dH .head)) ?_;refine sp3 hT ?_;refine cB (fun hg48=>?_) (fun hg48=>?_)
  ·have hg48:(bR toks ((k+1))).word=([92]:Bs):=eq_of_beq hg48;refine sk3 ?_;refine sp2 hT ?_;refine nn<|cH rfl rfl ?_;refine sr<|sp3 hT ?_;refine ss (ldO hT (fK kT1)) ?_;refine sp hT ?_;refine bT (z':=((((k+1)+1):Nat):Int)) (cO (by omega) (by omega)) ?_;refine sp2 hT ?_;refine sto hT kT1 ?_;refine nn<|sr<|sp hT ?_;refine ss (ldO hT (dH kT4)) ?_;refine bQ Tryz.func200 (jB _) rfl rfl .nil trivial fun _=>?_;refine sp hT ?_;refine sto hT kT2 ?_;refine nn<|bB<|sr<|sp hT ?_;refine ss (ldO hT (dH .head)) ?_;refine sp2 hT ?_;refine cB (fun hg68=>?_) (fun hg68=>?_)
   ·have hg68:=of_decide_eq_true hg68;refine sk4 ?_;refine sk ?_;refine sp hT ?_;refine nn<|cH rfl rfl ?_;refine bB<|dD _ _ [(true,0),(true,1),(false,2),(false,3)] dG (by decide+kernel) (.cons .head (.cons .head (.cons .head (.cons .head (.cons .head .nil))))) bI.self ?_;refine stM rfl (ldN hT (bJ .head)) ?_;refine stM rfl (ldN hT (bJ kT3)) ?_;refine cM (o:=_) rfl ?_;refine sto hT kT6 ?_;refine cN (.cons kT1 (.cons kT1 (.cons kT1 (.cons kT1 (.cons kT1 .nil))))) ⟨Has.of mT0,trivial⟩ ?_;refine cM (o:=_) rfl ?_;refine sto hT kT6 ?_;refine cN (.cons kT2 (.cons kT2 (.cons kT2 (.cons kT2 (.cons kT2 .nil))))) ⟨Has.of mT0,trivial⟩ ?_;refine cS<|bC<|bF<|bA<|bA ?_;have hph:bW toks k e false=⟨3,(bR toks (k)).at_,(gV (bR toks k).word),((atP toks (k) e),43),((k+1)+1)⟩:=by first | (simp [bW, *];done) | simp_all [bW]
    rw [hph];exact bO () rfl (bN hT (bJ kT1) rfl rfl rfl rfl) (bN hT (bJ .head) rfl rfl rfl rfl) (.cons kT3 .nil) trivial (rfl)
   have hg68:=Int.not_lt.1 (of_decide_eq_false hg68);refine sp hT ?_;refine ss (ldO hT (dH kT2)) ?_;refine sp hT ?_;refine cA (t':=false) ((by show((bR toks ((k+1))).word==([46]:Bs))=_;rw [hg48];rfl)) ?_;refine sp2 hT ?_;refine cA (t':=false) rfl ?_;refine sp hT ?_;refine nn<|cG rfl rfl ?_;refine bM<|bC<|sr<|sp hT ?_;refine ss (ldO hT (dH kT2)) ?_;refine nn<|bU<|sr<|sp hT ?_;refine cA (t':=false) ((by show((bR toks ((k+1))).word==([47]:Bs))=_;rw [hg48];rfl)) ?_;refine sp hT ?_;refine nn<|cG rfl rfl ?_;refine sr<|sp hT ?_;refine cA (t':=true) ((by show((bR toks ((k+1))).word==([92]:Bs))=_;rw [hg48];rfl)) ?_;refine sp hT ?_;refine nn<|cH rfl rfl ?_;refine bD<|sp hT ?_;refine sto hT .head ?_;refine dX<|bZ<|bC<|bB<|sr<|sp hT ?_;refine ss (ldO hT (dH .head)) ?_;refine sp hT ?_;refine nn<|bK rfl (fun hc88=>?_) (fun hc88=>?_)
   ·have hc88:=eq_of_beq hc88;refine bB<|dD _ _ [(true,0),(true,1),(false,2),(false,3)] dG (by decide+kernel) (.cons .head (.cons .head (.cons .head (.cons .head (.cons .head .nil))))) bI.self ?_;refine stM rfl (ldN hT (bJ .head)) ?_;refine stM rfl (ldN hT (bJ kT3)) ?_;refine cM (o:=_) rfl ?_;refine sto hT kT6 ?_;refine cN (.cons kT1 (.cons kT1 (.cons kT1 (.cons kT1 (.cons kT1 .nil))))) ⟨Has.of mT0,trivial⟩ ?_;refine cM (o:=_) rfl ?_;refine sto hT kT6 ?_;refine cN (.cons kT2 (.cons kT2 (.cons kT2 (.cons kT2 (.cons kT2 .nil))))) ⟨Has.of mT0,trivial⟩ ?_;refine cS<|bC<|bF<|bA ?_;have hph:bW toks k e false=⟨6,(bR toks (k)).at_,(gV (bR toks k).word),((atP toks (k) e),43),((k+1)+1)⟩:=by first | (simp [bW, *];done) | simp_all [bW]
    rw [hph];exact bO () rfl (bN hT (bJ kT1) rfl rfl rfl rfl) (bN hT (bJ .head) rfl rfl rfl rfl) (.cons kT3 .nil) trivial (rfl)
   have hc88:=beq_eq_false_iff_ne.1 hc88;refine bM<|bC<|sr<|ss (ldN hT (bJ .head)) ?_;refine ss (cF rfl rfl (vW)) ?_;refine sto hT kT6 ?_;refine sto hT kT6 ?_;refine nn<|bF ?_;have hph:bW toks k e false=⟨6,(bR toks (k)).at_,(gV (bR toks k).word),(0,0),((k+1)+1)⟩:=by first | (simp [bW, *];done) | simp_all [bW]
   rw [hph];exact bO () rfl (bN hT (bJ kT1) rfl rfl rfl rfl) (bN hT (bJ .head) rfl rfl rfl rfl) (.cons kT3 .nil) trivial (rfl)
  have hg48:(bR toks ((k+1))).word≠([92]:Bs):=fun h=>absurd (beq_iff_eq.2 h) (by rw [show((bR toks ((k+1))).word==([92]:Bs))=false from hg48];simp);refine sp hT ?_;refine ss (ldO hT (dH .head)) ?_;refine sp3 hT ?_;refine nn<|bK rfl (fun hc53=>?_) (fun hc53=>?_)
  ·have hc53:(bR toks ((k+1))).word=([46]:Bs):=eq_of_beq hc53;refine sr<|sp3 hT ?_;refine ss (ldO hT (fK kT1)) ?_;refine sp hT ?_;refine bT (z':=((((k+1)+1):Nat):Int)) (cO (by omega) (by omega)) ?_;refine sp2 hT ?_;refine sto hT kT1 ?_;refine nn<|sr<|sp hT ?_;refine ss (ldO hT (dH kT4)) ?_;refine bQ Tryz.func200 (jB _) rfl rfl .nil trivial fun _=>?_;refine sp hT ?_;refine sto hT kT2 ?_;refine nn<|bB<|sr<|sp hT ?_;refine ss (ldO hT (dH .head)) ?_;refine sp2 hT ?_;refine cB (fun hg68=>?_) (fun hg68=>?_)
   ·have hg68:=of_decide_eq_true hg68;refine sk4 ?_;refine sk ?_;refine sp hT ?_;refine nn<|cH rfl rfl ?_;refine bB<|dD _ _ [(true,0),(true,1),(false,2),(false,3)] dG (by decide+kernel) (.cons .head (.cons .head (.cons .head (.cons .head (.cons .head .nil))))) bI.self ?_;refine stM rfl (ldN hT (bJ .head)) ?_;refine stM rfl (ldN hT (bJ kT3)) ?_;refine cM (o:=_) rfl ?_;refine sto hT kT6 ?_;refine cN (.cons kT1 (.cons kT1 (.cons kT1 (.cons kT1 (.cons kT1 .nil))))) ⟨Has.of mT0,trivial⟩ ?_;refine cM (o:=_) rfl ?_;refine sto hT kT6 ?_;refine cN (.cons kT2 (.cons kT2 (.cons kT2 (.cons kT2 (.cons kT2 .nil))))) ⟨Has.of mT0,trivial⟩ ?_;refine cS<|bC<|bF<|bA<|bA ?_;have hph:bW toks k e false=⟨3,(bR toks (k)).at_,(gV (bR toks k).word),((atP toks (k) e),43),((k+1)+1)⟩:=by first | (simp [bW, *];done) | simp_all [bW]
    rw [hph];exact bO () rfl (bN hT (bJ kT1) rfl rfl rfl rfl) (bN hT (bJ .head) rfl rfl rfl rfl) (.cons kT3 .nil) trivial (rfl)
   have hg68:=Int.not_lt.1 (of_decide_eq_false hg68);refine sp hT ?_;refine ss (ldO hT (dH kT2)) ?_;refine sp hT ?_;refine cA (t':=true) ((by show((bR toks ((k+1))).word==([46]:Bs))=_;rw [hc53];rfl)) ?_;refine sp2 hT ?_;refine cA (t':=true) rfl ?_;refine sp hT ?_;refine nn<|cH rfl rfl ?_;refine bB<|dD _ _ [(true,0),(true,1),(false,2),(false,3)] dG (by decide+kernel) (.cons .head (.cons .head (.cons .head (.cons .head (.cons .head .nil))))) bI.self ?_;refine stM rfl (ldN hT (bJ .head)) ?_;refine stM rfl (ldN hT (bJ kT3)) ?_;refine cM (o:=_) rfl ?_;refine sto hT kT6 ?_;refine cN (.cons kT1 (.cons kT1 (.cons kT1 (.cons kT1 (.cons kT1 .nil))))) ⟨Has.of mT0,trivial⟩ ?_;refine cM (o:=_) rfl ?_;refine sto hT kT6 ?_;refine cN (.cons kT2 (.cons kT2 (.cons kT2 (.cons kT2 (.cons kT2 .nil))))) ⟨Has.of mT0,trivial⟩ ?_;refine cS<|bC<|bF<|bA<|bA ?_;have hph:bW toks k e false=⟨3,(bR toks (k)).at_,(gV (bR toks k).word),((atP toks (k) e),43),((k+1)+1)⟩:=by first | (simp [bW, *];done) | simp_all [bW]
   rw [hph];exact bO () rfl (bN hT (bJ kT1) rfl rfl rfl rfl) (bN hT (bJ .head) rfl rfl rfl rfl) (.cons kT3 .nil) trivial (rfl)
  have hc53:(bR toks ((k+1))).word≠([46]:Bs):=fun h=>absurd (beq_iff_eq.2 h) (by rw [show((bR toks ((k+1))).word==([46]:Bs))=false from hc53];simp);refine bM<|bC<|bB<|sr<|sp hT ?_;refine ss (ldO hT (dH kT2)) ?_;refine sp hT ?_;refine nn<|bK rfl (fun hc88=>?_) (fun hc88=>?_)
  ·have hc88:=eq_of_beq hc88;refine bB<|dD _ _ [(true,0),(true,1),(false,2),(false,3)] dG (by decide+kernel) (.cons .head (.cons .head (.cons .head (.cons .head (.cons .head .nil))))) bI.self ?_;refine stM rfl (ldN hT (bJ kT2)) ?_;refine stM rfl (ldN hT (bJ kT3)) ?_;refine cM (o:=_) rfl ?_;refine sto hT kT6 ?_;refine cN (.cons kT1 (.cons kT1 (.cons kT1 (.cons kT1 (.cons kT1 .nil))))) ⟨Has.of mT0,trivial⟩ ?_;refine cM (o:=_) rfl ?_;refine sto hT kT6 ?_;refine cN (.cons kT2 (.cons kT2 (.cons kT2 (.cons kT2 (.cons kT2 .nil))))) ⟨Has.of mT0,trivial⟩ ?_;refine cS<|bC<|bF<|bA ?_;have hph:bW toks k e false=⟨3,(bR toks (k)).at_,(gI (bR toks k).word false),((atP toks (k) e),43),(k+1)⟩:=by first | (simp [bW, *];done) | simp_all [bW]
   rw [hph];exact bO () rfl (bN hT (bJ kT1) rfl rfl rfl rfl) (bN hT (bJ .head) rfl rfl rfl rfl) (.cons kT3 .nil) trivial (rfl)
  have hc88:=beq_eq_false_iff_ne.1 hc88;refine bM<|bC<|sr<|ss (ldN hT (bJ kT2)) ?_;refine ss (cF rfl rfl (vW)) ?_;refine sto hT kT6 ?_;refine sto hT kT6 ?_;refine nn<|bF ?_;have hph:bW toks k e false=⟨3,(bR toks (k)).at_,(gI (bR toks k).word false),(0,0),(k+1)⟩:=by first | (simp [bW, *];done) | simp_all [bW]
  rw [hph];exact bO () rfl (bN hT (bJ kT1) rfl rfl rfl rfl) (bN hT (bJ .head) rfl rfl rfl rfl) (.cons kT3 .nil) trivial (rfl)
 have hg39:=beq_eq_false_iff_ne.1 hg39;refine sk4 ?_;refine sk4 ?_;refine sk4 ?_;refine sk ?_;refine sp hT ?_;refine nn<|cG rfl rfl ?_;refine bM<|bC<|bB<|sr<|sp hT ?_;refine ss (ldO hT (dH kT2)) ?_;refine sp hT ?_;refine nn<|bK rfl (fun hc88=>?_) (fun hc88=>?_)
 ·have hc88:=eq_of_beq hc88;refine bB<|dD _ _ [(true,0),(true,1),(false,2),(false,3)] dG (by decide+kernel) (.cons .head (.cons .head (.cons .head (.cons .head (.cons .head .nil))))) bI.self ?_;refine stM rfl (ldN hT (bJ kT2)) ?_;refine stM rfl (ldN hT (bJ kT3)) ?_;refine cM (o:=_) rfl ?_;refine sto hT kT6 ?_;refine cN (.cons kT1 (.cons kT1 (.cons kT1 (.cons kT1 (.cons kT1 .nil))))) ⟨Has.of mT0,trivial⟩ ?_;refine cM (o:=_) rfl ?_;refine sto hT kT6 ?_;refine cN (.cons kT2 (.cons kT2 (.cons kT2 (.cons kT2 (.cons kT2 .nil))))) ⟨Has.of mT0,trivial⟩ ?_;refine cS<|bC<|bF<|bA ?_;have hph:bW toks k e false=⟨3,(bR toks (k)).at_,(gI (bR toks k).word false),((atP toks (k) e),43),(k+1)⟩:=by first | (simp [bW, *];done) | simp_all [bW]
  rw [hph];exact bO () rfl (bN hT (bJ kT1) rfl rfl rfl rfl) (bN hT (bJ .head) rfl rfl rfl rfl) (.cons kT3 .nil) trivial (rfl)
 have hc88:=beq_eq_false_iff_ne.1 hc88;refine bM<|bC<|sr<|ss (ldN hT (bJ kT2)) ?_;refine ss (cF rfl rfl (vW)) ?_;refine sto hT kT6 ?_;refine sto hT kT6 ?_;refine nn<|bF ?_;have hph:bW toks k e false=⟨3,(bR toks (k)).at_,(gI (bR toks k).word false),(0,0),(k+1)⟩:=by first | (simp [bW, *];done) | simp_all [bW]
 rw [hph];exact bO () rfl (bN hT (bJ kT1) rfl rfl rfl rfl) (bN hT (bJ .head) rfl rfl rfl rfl) (.cons kT3 .nil) trivial (rfl)
section
variable {P : Program} {ops : Array Oper} {md : Region.Mode} {C : World → Prop} {R : Array Bool → Act → World → Prop}
def bJc (P:Program)(md:Region.Mode)(ops:Array Oper)(C:World→Prop)(R:Array Bool→Act→World→Prop):Nat→Array Bool→Act→World→Prop
 | 0,listed,a,w=>C w∧R listed a w
 | fuel+1,listed,a,w=>C w∧Region.ready md ops listed≠[]∧ ∀i∈Region.ready md ops listed,fOp P ops i (bJc P md ops C R fuel (listed.setIfInBounds i true)) a w
theorem tW{Q:Exit→Act→World→Prop}(hR: ∀listed a w,R listed a w→wpAny P md ops Q 1 listed a w): ∀(fuel:Nat) (listed:Array Bool) (a:Act) (w:World),bJc P md ops C R fuel listed a w→wpAny P md ops Q (fuel+1) listed a w
 | 0,_,_,_,h=>hR _ _ _ h.2
 | fuel+1,listed,a,w,h=>by
  refine⟨fun e=>absurd e h.2.1,fun i hi=>?_⟩;have hf:=h.2.2 i hi;unfold wpOp;split
  ·rename_i ho;obtain⟨_,oi,hoi,_⟩:=mem_ready.1 hi;rw [ho] at hoi;cases hoi
  ·rename_i o ho;have h1:=wpNm (hf o ho);split
   ·rename_i hw;simp only [hw,if_true] at h1;exact .inl (wH rfl (fun u w' h'=>tW hR fuel _ _ _ h') (fun d w' h'=>tW hR fuel _ _ _ h') h1)
   ·rename_i hw;simp only [hw] at h1;exact tW hR fuel _ _ _ h1
def depsIn(md:Region.Mode)(ops:Array Oper)(listed:Array Bool)(l:Nat):Prop:= ∀o,ops[l]?=some o→ ∀e∈o.after,Region.binds md e=true→listed.getD e.on false=true
def sO (md:Region.Mode)(ops:Array Oper)(listed:Array Bool):Prop:= ∀j,listed.getD j false=true→depsIn md ops listed j
def waitsN(md:Region.Mode)(ops:Array Oper):Nat→Nat→Nat→Bool
 | 0,_,_=>false
 | n+1,l,i=>match ops[l]? with
  | some o=>o.after.any fun e=>Region.binds md e&&(e.on==i || waitsN md ops n e.on i)
  | none=>false
def waits (md:Region.Mode)(ops:Array Oper)(l i:Nat):Bool:=waitsN md ops 4 l i
theorem bLc{listed:Array Bool}(hc:sO md ops listed): ∀(n l i:Nat),waitsN md ops n l i=true→depsIn md ops listed l→listed.getD i false=true
 | 0,_,_,h,_=>by cases h
 | n+1,l,i,h,hd=>by
  unfold waitsN at h
  cases ho:ops[l]? with
  | none=>rw [ho] at h;cases h
  | some o=>
   rw [ho] at h;obtain⟨e,he,hb⟩:=Array.any_eq_true'.1 h;rw [Bool.and_eq_true,Bool.or_eq_true] at hb;have h1:=hd o ho e he hb.1
   rcases hb.2 with h2 | h2
   ·have h2:e.on=i:=by simpa using h2
    rw [←h2];exact h1
   ·exact bLc hc n e.on i h2 (hc _ h1)
theorem bIi{listed:Array Bool}{l:Nat}(h:l∈Region.ready md ops listed):depsIn md ops listed l:=fun o ho e he hb=>by
 obtain⟨_,o',ho',hall⟩:=mem_ready.1 h;have:o=o':=Option.some.inj (ho.symm.trans ho');subst this;exact hall e he hb
theorem waits_not{l i:Nat}{listed:Array Bool}(hc:sO md ops listed)(h:waits md ops l i=true)(hi:listed.getD i false≠true):l∉Region.ready md ops listed:=fun hl=>hi (bLc hc 4 l i h (bIi hl))
theorem getD_set{listed:Array Bool}{j k:Nat}(h:listed.getD k false=true):(listed.setIfInBounds j true).getD k false=true:=by
 by_cases e:j=k
 ·subst e
  rcases Nat.lt_or_ge j listed.size with h' | h'
  ·simp [h']
  ·simp [Array.getElem?_eq_none h'] at h
 ·rw [getD_set_ne false e];exact h
theorem sO.set{listed:Array Bool}(hc:sO md ops listed){j:Nat}(hj:j∈Region.ready md ops listed):sO md ops (listed.setIfInBounds j true):=fun k hk o ho e he hb=>by
 by_cases e':j=k
 ·subst e';exact getD_set (bIi hj o ho e he hb)
 ·rw [getD_set_ne false e'] at hk;exact getD_set (hc k hk o ho e he hb)
theorem sO.none{n:Nat}:sO md ops (Array.replicate n false):=fun j hj=>by
 simp at hj
 rcases Nat.lt_or_ge j n with h | h<;>simp [h] at hj
theorem wpAnyR_first{i l:Nat}{oi:Oper}{v:Value}(hi:ops[i]?=some oi)(hw:waits md ops l i=true)(hsel: ∀(j:Nat) (o:Oper) cs b,ops[j]?=some o→o.op≠ .select cs b)(hR: ∀listed a w,R listed a w→Region.ready md ops listed=[l]):
  ∀(fuel:Nat) (listed:Array Bool) (a:Act) (w:World),sO md ops listed→
   (∀j oj,ops[j]?=some oj→j≠i→listed.getD j true=false→(∀e∈oj.after,Region.binds md e=true→e.on≠i)→oi.apart ops oj=true)→
   i∈Region.ready md ops listed→Fl P ops C oi v a→
   bJc P md ops C R fuel (listed.setIfInBounds i true) (a.put oi.dst v) w→bJc P md ops C R (fuel+1) listed a w:=by
 have hun: ∀{listed:Array Bool},i∈Region.ready md ops listed→listed.getD i false≠true:=fun{listed} hr e=>by
  have h0:=(mem_ready.1 hr).1
  rcases Nat.lt_or_ge i listed.size with h' | h'
  ·simp [h'] at h0 e;rw [h0] at e;cases e
  ·simp [Array.getElem?_eq_none h'] at e
 intro fuel
 induction fuel with
 | zero=>
  intro listed a w hc _ hr hy H;refine⟨H.1,fun h=>(by rw [h] at hr;cases hr),fun j hj=>?_⟩
  by_cases hji:j=i
  ·subst hji;exact hy.fOp hi H.1 H
  ·have h1:=ready_mono hj hji;rw [hR _ _ _ H.2] at h1;have h2:j=l:=by simpa using h1
   subst h2;exact absurd hj (waits_not hc hw (hun hr))
 | succ fuel ih=>
  intro listed a w hc hfree hr hy H;refine⟨H.1,fun h=>(by rw [h] at hr;cases hr),fun j hj=>?_⟩
  by_cases hji:j=i
  ·subst hji;exact hy.fOp hi H.1 H
  ·have h1:=H.2.2 j (ready_mono hj hji);obtain⟨hjun,oj,hoj,hall⟩:=mem_ready.1 hj
   have hnot: ∀e∈oj.after,Region.binds md e=true→e.on≠i:=fun e he hb heq=>by
    have h1:=hall e he hb;rw [heq] at h1;exact hun hr h1
   have h2:=fOp_put hoj (hfree j oj hoj hji hjun hnot) (fun cs b=>hsel i oi cs b hi) (fun cs b=>hsel j oj cs b hoj) hy h1;have hfree': ∀k ok,ops[k]?=some ok→k≠i→(listed.setIfInBounds j true).getD k true=false→
     (∀e∈ok.after,Region.binds md e=true→e.on≠i)→oi.apart ops ok=true:=fun k ok hk hki hun hno=>by
    refine hfree k ok hk hki ?_ hno
    by_cases hjk:j=k
    ·subst hjk;exact hjun
    ·rw [getD_set_ne true hjk] at hun;exact hun
   refine rH (fun a' w' h3=>ih (listed.setIfInBounds j true) a' w' (hc.set hj) hfree' (ready_mono hr (Ne.symm hji)) h3.1 ?_) h2;rw [Array.setIfInBounds_comm _ _ hji];exact h3.2
def nC (P:Program)(ops:Array Oper)(C:World→Prop)(Q:Exit→Act→World→Prop)(l:Nat):List (Bool×Nat)→Act→World→Prop
 | [],a,w=>fOp P ops l (Q .normal) a w
 | (true,k)::r,a,w=> ∃o v,ops[k]?=some o∧Fl P ops C o v a∧nC P ops C Q l r (a.put o.dst v) w
 | (false,k)::r,a,w=>fOp P ops k (fun a w=>C w∧nC P ops C Q l r a w) a w
def bGj (md:Region.Mode)(ops:Array Oper)(l:Nat):List (Bool×Nat)→Array Bool→Bool
 | [],listed=>(Region.ready md ops listed==[l])&&(Region.ready md ops (listed.setIfInBounds l true)).isEmpty
 | (true,k)::r,listed=>(Region.ready md ops listed).contains k&&Region.free md ops listed k&&waits md ops l k&&bGj md ops l r (listed.setIfInBounds k true)
 | (false,k)::r,listed=>(Region.ready md ops listed==[k])&&bGj md ops l r (listed.setIfInBounds k true)
def EndL (P:Program)(md:Region.Mode)(ops:Array Oper)(Q:Exit→Act→World→Prop)(l:Nat)(listed:Array Bool)(a:Act)(w:World):Prop:=
 Region.ready md ops listed=[l]∧Region.ready md ops (listed.setIfInBounds l true)=[]∧fOp P ops l (Q .normal) a w
theorem yP{Q:Exit→Act→World→Prop}{l:Nat}(hs:Region.noSelect ops=true): ∀(od:List (Bool×Nat)) (listed:Array Bool) (a:Act) (w:World),sO md ops listed→bGj md ops l od listed=true→C w→nC P ops C Q l od a w→bJc P md ops C (EndL P md ops Q l) od.length listed a w
 | [],listed,a,w,_,hB,hC,h=>by
  simp only [bGj,Bool.and_eq_true,beq_iff_eq] at hB;exact⟨hC,hB.1,by simpa using hB.2,h⟩
 | (true,k)::r,listed,a,w,hc,hB,hC,h=>by
  simp only [bGj,Bool.and_eq_true] at hB;obtain⟨o,v,ho,hy,hK⟩:=h;exact wpAnyR_first ho hB.1.2 (Region.noSelect_spec hs) (fun _ _ _ h=>h.1) r.length listed a w hc (Region.free_spec ho hB.1.1.2) (by simpa using hB.1.1.1) hy (yP hs r _ _ _ (hc.set (by simpa using hB.1.1.1)) hB.2 hC hK)
 | (false,k)::r,listed,a,w,hc,hB,hC,h=>by
  simp only [bGj,Bool.and_eq_true,beq_iff_eq] at hB;refine⟨hC,fun h0=>(by rw [hB.1] at h0;cases h0),fun i hi=>?_⟩;rw [hB.1] at hi;have:i=k:=by simpa using hi
  subst this;exact rH (fun a' w' h'=>yP hs r _ _ _ (hc.set (by rw [hB.1];simp)) hB.2 h'.1 h'.2) h
theorem end_any{Q:Exit→Act→World→Prop}{l:Nat}(listed:Array Bool)(a:Act)(w:World)(h:EndL P md ops Q l listed a w):wpAny P md ops Q 1 listed a w:=by
 refine⟨fun e=>(by rw [h.1] at e;cases e),fun i hi=>?_⟩;rw [h.1] at hi;have:i=l:=by simpa using hi
 subst this;have hf:=h.2.2;unfold wpOp;split
 ·rename_i ho;have hl:i∈Region.ready md ops listed:=by rw [h.1];simp
  obtain⟨_,oi,hoi,_⟩:=mem_ready.1 hl;rw [ho] at hoi;cases hoi
 ·rename_i o ho;have h1:=wpNm (hf o ho);split
  ·rename_i hw;simp only [hw,if_true] at h1;exact .inl (wH rfl (fun u w' h'=>⟨h.2.1,h'⟩) (fun d w' h'=>⟨h.2.1,h'⟩) h1)
  ·rename_i hw;simp only [hw] at h1;exact⟨h.2.1,h1⟩
def mixLOk(l:Nat)(od:List (Bool×Nat))(ops:Array Oper):Bool:=Region.noSelect ops&&Nat.beq (od.length+1) ops.size&&bGj .any ops l od (Array.replicate ops.size false)
end
section
variable {P : Program} {β : fR} {n : Nat} {Γ : Env} {H : List bY} {F : List Fact} {Q : Exit → Act → World → Prop} {Hk : List bY} {F0 : List Fact} {ops : Array Oper}
theorem rX{id:Nat}{l:List Oper}(last:Nat)(Hk:List bY)(F0:List Fact)(od:List (Bool×Nat))(hm:P.follows .mixedOrders=true)(hB:mixLOk last od l.toArray=true)(hH:Sel H Hk)(hF:bI F F0)
  (h:At β n Γ H F (nC P l.toArray (StF β Hk F0) Q last od)):At β n Γ H F ((Code.region id l.toArray true).wp P Q):=fun a w S f s k=>by
 simp only [mixLOk,Bool.and_eq_true] at hB;have hw:=StF.drew ⟨S,s,k⟩;obtain⟨S',s',k'⟩:=hw;refine wp_region_any hm ?_;have h1:=yP (P:=P) (md:= .any) (C:=StF β Hk F0) (Q:=Q) hB.1.1 od (Array.replicate l.toArray.size false) a _ sO.none hB.2 (StF.sel hH hF ⟨S',s',k'⟩) (h a _ S' f s' k');have h2:=tW (Q:=Q) end_any _ _ _ _ h1
 rwa [Nat.eq_of_beq_eq_true hB.1.2] at h2
theorem atl_sti{r:List (Bool×Nat)}{o:Oper}{l k d:Nat}{v:Value}(hk:ops[k]?=some o)(hw:want ops Γ o=some true)(hd:o.dst=some d)(hn:Nat.blt d n=true)(h:Sti P β n Γ Hk F0 o v)
  (K:At β n ((d,v)::Γ) H F (nC P ops (StF β Hk F0) Q l r)):At β n Γ H F (nC P ops (StF β Hk F0) Q l ((true,k)::r)):=fun a w S f s hF=>by
 refine⟨o,v,hk,.inl ⟨f.want hw,fun w' ⟨S',s',k'⟩=>h a w' S' f s' k'⟩,?_⟩;rw [hd];exact K _ _ S (f.put (by simpa [Nat.blt_eq] using hn) v) s hF
theorem stL{r:List (Bool×Nat)}{o:Oper}{l k d:Nat}{v:Value}(hk:ops[k]?=some o)(h:Sti P β n Γ Hk F0 o v)(K:At β n ((d,v)::Γ) H F (nC P ops (StF β Hk F0) Q l r))(hw:want ops Γ o=some true:=by exact rfl)(hd:o.dst=some d:=by exact rfl)(hn:Nat.blt d n=true:=by exact rfl):At β n Γ H F (nC P ops (StF β Hk F0) Q l ((true,k)::r)):=atl_sti hk hw hd hn h K
theorem puL{r:List (Bool×Nat)}{o:Oper}{l k d:Nat}{v:Value}{T:Tab}(hT:gD P T)(K:At β n ((d,v)::Γ) H F (nC P ops (StF β Hk F0) Q l r))(hk:ops[k]?=some o:=by exact rfl)(hw:want ops Γ o=some true:=by exact rfl)(hd:o.dst=some d:=by exact rfl)(hn:Nat.blt d n=true:=by exact rfl)(h:mF T Γ o.op=some v:=by exact rfl):At β n Γ H F (nC P ops (StF β Hk F0) Q l ((true,k)::r)):=atl_sti hk hw hd hn (fun _ w _ f _ _=>tN hT f h w) K
theorem nX{r:List (Bool×Nat)}{o:Oper}{l k:Nat}{C:World→Prop}(hk:ops[k]?=some o)(h:At β n Γ H F (wpList P ops (Nm fun a w=>C w∧nC P ops C Q l r a w) [o])):At β n Γ H F (nC P ops C Q l ((false,k)::r)):=fun a w S f s hF o' ho'=>by
 have:o'=o:=Option.some.inj (ho'.symm.trans hk);subst this;exact h a w S f s hF
theorem nT{r:List (Bool×Nat)}{l:Nat}(hH:Sel H Hk)(hF:bI F F0)(h:At β n Γ H F (nC P ops (StF β Hk F0) Q l r)):At β n Γ H F (wpList P ops (Nm fun a w=>StF β Hk F0 w∧nC P ops (StF β Hk F0) Q l r a w) []):=fun a w S f s k=>
 ⟨rfl,StF.sel hH hF ⟨S,s,k⟩,h a w S f s k⟩
theorem pO{o:Oper}{l:Nat}{C:World→Prop}(hk:ops[l]?=some o)(h:At β n Γ H F (wpList P ops (Nm (Q .normal)) [o])):At β n Γ H F (nC P ops C Q l []):=fun a w S f s hF o' ho'=>by
 have:o'=o:=Option.some.inj (ho'.symm.trans hk);subst this;exact h a w S f s hF
theorem sD{K:Act→World→Prop}(h:At β n Γ H F K):At β n Γ H F (wpList P ops (Nm K) []):=fun a w S f s k=>⟨rfl,h a w S f s k⟩
end
abbrev kL:=Option (Nat×ItemV)
def fnV (b4:Nat):kL→Value
 | none=> .nilFunc
 | some x=> .func (.func 139) #[] #[.pointer (some ⟨b4,0,none⟩),.pointer (some ⟨x.1,0,none⟩)]
def fnE (b4:Nat):Flat kL where
 size:=1
 cells:=fun x=>[fnV b4 x]
 len:=fun _=>rfl
 one:=fun x u hu=>by
  simp at hu;subst hu;cases x<;>rfl
 pos:=by decide
theorem fnInfo: ∃i:TypeInfo,Tryz.prog.info? 1=some i∧i.zero=some .nilFunc∧i.size=1∧i.bytes=8:=by
 have h:(Tryz.prog.info? 1).map (fun i=>(i.zero,i.size,i.bytes))=some (some .nilFunc,1,8):=by kernel_rfl
 cases hi:Tryz.prog.info? 1 with
 | none=>simp [hi] at h
 | some i=>simp [hi] at h;exact⟨i,rfl,h.1,h.2.1,h.2.2⟩
section
variable {β : fR} {n : Nat} {Γ : Env} {H : List bY} {F : List Fact} {Q : Exit → Act → World → Prop} {ops : Array Oper} {rest : List Oper} {o : Oper} {d : Nat}
theorem bCd{b4:Nat}{x:Operand}{m:kL}(hw:want ops Γ o=some true)(ho:o.op= .buildSlice 208 1 #[(0,x)])(hd:o.dst=some d)(hn:Nat.blt d n=true)
  (hx:Γ.ev x=some (fnV b4 m)) (k: ∀b,At β n ((d,.slice (some ⟨b,0,none⟩) 1 1)::Γ) (.obj b (.cells ((fnE b4).all [m]).toArray 1)::H) F (wpList Tryz.prog ops Q rest)):At β n Γ H F (wpList Tryz.prog ops Q (o::rest)):=by
 obtain⟨i,hi,hz,hs,_⟩:=fnInfo;refine iU hw ho hd hn hx Tryz.underlying208 hi hz (by omega) (by omega) ?_ k;rw [hs];cases m<;>kernel_rfl
theorem bCo{b4:Nat}{x y:Operand}{c q:Nat}{v:Value}{A:Option Addr}{xs ys:List kL}{H':List bY}(hH:dI H ((fnE b4).row v 1 xs) H')(hr:cP β H F (fnE b4) A ys)(hg:o.guard=none)
  (ho:o.op= .call {callee:= .builtin .append,args:= #[x,y],argTypes:= #[208,208]}) (hd:o.dst=some d) (hn:Nat.blt d n=true)
  (hx:Γ.ev x=some v) (hy:Γ.ev y=some (.slice A q c)) (hq:q=ys.length) (hl:xs.length+ys.length≤10000000)
  (k: ∀A' cap',At β n ((d,.slice A' (xs++ys).length cap')::Γ) ((fnE b4).row (.slice A' (xs++ys).length cap') 1 (xs++ys)::H') F (wpList Tryz.prog ops Q rest)):At β n Γ H F (wpList Tryz.prog ops Q (o::rest)):=by
 obtain⟨i,hi,hz,hs,hb⟩:=fnInfo;exact fX hH hr hg ho hd hn Tryz.underlying208 hi hz hs hb rfl hx hy hq (by omega) (by decide) k
end
def lS (st:List kL):Fact:=Fact.each st fun o=>match o with
 | none=>Fact.true
 | some x=>Fact.cells x.1 0 (lN.cells x.2)
def finP:List kL→List ItemV×List kL
 | some x::r=>(x.2::(finP r).1,(finP r).2)
 | none::r=>([],none::r)
 | []=>([],[])
theorem itemZ:(Tryz.prog.info? 47).bind (·.zero)=some (.slice none 0 0):=by kernel_rfl
theorem funcZ:(Tryz.prog.info? 208).bind (·.zero)=some (.slice none 0 0):=by kernel_rfl
theorem bCu{x:kL}{r:List kL}:(x::r).reverse[(r.length+1)-1]?=some x:=by
 simp
theorem bCb{x:kL}{r:List kL}:(x::r).reverse.take ((r.length+1)-1)=r.reverse:=by
 simp
theorem jK(x:kL)(r:List kL):(x::r).reverse.length=r.length+1:=by simp
section
variable {F : List Fact} {x : Nat × ItemV} {o : kL} {r : List kL}
theorem todo_head(h:Has F (lS (some x::r))):Has F (Fact.cells x.1 0 (lN.cells x.2)):=fun S w k=>h S w k (some x) (List.mem_cons_self ..)
theorem bCs(h:Has F (lS (o::r))):Has F (lS r):=fun S w k y hy=>h S w k y (List.mem_cons_of_mem _ hy)
theorem todo_nil:Has F (lS []):=fun _ _ _ y hy=>by simp at hy
theorem todo_none(h:Has F (lS r)):Has F (lS (none::r)):=fun S w k y hy=>by
 rcases List.mem_cons.1 hy with rfl | hy
 ·trivial
 ·exact h S w k y hy
theorem bKk(hx:Has F (Fact.cells x.1 0 (lN.cells x.2)))(h:Has F (lS r)):Has F (lS (some x::r)):=fun S w k y hy=>by
 rcases List.mem_cons.1 hy with rfl | hy
 ·exact hx S w k
 ·exact h S w k y hy
end
def qG (p:Phr):ItemV:=⟨p.how,p.at_,p.fn,[],⟨none,0,[]⟩⟩
set_option maxRecDepth 100000 in
theorem push_spec(b4 bi:Nat)(C:Option Addr)(e:Nat)(out:List ItemV)(it:ItemV)(ho:out.length≤1000000):dM Tryz.prog 139 [.pointer (some ⟨b4,0,none⟩),.pointer (some ⟨bi,0,none⟩)] [.obj b4 (.cells [.slice C out.length e].toArray 47),lN.row (.slice C out.length e) 52 out] [Fact.cells bi 0 (lN.cells it)] (fun(_:Option Addr×Nat)=> .tuple #[]) (fun(x:Option Addr×Nat)=>[.obj b4 (.cells [.slice x.1 (out++[it]).length x.2].toArray 47),lN.row (.slice x.1 (out++[it]).length x.2) 52 (out++[it])]) (fun _=>[]):=by
 have hT:=fN;refine cQ Tryz.func139 rfl Tryz.ntmps139 rfl ?_;intro β hM;refine bD<|ss (ldO hT (bJ .head)) ?_;refine ss (fA hT (knows_fact (Has.of mT0)) rfl rfl rfl rfl rfl) ?_;refine wD (m:=it) rfl rfl rfl rfl rfl fun b1=>?_;refine vQ kT2 (dE .head rfl) rfl rfl rfl rfl rfl rfl rfl (by simp only [List.length_singleton];omega) fun A2 c3=>?_;refine sto hT kT2 ?_;refine dX ?_;exact tP (A2,c3) rfl (.cons .head (.cons .head .nil)) trivial (rfl)
set_option maxRecDepth 100000 in
theorem nL(b5 b4:Nat)(D:Option Addr)(f:Nat)(st0:List kL)(C:Option Addr)(e:Nat)(out0:List ItemV)(hs:out0.length+st0.length≤100000):dM Tryz.prog 136 [.pointer (some ⟨b5,0,none⟩)] [.obj b5 (.cells [.slice D st0.reverse.length f].toArray 208),(fnE b4).row (.slice D st0.reverse.length f) 1 st0.reverse,.obj b4 (.cells [.slice C out0.length e].toArray 47),lN.row (.slice C out0.length e) 52 out0] [lS st0] (fun(_:(Option Addr×Nat)×(Option Addr×Nat))=> .tuple #[]) (fun(x:(Option Addr×Nat)×(Option Addr×Nat))=>[.obj b5 (.cells [.slice x.1.1 (finP st0).2.reverse.length x.1.2].toArray 208),(fnE b4).row (.slice x.1.1 (finP st0).2.reverse.length x.1.2) 1 (finP st0).2.reverse,.obj b4 (.cells [.slice x.2.1 (out0++(finP st0).1).length x.2.2].toArray 47),lN.row (.slice x.2.1 (out0++(finP st0).1).length x.2.2) 52 (out0++(finP st0).1)]) (fun _=>[lS (finP st0).2]):=by
 have hT:=fN;refine cQ Tryz.func136 rfl Tryz.ntmps136 rfl ?_;intro β hM;refine bU<|dC (ι:=List kL×List ItemV×Option Addr×Nat×Option Addr×Nat) [(0,_)] ⟨rfl,trivial⟩ (fun _=>[]) (fun⟨st,out,D,f,C,e⟩=>[.obj b5 (.cells [.slice D st.reverse.length f].toArray 208),(fnE b4).row (.slice D st.reverse.length f) 1 st.reverse,.obj b4 (.cells [.slice C out.length e].toArray 47),lN.row (.slice C out.length e) 52 out]) (fun⟨st,out,D,f,C,e⟩=>[Fact.pure (out0++(finP st0).1=out++(finP st).1∧(finP st0).2=(finP st).2∧out.length+st.length≤100000),lS st]) (fun⟨st,out,D,f,C,e⟩=>st.length) (st0,out0,D,f,C,e) trivial (.cons .head (.cons .head (.cons .head (.cons .head .nil)))) ⟨Has.pure (⟨rfl,rfl,hs⟩),Has.of mT0,trivial⟩ ?_;rintro⟨st,out,D,f,C,e⟩;dsimp only;refine bP (Has.of mT0) fun hinv0=>?_;refine bB<|bB ?_
 rcases st with _ | ⟨_ | ⟨b,it⟩,r⟩
 ·skip
  refine bD<|ss (ldO hT (bJ .head)) ?_;refine sp3 hT ?_;refine cB (fun hg4=>?_) (fun hg4=>?_)
  ·have hg4:=of_decide_eq_true hg4;simp at hg4
  have hg4:=Int.not_lt.1 (of_decide_eq_false hg4);refine sk4 ?_;refine sk3 ?_;refine sp hT ?_;refine nn<|cG rfl rfl ?_;refine cY<|cJ<|cJ<|cZ ?_;have e1:(finP st0).2=[]:=hinv0.2.1;have e2:out0++(finP st0).1=out:=by rw [hinv0.1];simp [finP]
  rw [e1,e2];exact tP ((D,f),(C,e)) rfl (.cons .head (.cons .head (.cons .head (.cons .head .nil)))) ⟨Has.of mT1,trivial⟩ (rfl)
 ·have hsl:r.length≤100000:=by have:=hinv0.2.2;simp at this;omega
  refine bD<|ss (ldO hT (bJ .head)) ?_;refine sp hT ?_;refine bT (z':=(((r.length+1):Nat):Int)) (congrArg Nat.cast (jK _ r)) ?_;refine sp2 hT ?_;refine cB (fun hg4=>?_) (fun hg4=>?_)
  ·have hg4:=of_decide_eq_true hg4;refine ss (ldO hT (bJ .head)) ?_;refine ss (ldO hT (bJ .head)) ?_;refine sp hT ?_;refine bT (z':=(((r.length+1):Nat):Int)) (congrArg Nat.cast (jK _ r)) ?_;refine sp hT ?_;refine bT (z':=((((r.length+1)-1):Nat):Int)) (cO (by omega) (by omega)) ?_;refine ss (bV hT (k:=((r.length+1)-1)) (cK kT1) rfl rfl rfl rfl rfl rfl rfl (by rw [jK];omega)) ?_;refine ss (cE hT (cP.knows (cK kT1) (k:=((r.length+1)-1)) (x:=(none:kL)) bCu 0) rfl rfl rfl rfl rfl) ?_;refine ss (sti_nofn Tryz.underlying1 rfl rfl) ?_;refine sp hT ?_;refine nn<|cG rfl rfl ?_;refine cY<|cJ<|cJ<|cZ ?_;have e1:(finP st0).2=(none:kL)::r:=hinv0.2.1;have e2:out0++(finP st0).1=out:=by rw [hinv0.1];simp [finP]
   rw [e1,e2];exact tP ((D,f),(C,e)) rfl (.cons .head (.cons .head (.cons .head (.cons .head .nil)))) ⟨Has.of mT1,trivial⟩ (rfl)
  have hg4:=Int.not_lt.1 (of_decide_eq_false hg4);omega
 have hsl:r.length≤100000:=by have:=hinv0.2.2;simp at this;omega
 have hol:out.length≤100000:=by have:=hinv0.2.2;omega
 refine bD<|ss (ldO hT (bJ .head)) ?_;refine sp hT ?_;refine bT (z':=(((r.length+1):Nat):Int)) (congrArg Nat.cast (jK _ r)) ?_;refine sp2 hT ?_;refine cB (fun hg4=>?_) (fun hg4=>?_)
 ·have hg4:=of_decide_eq_true hg4;refine ss (ldO hT (bJ .head)) ?_;refine ss (ldO hT (bJ .head)) ?_;refine sp hT ?_;refine bT (z':=(((r.length+1):Nat):Int)) (congrArg Nat.cast (jK _ r)) ?_;refine sp hT ?_;refine bT (z':=((((r.length+1)-1):Nat):Int)) (cO (by omega) (by omega)) ?_;refine ss (bV hT (k:=((r.length+1)-1)) (cK kT1) rfl rfl rfl rfl rfl rfl rfl (by rw [jK];omega)) ?_;refine ss (cE hT (cP.knows (cK kT1) (k:=((r.length+1)-1)) (x:=(some (b,it):kL)) bCu 0) rfl rfl rfl rfl rfl) ?_;refine ss (sti_fn Tryz.underlying1 rfl rfl) ?_;refine sp hT ?_;refine nn<|cH rfl rfl ?_;refine bM<|bC<|bU<|sr<|ss (ldO hT (bJ .head)) ?_;refine ss (ldO hT (bJ .head)) ?_;refine sp hT ?_;refine bT (z':=(((r.length+1):Nat):Int)) (congrArg Nat.cast (jK _ r)) ?_;refine sp hT ?_;refine bT (z':=((((r.length+1)-1):Nat):Int)) (cO (by omega) (by omega)) ?_;refine ss (bV hT (k:=((r.length+1)-1)) (cK kT1) rfl rfl rfl rfl rfl rfl rfl (by rw [jK];omega)) ?_;refine ss (cE hT (cP.knows (cK kT1) (k:=((r.length+1)-1)) (x:=(some (b,it):kL)) bCu 0) rfl rfl rfl rfl rfl) ?_;refine gF (cR Tryz.func139 rfl rfl) (push_spec b4 b _ _ out it (by omega)) rfl rfl rfl rfl rfl rfl rfl (.cons kT2 (.cons kT2 .nil)) ⟨todo_head (Has.of mT1),trivial⟩ fun⟨C1,e2⟩=>?_;refine nn<|bD<|ss (ldO hT (bJ kT2)) ?_;refine ss (ldO hT (bJ kT2)) ?_;refine sp hT ?_;refine bT (z':=(((r.length+1):Nat):Int)) (congrArg Nat.cast (jK _ r)) ?_;refine sp hT ?_;refine bT (z':=((((r.length+1)-1):Nat):Int)) (cO (by omega) (by omega)) ?_;refine iQ hT (k:=((r.length+1)-1)) kT3 rfl rfl rfl rfl rfl rfl rfl rfl rfl (by rw [jK];omega) ?_;rw [bCb];refine sto hT kT3 ?_;refine dX<|bZ<|bC<|bH (lS r) (bCs (Has.of mT1)) ?_;exact cL (r,_,_,_,_,_) (by dsimp only;simp) trivial ⟨rfl,trivial⟩ (.cons .head (.cons .head (.cons .head (.cons .head .nil)))) ⟨Has.pure (⟨by rw [hinv0.1];simp [finP],by rw [hinv0.2.1];rfl,by have:=hinv0.2.2;simp at*;omega⟩),Has.of mT0,trivial⟩ (bI.drop 3)
 have hg4:=Int.not_lt.1 (of_decide_eq_false hg4);omega
set_option maxRecDepth 100000 in
theorem nO(bl:Nat)(A:Option Addr)(c:Nat)(toks:List TokV)(k:Nat)(e:Int)(b1 b5 b4:Nat)(D:Option Addr)(f:Nat)(st:List kL)(hk:k≤1000000)(hs:st.length≤100000):dM Tryz.prog 137 [.bool true,.pointer (some ⟨b1,0,none⟩),.pointer (some ⟨b5,0,none⟩),.pointer (some ⟨b4,0,none⟩)] [.obj bl (.cells [.slice A toks.length c,.int .i64 (k:Nat),.int .i64 e].toArray 102),.obj b1 (.cells [.pointer (some ⟨bl,0,none⟩)].toArray 100),.obj b5 (.cells [.slice D st.reverse.length f].toArray 208),(fnE b4).row (.slice D st.reverse.length f) 1 st.reverse] [kO.sl (.slice A toks.length c) toks,lS st] (fun(_:(Option Addr×Nat)×Nat)=> .agg #[.int .i64 (bW toks (k) e true).flt.1,.int .i64 (bW toks (k) e true).flt.2]) (fun(x:(Option Addr×Nat)×Nat)=>[.obj bl (.cells [.slice A toks.length c,.int .i64 ((bW toks (k) e true).next:Nat),.int .i64 e].toArray 102),.obj b1 (.cells [.pointer (some ⟨bl,0,none⟩)].toArray 100),.obj b5 (.cells [.slice x.1.1 (some (x.2,(qG (bW toks (k) e true)))::st).reverse.length x.1.2].toArray 208),(fnE b4).row (.slice x.1.1 (some (x.2,(qG (bW toks (k) e true)))::st).reverse.length x.1.2) 1 (some (x.2,(qG (bW toks (k) e true)))::st).reverse]) (fun(x:(Option Addr×Nat)×Nat)=>[lS (some (x.2,(qG (bW toks (k) e true)))::st)]):=by
 have hT:=fN;refine cQ Tryz.func137 rfl Tryz.ntmps137 rfl ?_;intro β hM;refine sr<|cC rfl rfl rfl rfl yT rfl fun b1=>?_;refine nn<|sr<|ss (ldO hT (bJ kT2)) ?_;refine sp hT ?_;refine bQ Tryz.func138 (phraseT_spec bl A c toks (k) e (by omega)) rfl rfl (.cons kT1 .nil) ⟨Has.of mT0,trivial⟩ fun _=>?_;refine sp3 hT ?_;refine cC rfl rfl rfl rfl lU rfl fun b2=>?_;refine cC rfl rfl rfl rfl yT rfl fun b3=>?_;refine sto hT kT1 ?_;refine sto hT kT1 ?_;refine nn<|sr<|ss (ldO hT (bJ kT5)) ?_;refine sp hT ?_;refine bCd (b4:=b4) (m:=(some (b2,(qG (bW toks (k) e true))):kL)) rfl rfl rfl rfl rfl fun b4=>?_;refine bCo kT7 (dE .head rfl) rfl rfl rfl rfl rfl rfl rfl (by simp only [List.length_singleton,List.length_reverse];omega) fun A5 c6=>?_;rw [←List.reverse_cons];refine sto hT kT7 ?_;refine nn<|sr<|ss (ldN hT (bJ kT3)) ?_;refine sto hT kT6 ?_;refine nn<|bF<|xP kT5 ?_;exact bS ((A5,c6),b2) rfl (bN hT (bJ .head) rfl rfl rfl rfl) (.cons kT5 (.cons kT5 (.cons kT1 (.cons kT1 .nil)))) ⟨bKk (Has.of mT0) (Has.of mT2),trivial⟩ (rfl)
set_option maxRecDepth 100000 in
theorem laterF_spec(bl:Nat)(A:Option Addr)(c:Nat)(toks:List TokV)(k:Nat)(e:Int)(b1 b5 b4:Nat)(D:Option Addr)(f:Nat)(st:List kL)(hk:k≤1000000)(hs:st.length≤100000):dM Tryz.prog 137 [.bool false,.pointer (some ⟨b1,0,none⟩),.pointer (some ⟨b5,0,none⟩),.pointer (some ⟨b4,0,none⟩)] [.obj bl (.cells [.slice A toks.length c,.int .i64 (k:Nat),.int .i64 e].toArray 102),.obj b1 (.cells [.pointer (some ⟨bl,0,none⟩)].toArray 100),.obj b5 (.cells [.slice D st.reverse.length f].toArray 208),(fnE b4).row (.slice D st.reverse.length f) 1 st.reverse] [kO.sl (.slice A toks.length c) toks,lS st] (fun(_:(Option Addr×Nat)×Nat)=> .agg #[.int .i64 (bW toks (k) e false).flt.1,.int .i64 (bW toks (k) e false).flt.2]) (fun(x:(Option Addr×Nat)×Nat)=>[.obj bl (.cells [.slice A toks.length c,.int .i64 ((bW toks (k) e false).next:Nat),.int .i64 e].toArray 102),.obj b1 (.cells [.pointer (some ⟨bl,0,none⟩)].toArray 100),.obj b5 (.cells [.slice x.1.1 (some (x.2,(qG (bW toks (k) e false)))::st).reverse.length x.1.2].toArray 208),(fnE b4).row (.slice x.1.1 (some (x.2,(qG (bW toks (k) e false)))::st).reverse.length x.1.2) 1 (some (x.2,(qG (bW toks (k) e false)))::st).reverse]) (fun(x:(Option Addr×Nat)×Nat)=>[lS (some (x.2,(qG (bW toks (k) e false)))::st)]):=by
 have hT:=fN;refine cQ Tryz.func137 rfl Tryz.ntmps137 rfl ?_;intro β hM;refine sr<|cC rfl rfl rfl rfl yT rfl fun b1=>?_;refine nn<|sr<|ss (ldO hT (bJ kT2)) ?_;refine sp hT ?_;refine bQ Tryz.func138 (phraseF_spec bl A c toks (k) e (by omega)) rfl rfl (.cons kT1 .nil) ⟨Has.of mT0,trivial⟩ fun _=>?_;refine sp3 hT ?_;refine cC rfl rfl rfl rfl lU rfl fun b2=>?_;refine cC rfl rfl rfl rfl yT rfl fun b3=>?_;refine sto hT kT1 ?_;refine sto hT kT1 ?_;refine nn<|sr<|ss (ldO hT (bJ kT5)) ?_;refine sp hT ?_;refine bCd (b4:=b4) (m:=(some (b2,(qG (bW toks (k) e false))):kL)) rfl rfl rfl rfl rfl fun b4=>?_;refine bCo kT7 (dE .head rfl) rfl rfl rfl rfl rfl rfl rfl (by simp only [List.length_singleton,List.length_reverse];omega) fun A5 c6=>?_;rw [←List.reverse_cons];refine sto hT kT7 ?_;refine nn<|sr<|ss (ldN hT (bJ kT3)) ?_;refine sto hT kT6 ?_;refine nn<|bF<|xP kT5 ?_;exact bS ((A5,c6),b2) rfl (bN hT (bJ .head) rfl rfl rfl rfl) (.cons kT5 (.cons kT5 (.cons kT1 (.cons kT1 .nil)))) ⟨bKk (Has.of mT0) (Has.of mT2),trivial⟩ (rfl)
structure fI where
 how:Int
 at_:Int
 fn:Int
 name:Bs
 nums:List Int
 deriving Inhabited,DecidableEq
def ItemV.it(x:ItemV):fI:=⟨x.how,x.at_,x.fn,x.name,x.nums.list⟩
def Phr.it(p:Phr):fI:=⟨p.how,p.at_,p.fn,[],[]⟩
abbrev Stk:=List (Option fI)
def xR (st:List kL):Stk:=st.map fun o=>o.map fun x=>x.2.it
def mQ:Stk→List fI×Stk
 | some x::r=>(x::(mQ r).1,(mQ r).2)
 | none::r=>([],none::r)
 | []=>([],[])
theorem wW: ∀st:List kL,(finP st).1.map ItemV.it=(mQ (xR st)).1∧xR (finP st).2=(mQ (xR st)).2
 | []=>⟨rfl,rfl⟩
 | none::r=>⟨rfl,rfl⟩
 | some x::r=>by
  obtain⟨h1,h2⟩:=wW r;exact⟨by simp [finP,mQ,xR] at*;exact h1,h2⟩
def opens:List kL→Nat
 | []=>0
 | none::r=>opens r+1
 | some _::r=>opens r
theorem uB: ∀st:List kL,(finP st).1.length+(finP st).2.length=st.length
 | []=>rfl
 | none::r=>by simp [finP]
 | some x::r=>by have:=uB r;simp [finP];omega
theorem fin_open{st:List kL}(h:0<opens st): ∃r,(finP st).2=none::r∧opens r+1=opens st:=by
 induction st with
 | nil=>simp [opens] at h
 | cons o st ih=>
  cases o with
  | none=>exact⟨st,rfl,rfl⟩
  | some x=>exact ih h
section
variable (toks : List TokV) (e : Int)
def gG (k:Nat):List Int:=((toks.drop k).takeWhile fun t=>t.kind==2).map (·.n)
def kU (f:Flt):Bool:=pF ⟨f.1,f.2⟩ ⟨0,0⟩
abbrev uQ:=List fI×Flt
def bAc (rec:Nat→List fI→Stk→Nat→uQ)(o k:Nat)(out:List fI)(st:Stk):uQ:=
 if (bR toks k).kind=4 then (if 0<o then ([],(atP toks k e,42)) else (out++(mQ st).1,(0,0)))
 else if (bR toks k).kind=2∨qF (bR toks k).word=false then ([],(atP toks k e,46))
 else if kU (bW toks k e true).flt then rec (bW toks k e true).next out (some (bW toks k e true).it::st) o else ([],(bW toks k e true).flt)
def sE (rec:Nat→List fI→Stk→Nat→uQ):Nat→Nat→List fI→Stk→uQ
 | 0,k,out,st=>bAc toks e rec 0 k out st
 | o+1,k,out,st=>if (bR toks k).kind=3∧(bR toks k).word=[41] then sE rec o (k+1) (out++(mQ st).1) (mQ st).2.tail else bAc toks e rec (o+1) k out st
def xI (k:Nat):fI:=⟨1,(bR toks k).at_,0,[],gG toks k⟩
def qS (k:Nat):fI:=⟨2,(bR toks k).at_,0,(bR toks k).word,[]⟩
def lF:Nat→Nat→List fI→Stk→Nat→uQ
 | 0,_,_,_,_=>([],(0,0))
 | f+1,k,out,st,o=>
  if (bR toks k).kind≠2∧(bR toks k).kind≠4∧qF (bR toks k).word=true then
   if kU (bW toks k e false).flt then lF f (bW toks k e false).next out (some (bW toks k e false).it::st) o else ([],(bW toks k e false).flt)
  else if (bR toks k).kind=3∧(bR toks k).word=[40] then
   if o=32 then ([],(atP toks k e,44)) else lF f (k+1) out (none::st) (o+1)
  else if (bR toks k).kind=2 then sE toks e (lF f) o (k+(gG toks k).length) (out++[xI toks k]) st
  else if (bR toks k).kind=1∧fJ (bR toks k).word=true then sE toks e (lF f) o (k+1) (out++[qS toks k]) st
  else if (bR toks k).kind=1 then ([],(atP toks k e,41)) else ([],(atP toks k e,42))
def qU (k:Nat):uQ:=lF toks e (toks.length+1) k [] [] 0
def bBo (r:uQ)(k:Nat)(out:List fI)(st:Stk)(o:Nat):Prop:=k≤toks.length∧ ∃f,toks.length+1≤f+k∧lF toks e f k out st o=r
def wC (r:uQ)(k:Nat)(out:List fI)(st:Stk)(o:Nat):Prop:=k≤toks.length∧ ∃f,toks.length+1≤f+k∧sE toks e (lF toks e f) o k out st=r
end
theorem iJ{toks:List TokV}{k:Nat}(h:(bR toks k).kind≠4):k<toks.length:=by
 rcases Nat.lt_or_ge k toks.length with h' | h'
 ·exact h'
 ·rw [yS h'] at h;exact absurd rfl h
theorem tB{toks:List TokV}{k:Nat}(h:(bR toks k).kind=2):gG toks k=(bR toks k).n::gG toks (k+1):=by
 have hk:=iJ (toks:=toks) (k:=k) (by rw [h];decide);have e:toks[k]?=some toks[k]:=List.getElem?_eq_getElem hk;rw [rL e] at h⊢;unfold gG;rw [List.drop_eq_getElem_cons hk,List.takeWhile_cons_of_pos (by simpa using h)];rfl
theorem nums_end{toks:List TokV}{k:Nat}(h:(bR toks k).kind≠2):gG toks k=[]:=by
 unfold gG
 rcases Nat.lt_or_ge k toks.length with hk | hk
 ·have e:toks[k]?=some toks[k]:=List.getElem?_eq_getElem hk;rw [rL e] at h;rw [List.drop_eq_getElem_cons hk,List.takeWhile_cons_of_neg (by simpa using h)];rfl
 ·rw [List.drop_of_length_le hk];rfl
theorem nums_le(toks:List TokV)(k:Nat):(gG toks k).length≤toks.length-k:=by
 unfold gG;rw [List.length_map];have:=(List.takeWhile_sublist (fun t:TokV=>t.kind==2) (l:=toks.drop k)).length_le
 simpa using this
theorem dQ(toks:List TokV)(k:Nat)(e:Int)(b:Bool):k+1≤(bW toks k e b).next∧(bW toks k e b).next≤k+2:=by
 unfold bW;split
 ·split
  ·exact⟨by simp,by simp⟩
  ·exact⟨by simp,by simp⟩
 ·exact⟨by simp,by simp⟩
theorem xA{toks:List TokV}{k:Nat}{e:Int}{b:Bool}(h:k<toks.length):(bW toks k e b).next≤toks.length:=by
 unfold bW;split
 ·rename_i h3;have:=iJ (toks:=toks) (k:=k+1) (by rw [h3.1];decide);split<;>(simp only;omega)
 ·simp only;omega
theorem bracket_verb:qF [40]=false:=by decide
theorem name_verb{s:Bs}(h:fJ s=true):qF s=false:=by
 unfold fJ at h;simp only [Bool.and_eq_true,Bool.not_eq_true'] at h;exact h.1
section
variable {toks : List TokV} {e : Int} {r : uQ} {k o : Nat} {out : List fI} {st : Stk}
theorem e_start(h:k≤toks.length):bBo toks e (qU toks e k) k [] [] 0:=⟨h,toks.length+1,by omega,rfl⟩
theorem e_verb(h:bBo toks e r k out st o)(h2:(bR toks k).kind≠2)(h4:(bR toks k).kind≠4)(hv:qF (bR toks k).word=true):
  (kU (bW toks k e false).flt=true→bBo toks e r (bW toks k e false).next out (some (bW toks k e false).it::st) o)∧(kU (bW toks k e false).flt=false→r=([],(bW toks k e false).flt)):=by
 obtain⟨hk,f,hf,h⟩:=h;have hlt:=iJ h4
 obtain⟨f,rfl⟩: ∃g,f=g+1:=⟨f-1,by omega⟩
 rw [lF,if_pos ⟨h2,h4,hv⟩] at h;have:=dQ toks k e false;refine⟨fun hi=>?_,fun hi=>?_⟩
 ·rw [if_pos hi] at h;exact⟨xA hlt,f,by omega,h⟩
 ·rw [if_neg (by rw [hi];simp)] at h;exact h.symm
theorem e_open(h:bBo toks e r k out st o)(h3:(bR toks k).kind=3)(hw:(bR toks k).word=[40]):
  (o≠32→bBo toks e r (k+1) out (none::st) (o+1))∧(o=32→r=([],(atP toks k e,44))):=by
 obtain⟨hk,f,hf,h⟩:=h;have hlt:=iJ (toks:=toks) (k:=k) (by rw [h3];decide)
 obtain⟨f,rfl⟩: ∃g,f=g+1:=⟨f-1,by omega⟩
 rw [lF,if_neg (by rw [hw,bracket_verb];simp),if_pos ⟨h3,hw⟩] at h;refine⟨fun hi=>?_,fun hi=>?_⟩
 ·rw [if_neg hi] at h;exact⟨hlt,f,by omega,h⟩
 ·rw [if_pos hi] at h;exact h.symm
theorem e_num(h:bBo toks e r k out st o)(h2:(bR toks k).kind=2):wC toks e r (k+(gG toks k).length) (out++[xI toks k]) st o:=by
 obtain⟨hk,f,hf,h⟩:=h;have hlt:=iJ (toks:=toks) (k:=k) (by rw [h2];decide)
 obtain⟨f,rfl⟩: ∃g,f=g+1:=⟨f-1,by omega⟩
 rw [lF,if_neg (by rw [h2];simp),if_neg (by rw [h2];simp),if_pos h2] at h;have h1:=nums_le toks k;have h3:=tB h2;have h4:1≤(gG toks k).length:=by rw [h3];simp
 exact⟨by omega,f,by omega,h⟩
theorem e_name(h:bBo toks e r k out st o)(h1:(bR toks k).kind=1)(hn:fJ (bR toks k).word=true):wC toks e r (k+1) (out++[qS toks k]) st o:=by
 obtain⟨hk,f,hf,h⟩:=h;have hlt:=iJ (toks:=toks) (k:=k) (by rw [h1];decide)
 obtain⟨f,rfl⟩: ∃g,f=g+1:=⟨f-1,by omega⟩
 rw [lF,if_neg (by rw [name_verb hn];simp),if_neg (by rw [h1];simp),if_neg (by rw [h1];simp),if_pos ⟨h1,hn⟩] at h;exact⟨by omega,f,by omega,h⟩
theorem e_word(h:bBo toks e r k out st o)(h1:(bR toks k).kind=1)(hv:qF (bR toks k).word=false)(hn:fJ (bR toks k).word=false):r=([],(atP toks k e,41)):=by
 obtain⟨hk,f,hf,h⟩:=h;have hlt:=iJ (toks:=toks) (k:=k) (by rw [h1];decide)
 obtain⟨f,rfl⟩: ∃g,f=g+1:=⟨f-1,by omega⟩
 rw [lF,if_neg (by rw [hv];simp),if_neg (by rw [h1];simp),if_neg (by rw [h1];simp),if_neg (by rw [hn];simp),if_pos h1] at h;exact h.symm
theorem e_want(h:bBo toks e r k out st o)(h1:(bR toks k).kind≠1)(h2:(bR toks k).kind≠2)(hv:(bR toks k).kind=4∨qF (bR toks k).word=false)(hw:(bR toks k).kind≠3∨(bR toks k).word≠[40]):r=([],(atP toks k e,42)):=by
 obtain⟨hk,f,hf,h⟩:=h
 obtain⟨f,rfl⟩: ∃g,f=g+1:=⟨f-1,by omega⟩
 rw [lF,if_neg (by rcases hv with hv | hv<;>simp [hv]),if_neg (by rcases hw with hw | hw<;>simp [hw]),if_neg h2,if_neg (by simp [h1]),if_neg h1] at h;exact h.symm
theorem b_close(h:wC toks e r k out st o)(ho:0<o)(h3:(bR toks k).kind=3)(hw:(bR toks k).word=[41]):wC toks e r (k+1) (out++(mQ st).1) (mQ st).2.tail (o-1):=by
 obtain⟨hk,f,hf,h⟩:=h;have hlt:=iJ (toks:=toks) (k:=k) (by rw [h3];decide)
 obtain⟨o,rfl⟩: ∃g,o=g+1:=⟨o-1,by omega⟩
 rw [sE,if_pos ⟨h3,hw⟩] at h;exact⟨hlt,f,by omega,h⟩
theorem b_rest(h:wC toks e r k out st o)(hn:o=0∨(bR toks k).kind≠3∨(bR toks k).word≠[41]):k≤toks.length∧ ∃f,toks.length+1≤f+k∧bAc toks e (lF toks e f) o k out st=r:=by
 obtain⟨hk,f,hf,h⟩:=h;refine⟨hk,f,hf,?_⟩
 cases o with
 | zero=>exact h
 | succ o=>
  rw [sE,if_neg (by
   rintro⟨a,b⟩
   rcases hn with hn | hn | hn
   ·omega
   ·exact hn a
   ·exact hn b)] at h
  exact h
theorem r_open(h:wC toks e r k out st o)(h4:(bR toks k).kind=4)(ho:0<o):r=([],(atP toks k e,42)):=by
 obtain⟨_,f,_,h⟩:=b_rest h (.inr (.inl (by rw [h4];decide)));rw [bAc,if_pos h4,if_pos ho] at h;exact h.symm
theorem r_end(h:wC toks e r k out st o)(h4:(bR toks k).kind=4)(ho: ¬0<o):r=(out++(mQ st).1,(0,0)):=by
 obtain⟨_,f,_,h⟩:=b_rest h (.inr (.inl (by rw [h4];decide)));rw [bAc,if_pos h4,if_neg ho] at h;exact h.symm
theorem sI(h:wC toks e r k out st o)(hn:o=0∨(bR toks k).kind≠3∨(bR toks k).word≠[41])(h4:(bR toks k).kind≠4)(hm:(bR toks k).kind=2∨qF (bR toks k).word=false):r=([],(atP toks k e,46)):=by
 obtain⟨_,f,_,h⟩:=b_rest h hn;rw [bAc,if_neg h4,if_pos hm] at h;exact h.symm
theorem pZ(h:wC toks e r k out st o)(hn:o=0∨(bR toks k).kind≠3∨(bR toks k).word≠[41])(h4:(bR toks k).kind≠4)(h2:(bR toks k).kind≠2)(hv:qF (bR toks k).word=true):
  (kU (bW toks k e true).flt=true→bBo toks e r (bW toks k e true).next out (some (bW toks k e true).it::st) o)∧(kU (bW toks k e true).flt=false→r=([],(bW toks k e true).flt)):=by
 obtain⟨_,f,hf,h⟩:=b_rest h hn;have hlt:=iJ h4;rw [bAc,if_neg h4,if_neg (by rw [hv];simp [h2])] at h;have:=dQ toks k e true;refine⟨fun hi=>?_,fun hi=>?_⟩
 ·rw [if_pos hi] at h;exact⟨xA hlt,f,by omega,h⟩
 ·rw [if_neg (by rw [hi];simp)] at h;exact h.symm
end
end Go.Proofs.YtbgdphbebhjpiaaGreatDoor
