/- Texts of one proof, one behind the other: Spell, Name, LineA, MixL, ExprA, ExprP. -/
import Derived.Test.YtbgdphbebhjpiaaGreatDoorM3
import Derived.Test.YtbgdphbebhjpiaaGreatDoorM1
import Derived.Test.YtbgdphbebhjpiaaGreatDoorM2
namespace Go.Proofs.YtbgdphbebhjpiaaGreatDoor
open Go.RowKit
theorem bIm(n:Int)(h0: -9223372036854775808≤n)(h1:n≤9223372036854775807):dX Tryz.prog 37 [.string (bs (fZ n))] [] [iK] (fun x:Option Addr×Nat=> .tuple #[.slice x.1 1 x.2,.agg #[.int .i64 0,.int .i64 0]]) (fun _=>[]) (fun x=>[kY.sl (.slice x.1 1 x.2) [⟨2,0,[],n⟩],Fact.pure (1≤x.2)]):=by
 have:=bIn (fZ n) (by have:=oV h0 h1;omega);rw [lexP_spell h0 h1] at this;exact this
theorem zW(n:Int)(h0: -9223372036854775808≤n)(h1:n≤9223372036854775807):dX Tryz.prog 255 [.string (bs (Lib.itoa n)),.string (bs [45]),.string (bs [95]),.int .i64 1] [] [iK] (fun _:Unit=> .string (bs (fZ n))) (fun _=>[]) (fun _=>[]):=by
 have:=replace_spec (Lib.itoa n) (by have:=itoa_len h0 h1;omega);rw [replace_itoa] at this;exact this
def gS (s:Bs):Int:=
 if s=[43] then 1 else if s=[45] then 2 else if s=[42] then 3 else if s=[37] then 4 else if s=[124] then 5 else if s=[109,105,110] then 6 else if s=[109,97,120] then 7 else if s=[61] then 8 else if s=[126] then 9
 else if s=[60] then 10 else if s=[60,61] then 11 else if s=[62,61] then 12 else if s=[62] then 13 else if s=[97,110,100] then 14 else if s=[111,114] then 15 else if s=[112,111,119] then 17 else if s=[114,104,111] then 37
 else if s=[116,97,107,101] then 38 else if s=[100,114,111,112] then 39 else if s=[99,97,116] then 40 else 0
def mJ (s:Bs):Int:=
 if s=[43]∨s=[45]∨s=[42]∨s=[37]∨s=[124]∨s=[109,105,110]∨s=[109,97,120] then gS s else if s=[126] then 16 else if s=[105,111,116,97] then 32 else if s=[115,104,97,112,101] then 33 else if s=[114,97,118,101,108] then 34
 else if s=[114,101,118] then 35 else if s=[116,117,114,110] then 36 else 0
def pM (s:Bs):Bool:=mJ s !=0 || gS s !=0
def gF (s:Bs)(t:Bool):Int:=if t then gS s else mJ s
set_option maxRecDepth 100000 in
theorem spell_spec(n:Int)(h0: -9223372036854775808≤n)(h1:n≤9223372036854775807):dX Tryz.prog 222 [.agg #[.int .i64 2,.int .i64 0,.string (bs []),.int .i64 n]] [] [iK] (fun(_:Unit)=> .tuple #[.string (bs (fZ n)),.bool true]) (fun _=>[]) (fun _=>[]):=by
 have hT:=fR;refine cW Tryz.func222 rfl Tryz.ntmps222 rfl ?_;intro β hM;refine sr<|hQ rfl rfl rfl rfl rfl rfl fun b1=>?_;refine sp2 hT ?_;refine nn<|sr<|sp hT ?_;refine ss (ldO hT (dI .head)) ?_;refine sp hT ?_;refine nn<|bA<|sr<|sp hT ?_;refine ss (ldO hT (bJ .head)) ?_;refine nn<|bX<|sr<|sp hT ?_;refine bZ (t':=true) (by decide) ?_;refine sp hT ?_;refine nn<|cI rfl rfl ?_;refine bD<|sp hT ?_;refine ss (ldO hT (uY .head)) ?_;refine bR Tryz.func256 (bIk n h0 h1) rfl rfl .nil ⟨Has.of mT0,trivial⟩ fun _=>?_;refine bR Tryz.func255 (zW n h0 h1) rfl rfl .nil ⟨Has.of mT0,trivial⟩ fun _=>?_;refine sp hT ?_;refine dY<|cD<|bC<|sr<|sp hT ?_;refine bR Tryz.func37 (bIm n h0 h1) rfl rfl .nil ⟨Has.of mT0,trivial⟩ fun⟨A2,c3⟩=>?_;refine sp3 hT ?_;refine bY rfl rfl rfl rfl xY rfl fun b4=>?_;refine sp hT ?_;refine sto hT .head ?_;refine nn<|bA<|sr<|ss (ldN hT (bJ .head)) ?_;refine ss (cC rfl rfl (vZ)) ?_;refine ss (fM ⟨0,0⟩ ⟨0,0⟩ rfl rfl rfl) ?_;refine bZ (t':=false) (rfl) ?_;refine sp4 hT ?_;refine bZ (t':=false) (by decide) ?_;refine sp4 hT ?_;refine bT (z':=(((fZ n).length:Nat):Int)) rfl ?_;refine sp hT ?_;refine bZ (t':=false) (by have:=oV h0 h1;simp;omega) ?_;refine sp hT ?_;refine nn<|cG rfl rfl ?_;refine bN<|bC<|sr<|sp hT ?_;refine sto hT kT1 ?_;refine nn<|bA<|bA<|cZ _ _ [(true,0),(true,1),(true,2),(true,3),(true,4),(true,5),(true,6),(true,8),(false,7),(true,9),(true,10),(true,11),(true,12),(true,13),(true,14),(true,15),(true,16),(true,17),(false,18),(true,19)] dD (by decide+kernel) (.cons .head (.cons .head .nil)) bI.self ?_;refine puM hT ?_;refine stM rfl (bU hT (k:=0) (bK (Has.of mT0)) rfl rfl rfl rfl rfl rfl rfl (by simp)) ?_;refine stM rfl (dU hT (cN.knows (bK (Has.of mT0)) (k:=0) (x:=(⟨2,0,[],n⟩:TokV)) rfl 0) rfl rfl rfl rfl rfl) ?_;refine stM rfl (ldN hT (bJ .head)) ?_;refine stM rfl (sti_neq_tok (⟨2,0,[],n⟩:TokV) ⟨2,0,([]:Bs),n⟩ rfl rfl rfl) ?_;refine bZ (t':=false) (by simp [tokEq]) ?_;refine puM hT ?_;refine puM hT ?_;refine puM hT ?_;refine cK (o:=_) rfl ?_;refine bR Tryz.func257 (bGi (fZ n) (by have:=oV h0 h1;omega) (fun b hb=>(vL n b hb).1)) rfl rfl .nil ⟨Has.of mT2,trivial⟩ fun _=>?_;refine cL (.cons .head (.cons .head .nil)) (bI.drop 0) ?_;refine puM hT ?_;refine bZ (t':=false) (by rw [trim_spell];simp) ?_;refine puM hT ?_;refine dZ rfl rfl rfl rfl ?_;refine dZ rfl rfl rfl rfl ?_;refine dZ rfl rfl rfl rfl ?_;refine puM hT ?_;refine puM hT ?_;refine puM hT ?_;refine puM hT ?_;refine cK (o:=_) rfl ?_;refine bR Tryz.func258 (bKk _ 35) rfl rfl .nil trivial fun _=>?_;refine cL (.cons .head (.cons .head .nil)) (bI.drop 0) ?_;refine bZ (t':=false) (hash_spell n) ?_;refine puM hT ?_;refine cQ<|bC<|cG rfl rfl ?_;refine bN<|bC<|sr<|sp3 hT ?_;refine nn<|bF ?_;exact bO () rfl (bG rfl) (bG rfl) .nil trivial (rfl)
set_option maxRecDepth 100000 in
theorem zD(n:Int)(h0: -9223372036854775808≤n)(h1:n≤9223372036854775807):dX Tryz.prog 167 [.int .i64 n] [] [iK] (fun(_:Unit)=> .string (bs (fZ n))) (fun _=>[]) (fun _=>[]):=by
 have hT:=fR;refine cW Tryz.func167 rfl Tryz.ntmps167 rfl ?_;intro β hM;refine sr<|sp hT ?_;refine nn<|sr<|sp hT ?_;refine ss (cC rfl rfl (mR _ _)) ?_;refine bR Tryz.func222 (spell_spec n h0 h1) rfl rfl .nil ⟨Has.of mT0,trivial⟩ fun _=>?_;refine sp4 hT ?_;refine sp hT ?_;refine nn<|sr<|sp2 hT ?_;refine nn<|bF ?_;exact bV () rfl (bG rfl) .nil trivial (rfl)
set_option maxRecDepth 100000 in
theorem jI(s:Bs):dX Tryz.prog 200 [.string (bs s)] [] [] (fun(_:Unit)=> .int .u8 (gS s)) (fun _=>[]) (fun _=>[]):=by
 have hT:=fR;refine cW Tryz.func200 rfl Tryz.ntmps200 rfl ?_;intro β hM;refine sr<|sp hT ?_;refine nn<|bA<|sr<|sp hT ?_;refine nn<|bX<|sr<|sp2 hT ?_;refine nn<|bL rfl (fun hc4=>?_) (fun hc4=>?_)
 ·have hc4:s=([43]:Bs):=eq_of_beq hc4;refine sr<|sp hT ?_;refine nn<|bF<|bH<|bB ?_;exact bV () rfl (bG rfl) .nil trivial (by simp [gS, *])
 have hc4:s≠([43]:Bs):=fun h=>absurd (beq_iff_eq.2 h) (by rw [show(s==([43]:Bs))=false from hc4];simp);refine sr<|sp2 hT ?_;refine nn<|bL rfl (fun hc6=>?_) (fun hc6=>?_)
 ·have hc6:s=([45]:Bs):=eq_of_beq hc6;refine sr<|sp hT ?_;refine nn<|bF<|bH<|bB ?_;exact bV () rfl (bG rfl) .nil trivial (by simp [gS, *])
 have hc6:s≠([45]:Bs):=fun h=>absurd (beq_iff_eq.2 h) (by rw [show(s==([45]:Bs))=false from hc6];simp);refine sr<|sp2 hT ?_;refine nn<|bL rfl (fun hc8=>?_) (fun hc8=>?_)
 ·have hc8:s=([42]:Bs):=eq_of_beq hc8;refine sr<|sp hT ?_;refine nn<|bF<|bH<|bB ?_;exact bV () rfl (bG rfl) .nil trivial (by simp [gS, *])
 have hc8:s≠([42]:Bs):=fun h=>absurd (beq_iff_eq.2 h) (by rw [show(s==([42]:Bs))=false from hc8];simp);refine sr<|sp2 hT ?_;refine nn<|bL rfl (fun hc10=>?_) (fun hc10=>?_)
 ·have hc10:s=([37]:Bs):=eq_of_beq hc10;refine sr<|sp hT ?_;refine nn<|bF<|bH<|bB ?_;exact bV () rfl (bG rfl) .nil trivial (by simp [gS, *])
 have hc10:s≠([37]:Bs):=fun h=>absurd (beq_iff_eq.2 h) (by rw [show(s==([37]:Bs))=false from hc10];simp);refine sr<|sp2 hT ?_;refine nn<|bL rfl (fun hc12=>?_) (fun hc12=>?_)
 ·have hc12:s=([124]:Bs):=eq_of_beq hc12;refine sr<|sp hT ?_;refine nn<|bF<|bH<|bB ?_;exact bV () rfl (bG rfl) .nil trivial (by simp [gS, *])
 have hc12:s≠([124]:Bs):=fun h=>absurd (beq_iff_eq.2 h) (by rw [show(s==([124]:Bs))=false from hc12];simp);refine sr<|sp2 hT ?_;refine nn<|bL rfl (fun hc14=>?_) (fun hc14=>?_)
 ·have hc14:s=([109,105,110]:Bs):=eq_of_beq hc14;refine sr<|sp hT ?_;refine nn<|bF<|bH<|bB ?_;exact bV () rfl (bG rfl) .nil trivial (by simp [gS, *])
 have hc14:s≠([109,105,110]:Bs):=fun h=>absurd (beq_iff_eq.2 h) (by rw [show(s==([109,105,110]:Bs))=false from hc14];simp);refine sr<|sp2 hT ?_;refine nn<|bL rfl (fun hc16=>?_) (fun hc16=>?_)
 ·have hc16:s=([109,97,120]:Bs):=eq_of_beq hc16;refine sr<|sp hT ?_;refine nn<|bF<|bH<|bB ?_;exact bV () rfl (bG rfl) .nil trivial (by simp [gS, *])
 have hc16:s≠([109,97,120]:Bs):=fun h=>absurd (beq_iff_eq.2 h) (by rw [show(s==([109,97,120]:Bs))=false from hc16];simp);refine sr<|sp2 hT ?_;refine nn<|bL rfl (fun hc18=>?_) (fun hc18=>?_)
 ·have hc18:s=([61]:Bs):=eq_of_beq hc18;refine sr<|sp hT ?_;refine nn<|bF<|bH<|bB ?_;exact bV () rfl (bG rfl) .nil trivial (by simp [gS, *])
 have hc18:s≠([61]:Bs):=fun h=>absurd (beq_iff_eq.2 h) (by rw [show(s==([61]:Bs))=false from hc18];simp);refine sr<|sp2 hT ?_;refine nn<|bL rfl (fun hc20=>?_) (fun hc20=>?_)
 ·have hc20:s=([126]:Bs):=eq_of_beq hc20;refine sr<|sp hT ?_;refine nn<|bF<|bH<|bB ?_;exact bV () rfl (bG rfl) .nil trivial (by simp [gS, *])
 have hc20:s≠([126]:Bs):=fun h=>absurd (beq_iff_eq.2 h) (by rw [show(s==([126]:Bs))=false from hc20];simp);refine sr<|sp2 hT ?_;refine nn<|bL rfl (fun hc22=>?_) (fun hc22=>?_)
 ·have hc22:s=([60]:Bs):=eq_of_beq hc22;refine sr<|sp hT ?_;refine nn<|bF<|bH<|bB ?_;exact bV () rfl (bG rfl) .nil trivial (by simp [gS, *])
 have hc22:s≠([60]:Bs):=fun h=>absurd (beq_iff_eq.2 h) (by rw [show(s==([60]:Bs))=false from hc22];simp);refine sr<|sp2 hT ?_;refine nn<|bL rfl (fun hc24=>?_) (fun hc24=>?_)
 ·have hc24:s=([60,61]:Bs):=eq_of_beq hc24;refine sr<|sp hT ?_;refine nn<|bF<|bH<|bB ?_;exact bV () rfl (bG rfl) .nil trivial (by simp [gS, *])
 have hc24:s≠([60,61]:Bs):=fun h=>absurd (beq_iff_eq.2 h) (by rw [show(s==([60,61]:Bs))=false from hc24];simp);refine sr<|sp2 hT ?_;refine nn<|bL rfl (fun hc26=>?_) (fun hc26=>?_)
 ·have hc26:s=([62,61]:Bs):=eq_of_beq hc26;refine sr<|sp hT ?_;refine nn<|bF<|bH<|bB ?_;exact bV () rfl (bG rfl) .nil trivial (by simp [gS, *])
 have hc26:s≠([62,61]:Bs):=fun h=>absurd (beq_iff_eq.2 h) (by rw [show(s==([62,61]:Bs))=false from hc26];simp);refine sr<|sp2 hT ?_;refine nn<|bL rfl (fun hc28=>?_) (fun hc28=>?_)
 ·have hc28:s=([62]:Bs):=eq_of_beq hc28;refine sr<|sp hT ?_;refine nn<|bF<|bH<|bB ?_;exact bV () rfl (bG rfl) .nil trivial (by simp [gS, *])
 have hc28:s≠([62]:Bs):=fun h=>absurd (beq_iff_eq.2 h) (by rw [show(s==([62]:Bs))=false from hc28];simp);refine sr<|sp2 hT ?_;refine nn<|bL rfl (fun hc30=>?_) (fun hc30=>?_)
 ·have hc30:s=([97,110,100]:Bs):=eq_of_beq hc30;refine sr<|sp hT ?_;refine nn<|bF<|bH<|bB ?_;exact bV () rfl (bG rfl) .nil trivial (by simp [gS, *])
 have hc30:s≠([97,110,100]:Bs):=fun h=>absurd (beq_iff_eq.2 h) (by rw [show(s==([97,110,100]:Bs))=false from hc30];simp);refine sr<|sp2 hT ?_;refine nn<|bL rfl (fun hc32=>?_) (fun hc32=>?_)
 ·have hc32:s=([111,114]:Bs):=eq_of_beq hc32;refine sr<|sp hT ?_;refine nn<|bF<|bH<|bB ?_;exact bV () rfl (bG rfl) .nil trivial (by simp [gS, *])
 have hc32:s≠([111,114]:Bs):=fun h=>absurd (beq_iff_eq.2 h) (by rw [show(s==([111,114]:Bs))=false from hc32];simp);refine sr<|sp2 hT ?_;refine nn<|bL rfl (fun hc34=>?_) (fun hc34=>?_)
 ·have hc34:s=([112,111,119]:Bs):=eq_of_beq hc34;refine sr<|sp hT ?_;refine nn<|bF<|bH<|bB ?_;exact bV () rfl (bG rfl) .nil trivial (by simp [gS, *])
 have hc34:s≠([112,111,119]:Bs):=fun h=>absurd (beq_iff_eq.2 h) (by rw [show(s==([112,111,119]:Bs))=false from hc34];simp);refine sr<|sp2 hT ?_;refine nn<|bL rfl (fun hc36=>?_) (fun hc36=>?_)
 ·have hc36:s=([114,104,111]:Bs):=eq_of_beq hc36;refine sr<|sp hT ?_;refine nn<|bF<|bH<|bB ?_;exact bV () rfl (bG rfl) .nil trivial (by simp [gS, *])
 have hc36:s≠([114,104,111]:Bs):=fun h=>absurd (beq_iff_eq.2 h) (by rw [show(s==([114,104,111]:Bs))=false from hc36];simp);refine sr<|sp2 hT ?_;refine nn<|bL rfl (fun hc38=>?_) (fun hc38=>?_)
 ·have hc38:s=([116,97,107,101]:Bs):=eq_of_beq hc38;refine sr<|sp hT ?_;refine nn<|bF<|bH<|bB ?_;exact bV () rfl (bG rfl) .nil trivial (by simp [gS, *])
 have hc38:s≠([116,97,107,101]:Bs):=fun h=>absurd (beq_iff_eq.2 h) (by rw [show(s==([116,97,107,101]:Bs))=false from hc38];simp);refine sr<|sp2 hT ?_;refine nn<|bL rfl (fun hc40=>?_) (fun hc40=>?_)
 ·have hc40:s=([100,114,111,112]:Bs):=eq_of_beq hc40;refine sr<|sp hT ?_;refine nn<|bF<|bH<|bB ?_;exact bV () rfl (bG rfl) .nil trivial (by simp [gS, *])
 have hc40:s≠([100,114,111,112]:Bs):=fun h=>absurd (beq_iff_eq.2 h) (by rw [show(s==([100,114,111,112]:Bs))=false from hc40];simp);refine sr<|sp2 hT ?_;refine nn<|bL rfl (fun hc42=>?_) (fun hc42=>?_)
 ·have hc42:s=([99,97,116]:Bs):=eq_of_beq hc42;refine sr<|sp hT ?_;refine nn<|bF<|bH<|bB ?_;exact bV () rfl (bG rfl) .nil trivial (by simp [gS, *])
 have hc42:s≠([99,97,116]:Bs):=fun h=>absurd (beq_iff_eq.2 h) (by rw [show(s==([99,97,116]:Bs))=false from hc42];simp);refine bN<|cD<|bC<|sr<|sp hT ?_;refine nn<|bF ?_;exact bV () rfl (bG rfl) .nil trivial (by simp [gS, *])
set_option maxRecDepth 100000 in
theorem one_spec(s:Bs):dX Tryz.prog 199 [.string (bs s)] [] [] (fun(_:Unit)=> .int .u8 (mJ s)) (fun _=>[]) (fun _=>[]):=by
 have hT:=fR;refine cW Tryz.func199 rfl Tryz.ntmps199 rfl ?_;intro β hM;refine sr<|sp hT ?_;refine nn<|bA<|sr<|sp hT ?_;refine nn<|bX<|bA<|sr<|sp2 hT ?_;refine nn<|bL rfl (fun hc4=>?_) (fun hc4=>?_)
 ·have hc4_r:=hc4;have hc4:s=([43]:Bs):=eq_of_beq hc4;refine bN<|bC<|cI rfl hc4_r ?_;refine sr<|sp hT ?_;refine bR Tryz.func200 (jI s) rfl rfl .nil trivial fun _=>?_;refine sp hT ?_;refine nn<|bF<|bH<|bB ?_;exact bV () rfl (bG rfl) .nil trivial (by first | (simp [mJ, *];done) | simp [mJ,gS, *])
 have hc4_r:=hc4;have hc4:s≠([43]:Bs):=fun h=>absurd (beq_iff_eq.2 h) (by rw [show(s==([43]:Bs))=false from hc4];simp);refine sr<|sp2 hT ?_;refine nn<|bL rfl (fun hc4_1=>?_) (fun hc4_1=>?_)
 ·have hc4_1_r:=hc4_1;have hc4_1:s=([45]:Bs):=eq_of_beq hc4_1;refine bN<|bC<|cI rfl hc4_1_r ?_;refine sr<|sp hT ?_;refine bR Tryz.func200 (jI s) rfl rfl .nil trivial fun _=>?_;refine sp hT ?_;refine nn<|bF<|bH<|bB ?_;exact bV () rfl (bG rfl) .nil trivial (by first | (simp [mJ, *];done) | simp [mJ,gS, *])
 have hc4_1_r:=hc4_1;have hc4_1:s≠([45]:Bs):=fun h=>absurd (beq_iff_eq.2 h) (by rw [show(s==([45]:Bs))=false from hc4_1];simp);refine sr<|sp2 hT ?_;refine nn<|bL rfl (fun hc4_2=>?_) (fun hc4_2=>?_)
 ·have hc4_2_r:=hc4_2;have hc4_2:s=([42]:Bs):=eq_of_beq hc4_2;refine bN<|bC<|cI rfl hc4_2_r ?_;refine sr<|sp hT ?_;refine bR Tryz.func200 (jI s) rfl rfl .nil trivial fun _=>?_;refine sp hT ?_;refine nn<|bF<|bH<|bB ?_;exact bV () rfl (bG rfl) .nil trivial (by first | (simp [mJ, *];done) | simp [mJ,gS, *])
 have hc4_2_r:=hc4_2;have hc4_2:s≠([42]:Bs):=fun h=>absurd (beq_iff_eq.2 h) (by rw [show(s==([42]:Bs))=false from hc4_2];simp);refine sr<|sp2 hT ?_;refine nn<|bL rfl (fun hc4_3=>?_) (fun hc4_3=>?_)
 ·have hc4_3_r:=hc4_3;have hc4_3:s=([37]:Bs):=eq_of_beq hc4_3;refine bN<|bC<|cI rfl hc4_3_r ?_;refine sr<|sp hT ?_;refine bR Tryz.func200 (jI s) rfl rfl .nil trivial fun _=>?_;refine sp hT ?_;refine nn<|bF<|bH<|bB ?_;exact bV () rfl (bG rfl) .nil trivial (by first | (simp [mJ, *];done) | simp [mJ,gS, *])
 have hc4_3_r:=hc4_3;have hc4_3:s≠([37]:Bs):=fun h=>absurd (beq_iff_eq.2 h) (by rw [show(s==([37]:Bs))=false from hc4_3];simp);refine sr<|sp2 hT ?_;refine nn<|bL rfl (fun hc4_4=>?_) (fun hc4_4=>?_)
 ·have hc4_4_r:=hc4_4;have hc4_4:s=([124]:Bs):=eq_of_beq hc4_4;refine bN<|bC<|cI rfl hc4_4_r ?_;refine sr<|sp hT ?_;refine bR Tryz.func200 (jI s) rfl rfl .nil trivial fun _=>?_;refine sp hT ?_;refine nn<|bF<|bH<|bB ?_;exact bV () rfl (bG rfl) .nil trivial (by first | (simp [mJ, *];done) | simp [mJ,gS, *])
 have hc4_4_r:=hc4_4;have hc4_4:s≠([124]:Bs):=fun h=>absurd (beq_iff_eq.2 h) (by rw [show(s==([124]:Bs))=false from hc4_4];simp);refine sr<|sp2 hT ?_;refine nn<|bL rfl (fun hc4_5=>?_) (fun hc4_5=>?_)
 ·have hc4_5_r:=hc4_5;have hc4_5:s=([109,105,110]:Bs):=eq_of_beq hc4_5;refine bN<|bC<|cI rfl hc4_5_r ?_;refine sr<|sp hT ?_;refine bR Tryz.func200 (jI s) rfl rfl .nil trivial fun _=>?_;refine sp hT ?_;refine nn<|bF<|bH<|bB ?_;exact bV () rfl (bG rfl) .nil trivial (by first | (simp [mJ, *];done) | simp [mJ,gS, *])
 have hc4_5_r:=hc4_5;have hc4_5:s≠([109,105,110]:Bs):=fun h=>absurd (beq_iff_eq.2 h) (by rw [show(s==([109,105,110]:Bs))=false from hc4_5];simp);refine bD<|sp2 hT ?_;refine nn<|bL rfl (fun hc4_6=>?_) (fun hc4_6=>?_)
 ·have hc4_6_r:=hc4_6;have hc4_6:s=([109,97,120]:Bs):=eq_of_beq hc4_6;refine sr<|sp hT ?_;refine bR Tryz.func200 (jI s) rfl rfl .nil trivial fun _=>?_;refine sp hT ?_;refine nn<|bF<|bH<|bB ?_;exact bV () rfl (bG rfl) .nil trivial (by first | (simp [mJ, *];done) | simp [mJ,gS, *])
 have hc4_6_r:=hc4_6;have hc4_6:s≠([109,97,120]:Bs):=fun h=>absurd (beq_iff_eq.2 h) (by rw [show(s==([109,97,120]:Bs))=false from hc4_6];simp);refine sr<|sp2 hT ?_;refine nn<|bL rfl (fun hc14=>?_) (fun hc14=>?_)
 ·have hc14_r:=hc14;have hc14:s=([126]:Bs):=eq_of_beq hc14;refine sr<|sp hT ?_;refine nn<|bF<|bH<|bB ?_;exact bV () rfl (bG rfl) .nil trivial (by first | (simp [mJ, *];done) | simp [mJ,gS, *])
 have hc14_r:=hc14;have hc14:s≠([126]:Bs):=fun h=>absurd (beq_iff_eq.2 h) (by rw [show(s==([126]:Bs))=false from hc14];simp);refine sr<|sp2 hT ?_;refine nn<|bL rfl (fun hc16=>?_) (fun hc16=>?_)
 ·have hc16_r:=hc16;have hc16:s=([105,111,116,97]:Bs):=eq_of_beq hc16;refine sr<|sp hT ?_;refine nn<|bF<|bH<|bB ?_;exact bV () rfl (bG rfl) .nil trivial (by first | (simp [mJ, *];done) | simp [mJ,gS, *])
 have hc16_r:=hc16;have hc16:s≠([105,111,116,97]:Bs):=fun h=>absurd (beq_iff_eq.2 h) (by rw [show(s==([105,111,116,97]:Bs))=false from hc16];simp);refine sr<|sp2 hT ?_;refine nn<|bL rfl (fun hc18=>?_) (fun hc18=>?_)
 ·have hc18_r:=hc18;have hc18:s=([115,104,97,112,101]:Bs):=eq_of_beq hc18;refine sr<|sp hT ?_;refine nn<|bF<|bH<|bB ?_;exact bV () rfl (bG rfl) .nil trivial (by first | (simp [mJ, *];done) | simp [mJ,gS, *])
 have hc18_r:=hc18;have hc18:s≠([115,104,97,112,101]:Bs):=fun h=>absurd (beq_iff_eq.2 h) (by rw [show(s==([115,104,97,112,101]:Bs))=false from hc18];simp);refine sr<|sp2 hT ?_;refine nn<|bL rfl (fun hc20=>?_) (fun hc20=>?_)
 ·have hc20_r:=hc20;have hc20:s=([114,97,118,101,108]:Bs):=eq_of_beq hc20;refine sr<|sp hT ?_;refine nn<|bF<|bH<|bB ?_;exact bV () rfl (bG rfl) .nil trivial (by first | (simp [mJ, *];done) | simp [mJ,gS, *])
 have hc20_r:=hc20;have hc20:s≠([114,97,118,101,108]:Bs):=fun h=>absurd (beq_iff_eq.2 h) (by rw [show(s==([114,97,118,101,108]:Bs))=false from hc20];simp);refine sr<|sp2 hT ?_;refine nn<|bL rfl (fun hc22=>?_) (fun hc22=>?_)
 ·have hc22_r:=hc22;have hc22:s=([114,101,118]:Bs):=eq_of_beq hc22;refine sr<|sp hT ?_;refine nn<|bF<|bH<|bB ?_;exact bV () rfl (bG rfl) .nil trivial (by first | (simp [mJ, *];done) | simp [mJ,gS, *])
 have hc22_r:=hc22;have hc22:s≠([114,101,118]:Bs):=fun h=>absurd (beq_iff_eq.2 h) (by rw [show(s==([114,101,118]:Bs))=false from hc22];simp);refine sr<|sp2 hT ?_;refine nn<|bL rfl (fun hc24=>?_) (fun hc24=>?_)
 ·have hc24_r:=hc24;have hc24:s=([116,117,114,110]:Bs):=eq_of_beq hc24;refine sr<|sp hT ?_;refine nn<|bF<|bH<|bB ?_;exact bV () rfl (bG rfl) .nil trivial (by first | (simp [mJ, *];done) | simp [mJ,gS, *])
 have hc24_r:=hc24;have hc24:s≠([116,117,114,110]:Bs):=fun h=>absurd (beq_iff_eq.2 h) (by rw [show(s==([116,117,114,110]:Bs))=false from hc24];simp);refine bN<|cD<|bC<|sr<|sp hT ?_;refine nn<|bF ?_;exact bV () rfl (bG rfl) .nil trivial (by first | (simp [mJ, *];done) | simp [mJ,gS, *])
set_option maxRecDepth 100000 in
theorem nR(s:Bs):dX Tryz.prog 135 [.string (bs s)] [] [] (fun(_:Unit)=> .bool (pM s)) (fun _=>[]) (fun _=>[]):=by
 have hT:=fR;refine cW Tryz.func135 rfl Tryz.ntmps135 rfl ?_;intro β hM;refine sr<|sp hT ?_;refine nn<|sr<|sp hT ?_;refine bR Tryz.func199 (one_spec s) rfl rfl .nil trivial fun _=>?_;refine sp2 hT ?_;refine cF (fun hg6=>?_) (fun hg6=>?_)
 ·have hg6:=bne_iff_ne.1 hg6;refine sk3 ?_;refine sp2 hT ?_;refine nn<|bF ?_;exact bV () rfl (bG rfl) .nil trivial (by simp [pM, *])
 have hg6:=bne_eq_false_iff_eq.1 hg6;refine sp hT ?_;refine bR Tryz.func200 (jI s) rfl rfl .nil trivial fun _=>?_;refine sp3 hT ?_;refine nn<|bF ?_;exact bV () rfl (bG rfl) .nil trivial (by simp [pM, *])
set_option maxRecDepth 100000 in
theorem bCc(s:Bs)(t:Bool):dX Tryz.prog 166 [.string (bs s),.bool t] [] [] (fun(_:Unit)=> .tuple #[.int .u8 (gF s t),.bool (gF s t !=0)]) (fun _=>[]) (fun _=>[]):=by
 have hT:=fR;refine cW Tryz.func166 rfl Tryz.ntmps166 rfl ?_;intro β hM;refine sr<|sp2 hT ?_;refine nn<|sr<|sp hT ?_;refine bR Tryz.func199 (one_spec s) rfl rfl .nil trivial fun _=>?_;refine sp hT ?_;refine nn<|bA<|sr<|sp hT ?_;refine nn<|bL rfl (fun hc9=>?_) (fun hc9=>?_)
 ·refine bD<|sp hT ?_;refine bR Tryz.func200 (jI s) rfl rfl .nil trivial fun _=>?_;refine sp hT ?_;refine nn<|sr<|sp4 hT ?_;refine sp hT ?_;refine nn<|bF ?_;exact bO () rfl (bG rfl) (bG rfl) .nil trivial (by simp [gF, *])
 refine bN<|bC<|sr<|sp4 hT ?_;refine sp hT ?_;refine nn<|bF ?_;exact bO () rfl (bG rfl) (bG rfl) .nil trivial (by simp [gF, *])
def bBn (s:Bs):Bool:=nQ ⟨(lexP s).2.1,(lexP s).2.2⟩ ⟨0,0⟩&&match (lexP s).1 with
 | [t]=>t.kind==1&&t.word==s
 | _=>false
def dS (s:Bs):Bool:= !(pM s)&&(!(s==[105,110])&&(!(s==[111,117,116])&&bBn s))
section
variable {s : Bs}
theorem yK(h:pM s=true):Value.bool false= .bool (dS s):=by simp [dS,h]
theorem yP(h:s=[105,110]):Value.bool false= .bool (dS s):=by simp [dS,h]
theorem yF(h:s=[111,117,116]):Value.bool false= .bool (dS s):=by simp [dS,h]
theorem yV(h:nQ ⟨(lexP s).2.1,(lexP s).2.2⟩ ⟨0,0⟩=false):Value.bool false= .bool (dS s):=by simp [dS,bBn,h]
theorem yI(h:(((lexP s).1.length:Nat):Int)≠1):Value.bool false= .bool (dS s):=by
 unfold dS bBn;split
 ·rename_i t ht;rw [ht] at h;simp at h
 ·simp
theorem list_one{α:Type}{l:List α}{x:α}(h:((l.length:Nat):Int)=1)(hx:l[0]?=some x):l=[x]:=by
 match l,h with
 | [a],_=>simp at hx;rw [hx]
 | [],h=>simp at h
 | _::_::_,h=>simp at h;omega
variable (h0 : pM s = false) (h1 : s ≠ [105, 110]) (h2 : s ≠ [111, 117, 116]) (hf : nQ ⟨(lexP s).2.1, (lexP s).2.2⟩ ⟨0, 0⟩ = true) (hl : (((lexP s).1.length : Nat) : Int) = 1) {x : TokV} (hx : (lexP s).1[0]? = some x)
include h0 h1 h2 hf hl hx
theorem name_at:dS s=(x.kind==1&&x.word==s):=by
 unfold dS bBn;rw [list_one hl hx,h0,hf,beq_eq_false_iff_ne.2 h1,beq_eq_false_iff_ne.2 h2];simp
theorem yM(hk:x.kind≠1):Value.bool false= .bool (dS s):=by
 rw [name_at h0 h1 h2 hf hl hx];simp [hk]
theorem yN(hk:x.kind=1):Value.bool (x.word==s)= .bool (dS s):=by
 rw [name_at h0 h1 h2 hf hl hx];simp [hk]
end
set_option maxRecDepth 100000 in
theorem lZ(s:Bs)(hs:s.length≤140737488355328):dX Tryz.prog 76 [.string (bs s)] [] [iK] (fun(_:Unit)=> .bool (dS s)) (fun _=>[]) (fun _=>[]):=by
 have hT:=fR;refine cW Tryz.func76 rfl Tryz.ntmps76 rfl ?_;intro β hM;refine sr<|sp hT ?_;refine nn<|bA<|sr<|sp hT ?_;refine bR Tryz.func135 (nR s) rfl rfl .nil trivial fun _=>?_;refine sp hT ?_;refine cF (fun hg7=>?_) (fun hg7=>?_)
 ·refine sk2 ?_;refine sp2 hT ?_;refine sk2 ?_;refine sp hT ?_;refine nn<|cI rfl rfl ?_;refine sr<|sp hT ?_;refine nn<|bF<|bB ?_;exact bV () rfl (bG rfl) .nil trivial (by first | exact yK hg7 | exact yP hg11 | exact yF hc14 | exact yV hg23 | exact yI hg28 | exact yM hg7 hg11 hc14 hg23 hg28 ‹(lexP s).1[0]?=some _› hg35 | exact yN hg7 hg11 hc14 hg23 hg28 ‹(lexP s).1[0]?=some _› hg35)
 refine sp4 hT ?_;refine cF (fun hg11=>?_) (fun hg11=>?_)
 ·have hg11:s=([105,110]:Bs):=eq_of_beq hg11;refine sk2 ?_;refine sp hT ?_;refine nn<|cI rfl rfl ?_;refine sr<|sp hT ?_;refine nn<|bF<|bB ?_;exact bV () rfl (bG rfl) .nil trivial (by first | exact yK hg7 | exact yP hg11 | exact yF hc14 | exact yV hg23 | exact yI hg28 | exact yM hg7 hg11 hc14 hg23 hg28 ‹(lexP s).1[0]?=some _› hg35 | exact yN hg7 hg11 hc14 hg23 hg28 ‹(lexP s).1[0]?=some _› hg35)
 have hg11:s≠([105,110]:Bs):=fun h=>absurd (beq_iff_eq.2 h) (by rw [show(s==([105,110]:Bs))=false from hg11];simp);refine sp3 hT ?_;refine nn<|bL rfl (fun hc14=>?_) (fun hc14=>?_)
 ·have hc14:s=([111,117,116]:Bs):=eq_of_beq hc14;refine sr<|sp hT ?_;refine nn<|bF<|bB ?_;exact bV () rfl (bG rfl) .nil trivial (by first | exact yK hg7 | exact yP hg11 | exact yF hc14 | exact yV hg23 | exact yI hg28 | exact yM hg7 hg11 hc14 hg23 hg28 ‹(lexP s).1[0]?=some _› hg35 | exact yN hg7 hg11 hc14 hg23 hg28 ‹(lexP s).1[0]?=some _› hg35)
 have hc14:s≠([111,117,116]:Bs):=fun h=>absurd (beq_iff_eq.2 h) (by rw [show(s==([111,117,116]:Bs))=false from hc14];simp);refine bN<|bC<|sr<|sp hT ?_;refine bR Tryz.func37 (bIn s (by omega)) rfl rfl .nil ⟨Has.of mT0,trivial⟩ fun⟨A1,c2⟩=>?_;refine sp3 hT ?_;refine bY rfl rfl rfl rfl xY rfl fun b3=>?_;refine sp hT ?_;refine sto hT .head ?_;refine nn<|sr<|ss (ldN hT (bJ .head)) ?_;refine ss (cC rfl rfl (vZ)) ?_;refine ss (wM ⟨(lexP s).2.1,(lexP s).2.2⟩ ⟨0,0⟩ rfl rfl rfl) ?_;refine sp hT ?_;refine cF (fun hg23=>?_) (fun hg23=>?_)
 ·refine sp4 hT ?_;refine sp hT ?_;refine cF (fun hg28=>?_) (fun hg28=>?_)
  ·have hg28:=eq_of_beq hg28;refine sp hT ?_
   obtain⟨x4,hx5⟩: ∃x,(lexP s).1[0]?=some x:=⟨_,List.getElem?_eq_getElem (by omega)⟩
   refine ss (bU hT (k:=0) (bK (Has.of mT0)) rfl rfl rfl rfl rfl rfl rfl (by omega)) ?_;refine sp hT ?_;refine ss (cE hT (cN.knows (bK (Has.of mT0)) (k:=0) (x:=x4) hx5 0) rfl rfl rfl rfl rfl) ?_;refine sp3 hT ?_;refine cF (fun hg35=>?_) (fun hg35=>?_)
   ·have hg35:=eq_of_beq hg35;refine sp hT ?_;refine ss (bU hT (k:=0) (bK (Has.of mT0)) rfl rfl rfl rfl rfl rfl rfl (by omega)) ?_;refine sp hT ?_;refine ss (cE hT (cN.knows (bK (Has.of mT0)) (k:=0) (x:=x4) hx5 2) rfl rfl rfl rfl rfl) ?_;refine sp4 hT ?_;refine nn<|bF ?_;exact bV () rfl (bG rfl) .nil trivial (by first | exact yK hg7 | exact yP hg11 | exact yF hc14 | exact yV hg23 | exact yI hg28 | exact yM hg7 hg11 hc14 hg23 hg28 ‹(lexP s).1[0]?=some _› hg35 | exact yN hg7 hg11 hc14 hg23 hg28 ‹(lexP s).1[0]?=some _› hg35)
   have hg35:=beq_eq_false_iff_ne.1 hg35;refine sk4 ?_;refine sk2 ?_;refine sp2 hT ?_;refine nn<|bF ?_;exact bV () rfl (bG rfl) .nil trivial (by first | exact yK hg7 | exact yP hg11 | exact yF hc14 | exact yV hg23 | exact yI hg28 | exact yM hg7 hg11 hc14 hg23 hg28 ‹(lexP s).1[0]?=some _› hg35 | exact yN hg7 hg11 hc14 hg23 hg28 ‹(lexP s).1[0]?=some _› hg35)
  have hg28:=beq_eq_false_iff_ne.1 hg28;refine sk4 ?_;refine sk ?_;refine sp2 hT ?_;refine sk4 ?_;refine sk2 ?_;refine sp2 hT ?_;refine nn<|bF ?_;exact bV () rfl (bG rfl) .nil trivial (by first | exact yK hg7 | exact yP hg11 | exact yF hc14 | exact yV hg23 | exact yI hg28 | exact yM hg7 hg11 hc14 hg23 hg28 ‹(lexP s).1[0]?=some _› hg35 | exact yN hg7 hg11 hc14 hg23 hg28 ‹(lexP s).1[0]?=some _› hg35)
 refine sk3 ?_;refine sp2 hT ?_;refine sk4 ?_;refine sk ?_;refine sp2 hT ?_;refine sk4 ?_;refine sk2 ?_;refine sp2 hT ?_;refine nn<|bF ?_;exact bV () rfl (bG rfl) .nil trivial (by first | exact yK hg7 | exact yP hg11 | exact yF hc14 | exact yV hg23 | exact yI hg28 | exact yM hg7 hg11 hc14 hg23 hg28 ‹(lexP s).1[0]?=some _› hg35 | exact yN hg7 hg11 hc14 hg23 hg28 ‹(lexP s).1[0]?=some _› hg35)
def atP (toks:List TokV)(k:Nat)(e:Int):Int:=match toks[k]? with
 | some t=>t.at_
 | none=>e
def bP (toks:List TokV)(k:Nat):TokV:=match toks[k]? with
 | some t=>t
 | none=>⟨4,0,[],0⟩
def tokV (t:TokV):Value:= .agg #[.int .i64 t.kind,.int .i64 t.at_,.string (bs t.word),.int .i64 t.n]
section
variable {toks : List TokV} {k : Nat} {e : Int}
theorem bAi{t:TokV}(h:toks[k]?=some t):atP toks k e=t.at_:=by unfold atP;rw [h]
theorem bIi(h:toks.length≤k):atP toks k e=e:=by unfold atP;rw [List.getElem?_eq_none h]
theorem rJ{t:TokV}(h:toks[k]?=some t):bP toks k=t:=by unfold bP;rw [h]
theorem yS(h:toks.length≤k):bP toks k=⟨4,0,[],0⟩:=by unfold bP;rw [List.getElem?_eq_none h]
end
structure Phr where
 how:Int
 at_:Int
 fn:Int
 flt:Flt
 next:Nat
def bQ (toks:List TokV)(k:Nat)(e:Int)(left:Bool):Phr:=
 if (bP toks (k+1)).kind=3∧((bP toks (k+1)).word=[47]∨(bP toks (k+1)).word=[92]∨(bP toks (k+1)).word=[46]) then
  if 17<gS (bP toks k).word∨((bP toks (k+1)).word==[46])≠left then ⟨if left then 4 else 3,(bP toks k).at_,gS (bP toks k).word,(atP toks k e,43),k+1+1⟩
  else ⟨if (bP toks (k+1)).word=[47] then 5 else if (bP toks (k+1)).word=[92] then 6 else 7,(bP toks k).at_,gS (bP toks k).word,if gS (bP toks k).word=0 then (atP toks k e,43) else (0,0),k+1+1⟩
 else ⟨if left then 4 else 3,(bP toks k).at_,gF (bP toks k).word left,if gF (bP toks k).word left=0 then (atP toks k e,43) else (0,0),k+1⟩
def phrV (p:Phr):Value:= .tuple #[.agg #[.int .i64 p.how,.int .i64 p.at_,.int .u8 p.fn,.string (bs []),.slice none 0 0],.agg #[.int .i64 p.flt.1,.int .i64 p.flt.2]]
theorem mA:(Tryz.prog.info? 52).bind (·.zero)=some (.agg #[.int .i64 0,.int .i64 0,.int .u8 0,.string (bs []),.slice none 0 0]):=by kernel_rfl
theorem pN(z0:Int)(z1:Int):Tryz.prog.built 52 [(0,.int .i64 z0),(1,.int .i64 z1)]=some #[.int .i64 z0,.int .i64 z1,.int .u8 0,.string (bs []),.slice none 0 0]:=by kernel_rfl
set_option maxRecDepth 100000 in
theorem at_spec(bl:Nat)(A:Option Addr)(c:Nat)(toks:List TokV)(k:Nat)(e:Int):dX Tryz.prog 134 [.pointer (some ⟨bl,0,none⟩)] [.obj bl (.cells [.slice A toks.length c,.int .i64 (k:Nat),.int .i64 e].toArray 102)] [kY.sl (.slice A toks.length c) toks] (fun(_:Unit)=> .int .i64 (atP toks k e)) (fun(_:Unit)=>[.obj bl (.cells [.slice A toks.length c,.int .i64 (k:Nat),.int .i64 e].toArray 102)]) (fun _=>[]):=by
 have hT:=fR;refine cW Tryz.func134 rfl Tryz.ntmps134 rfl ?_;intro β hM;refine sr<|sp hT ?_;refine nn<|bA<|bA<|cZ _ _ [(true,0),(true,1),(true,2),(true,3),(true,4),(true,5),(true,6),(true,7),(true,8),(true,9)] dD (by decide+kernel) (.cons .head .nil) bI.self ?_;refine puM hT ?_;refine puM hT ?_;refine puM hT ?_;refine stM rfl (ldO hT (fN .head)) ?_;refine puM hT ?_;refine puM hT ?_;refine puM hT ?_;refine stM rfl (ldO hT (bJ .head)) ?_;refine puM hT ?_;refine puM hT ?_;refine cQ<|bC<|bL rfl (fun hc12=>?_) (fun hc12=>?_)
 ·have hc12:=of_decide_eq_true hc12;refine bA<|cZ _ _ [(true,0),(true,1),(true,2),(true,3),(true,4),(true,5),(true,6),(true,7),(true,8),(true,9),(true,10),(true,11)] dD (by decide+kernel) (.cons .head .nil) bI.self ?_;refine puM hT ?_;refine puM hT ?_;refine puM hT ?_;refine stM rfl (ldO hT (bJ .head)) ?_;refine puM hT ?_;refine puM hT ?_;refine puM hT ?_;refine stM rfl (ldO hT (fN .head)) ?_
  obtain⟨x1,hx2⟩: ∃x,toks[k]?=some x:=⟨_,List.getElem?_eq_getElem (by omega)⟩
  refine stM rfl (bU hT (k:=k) (bK (Has.of mT0)) rfl rfl rfl rfl rfl rfl rfl (by omega)) ?_;refine puM hT ?_;refine stM rfl (cE hT (cN.knows (bK (Has.of mT0)) (k:=k) (x:=x1) hx2 1) rfl rfl rfl rfl rfl) ?_;refine puM hT ?_;refine cQ<|bC<|bF<|bB ?_;exact bV () rfl (bG rfl) (.cons .head .nil) trivial (by rw [bAi hx2])
 have hc12:=Int.not_lt.1 (of_decide_eq_false hc12);refine bN<|bC<|sr<|sp3 hT ?_;refine ss (ldO hT (dI .head)) ?_;refine sp hT ?_;refine nn<|bF ?_;exact bV () rfl (bG rfl) (.cons .head .nil) trivial (by rw [bIi (by omega)])
set_option maxRecDepth 100000 in
theorem iE(bl:Nat)(A:Option Addr)(c:Nat)(toks:List TokV)(k:Nat)(e:Int):dX Tryz.prog 73 [.pointer (some ⟨bl,0,none⟩)] [.obj bl (.cells [.slice A toks.length c,.int .i64 (k:Nat),.int .i64 e].toArray 102)] [kY.sl (.slice A toks.length c) toks] (fun(_:Unit)=>tokV (bP toks k)) (fun(_:Unit)=>[.obj bl (.cells [.slice A toks.length c,.int .i64 (k:Nat),.int .i64 e].toArray 102)]) (fun _=>[]):=by
 have hT:=fR;refine cW Tryz.func73 rfl Tryz.ntmps73 rfl ?_;intro β hM;refine sr<|bY rfl rfl rfl rfl vC rfl fun b1=>?_;refine nn<|bA<|bA<|cZ _ _ [(true,0),(true,1),(true,2),(true,3),(true,4),(true,5),(true,6),(true,7),(true,8),(true,9)] dD (by decide+kernel) (.cons .head (.cons .head .nil)) bI.self ?_;refine puM hT ?_;refine puM hT ?_;refine puM hT ?_;refine stM rfl (ldO hT (fN kT1)) ?_;refine puM hT ?_;refine puM hT ?_;refine puM hT ?_;refine stM rfl (ldO hT (bJ kT1)) ?_;refine puM hT ?_;refine puM hT ?_;refine cQ<|bC<|bL rfl (fun hc12=>?_) (fun hc12=>?_)
 ·have hc12:=of_decide_eq_true hc12;refine bA<|cZ _ _ [(true,0),(true,1),(true,2),(true,3),(true,4),(true,5),(true,6),(true,7),(true,8),(true,9),(false,10)] dD (by decide+kernel) (.cons kT1 .nil) bI.self ?_;refine puM hT ?_;refine puM hT ?_;refine puM hT ?_;refine stM rfl (ldO hT (bJ .head)) ?_;refine puM hT ?_;refine puM hT ?_;refine puM hT ?_;refine stM rfl (ldO hT (fN .head)) ?_
  obtain⟨x2,hx3⟩: ∃x,toks[k]?=some x:=⟨_,List.getElem?_eq_getElem (by omega)⟩
  refine stM rfl (bU hT (k:=k) (bK (Has.of mT0)) rfl rfl rfl rfl rfl rfl rfl (by omega)) ?_;refine stM rfl (dU hT (cN.knows (bK (Has.of mT0)) (k:=k) (x:=x2) hx3 0) rfl rfl rfl rfl rfl) ?_;refine cK (o:=_) rfl ?_;refine sto hT .head ?_;refine cL (.cons kT1 .nil) ⟨Has.of mT0,trivial⟩ ?_;refine cQ<|bC<|bF<|bB ?_;exact bV () rfl (bM hT (bJ .head) rfl rfl rfl rfl) (.cons kT1 .nil) trivial (by rw [rJ hx3];rfl)
 have hc12:=Int.not_lt.1 (of_decide_eq_false hc12);refine bN<|bC<|sr<|ss (cC rfl rfl (sQ _)) ?_;refine sto hT .head ?_;refine nn<|bF ?_;exact bV () rfl (bM hT (bJ .head) rfl rfl rfl rfl) (.cons kT1 .nil) trivial (by rw [yS (by omega)];rfl)
set_option maxRecDepth 100000 in
theorem cV(bl:Nat)(A:Option Addr)(c:Nat)(toks:List TokV)(k:Nat)(e:Int)(z:Int):dX Tryz.prog 74 [.pointer (some ⟨bl,0,none⟩),.int .i64 z] [.obj bl (.cells [.slice A toks.length c,.int .i64 (k:Nat),.int .i64 e].toArray 102)] [kY.sl (.slice A toks.length c) toks] (fun(_:Unit)=> .agg #[.int .i64 (atP toks k e),.int .i64 z]) (fun(_:Unit)=>[.obj bl (.cells [.slice A toks.length c,.int .i64 (k:Nat),.int .i64 e].toArray 102)]) (fun _=>[]):=by
 have hT:=fR;refine cW Tryz.func74 rfl Tryz.ntmps74 rfl ?_;intro β hM;refine sr<|bY rfl rfl rfl rfl xY rfl fun b1=>?_;refine nn<|sr<|sp hT ?_;refine bR Tryz.func134 (at_spec bl A c toks (k) e) rfl rfl (.cons kT1 .nil) ⟨Has.of mT0,trivial⟩ fun _=>?_;refine sp hT ?_;refine ss (cC rfl rfl (tI _ _)) ?_;refine sto hT kT1 ?_;refine nn<|bF ?_;exact bV () rfl (bM hT (bJ .head) rfl rfl rfl rfl) (.cons kT1 .nil) trivial (rfl)
set_option maxRecDepth 100000 in
theorem phraseT_spec(bl:Nat)(A:Option Addr)(c:Nat)(toks:List TokV)(k:Nat)(e:Int)(hk:k≤1000000):dX Tryz.prog 138 [.pointer (some ⟨bl,0,none⟩),.bool true] [.obj bl (.cells [.slice A toks.length c,.int .i64 (k:Nat),.int .i64 e].toArray 102)] [kY.sl (.slice A toks.length c) toks] (fun(_:Unit)=>phrV (bQ toks k e true)) (fun(_:Unit)=>[.obj bl (.cells [.slice A toks.length c,.int .i64 ((bQ toks k e true).next:Nat),.int .i64 e].toArray 102)]) (fun _=>[]):=by
 have hT:=fR;refine cW Tryz.func138 rfl Tryz.ntmps138 rfl ?_;intro β hM;refine sr<|bY rfl rfl rfl rfl mA rfl fun b1=>?_;refine bY rfl rfl rfl rfl xY rfl fun b2=>?_;refine nn<|sr<|sp hT ?_;refine bR Tryz.func73 (iE bl A c toks (k) e) rfl rfl (.cons kT2 .nil) ⟨Has.of mT0,trivial⟩ fun _=>?_;refine bY rfl rfl rfl rfl vC rfl fun b3=>?_;refine sto hT .head ?_;refine nn<|sr<|sp hT ?_;refine bR Tryz.func74 (cV bl A c toks (k) e _) rfl rfl (.cons kT1 .nil) ⟨Has.of mT0,trivial⟩ fun _=>?_;refine bY rfl rfl rfl rfl xY rfl fun b4=>?_;refine sto hT .head ?_;refine nn<|sr<|sp3 hT ?_;refine ss (ldO hT (fN kT1)) ?_;refine sp hT ?_;refine bT (z':=(((k+1):Nat):Int)) (cP (by omega) (by omega)) ?_;refine sp2 hT ?_;refine sto hT kT1 ?_;refine nn<|sr<|sp hT ?_;refine ss (ldO hT (fN kT2)) ?_;refine ss (cC rfl rfl (pN _ _)) ?_;refine bY rfl rfl rfl rfl mA rfl fun b5=>?_;refine sto hT .head ?_;refine nn<|bA<|sr<|sp hT ?_;refine nn<|cI rfl rfl ?_;refine bD<|sp hT ?_;refine sto hT .head ?_;refine nn<|sr<|sp hT ?_;refine ss (ldO hT (dI kT3)) ?_;refine sp hT ?_;refine bR Tryz.func166 (bCc _ true) rfl rfl .nil trivial fun _=>?_;refine sp4 hT ?_;refine sto hT .head ?_;refine nn<|bA<|sr<|sp hT ?_;refine bR Tryz.func73 (iE bl A c toks ((k+1)) e) rfl rfl (.cons kT1 .nil) ⟨Has.of mT0,trivial⟩ fun _=>?_;refine bY rfl rfl rfl rfl vC rfl fun b6=>?_;refine sto hT .head ?_;refine nn<|sr<|sp hT ?_;refine ss (ldO hT (bJ .head)) ?_;refine sp2 hT ?_;refine cF (fun hg39=>?_) (fun hg39=>?_)
 ·have hg39:=eq_of_beq hg39;refine sp hT ?_;refine ss (ldO hT (dI .head)) ?_;refine sp2 hT ?_;refine cF (fun hg43=>?_) (fun hg43=>?_)
  ·have hg43:(bP toks ((k+1))).word=([47]:Bs):=eq_of_beq hg43;refine sk3 ?_;refine sp2 hT ?_;refine sk3 ?_;refine sp2 hT ?_;refine nn<|cI rfl rfl ?_;refine sr<|sp3 hT ?_;refine ss (ldO hT (fN kT1)) ?_;refine sp hT ?_;refine bT (z':=((((k+1)+1):Nat):Int)) (cP (by omega) (by omega)) ?_;refine sp2 hT ?_;refine sto hT kT1 ?_;refine nn<|sr<|sp hT ?_;refine ss (ldO hT (dI kT4)) ?_;refine bR Tryz.func200 (jI _) rfl rfl .nil trivial fun _=>?_;refine sp hT ?_;refine sto hT kT2 ?_;refine nn<|bA<|sr<|sp hT ?_;refine ss (ldO hT (dI .head)) ?_;refine sp2 hT ?_;refine cF (fun hg68=>?_) (fun hg68=>?_)
   ·have hg68:=of_decide_eq_true hg68;refine sk4 ?_;refine sk ?_;refine sp hT ?_;refine nn<|cI rfl rfl ?_;refine bA<|cZ _ _ [(true,0),(true,1),(false,2),(false,3)] dD (by decide+kernel) (.cons .head (.cons .head (.cons .head (.cons .head (.cons .head .nil))))) bI.self ?_;refine stM rfl (ldN hT (bJ .head)) ?_;refine stM rfl (ldN hT (bJ kT3)) ?_;refine cK (o:=_) rfl ?_;refine sto hT kT6 ?_;refine cL (.cons kT1 (.cons kT1 (.cons kT1 (.cons kT1 (.cons kT1 .nil))))) ⟨Has.of mT0,trivial⟩ ?_;refine cK (o:=_) rfl ?_;refine sto hT kT6 ?_;refine cL (.cons kT2 (.cons kT2 (.cons kT2 (.cons kT2 (.cons kT2 .nil))))) ⟨Has.of mT0,trivial⟩ ?_;refine cQ<|bC<|bF<|bB<|bB ?_;have hph:bQ toks k e true=⟨4,(bP toks (k)).at_,(gS (bP toks k).word),((atP toks (k) e),43),((k+1)+1)⟩:=by first | (simp [bQ, *];done) | simp_all [bQ]
    rw [hph];exact bO () rfl (bM hT (bJ kT1) rfl rfl rfl rfl) (bM hT (bJ .head) rfl rfl rfl rfl) (.cons kT3 .nil) trivial (rfl)
   have hg68:=Int.not_lt.1 (of_decide_eq_false hg68);refine sp hT ?_;refine ss (ldO hT (dI kT2)) ?_;refine sp hT ?_;refine bZ (t':=false) ((by show((bP toks ((k+1))).word==([46]:Bs))=_;rw [hg43];rfl)) ?_;refine sp2 hT ?_;refine bZ (t':=true) rfl ?_;refine sp hT ?_;refine nn<|cI rfl rfl ?_;refine bA<|cZ _ _ [(true,0),(true,1),(false,2),(false,3)] dD (by decide+kernel) (.cons .head (.cons .head (.cons .head (.cons .head (.cons .head .nil))))) bI.self ?_;refine stM rfl (ldN hT (bJ .head)) ?_;refine stM rfl (ldN hT (bJ kT3)) ?_;refine cK (o:=_) rfl ?_;refine sto hT kT6 ?_;refine cL (.cons kT1 (.cons kT1 (.cons kT1 (.cons kT1 (.cons kT1 .nil))))) ⟨Has.of mT0,trivial⟩ ?_;refine cK (o:=_) rfl ?_;refine sto hT kT6 ?_;refine cL (.cons kT2 (.cons kT2 (.cons kT2 (.cons kT2 (.cons kT2 .nil))))) ⟨Has.of mT0,trivial⟩ ?_;refine cQ<|bC<|bF<|bB<|bB ?_;have hph:bQ toks k e true=⟨4,(bP toks (k)).at_,(gS (bP toks k).word),((atP toks (k) e),43),((k+1)+1)⟩:=by first | (simp [bQ, *];done) | simp_all [bQ]
   rw [hph];exact bO () rfl (bM hT (bJ kT1) rfl rfl rfl rfl) (bM hT (bJ .head) rfl rfl rfl rfl) (.cons kT3 .nil) trivial (rfl)
  have hg43:(bP toks ((k+1))).word≠([47]:Bs):=fun h=>absurd (beq_iff_eq.2 h) (by rw [show((bP toks ((k+1))).word==([47]:Bs))=false from hg43];simp);refine sp hT ?_;refine ss (ldO hT (dI .head)) ?_;refine sp3 hT ?_;refine cF (fun hg48=>?_) (fun hg48=>?_)
  ·have hg48:(bP toks ((k+1))).word=([92]:Bs):=eq_of_beq hg48;refine sk3 ?_;refine sp2 hT ?_;refine nn<|cI rfl rfl ?_;refine sr<|sp3 hT ?_;refine ss (ldO hT (fN kT1)) ?_;refine sp hT ?_;refine bT (z':=((((k+1)+1):Nat):Int)) (cP (by omega) (by omega)) ?_;refine sp2 hT ?_;refine sto hT kT1 ?_;refine nn<|sr<|sp hT ?_;refine ss (ldO hT (dI kT4)) ?_;refine bR Tryz.func200 (jI _) rfl rfl .nil trivial fun _=>?_;refine sp hT ?_;refine sto hT kT2 ?_;refine nn<|bA<|sr<|sp hT ?_;refine ss (ldO hT (dI .head)) ?_;refine sp2 hT ?_;refine cF (fun hg68=>?_) (fun hg68=>?_)
   ·have hg68:=of_decide_eq_true hg68;refine sk4 ?_;refine sk ?_;refine sp hT ?_;refine nn<|cI rfl rfl ?_;refine bA<|cZ _ _ [(true,0),(true,1),(false,2),(false,3)] dD (by decide+kernel) (.cons .head (.cons .head (.cons .head (.cons .head (.cons .head .nil))))) bI.self ?_;refine stM rfl (ldN hT (bJ .head)) ?_;refine stM rfl (ldN hT (bJ kT3)) ?_;refine cK (o:=_) rfl ?_;refine sto hT kT6 ?_;refine cL (.cons kT1 (.cons kT1 (.cons kT1 (.cons kT1 (.cons kT1 .nil))))) ⟨Has.of mT0,trivial⟩ ?_;refine cK (o:=_) rfl ?_;refine sto hT kT6 ?_;refine cL (.cons kT2 (.cons kT2 (.cons kT2 (.cons kT2 (.cons kT2 .nil))))) ⟨Has.of mT0,trivial⟩ ?_;refine cQ<|bC<|bF<|bB<|bB ?_;have hph:bQ toks k e true=⟨4,(bP toks (k)).at_,(gS (bP toks k).word),((atP toks (k) e),43),((k+1)+1)⟩:=by first | (simp [bQ, *];done) | simp_all [bQ]
    rw [hph];exact bO () rfl (bM hT (bJ kT1) rfl rfl rfl rfl) (bM hT (bJ .head) rfl rfl rfl rfl) (.cons kT3 .nil) trivial (rfl)
   have hg68:=Int.not_lt.1 (of_decide_eq_false hg68);refine sp hT ?_;refine ss (ldO hT (dI kT2)) ?_;refine sp hT ?_;refine bZ (t':=false) ((by show((bP toks ((k+1))).word==([46]:Bs))=_;rw [hg48];rfl)) ?_;refine sp2 hT ?_;refine bZ (t':=true) rfl ?_;refine sp hT ?_;refine nn<|cI rfl rfl ?_;refine bA<|cZ _ _ [(true,0),(true,1),(false,2),(false,3)] dD (by decide+kernel) (.cons .head (.cons .head (.cons .head (.cons .head (.cons .head .nil))))) bI.self ?_;refine stM rfl (ldN hT (bJ .head)) ?_;refine stM rfl (ldN hT (bJ kT3)) ?_;refine cK (o:=_) rfl ?_;refine sto hT kT6 ?_;refine cL (.cons kT1 (.cons kT1 (.cons kT1 (.cons kT1 (.cons kT1 .nil))))) ⟨Has.of mT0,trivial⟩ ?_;refine cK (o:=_) rfl ?_;refine sto hT kT6 ?_;refine cL (.cons kT2 (.cons kT2 (.cons kT2 (.cons kT2 (.cons kT2 .nil))))) ⟨Has.of mT0,trivial⟩ ?_;refine cQ<|bC<|bF<|bB<|bB ?_;have hph:bQ toks k e true=⟨4,(bP toks (k)).at_,(gS (bP toks k).word),((atP toks (k) e),43),((k+1)+1)⟩:=by first | (simp [bQ, *];done) | simp_all [bQ]
   rw [hph];exact bO () rfl (bM hT (bJ kT1) rfl rfl rfl rfl) (bM hT (bJ .head) rfl rfl rfl rfl) (.cons kT3 .nil) trivial (rfl)
  have hg48:(bP toks ((k+1))).word≠([92]:Bs):=fun h=>absurd (beq_iff_eq.2 h) (by rw [show((bP toks ((k+1))).word==([92]:Bs))=false from hg48];simp);refine sp hT ?_;refine ss (ldO hT (dI .head)) ?_;refine sp3 hT ?_;refine nn<|bL rfl (fun hc53=>?_) (fun hc53=>?_)
  ·have hc53:(bP toks ((k+1))).word=([46]:Bs):=eq_of_beq hc53;refine sr<|sp3 hT ?_;refine ss (ldO hT (fN kT1)) ?_;refine sp hT ?_;refine bT (z':=((((k+1)+1):Nat):Int)) (cP (by omega) (by omega)) ?_;refine sp2 hT ?_;refine sto hT kT1 ?_;refine nn<|sr<|sp hT ?_;refine ss (ldO hT (dI kT4)) ?_;refine bR Tryz.func200 (jI _) rfl rfl .nil trivial fun _=>?_;refine sp hT ?_;refine sto hT kT2 ?_;refine nn<|bA<|sr<|sp hT ?_;refine ss (ldO hT (dI .head)) ?_;refine sp2 hT ?_;refine cF (fun hg68=>?_) (fun hg68=>?_)
   ·have hg68:=of_decide_eq_true hg68;refine sk4 ?_;refine sk ?_;refine sp hT ?_;refine nn<|cI rfl rfl ?_;refine bA<|cZ _ _ [(true,0),(true,1),(false,2),(false,3)] dD (by decide+kernel) (.cons .head (.cons .head (.cons .head (.cons .head (.cons .head .nil))))) bI.self ?_;refine stM rfl (ldN hT (bJ .head)) ?_;refine stM rfl (ldN hT (bJ kT3)) ?_;refine cK (o:=_) rfl ?_;refine sto hT kT6 ?_;refine cL (.cons kT1 (.cons kT1 (.cons kT1 (.cons kT1 (.cons kT1 .nil))))) ⟨Has.of mT0,trivial⟩ ?_;refine cK (o:=_) rfl ?_;refine sto hT kT6 ?_;refine cL (.cons kT2 (.cons kT2 (.cons kT2 (.cons kT2 (.cons kT2 .nil))))) ⟨Has.of mT0,trivial⟩ ?_;refine cQ<|bC<|bF<|bB<|bB ?_;have hph:bQ toks k e true=⟨4,(bP toks (k)).at_,(gS (bP toks k).word),((atP toks (k) e),43),((k+1)+1)⟩:=by first | (simp [bQ, *];done) | simp_all [bQ]
    rw [hph];exact bO () rfl (bM hT (bJ kT1) rfl rfl rfl rfl) (bM hT (bJ .head) rfl rfl rfl rfl) (.cons kT3 .nil) trivial (rfl)
   have hg68:=Int.not_lt.1 (of_decide_eq_false hg68);refine sp hT ?_;refine ss (ldO hT (dI kT2)) ?_;refine sp hT ?_;refine bZ (t':=true) ((by show((bP toks ((k+1))).word==([46]:Bs))=_;rw [hc53];rfl)) ?_;refine sp2 hT ?_;refine bZ (t':=false) rfl ?_;refine sp hT ?_;refine nn<|cG rfl rfl ?_;refine bN<|bC<|sr<|sp hT ?_;refine ss (ldO hT (dI kT2)) ?_;refine nn<|bX<|sr<|sp hT ?_;refine bZ (t':=false) ((by show((bP toks ((k+1))).word==([47]:Bs))=_;rw [hc53];rfl)) ?_;refine sp hT ?_;refine nn<|cG rfl rfl ?_;refine sr<|sp hT ?_;refine bZ (t':=false) ((by show((bP toks ((k+1))).word==([92]:Bs))=_;rw [hc53];rfl)) ?_;refine sp hT ?_;refine nn<|cG rfl rfl ?_;refine bD<|sp hT ?_;refine sto hT .head ?_;refine dY<|cD<|bC<|bA<|sr<|sp hT ?_;refine ss (ldO hT (dI .head)) ?_;refine sp hT ?_;refine nn<|bL rfl (fun hc88=>?_) (fun hc88=>?_)
   ·have hc88:=eq_of_beq hc88;refine bA<|cZ _ _ [(true,0),(true,1),(false,2),(false,3)] dD (by decide+kernel) (.cons .head (.cons .head (.cons .head (.cons .head (.cons .head .nil))))) bI.self ?_;refine stM rfl (ldN hT (bJ .head)) ?_;refine stM rfl (ldN hT (bJ kT3)) ?_;refine cK (o:=_) rfl ?_;refine sto hT kT6 ?_;refine cL (.cons kT1 (.cons kT1 (.cons kT1 (.cons kT1 (.cons kT1 .nil))))) ⟨Has.of mT0,trivial⟩ ?_;refine cK (o:=_) rfl ?_;refine sto hT kT6 ?_;refine cL (.cons kT2 (.cons kT2 (.cons kT2 (.cons kT2 (.cons kT2 .nil))))) ⟨Has.of mT0,trivial⟩ ?_;refine cQ<|bC<|bF<|bB ?_;have hph:bQ toks k e true=⟨7,(bP toks (k)).at_,(gS (bP toks k).word),((atP toks (k) e),43),((k+1)+1)⟩:=by first | (simp [bQ, *];done) | simp_all [bQ]
    rw [hph];exact bO () rfl (bM hT (bJ kT1) rfl rfl rfl rfl) (bM hT (bJ .head) rfl rfl rfl rfl) (.cons kT3 .nil) trivial (rfl)
   have hc88:=beq_eq_false_iff_ne.1 hc88;refine bN<|bC<|sr<|ss (ldN hT (bJ .head)) ?_;refine ss (cC rfl rfl (vZ)) ?_;refine sto hT kT6 ?_;refine sto hT kT6 ?_;refine nn<|bF ?_;have hph:bQ toks k e true=⟨7,(bP toks (k)).at_,(gS (bP toks k).word),(0,0),((k+1)+1)⟩:=by first | (simp [bQ, *];done) | simp_all [bQ]
   rw [hph];exact bO () rfl (bM hT (bJ kT1) rfl rfl rfl rfl) (bM hT (bJ .head) rfl rfl rfl rfl) (.cons kT3 .nil) trivial (rfl)
  have hc53:(bP toks ((k+1))).word≠([46]:Bs):=fun h=>absurd (beq_iff_eq.2 h) (by rw [show((bP toks ((k+1))).word==([46]:Bs))=false from hc53];simp);refine bN<|bC<|bA<|sr<|sp hT ?_;refine ss (ldO hT (dI kT2)) ?_;refine sp hT ?_;refine nn<|bL rfl (fun hc88=>?_) (fun hc88=>?_)
  ·have hc88:=eq_of_beq hc88;refine bA<|cZ _ _ [(true,0),(true,1),(false,2),(false,3)] dD (by decide+kernel) (.cons .head (.cons .head (.cons .head (.cons .head (.cons .head .nil))))) bI.self ?_;refine stM rfl (ldN hT (bJ kT2)) ?_;refine stM rfl (ldN hT (bJ kT3)) ?_;refine cK (o:=_) rfl ?_;refine sto hT kT6 ?_;refine cL (.cons kT1 (.cons kT1 (.cons kT1 (.cons kT1 (.cons kT1 .nil))))) ⟨Has.of mT0,trivial⟩ ?_;refine cK (o:=_) rfl ?_;refine sto hT kT6 ?_;refine cL (.cons kT2 (.cons kT2 (.cons kT2 (.cons kT2 (.cons kT2 .nil))))) ⟨Has.of mT0,trivial⟩ ?_;refine cQ<|bC<|bF<|bB ?_;have hph:bQ toks k e true=⟨4,(bP toks (k)).at_,(gF (bP toks k).word true),((atP toks (k) e),43),(k+1)⟩:=by first | (simp [bQ, *];done) | simp_all [bQ]
   rw [hph];exact bO () rfl (bM hT (bJ kT1) rfl rfl rfl rfl) (bM hT (bJ .head) rfl rfl rfl rfl) (.cons kT3 .nil) trivial (rfl)
  have hc88:=beq_eq_false_iff_ne.1 hc88;refine bN<|bC<|sr<|ss (ldN hT (bJ kT2)) ?_;refine ss (cC rfl rfl (vZ)) ?_;refine sto hT kT6 ?_;refine sto hT kT6 ?_;refine nn<|bF ?_;have hph:bQ toks k e true=⟨4,(bP toks (k)).at_,(gF (bP toks k).word true),(0,0),(k+1)⟩:=by first | (simp [bQ, *];done) | simp_all [bQ]
  rw [hph];exact bO () rfl (bM hT (bJ kT1) rfl rfl rfl rfl) (bM hT (bJ .head) rfl rfl rfl rfl) (.cons kT3 .nil) trivial (rfl)
 have hg39:=beq_eq_false_iff_ne.1 hg39;refine sk4 ?_;refine sk4 ?_;refine sk4 ?_;refine sk ?_;refine sp hT ?_;refine nn<|cG rfl rfl ?_;refine bN<|bC<|bA<|sr<|sp hT ?_;refine ss (ldO hT (dI kT2)) ?_;refine sp hT ?_;refine nn<|bL rfl (fun hc88=>?_) (fun hc88=>?_)
 ·have hc88:=eq_of_beq hc88;refine bA<|cZ _ _ [(true,0),(true,1),(false,2),(false,3)] dD (by decide+kernel) (.cons .head (.cons .head (.cons .head (.cons .head (.cons .head .nil))))) bI.self ?_;refine stM rfl (ldN hT (bJ kT2)) ?_;refine stM rfl (ldN hT (bJ kT3)) ?_;refine cK (o:=_) rfl ?_;refine sto hT kT6 ?_;refine cL (.cons kT1 (.cons kT1 (.cons kT1 (.cons kT1 (.cons kT1 .nil))))) ⟨Has.of mT0,trivial⟩ ?_;refine cK (o:=_) rfl ?_;refine sto hT kT6 ?_;refine cL (.cons kT2 (.cons kT2 (.cons kT2 (.cons kT2 (.cons kT2 .nil))))) ⟨Has.of mT0,trivial⟩ ?_;refine cQ<|bC<|bF<|bB ?_;have hph:bQ toks k e true=⟨4,(bP toks (k)).at_,(gF (bP toks k).word true),((atP toks (k) e),43),(k+1)⟩:=by first | (simp [bQ, *];done) | simp_all [bQ]
  rw [hph];exact bO () rfl (bM hT (bJ kT1) rfl rfl rfl rfl) (bM hT (bJ .head) rfl rfl rfl rfl) (.cons kT3 .nil) trivial (rfl)
 have hc88:=beq_eq_false_iff_ne.1 hc88;refine bN<|bC<|sr<|ss (ldN hT (bJ kT2)) ?_;refine ss (cC rfl rfl (vZ)) ?_;refine sto hT kT6 ?_;refine sto hT kT6 ?_;refine nn<|bF ?_;have hph:bQ toks k e true=⟨4,(bP toks (k)).at_,(gF (bP toks k).word true),(0,0),(k+1)⟩:=by first | (simp [bQ, *];done) | simp_all [bQ]
 rw [hph];exact bO () rfl (bM hT (bJ kT1) rfl rfl rfl rfl) (bM hT (bJ .head) rfl rfl rfl rfl) (.cons kT3 .nil) trivial (rfl)
set_option maxRecDepth 100000 in
theorem phraseF_spec(bl:Nat)(A:Option Addr)(c:Nat)(toks:List TokV)(k:Nat)(e:Int)(hk:k≤1000000):dX Tryz.prog 138 [.pointer (some ⟨bl,0,none⟩),.bool false] [.obj bl (.cells [.slice A toks.length c,.int .i64 (k:Nat),.int .i64 e].toArray 102)] [kY.sl (.slice A toks.length c) toks] (fun(_:Unit)=>phrV (bQ toks k e false)) (fun(_:Unit)=>[.obj bl (.cells [.slice A toks.length c,.int .i64 ((bQ toks k e false).next:Nat),.int .i64 e].toArray 102)]) (fun _=>[]):=by
 have hT:=fR;refine cW Tryz.func138 rfl Tryz.ntmps138 rfl ?_;intro β hM;refine sr<|bY rfl rfl rfl rfl mA rfl fun b1=>?_;refine bY rfl rfl rfl rfl xY rfl fun b2=>?_;refine nn<|sr<|sp hT ?_;refine bR Tryz.func73 (iE bl A c toks (k) e) rfl rfl (.cons kT2 .nil) ⟨Has.of mT0,trivial⟩ fun _=>?_;refine bY rfl rfl rfl rfl vC rfl fun b3=>?_;refine sto hT .head ?_;refine nn<|sr<|sp hT ?_;refine bR Tryz.func74 (cV bl A c toks (k) e _) rfl rfl (.cons kT1 .nil) ⟨Has.of mT0,trivial⟩ fun _=>?_;refine bY rfl rfl rfl rfl xY rfl fun b4=>?_;refine sto hT .head ?_;refine nn<|sr<|sp3 hT ?_;refine ss (ldO hT (fN kT1)) ?_;refine sp hT ?_;refine bT (z':=(((k+1):Nat):Int)) (cP (by omega) (by omega)) ?_;refine sp2 hT ?_;refine sto hT kT1 ?_;refine nn<|sr<|sp hT ?_;refine ss (ldO hT (fN kT2)) ?_;refine ss (cC rfl rfl (pN _ _)) ?_;refine bY rfl rfl rfl rfl mA rfl fun b5=>?_;refine sto hT .head ?_;refine nn<|bA<|sr<|sp hT ?_;refine nn<|cG rfl rfl ?_;refine bN<|bC<|sr<|sp hT ?_;refine ss (ldO hT (dI kT3)) ?_;refine sp hT ?_;refine bR Tryz.func166 (bCc _ false) rfl rfl .nil trivial fun _=>?_;refine sp4 hT ?_;refine sto hT .head ?_;refine nn<|bA<|sr<|sp hT ?_;refine bR Tryz.func73 (iE bl A c toks ((k+1)) e) rfl rfl (.cons kT1 .nil) ⟨Has.of mT0,trivial⟩ fun _=>?_;refine bY rfl rfl rfl rfl vC rfl fun b6=>?_;refine sto hT .head ?_;refine nn<|sr<|sp hT ?_;refine ss (ldO hT (bJ .head)) ?_;refine sp2 hT ?_;refine cF (fun hg39=>?_) (fun hg39=>?_)
 ·have hg39:=eq_of_beq hg39;refine sp hT ?_;refine ss (ldO hT (dI .head)) ?_;refine sp2 hT ?_;refine cF (fun hg43=>?_) (fun hg43=>?_)
  ·have hg43:(bP toks ((k+1))).word=([47]:Bs):=eq_of_beq hg43;refine sk3 ?_;refine sp2 hT ?_;refine sk3 ?_;refine sp2 hT ?_;refine nn<|cI rfl rfl ?_;refine sr<|sp3 hT ?_;refine ss (ldO hT (fN kT1)) ?_;refine sp hT ?_;refine bT (z':=((((k+1)+1):Nat):Int)) (cP (by omega) (by omega)) ?_;refine sp2 hT ?_;refine sto hT kT1 ?_;refine nn<|sr<|sp hT ?_;refine ss (ldO hT (dI kT4)) ?_;refine bR Tryz.func200 (jI _) rfl rfl .nil trivial fun _=>?_;refine sp hT ?_;refine sto hT kT2 ?_;refine nn<|bA<|sr<|sp hT ?_;refine ss (ldO hT (dI .head)) ?_;refine sp2 hT ?_;refine cF (fun hg68=>?_) (fun hg68=>?_)
   ·have hg68:=of_decide_eq_true hg68;refine sk4 ?_;refine sk ?_;refine sp hT ?_;refine nn<|cI rfl rfl ?_;refine bA<|cZ _ _ [(true,0),(true,1),(false,2),(false,3)] dD (by decide+kernel) (.cons .head (.cons .head (.cons .head (.cons .head (.cons .head .nil))))) bI.self ?_;refine stM rfl (ldN hT (bJ .head)) ?_;refine stM rfl (ldN hT (bJ kT3)) ?_;refine cK (o:=_) rfl ?_;refine sto hT kT6 ?_;refine cL (.cons kT1 (.cons kT1 (.cons kT1 (.cons kT1 (.cons kT1 .nil))))) ⟨Has.of mT0,trivial⟩ ?_;refine cK (o:=_) rfl ?_;refine sto hT kT6 ?_;refine cL (.cons kT2 (.cons kT2 (.cons kT2 (.cons kT2 (.cons kT2 .nil))))) ⟨Has.of mT0,trivial⟩ ?_;refine cQ<|bC<|bF<|bB<|bB ?_;have hph:bQ toks k e false=⟨3,(bP toks (k)).at_,(gS (bP toks k).word),((atP toks (k) e),43),((k+1)+1)⟩:=by first | (simp [bQ, *];done) | simp_all [bQ]
    rw [hph];exact bO () rfl (bM hT (bJ kT1) rfl rfl rfl rfl) (bM hT (bJ .head) rfl rfl rfl rfl) (.cons kT3 .nil) trivial (rfl)
   have hg68:=Int.not_lt.1 (of_decide_eq_false hg68);refine sp hT ?_;refine ss (ldO hT (dI kT2)) ?_;refine sp hT ?_;refine bZ (t':=false) ((by show((bP toks ((k+1))).word==([46]:Bs))=_;rw [hg43];rfl)) ?_;refine sp2 hT ?_;refine bZ (t':=false) rfl ?_;refine sp hT ?_;refine nn<|cG rfl rfl ?_;refine bN<|bC<|sr<|sp hT ?_;refine ss (ldO hT (dI kT2)) ?_;refine nn<|bX<|sr<|sp hT ?_;refine bZ (t':=true) ((by show((bP toks ((k+1))).word==([47]:Bs))=_;rw [hg43];rfl)) ?_;refine sp hT ?_;refine nn<|cI rfl rfl ?_;refine bD<|sp hT ?_;refine sto hT .head ?_;refine dY<|cD<|bC<|bA<|sr<|sp hT ?_;refine ss (ldO hT (dI .head)) ?_;refine sp hT ?_;refine nn<|bL rfl (fun hc88=>?_) (fun hc88=>?_)
   ·have hc88:=eq_of_beq hc88;refine bA<|cZ _ _ [(true,0),(true,1),(false,2),(false,3)] dD (by decide+kernel) (.cons .head (.cons .head (.cons .head (.cons .head (.cons .head .nil))))) bI.self ?_;refine stM rfl (ldN hT (bJ .head)) ?_;refine stM rfl (ldN hT (bJ kT3)) ?_;refine cK (o:=_) rfl ?_;refine sto hT kT6 ?_;refine cL (.cons kT1 (.cons kT1 (.cons kT1 (.cons kT1 (.cons kT1 .nil))))) ⟨Has.of mT0,trivial⟩ ?_;refine cK (o:=_) rfl ?_;refine sto hT kT6 ?_;refine cL (.cons kT2 (.cons kT2 (.cons kT2 (.cons kT2 (.cons kT2 .nil))))) ⟨Has.of mT0,trivial⟩ ?_;refine cQ<|bC<|bF<|bB ?_;have hph:bQ toks k e false=⟨5,(bP toks (k)).at_,(gS (bP toks k).word),((atP toks (k) e),43),((k+1)+1)⟩:=by first | (simp [bQ, *];done) | simp_all [bQ]
    rw [hph];exact bO () rfl (bM hT (bJ kT1) rfl rfl rfl rfl) (bM hT (bJ .head) rfl rfl rfl rfl) (.cons kT3 .nil) trivial (rfl)
   have hc88:=beq_eq_false_iff_ne.1 hc88;refine bN<|bC<|sr<|ss (ldN hT (bJ .head)) ?_;refine ss (cC rfl rfl (vZ)) ?_;refine sto hT kT6 ?_;refine sto hT kT6 ?_;refine nn<|bF ?_;have hph:bQ toks k e false=⟨5,(bP toks (k)).at_,(gS (bP toks k).word),(0,0),((k+1)+1)⟩:=by first | (simp [bQ, *];done) | simp_all [bQ]
   rw [hph];exact bO () rfl (bM hT (bJ kT1) rfl rfl rfl rfl) (bM hT (bJ .head) rfl rfl rfl rfl) (.cons kT3 .nil) trivial (rfl)
  have hg43:(bP toks ((k+1))).word≠([47]:Bs):=fun h=>absurd (beq_iff_eq.2 h) (by rw [show((bP toks ((k+1))).word==([47]:Bs))=false from hg43];simp);refine sp hT ?_;refine ss (ldO hT (dI .head)) ?_;refine sp3 hT ?_;refine cF (fun hg48=>?_) (fun hg48=>?_)
  ·have hg48:(bP toks ((k+1))).word=([92]:Bs):=eq_of_beq hg48;refine sk3 ?_;refine sp2 hT ?_;refine nn<|cI rfl rfl ?_;refine sr<|sp3 hT ?_;refine ss (ldO hT (fN kT1)) ?_;refine sp hT ?_;refine bT (z':=((((k+1)+1):Nat):Int)) (cP (by omega) (by omega)) ?_;refine sp2 hT ?_;refine sto hT kT1 ?_;refine nn<|sr<|sp hT ?_;refine ss (ldO hT (dI kT4)) ?_;refine bR Tryz.func200 (jI _) rfl rfl .nil trivial fun _=>?_;refine sp hT ?_;refine sto hT kT2 ?_;refine nn<|bA<|sr<|sp hT ?_;refine ss (ldO hT (dI .head)) ?_;refine sp2 hT ?_;refine cF (fun hg68=>?_) (fun hg68=>?_)
   ·have hg68:=of_decide_eq_true hg68;refine sk4 ?_;refine sk ?_;refine sp hT ?_;refine nn<|cI rfl rfl ?_;refine bA<|cZ _ _ [(true,0),(true,1),(false,2),(false,3)] dD (by decide+kernel) (.cons .head (.cons .head (.cons .head (.cons .head (.cons .head .nil))))) bI.self ?_;refine stM rfl (ldN hT (bJ .head)) ?_;refine stM rfl (ldN hT (bJ kT3)) ?_;refine cK (o:=_) rfl ?_;refine sto hT kT6 ?_;refine cL (.cons kT1 (.cons kT1 (.cons kT1 (.cons kT1 (.cons kT1 .nil))))) ⟨Has.of mT0,trivial⟩ ?_;refine cK (o:=_) rfl ?_;refine sto hT kT6 ?_;refine cL (.cons kT2 (.cons kT2 (.cons kT2 (.cons kT2 (.cons kT2 .nil))))) ⟨Has.of mT0,trivial⟩ ?_;refine cQ<|bC<|bF<|bB<|bB ?_;have hph:bQ toks k e false=⟨3,(bP toks (k)).at_,(gS (bP toks k).word),((atP toks (k) e),43),((k+1)+1)⟩:=by first | (simp [bQ, *];done) | simp_all [bQ]
    rw [hph];exact bO () rfl (bM hT (bJ kT1) rfl rfl rfl rfl) (bM hT (bJ .head) rfl rfl rfl rfl) (.cons kT3 .nil) trivial (rfl)
   have hg68:=Int.not_lt.1 (of_decide_eq_false hg68);refine sp hT ?_;refine ss (ldO hT (dI kT2)) ?_;refine sp hT ?_;refine bZ (t':=false) ((by show((bP toks ((k+1))).word==([46]:Bs))=_;rw [hg48];rfl)) ?_;refine sp2 hT ?_;refine bZ (t':=false) rfl ?_;refine sp hT ?_;refine nn<|cG rfl rfl ?_;refine bN<|bC<|sr<|sp hT ?_;refine ss (ldO hT (dI kT2)) ?_;refine nn<|bX<|sr<|sp hT ?_;refine bZ (t':=false) ((by show((bP toks ((k+1))).word==([47]:Bs))=_;rw [hg48];rfl)) ?_;refine sp hT ?_;refine nn<|cG rfl rfl ?_;refine sr<|sp hT ?_;refine bZ (t':=true) ((by show((bP toks ((k+1))).word==([92]:Bs))=_;rw [hg48];rfl)) ?_;refine sp hT ?_;refine nn<|cI rfl rfl ?_;refine bD<|sp hT ?_;refine sto hT .head ?_;refine dY<|cD<|bC<|bA<|sr<|sp hT ?_;refine ss (ldO hT (dI .head)) ?_;refine sp hT ?_;refine nn<|bL rfl (fun hc88=>?_) (fun hc88=>?_)
   ·have hc88:=eq_of_beq hc88;refine bA<|cZ _ _ [(true,0),(true,1),(false,2),(false,3)] dD (by decide+kernel) (.cons .head (.cons .head (.cons .head (.cons .head (.cons .head .nil))))) bI.self ?_;refine stM rfl (ldN hT (bJ .head)) ?_;refine stM rfl (ldN hT (bJ kT3)) ?_;refine cK (o:=_) rfl ?_;refine sto hT kT6 ?_;refine cL (.cons kT1 (.cons kT1 (.cons kT1 (.cons kT1 (.cons kT1 .nil))))) ⟨Has.of mT0,trivial⟩ ?_;refine cK (o:=_) rfl ?_;refine sto hT kT6 ?_;refine cL (.cons kT2 (.cons kT2 (.cons kT2 (.cons kT2 (.cons kT2 .nil))))) ⟨Has.of mT0,trivial⟩ ?_;refine cQ<|bC<|bF<|bB ?_;have hph:bQ toks k e false=⟨6,(bP toks (k)).at_,(gS (bP toks k).word),((atP toks (k) e),43),((k+1)+1)⟩:=by first | (simp [bQ, *];done) | simp_all [bQ]
    rw [hph];exact bO () rfl (bM hT (bJ kT1) rfl rfl rfl rfl) (bM hT (bJ .head) rfl rfl rfl rfl) (.cons kT3 .nil) trivial (rfl)
   have hc88:=beq_eq_false_iff_ne.1 hc88;refine bN<|bC<|sr<|ss (ldN hT (bJ .head)) ?_;refine ss (cC rfl rfl (vZ)) ?_;refine sto hT kT6 ?_;refine sto hT kT6 ?_;refine nn<|bF ?_;have hph:bQ toks k e false=⟨6,(bP toks (k)).at_,(gS (bP toks k).word),(0,0),((k+1)+1)⟩:=by first | (simp [bQ, *];done) | simp_all [bQ]
   rw [hph];exact bO () rfl (bM hT (bJ kT1) rfl rfl rfl rfl) (bM hT (bJ .head) rfl rfl rfl rfl) (.cons kT3 .nil) trivial (rfl)
  have hg48:(bP toks ((k+1))).word≠([92]:Bs):=fun h=>absurd (beq_iff_eq.2 h) (by rw [show((bP toks ((k+1))).word==([92]:Bs))=false from hg48];simp);refine sp hT ?_;refine ss (ldO hT (dI .head)) ?_;refine sp3 hT ?_;refine nn<|bL rfl (fun hc53=>?_) (fun hc53=>?_)
  ·have hc53:(bP toks ((k+1))).word=([46]:Bs):=eq_of_beq hc53;refine sr<|sp3 hT ?_;refine ss (ldO hT (fN kT1)) ?_;refine sp hT ?_;refine bT (z':=((((k+1)+1):Nat):Int)) (cP (by omega) (by omega)) ?_;refine sp2 hT ?_;refine sto hT kT1 ?_;refine nn<|sr<|sp hT ?_;refine ss (ldO hT (dI kT4)) ?_;refine bR Tryz.func200 (jI _) rfl rfl .nil trivial fun _=>?_;refine sp hT ?_;refine sto hT kT2 ?_;refine nn<|bA<|sr<|sp hT ?_;refine ss (ldO hT (dI .head)) ?_;refine sp2 hT ?_;refine cF (fun hg68=>?_) (fun hg68=>?_)
   ·have hg68:=of_decide_eq_true hg68;refine sk4 ?_;refine sk ?_;refine sp hT ?_;refine nn<|cI rfl rfl ?_;refine bA<|cZ _ _ [(true,0),(true,1),(false,2),(false,3)] dD (by decide+kernel) (.cons .head (.cons .head (.cons .head (.cons .head (.cons .head .nil))))) bI.self ?_;refine stM rfl (ldN hT (bJ .head)) ?_;refine stM rfl (ldN hT (bJ kT3)) ?_;refine cK (o:=_) rfl ?_;refine sto hT kT6 ?_;refine cL (.cons kT1 (.cons kT1 (.cons kT1 (.cons kT1 (.cons kT1 .nil))))) ⟨Has.of mT0,trivial⟩ ?_;refine cK (o:=_) rfl ?_;refine sto hT kT6 ?_;refine cL (.cons kT2 (.cons kT2 (.cons kT2 (.cons kT2 (.cons kT2 .nil))))) ⟨Has.of mT0,trivial⟩ ?_;refine cQ<|bC<|bF<|bB<|bB ?_;have hph:bQ toks k e false=⟨3,(bP toks (k)).at_,(gS (bP toks k).word),((atP toks (k) e),43),((k+1)+1)⟩:=by first | (simp [bQ, *];done) | simp_all [bQ]
    rw [hph];exact bO () rfl (bM hT (bJ kT1) rfl rfl rfl rfl) (bM hT (bJ .head) rfl rfl rfl rfl) (.cons kT3 .nil) trivial (rfl)
   have hg68:=Int.not_lt.1 (of_decide_eq_false hg68);refine sp hT ?_;refine ss (ldO hT (dI kT2)) ?_;refine sp hT ?_;refine bZ (t':=true) ((by show((bP toks ((k+1))).word==([46]:Bs))=_;rw [hc53];rfl)) ?_;refine sp2 hT ?_;refine bZ (t':=true) rfl ?_;refine sp hT ?_;refine nn<|cI rfl rfl ?_;refine bA<|cZ _ _ [(true,0),(true,1),(false,2),(false,3)] dD (by decide+kernel) (.cons .head (.cons .head (.cons .head (.cons .head (.cons .head .nil))))) bI.self ?_;refine stM rfl (ldN hT (bJ .head)) ?_;refine stM rfl (ldN hT (bJ kT3)) ?_;refine cK (o:=_) rfl ?_;refine sto hT kT6 ?_;refine cL (.cons kT1 (.cons kT1 (.cons kT1 (.cons kT1 (.cons kT1 .nil))))) ⟨Has.of mT0,trivial⟩ ?_;refine cK (o:=_) rfl ?_;refine sto hT kT6 ?_;refine cL (.cons kT2 (.cons kT2 (.cons kT2 (.cons kT2 (.cons kT2 .nil))))) ⟨Has.of mT0,trivial⟩ ?_;refine cQ<|bC<|bF<|bB<|bB ?_;have hph:bQ toks k e false=⟨3,(bP toks (k)).at_,(gS (bP toks k).word),((atP toks (k) e),43),((k+1)+1)⟩:=by first | (simp [bQ, *];done) | simp_all [bQ]
   rw [hph];exact bO () rfl (bM hT (bJ kT1) rfl rfl rfl rfl) (bM hT (bJ .head) rfl rfl rfl rfl) (.cons kT3 .nil) trivial (rfl)
  have hc53:(bP toks ((k+1))).word≠([46]:Bs):=fun h=>absurd (beq_iff_eq.2 h) (by rw [show((bP toks ((k+1))).word==([46]:Bs))=false from hc53];simp);refine bN<|bC<|bA<|sr<|sp hT ?_;refine ss (ldO hT (dI kT2)) ?_;refine sp hT ?_;refine nn<|bL rfl (fun hc88=>?_) (fun hc88=>?_)
  ·have hc88:=eq_of_beq hc88;refine bA<|cZ _ _ [(true,0),(true,1),(false,2),(false,3)] dD (by decide+kernel) (.cons .head (.cons .head (.cons .head (.cons .head (.cons .head .nil))))) bI.self ?_;refine stM rfl (ldN hT (bJ kT2)) ?_;refine stM rfl (ldN hT (bJ kT3)) ?_;refine cK (o:=_) rfl ?_;refine sto hT kT6 ?_;refine cL (.cons kT1 (.cons kT1 (.cons kT1 (.cons kT1 (.cons kT1 .nil))))) ⟨Has.of mT0,trivial⟩ ?_;refine cK (o:=_) rfl ?_;refine sto hT kT6 ?_;refine cL (.cons kT2 (.cons kT2 (.cons kT2 (.cons kT2 (.cons kT2 .nil))))) ⟨Has.of mT0,trivial⟩ ?_;refine cQ<|bC<|bF<|bB ?_;have hph:bQ toks k e false=⟨3,(bP toks (k)).at_,(gF (bP toks k).word false),((atP toks (k) e),43),(k+1)⟩:=by first | (simp [bQ, *];done) | simp_all [bQ]
   rw [hph];exact bO () rfl (bM hT (bJ kT1) rfl rfl rfl rfl) (bM hT (bJ .head) rfl rfl rfl rfl) (.cons kT3 .nil) trivial (rfl)
  have hc88:=beq_eq_false_iff_ne.1 hc88;refine bN<|bC<|sr<|ss (ldN hT (bJ kT2)) ?_;refine ss (cC rfl rfl (vZ)) ?_;refine sto hT kT6 ?_;refine sto hT kT6 ?_;refine nn<|bF ?_;have hph:bQ toks k e false=⟨3,(bP toks (k)).at_,(gF (bP toks k).word false),(0,0),(k+1)⟩:=by first | (simp [bQ, *];done) | simp_all [bQ]
  rw [hph];exact bO () rfl (bM hT (bJ kT1) rfl rfl rfl rfl) (bM hT (bJ .head) rfl rfl rfl rfl) (.cons kT3 .nil) trivial (rfl)
 have hg39:=beq_eq_false_iff_ne.1 hg39;refine sk4 ?_;refine sk4 ?_;refine sk4 ?_;refine sk ?_;refine sp hT ?_;refine nn<|cG rfl rfl ?_;refine bN<|bC<|bA<|sr<|sp hT ?_;refine ss (ldO hT (dI kT2)) ?_;refine sp hT ?_;refine nn<|bL rfl (fun hc88=>?_) (fun hc88=>?_)
 ·have hc88:=eq_of_beq hc88;refine bA<|cZ _ _ [(true,0),(true,1),(false,2),(false,3)] dD (by decide+kernel) (.cons .head (.cons .head (.cons .head (.cons .head (.cons .head .nil))))) bI.self ?_;refine stM rfl (ldN hT (bJ kT2)) ?_;refine stM rfl (ldN hT (bJ kT3)) ?_;refine cK (o:=_) rfl ?_;refine sto hT kT6 ?_;refine cL (.cons kT1 (.cons kT1 (.cons kT1 (.cons kT1 (.cons kT1 .nil))))) ⟨Has.of mT0,trivial⟩ ?_;refine cK (o:=_) rfl ?_;refine sto hT kT6 ?_;refine cL (.cons kT2 (.cons kT2 (.cons kT2 (.cons kT2 (.cons kT2 .nil))))) ⟨Has.of mT0,trivial⟩ ?_;refine cQ<|bC<|bF<|bB ?_;have hph:bQ toks k e false=⟨3,(bP toks (k)).at_,(gF (bP toks k).word false),((atP toks (k) e),43),(k+1)⟩:=by first | (simp [bQ, *];done) | simp_all [bQ]
  rw [hph];exact bO () rfl (bM hT (bJ kT1) rfl rfl rfl rfl) (bM hT (bJ .head) rfl rfl rfl rfl) (.cons kT3 .nil) trivial (rfl)
 have hc88:=beq_eq_false_iff_ne.1 hc88;refine bN<|bC<|sr<|ss (ldN hT (bJ kT2)) ?_;refine ss (cC rfl rfl (vZ)) ?_;refine sto hT kT6 ?_;refine sto hT kT6 ?_;refine nn<|bF ?_;have hph:bQ toks k e false=⟨3,(bP toks (k)).at_,(gF (bP toks k).word false),(0,0),(k+1)⟩:=by first | (simp [bQ, *];done) | simp_all [bQ]
 rw [hph];exact bO () rfl (bM hT (bJ kT1) rfl rfl rfl rfl) (bM hT (bJ .head) rfl rfl rfl rfl) (.cons kT3 .nil) trivial (rfl)
section
variable {P : Program} {ops : Array Oper} {md : Region.Mode} {C : World → Prop} {R : Array Bool → Act → World → Prop}
def bGx (P:Program)(md:Region.Mode)(ops:Array Oper)(C:World→Prop)(R:Array Bool→Act→World→Prop):Nat→Array Bool→Act→World→Prop
 | 0,listed,a,w=>C w∧R listed a w
 | fuel+1,listed,a,w=>C w∧Region.ready md ops listed≠[]∧ ∀i∈Region.ready md ops listed,fOp P ops i (bGx P md ops C R fuel (listed.setIfInBounds i true)) a w
theorem tV{Q:Exit→Act→World→Prop}(hR: ∀listed a w,R listed a w→wpAny P md ops Q 1 listed a w): ∀(fuel:Nat) (listed:Array Bool) (a:Act) (w:World),bGx P md ops C R fuel listed a w→wpAny P md ops Q (fuel+1) listed a w
 | 0,_,_,_,h=>hR _ _ _ h.2
 | fuel+1,listed,a,w,h=>by
  refine⟨fun e=>absurd e h.2.1,fun i hi=>?_⟩;have hf:=h.2.2 i hi;unfold wpOp;split
  ·rename_i ho;obtain⟨_,oi,hoi,_⟩:=mem_ready.1 hi;rw [ho] at hoi;cases hoi
  ·rename_i o ho;have h1:=wpNm (hf o ho);split
   ·rename_i hw;simp only [hw,if_true] at h1;exact .inl (vV rfl (fun u w' h'=>tV hR fuel _ _ _ h') (fun d w' h'=>tV hR fuel _ _ _ h') h1)
   ·rename_i hw;simp only [hw] at h1;exact tV hR fuel _ _ _ h1
def depsIn(md:Region.Mode)(ops:Array Oper)(listed:Array Bool)(l:Nat):Prop:= ∀o,ops[l]?=some o→ ∀e∈o.after,Region.binds md e=true→listed.getD e.on false=true
def sP (md:Region.Mode)(ops:Array Oper)(listed:Array Bool):Prop:= ∀j,listed.getD j false=true→depsIn md ops listed j
def waitsN(md:Region.Mode)(ops:Array Oper):Nat→Nat→Nat→Bool
 | 0,_,_=>false
 | n+1,l,i=>match ops[l]? with
  | some o=>o.after.any fun e=>Region.binds md e&&(e.on==i || waitsN md ops n e.on i)
  | none=>false
def waits (md:Region.Mode)(ops:Array Oper)(l i:Nat):Bool:=waitsN md ops 4 l i
theorem bNg{listed:Array Bool}(hc:sP md ops listed): ∀(n l i:Nat),waitsN md ops n l i=true→depsIn md ops listed l→listed.getD i false=true
 | 0,_,_,h,_=>by cases h
 | n+1,l,i,h,hd=>by
  unfold waitsN at h
  cases ho:ops[l]? with
  | none=>rw [ho] at h;cases h
  | some o=>
   rw [ho] at h;obtain⟨e,he,hb⟩:=Array.any_eq_true'.1 h;rw [Bool.and_eq_true,Bool.or_eq_true] at hb;have h1:=hd o ho e he hb.1
   rcases hb.2 with h2 | h2
   ·have h2:e.on=i:=by simpa using h2
    rw [←h2];exact h1
   ·exact bNg hc n e.on i h2 (hc _ h1)
theorem bGn{listed:Array Bool}{l:Nat}(h:l∈Region.ready md ops listed):depsIn md ops listed l:=fun o ho e he hb=>by
 obtain⟨_,o',ho',hall⟩:=mem_ready.1 h;have:o=o':=Option.some.inj (ho.symm.trans ho');subst this;exact hall e he hb
theorem waits_not{l i:Nat}{listed:Array Bool}(hc:sP md ops listed)(h:waits md ops l i=true)(hi:listed.getD i false≠true):l∉Region.ready md ops listed:=fun hl=>hi (bNg hc 4 l i h (bGn hl))
theorem getD_set{listed:Array Bool}{j k:Nat}(h:listed.getD k false=true):(listed.setIfInBounds j true).getD k false=true:=by
 by_cases e:j=k
 ·subst e
  rcases Nat.lt_or_ge j listed.size with h' | h'
  ·simp [h']
  ·simp [Array.getElem?_eq_none h'] at h
 ·rw [getD_set_ne false e];exact h
theorem sP.set{listed:Array Bool}(hc:sP md ops listed){j:Nat}(hj:j∈Region.ready md ops listed):sP md ops (listed.setIfInBounds j true):=fun k hk o ho e he hb=>by
 by_cases e':j=k
 ·subst e';exact getD_set (bGn hj o ho e he hb)
 ·rw [getD_set_ne false e'] at hk;exact getD_set (hc k hk o ho e he hb)
theorem sP.none{n:Nat}:sP md ops (Array.replicate n false):=fun j hj=>by
 simp at hj
 rcases Nat.lt_or_ge j n with h | h<;>simp [h] at hj
theorem wpAnyR_first{i l:Nat}{oi:Oper}{v:Value}(hi:ops[i]?=some oi)(hw:waits md ops l i=true)(hsel: ∀(j:Nat) (o:Oper) cs b,ops[j]?=some o→o.op≠ .select cs b)(hR: ∀listed a w,R listed a w→Region.ready md ops listed=[l]):
  ∀(fuel:Nat) (listed:Array Bool) (a:Act) (w:World),sP md ops listed→
   (∀j oj,ops[j]?=some oj→j≠i→listed.getD j true=false→(∀e∈oj.after,Region.binds md e=true→e.on≠i)→oi.apart ops oj=true)→
   i∈Region.ready md ops listed→Fl P ops C oi v a→
   bGx P md ops C R fuel (listed.setIfInBounds i true) (a.put oi.dst v) w→bGx P md ops C R (fuel+1) listed a w:=by
 have hun: ∀{listed:Array Bool},i∈Region.ready md ops listed→listed.getD i false≠true:=fun{listed} hr e=>by
  have h0:=(mem_ready.1 hr).1
  rcases Nat.lt_or_ge i listed.size with h' | h'
  ·simp [h'] at h0 e;rw [h0] at e;cases e
  ·simp [Array.getElem?_eq_none h'] at e
 intro fuel
 induction fuel with
 | zero=>
  intro listed a w hc _ hr hy H;refine⟨H.1,fun h=>(by rw [h] at hr;cases hr),fun j hj=>?_⟩
  by_cases hji:j=i
  ·subst hji;exact hy.fOp hi H.1 H
  ·have h1:=ready_mono hj hji;rw [hR _ _ _ H.2] at h1;have h2:j=l:=by simpa using h1
   subst h2;exact absurd hj (waits_not hc hw (hun hr))
 | succ fuel ih=>
  intro listed a w hc hfree hr hy H;refine⟨H.1,fun h=>(by rw [h] at hr;cases hr),fun j hj=>?_⟩
  by_cases hji:j=i
  ·subst hji;exact hy.fOp hi H.1 H
  ·have h1:=H.2.2 j (ready_mono hj hji);obtain⟨hjun,oj,hoj,hall⟩:=mem_ready.1 hj
   have hnot: ∀e∈oj.after,Region.binds md e=true→e.on≠i:=fun e he hb heq=>by
    have h1:=hall e he hb;rw [heq] at h1;exact hun hr h1
   have h2:=fOp_put hoj (hfree j oj hoj hji hjun hnot) (fun cs b=>hsel i oi cs b hi) (fun cs b=>hsel j oj cs b hoj) hy h1;have hfree': ∀k ok,ops[k]?=some ok→k≠i→(listed.setIfInBounds j true).getD k true=false→
     (∀e∈ok.after,Region.binds md e=true→e.on≠i)→oi.apart ops ok=true:=fun k ok hk hki hun hno=>by
    refine hfree k ok hk hki ?_ hno
    by_cases hjk:j=k
    ·subst hjk;exact hjun
    ·rw [getD_set_ne true hjk] at hun;exact hun
   refine qW (fun a' w' h3=>ih (listed.setIfInBounds j true) a' w' (hc.set hj) hfree' (ready_mono hr (Ne.symm hji)) h3.1 ?_) h2;rw [Array.setIfInBounds_comm _ _ hji];exact h3.2
def nC (P:Program)(ops:Array Oper)(C:World→Prop)(Q:Exit→Act→World→Prop)(l:Nat):List (Bool×Nat)→Act→World→Prop
 | [],a,w=>fOp P ops l (Q .normal) a w
 | (true,k)::r,a,w=> ∃o v,ops[k]?=some o∧Fl P ops C o v a∧nC P ops C Q l r (a.put o.dst v) w
 | (false,k)::r,a,w=>fOp P ops k (fun a w=>C w∧nC P ops C Q l r a w) a w
def bJc (md:Region.Mode)(ops:Array Oper)(l:Nat):List (Bool×Nat)→Array Bool→Bool
 | [],listed=>(Region.ready md ops listed==[l])&&(Region.ready md ops (listed.setIfInBounds l true)).isEmpty
 | (true,k)::r,listed=>(Region.ready md ops listed).contains k&&Region.free md ops listed k&&waits md ops l k&&bJc md ops l r (listed.setIfInBounds k true)
 | (false,k)::r,listed=>(Region.ready md ops listed==[k])&&bJc md ops l r (listed.setIfInBounds k true)
def EndL (P:Program)(md:Region.Mode)(ops:Array Oper)(Q:Exit→Act→World→Prop)(l:Nat)(listed:Array Bool)(a:Act)(w:World):Prop:=
 Region.ready md ops listed=[l]∧Region.ready md ops (listed.setIfInBounds l true)=[]∧fOp P ops l (Q .normal) a w
theorem yB{Q:Exit→Act→World→Prop}{l:Nat}(hs:Region.noSelect ops=true): ∀(od:List (Bool×Nat)) (listed:Array Bool) (a:Act) (w:World),sP md ops listed→bJc md ops l od listed=true→C w→nC P ops C Q l od a w→bGx P md ops C (EndL P md ops Q l) od.length listed a w
 | [],listed,a,w,_,hB,hC,h=>by
  simp only [bJc,Bool.and_eq_true,beq_iff_eq] at hB;exact⟨hC,hB.1,by simpa using hB.2,h⟩
 | (true,k)::r,listed,a,w,hc,hB,hC,h=>by
  simp only [bJc,Bool.and_eq_true] at hB;obtain⟨o,v,ho,hy,hK⟩:=h;exact wpAnyR_first ho hB.1.2 (Region.noSelect_spec hs) (fun _ _ _ h=>h.1) r.length listed a w hc (Region.free_spec ho hB.1.1.2) (by simpa using hB.1.1.1) hy (yB hs r _ _ _ (hc.set (by simpa using hB.1.1.1)) hB.2 hC hK)
 | (false,k)::r,listed,a,w,hc,hB,hC,h=>by
  simp only [bJc,Bool.and_eq_true,beq_iff_eq] at hB;refine⟨hC,fun h0=>(by rw [hB.1] at h0;cases h0),fun i hi=>?_⟩;rw [hB.1] at hi;have:i=k:=by simpa using hi
  subst this;exact qW (fun a' w' h'=>yB hs r _ _ _ (hc.set (by rw [hB.1];simp)) hB.2 h'.1 h'.2) h
theorem end_any{Q:Exit→Act→World→Prop}{l:Nat}(listed:Array Bool)(a:Act)(w:World)(h:EndL P md ops Q l listed a w):wpAny P md ops Q 1 listed a w:=by
 refine⟨fun e=>(by rw [h.1] at e;cases e),fun i hi=>?_⟩;rw [h.1] at hi;have:i=l:=by simpa using hi
 subst this;have hf:=h.2.2;unfold wpOp;split
 ·rename_i ho;have hl:i∈Region.ready md ops listed:=by rw [h.1];simp
  obtain⟨_,oi,hoi,_⟩:=mem_ready.1 hl;rw [ho] at hoi;cases hoi
 ·rename_i o ho;have h1:=wpNm (hf o ho);split
  ·rename_i hw;simp only [hw,if_true] at h1;exact .inl (vV rfl (fun u w' h'=>⟨h.2.1,h'⟩) (fun d w' h'=>⟨h.2.1,h'⟩) h1)
  ·rename_i hw;simp only [hw] at h1;exact⟨h.2.1,h1⟩
def mixLOk(l:Nat)(od:List (Bool×Nat))(ops:Array Oper):Bool:=Region.noSelect ops&&Nat.beq (od.length+1) ops.size&&bJc .any ops l od (Array.replicate ops.size false)
end
section
variable {P : Program} {β : fV} {n : Nat} {Γ : Env} {H : List cA} {F : List Fact} {Q : Exit → Act → World → Prop} {Hk : List cA} {F0 : List Fact} {ops : Array Oper}
theorem pA{id:Nat}{l:List Oper}(last:Nat)(Hk:List cA)(F0:List Fact)(od:List (Bool×Nat))(hm:P.follows .mixedOrders=true)(hB:mixLOk last od l.toArray=true)(hH:Sel H Hk)(hF:bI F F0)
  (h:At β n Γ H F (nC P l.toArray (StF β Hk F0) Q last od)):At β n Γ H F ((Code.region id l.toArray true).wp P Q):=fun a w S f s k=>by
 simp only [mixLOk,Bool.and_eq_true] at hB;have hw:=StF.drew ⟨S,s,k⟩;obtain⟨S',s',k'⟩:=hw;refine wp_region_any hm ?_;have h1:=yB (P:=P) (md:= .any) (C:=StF β Hk F0) (Q:=Q) hB.1.1 od (Array.replicate l.toArray.size false) a _ sP.none hB.2 (StF.sel hH hF ⟨S',s',k'⟩) (h a _ S' f s' k');have h2:=tV (Q:=Q) end_any _ _ _ _ h1
 rwa [Nat.eq_of_beq_eq_true hB.1.2] at h2
theorem atl_sti{r:List (Bool×Nat)}{o:Oper}{l k d:Nat}{v:Value}(hk:ops[k]?=some o)(hw:want ops Γ o=some true)(hd:o.dst=some d)(hn:Nat.blt d n=true)(h:Sti P β n Γ Hk F0 o v)
  (K:At β n ((d,v)::Γ) H F (nC P ops (StF β Hk F0) Q l r)):At β n Γ H F (nC P ops (StF β Hk F0) Q l ((true,k)::r)):=fun a w S f s hF=>by
 refine⟨o,v,hk,.inl ⟨f.want hw,fun w' ⟨S',s',k'⟩=>h a w' S' f s' k'⟩,?_⟩;rw [hd];exact K _ _ S (f.put (by simpa [Nat.blt_eq] using hn) v) s hF
theorem stL{r:List (Bool×Nat)}{o:Oper}{l k d:Nat}{v:Value}(hk:ops[k]?=some o)(h:Sti P β n Γ Hk F0 o v)(K:At β n ((d,v)::Γ) H F (nC P ops (StF β Hk F0) Q l r))(hw:want ops Γ o=some true:=by exact rfl)(hd:o.dst=some d:=by exact rfl)(hn:Nat.blt d n=true:=by exact rfl):At β n Γ H F (nC P ops (StF β Hk F0) Q l ((true,k)::r)):=atl_sti hk hw hd hn h K
theorem puL{r:List (Bool×Nat)}{o:Oper}{l k d:Nat}{v:Value}{T:Tab}(hT:gH P T)(K:At β n ((d,v)::Γ) H F (nC P ops (StF β Hk F0) Q l r))(hk:ops[k]?=some o:=by exact rfl)(hw:want ops Γ o=some true:=by exact rfl)(hd:o.dst=some d:=by exact rfl)(hn:Nat.blt d n=true:=by exact rfl)(h:mM T Γ o.op=some v:=by exact rfl):At β n Γ H F (nC P ops (StF β Hk F0) Q l ((true,k)::r)):=atl_sti hk hw hd hn (fun _ w _ f _ _=>tR hT f h w) K
theorem mK{r:List (Bool×Nat)}{o:Oper}{l k:Nat}{C:World→Prop}(hk:ops[k]?=some o)(h:At β n Γ H F (wpList P ops (Nm fun a w=>C w∧nC P ops C Q l r a w) [o])):At β n Γ H F (nC P ops C Q l ((false,k)::r)):=fun a w S f s hF o' ho'=>by
 have:o'=o:=Option.some.inj (ho'.symm.trans hk);subst this;exact h a w S f s hF
theorem mL{r:List (Bool×Nat)}{l:Nat}(hH:Sel H Hk)(hF:bI F F0)(h:At β n Γ H F (nC P ops (StF β Hk F0) Q l r)):At β n Γ H F (wpList P ops (Nm fun a w=>StF β Hk F0 w∧nC P ops (StF β Hk F0) Q l r a w) []):=fun a w S f s k=>
 ⟨rfl,StF.sel hH hF ⟨S,s,k⟩,h a w S f s k⟩
theorem mW{o:Oper}{l:Nat}{C:World→Prop}(hk:ops[l]?=some o)(h:At β n Γ H F (wpList P ops (Nm (Q .normal)) [o])):At β n Γ H F (nC P ops C Q l []):=fun a w S f s hF o' ho'=>by
 have:o'=o:=Option.some.inj (ho'.symm.trans hk);subst this;exact h a w S f s hF
theorem oZ{K:Act→World→Prop}(h:At β n Γ H F K):At β n Γ H F (wpList P ops (Nm K) []):=fun a w S f s k=>⟨rfl,h a w S f s k⟩
end
abbrev kV:=Option (Nat×ItemV)
def fnV (b4:Nat):kV→Value
 | none=> .nilFunc
 | some x=> .func (.func 139) #[] #[.pointer (some ⟨b4,0,none⟩),.pointer (some ⟨x.1,0,none⟩)]
def fnE (b4:Nat):Flat kV where
 size:=1
 cells:=fun x=>[fnV b4 x]
 len:=fun _=>rfl
 one:=fun x u hu=>by
  simp at hu;subst hu;cases x<;>rfl
 pos:=by decide
theorem fnInfo: ∃i:TypeInfo,Tryz.prog.info? 1=some i∧i.zero=some .nilFunc∧i.size=1∧i.bytes=8:=by
 have h:(Tryz.prog.info? 1).map (fun i=>(i.zero,i.size,i.bytes))=some (some .nilFunc,1,8):=by kernel_rfl
 cases hi:Tryz.prog.info? 1 with
 | none=>simp [hi] at h
 | some i=>simp [hi] at h;exact⟨i,rfl,h.1,h.2.1,h.2.2⟩
section
variable {β : fV} {n : Nat} {Γ : Env} {H : List cA} {F : List Fact} {Q : Exit → Act → World → Prop} {ops : Array Oper} {rest : List Oper} {o : Oper} {d : Nat}
theorem bBp{b4:Nat}{x:Operand}{m:kV}(hw:want ops Γ o=some true)(ho:o.op= .buildSlice 208 1 #[(0,x)])(hd:o.dst=some d)(hn:Nat.blt d n=true)
  (hx:Γ.ev x=some (fnV b4 m)) (k: ∀b,At β n ((d,.slice (some ⟨b,0,none⟩) 1 1)::Γ) (.obj b (.cells ((fnE b4).all [m]).toArray 1)::H) F (wpList Tryz.prog ops Q rest)):At β n Γ H F (wpList Tryz.prog ops Q (o::rest)):=by
 obtain⟨i,hi,hz,hs,_⟩:=fnInfo;refine jD hw ho hd hn hx Tryz.underlying208 hi hz (by omega) (by omega) ?_ k;rw [hs];cases m<;>kernel_rfl
theorem bCm{b4:Nat}{x y:Operand}{c q:Nat}{v:Value}{A:Option Addr}{xs ys:List kV}{H':List cA}(hH:dK H ((fnE b4).row v 1 xs) H')(hr:cN β H F (fnE b4) A ys)(hg:o.guard=none)
  (ho:o.op= .call {callee:= .builtin .append,args:= #[x,y],argTypes:= #[208,208]}) (hd:o.dst=some d) (hn:Nat.blt d n=true)
  (hx:Γ.ev x=some v) (hy:Γ.ev y=some (.slice A q c)) (hq:q=ys.length) (hl:xs.length+ys.length≤10000000)
  (k: ∀A' cap',At β n ((d,.slice A' (xs++ys).length cap')::Γ) ((fnE b4).row (.slice A' (xs++ys).length cap') 1 (xs++ys)::H') F (wpList Tryz.prog ops Q rest)):At β n Γ H F (wpList Tryz.prog ops Q (o::rest)):=by
 obtain⟨i,hi,hz,hs,hb⟩:=fnInfo;exact gA hH hr hg ho hd hn Tryz.underlying208 hi hz hs hb rfl hx hy hq (by omega) (by decide) k
end
def lR (st:List kV):Fact:=Fact.each st fun o=>match o with
 | none=>Fact.true
 | some x=>Fact.cells x.1 0 (lH.cells x.2)
def finP:List kV→List ItemV×List kV
 | some x::r=>(x.2::(finP r).1,(finP r).2)
 | none::r=>([],none::r)
 | []=>([],[])
theorem itemZ:(Tryz.prog.info? 47).bind (·.zero)=some (.slice none 0 0):=by kernel_rfl
theorem funcZ:(Tryz.prog.info? 208).bind (·.zero)=some (.slice none 0 0):=by kernel_rfl
theorem bCi{x:kV}{r:List kV}:(x::r).reverse[(r.length+1)-1]?=some x:=by
 simp
theorem bCq{x:kV}{r:List kV}:(x::r).reverse.take ((r.length+1)-1)=r.reverse:=by
 simp
theorem kC(x:kV)(r:List kV):(x::r).reverse.length=r.length+1:=by simp
section
variable {F : List Fact} {x : Nat × ItemV} {o : kV} {r : List kV}
theorem todo_head(h:Has F (lR (some x::r))):Has F (Fact.cells x.1 0 (lH.cells x.2)):=fun S w k=>h S w k (some x) (List.mem_cons_self ..)
theorem bBr(h:Has F (lR (o::r))):Has F (lR r):=fun S w k y hy=>h S w k y (List.mem_cons_of_mem _ hy)
theorem todo_nil:Has F (lR []):=fun _ _ _ y hy=>by simp at hy
theorem todo_none(h:Has F (lR r)):Has F (lR (none::r)):=fun S w k y hy=>by
 rcases List.mem_cons.1 hy with rfl | hy
 ·trivial
 ·exact h S w k y hy
theorem bMf(hx:Has F (Fact.cells x.1 0 (lH.cells x.2)))(h:Has F (lR r)):Has F (lR (some x::r)):=fun S w k y hy=>by
 rcases List.mem_cons.1 hy with rfl | hy
 ·exact hx S w k
 ·exact h S w k y hy
end
def qK (p:Phr):ItemV:=⟨p.how,p.at_,p.fn,[],⟨none,0,[]⟩⟩
set_option maxRecDepth 100000 in
theorem push_spec(b4 bi:Nat)(C:Option Addr)(e:Nat)(out:List ItemV)(it:ItemV)(ho:out.length≤1000000):dX Tryz.prog 139 [.pointer (some ⟨b4,0,none⟩),.pointer (some ⟨bi,0,none⟩)] [.obj b4 (.cells [.slice C out.length e].toArray 47),lH.row (.slice C out.length e) 52 out] [Fact.cells bi 0 (lH.cells it)] (fun(_:Option Addr×Nat)=> .tuple #[]) (fun(x:Option Addr×Nat)=>[.obj b4 (.cells [.slice x.1 (out++[it]).length x.2].toArray 47),lH.row (.slice x.1 (out++[it]).length x.2) 52 (out++[it])]) (fun _=>[]):=by
 have hT:=fR;refine cW Tryz.func139 rfl Tryz.ntmps139 rfl ?_;intro β hM;refine bD<|ss (ldO hT (bJ .head)) ?_;refine ss (dU hT (knows_fact (Has.of mT0)) rfl rfl rfl rfl rfl) ?_;refine vY (m:=it) rfl rfl rfl rfl rfl fun b1=>?_;refine vQ kT2 (dF .head rfl) rfl rfl rfl rfl rfl rfl rfl (by simp only [List.length_singleton];omega) fun A2 c3=>?_;refine sto hT kT2 ?_;refine dY ?_;exact uM (A2,c3) rfl (.cons .head (.cons .head .nil)) trivial (rfl)
set_option maxRecDepth 100000 in
theorem nJ(b5 b4:Nat)(D:Option Addr)(f:Nat)(st0:List kV)(C:Option Addr)(e:Nat)(out0:List ItemV)(hs:out0.length+st0.length≤100000):dX Tryz.prog 136 [.pointer (some ⟨b5,0,none⟩)] [.obj b5 (.cells [.slice D st0.reverse.length f].toArray 208),(fnE b4).row (.slice D st0.reverse.length f) 1 st0.reverse,.obj b4 (.cells [.slice C out0.length e].toArray 47),lH.row (.slice C out0.length e) 52 out0] [lR st0] (fun(_:(Option Addr×Nat)×(Option Addr×Nat))=> .tuple #[]) (fun(x:(Option Addr×Nat)×(Option Addr×Nat))=>[.obj b5 (.cells [.slice x.1.1 (finP st0).2.reverse.length x.1.2].toArray 208),(fnE b4).row (.slice x.1.1 (finP st0).2.reverse.length x.1.2) 1 (finP st0).2.reverse,.obj b4 (.cells [.slice x.2.1 (out0++(finP st0).1).length x.2.2].toArray 47),lH.row (.slice x.2.1 (out0++(finP st0).1).length x.2.2) 52 (out0++(finP st0).1)]) (fun _=>[lR (finP st0).2]):=by
 have hT:=fR;refine cW Tryz.func136 rfl Tryz.ntmps136 rfl ?_;intro β hM;refine bX<|dG (ι:=List kV×List ItemV×Option Addr×Nat×Option Addr×Nat) [(0,_)] ⟨rfl,trivial⟩ (fun _=>[]) (fun⟨st,out,D,f,C,e⟩=>[.obj b5 (.cells [.slice D st.reverse.length f].toArray 208),(fnE b4).row (.slice D st.reverse.length f) 1 st.reverse,.obj b4 (.cells [.slice C out.length e].toArray 47),lH.row (.slice C out.length e) 52 out]) (fun⟨st,out,D,f,C,e⟩=>[Fact.pure (out0++(finP st0).1=out++(finP st).1∧(finP st0).2=(finP st).2∧out.length+st.length≤100000),lR st]) (fun⟨st,out,D,f,C,e⟩=>st.length) (st0,out0,D,f,C,e) trivial (.cons .head (.cons .head (.cons .head (.cons .head .nil)))) ⟨Has.pure (⟨rfl,rfl,hs⟩),Has.of mT0,trivial⟩ ?_;rintro⟨st,out,D,f,C,e⟩;dsimp only;refine bS (Has.of mT0) fun hinv0=>?_;refine bA<|bA ?_
 rcases st with _ | ⟨_ | ⟨b,it⟩,r⟩
 ·skip
  refine bD<|ss (ldO hT (bJ .head)) ?_;refine sp3 hT ?_;refine cF (fun hg4=>?_) (fun hg4=>?_)
  ·have hg4:=of_decide_eq_true hg4;simp at hg4
  have hg4:=Int.not_lt.1 (of_decide_eq_false hg4);refine sk4 ?_;refine sk3 ?_;refine sp hT ?_;refine nn<|cG rfl rfl ?_;refine dC<|cM<|cM<|dB ?_;have e1:(finP st0).2=[]:=hinv0.2.1;have e2:out0++(finP st0).1=out:=by rw [hinv0.1];simp [finP]
  rw [e1,e2];exact uM ((D,f),(C,e)) rfl (.cons .head (.cons .head (.cons .head (.cons .head .nil)))) ⟨Has.of mT1,trivial⟩ (rfl)
 ·have hsl:r.length≤100000:=by have:=hinv0.2.2;simp at this;omega
  refine bD<|ss (ldO hT (bJ .head)) ?_;refine sp hT ?_;refine bT (z':=(((r.length+1):Nat):Int)) (congrArg Nat.cast (kC _ r)) ?_;refine sp2 hT ?_;refine cF (fun hg4=>?_) (fun hg4=>?_)
  ·have hg4:=of_decide_eq_true hg4;refine ss (ldO hT (bJ .head)) ?_;refine ss (ldO hT (bJ .head)) ?_;refine sp hT ?_;refine bT (z':=(((r.length+1):Nat):Int)) (congrArg Nat.cast (kC _ r)) ?_;refine sp hT ?_;refine bT (z':=((((r.length+1)-1):Nat):Int)) (cP (by omega) (by omega)) ?_;refine ss (bU hT (k:=((r.length+1)-1)) (cJ kT1) rfl rfl rfl rfl rfl rfl rfl (by rw [kC];omega)) ?_;refine ss (cE hT (cN.knows (cJ kT1) (k:=((r.length+1)-1)) (x:=(none:kV)) bCi 0) rfl rfl rfl rfl rfl) ?_;refine ss (sti_nofn Tryz.underlying1 rfl rfl) ?_;refine sp hT ?_;refine nn<|cG rfl rfl ?_;refine dC<|cM<|cM<|dB ?_;have e1:(finP st0).2=(none:kV)::r:=hinv0.2.1;have e2:out0++(finP st0).1=out:=by rw [hinv0.1];simp [finP]
   rw [e1,e2];exact uM ((D,f),(C,e)) rfl (.cons .head (.cons .head (.cons .head (.cons .head .nil)))) ⟨Has.of mT1,trivial⟩ (rfl)
  have hg4:=Int.not_lt.1 (of_decide_eq_false hg4);omega
 have hsl:r.length≤100000:=by have:=hinv0.2.2;simp at this;omega
 have hol:out.length≤100000:=by have:=hinv0.2.2;omega
 refine bD<|ss (ldO hT (bJ .head)) ?_;refine sp hT ?_;refine bT (z':=(((r.length+1):Nat):Int)) (congrArg Nat.cast (kC _ r)) ?_;refine sp2 hT ?_;refine cF (fun hg4=>?_) (fun hg4=>?_)
 ·have hg4:=of_decide_eq_true hg4;refine ss (ldO hT (bJ .head)) ?_;refine ss (ldO hT (bJ .head)) ?_;refine sp hT ?_;refine bT (z':=(((r.length+1):Nat):Int)) (congrArg Nat.cast (kC _ r)) ?_;refine sp hT ?_;refine bT (z':=((((r.length+1)-1):Nat):Int)) (cP (by omega) (by omega)) ?_;refine ss (bU hT (k:=((r.length+1)-1)) (cJ kT1) rfl rfl rfl rfl rfl rfl rfl (by rw [kC];omega)) ?_;refine ss (cE hT (cN.knows (cJ kT1) (k:=((r.length+1)-1)) (x:=(some (b,it):kV)) bCi 0) rfl rfl rfl rfl rfl) ?_;refine ss (sti_fn Tryz.underlying1 rfl rfl) ?_;refine sp hT ?_;refine nn<|cI rfl rfl ?_;refine bN<|bC<|bX<|sr<|ss (ldO hT (bJ .head)) ?_;refine ss (ldO hT (bJ .head)) ?_;refine sp hT ?_;refine bT (z':=(((r.length+1):Nat):Int)) (congrArg Nat.cast (kC _ r)) ?_;refine sp hT ?_;refine bT (z':=((((r.length+1)-1):Nat):Int)) (cP (by omega) (by omega)) ?_;refine ss (bU hT (k:=((r.length+1)-1)) (cJ kT1) rfl rfl rfl rfl rfl rfl rfl (by rw [kC];omega)) ?_;refine ss (cE hT (cN.knows (cJ kT1) (k:=((r.length+1)-1)) (x:=(some (b,it):kV)) bCi 0) rfl rfl rfl rfl rfl) ?_;refine gP (cR Tryz.func139 rfl rfl) (push_spec b4 b _ _ out it (by omega)) rfl rfl rfl rfl rfl rfl rfl (.cons kT2 (.cons kT2 .nil)) ⟨todo_head (Has.of mT1),trivial⟩ fun⟨C1,e2⟩=>?_;refine nn<|bD<|ss (ldO hT (bJ kT2)) ?_;refine ss (ldO hT (bJ kT2)) ?_;refine sp hT ?_;refine bT (z':=(((r.length+1):Nat):Int)) (congrArg Nat.cast (kC _ r)) ?_;refine sp hT ?_;refine bT (z':=((((r.length+1)-1):Nat):Int)) (cP (by omega) (by omega)) ?_;refine iZ hT (k:=((r.length+1)-1)) kT3 rfl rfl rfl rfl rfl rfl rfl rfl rfl (by rw [kC];omega) ?_;rw [bCq];refine sto hT kT3 ?_;refine dY<|cD<|bC<|bE (lR r) (bBr (Has.of mT1)) ?_;exact cO (r,_,_,_,_,_) (by dsimp only;simp) trivial ⟨rfl,trivial⟩ (.cons .head (.cons .head (.cons .head (.cons .head .nil)))) ⟨Has.pure (⟨by rw [hinv0.1];simp [finP],by rw [hinv0.2.1];rfl,by have:=hinv0.2.2;simp at*;omega⟩),Has.of mT0,trivial⟩ (bI.drop 3)
 have hg4:=Int.not_lt.1 (of_decide_eq_false hg4);omega
set_option maxRecDepth 100000 in
theorem nM(bl:Nat)(A:Option Addr)(c:Nat)(toks:List TokV)(k:Nat)(e:Int)(b1 b5 b4:Nat)(D:Option Addr)(f:Nat)(st:List kV)(hk:k≤1000000)(hs:st.length≤100000):dX Tryz.prog 137 [.bool true,.pointer (some ⟨b1,0,none⟩),.pointer (some ⟨b5,0,none⟩),.pointer (some ⟨b4,0,none⟩)] [.obj bl (.cells [.slice A toks.length c,.int .i64 (k:Nat),.int .i64 e].toArray 102),.obj b1 (.cells [.pointer (some ⟨bl,0,none⟩)].toArray 100),.obj b5 (.cells [.slice D st.reverse.length f].toArray 208),(fnE b4).row (.slice D st.reverse.length f) 1 st.reverse] [kY.sl (.slice A toks.length c) toks,lR st] (fun(_:(Option Addr×Nat)×Nat)=> .agg #[.int .i64 (bQ toks (k) e true).flt.1,.int .i64 (bQ toks (k) e true).flt.2]) (fun(x:(Option Addr×Nat)×Nat)=>[.obj bl (.cells [.slice A toks.length c,.int .i64 ((bQ toks (k) e true).next:Nat),.int .i64 e].toArray 102),.obj b1 (.cells [.pointer (some ⟨bl,0,none⟩)].toArray 100),.obj b5 (.cells [.slice x.1.1 (some (x.2,(qK (bQ toks (k) e true)))::st).reverse.length x.1.2].toArray 208),(fnE b4).row (.slice x.1.1 (some (x.2,(qK (bQ toks (k) e true)))::st).reverse.length x.1.2) 1 (some (x.2,(qK (bQ toks (k) e true)))::st).reverse]) (fun(x:(Option Addr×Nat)×Nat)=>[lR (some (x.2,(qK (bQ toks (k) e true)))::st)]):=by
 have hT:=fR;refine cW Tryz.func137 rfl Tryz.ntmps137 rfl ?_;intro β hM;refine sr<|bY rfl rfl rfl rfl xY rfl fun b1=>?_;refine nn<|sr<|ss (ldO hT (bJ kT2)) ?_;refine sp hT ?_;refine bR Tryz.func138 (phraseT_spec bl A c toks (k) e (by omega)) rfl rfl (.cons kT1 .nil) ⟨Has.of mT0,trivial⟩ fun _=>?_;refine sp3 hT ?_;refine bY rfl rfl rfl rfl mA rfl fun b2=>?_;refine bY rfl rfl rfl rfl xY rfl fun b3=>?_;refine sto hT kT1 ?_;refine sto hT kT1 ?_;refine nn<|sr<|ss (ldO hT (bJ kT5)) ?_;refine sp hT ?_;refine bBp (b4:=b4) (m:=(some (b2,(qK (bQ toks (k) e true))):kV)) rfl rfl rfl rfl rfl fun b4=>?_;refine bCm kT7 (dF .head rfl) rfl rfl rfl rfl rfl rfl rfl (by simp only [List.length_singleton,List.length_reverse];omega) fun A5 c6=>?_;rw [←List.reverse_cons];refine sto hT kT7 ?_;refine nn<|sr<|ss (ldN hT (bJ kT3)) ?_;refine sto hT kT6 ?_;refine nn<|bF<|xM kT5 ?_;exact bV ((A5,c6),b2) rfl (bM hT (bJ .head) rfl rfl rfl rfl) (.cons kT5 (.cons kT5 (.cons kT1 (.cons kT1 .nil)))) ⟨bMf (Has.of mT0) (Has.of mT2),trivial⟩ (rfl)
set_option maxRecDepth 100000 in
theorem laterF_spec(bl:Nat)(A:Option Addr)(c:Nat)(toks:List TokV)(k:Nat)(e:Int)(b1 b5 b4:Nat)(D:Option Addr)(f:Nat)(st:List kV)(hk:k≤1000000)(hs:st.length≤100000):dX Tryz.prog 137 [.bool false,.pointer (some ⟨b1,0,none⟩),.pointer (some ⟨b5,0,none⟩),.pointer (some ⟨b4,0,none⟩)] [.obj bl (.cells [.slice A toks.length c,.int .i64 (k:Nat),.int .i64 e].toArray 102),.obj b1 (.cells [.pointer (some ⟨bl,0,none⟩)].toArray 100),.obj b5 (.cells [.slice D st.reverse.length f].toArray 208),(fnE b4).row (.slice D st.reverse.length f) 1 st.reverse] [kY.sl (.slice A toks.length c) toks,lR st] (fun(_:(Option Addr×Nat)×Nat)=> .agg #[.int .i64 (bQ toks (k) e false).flt.1,.int .i64 (bQ toks (k) e false).flt.2]) (fun(x:(Option Addr×Nat)×Nat)=>[.obj bl (.cells [.slice A toks.length c,.int .i64 ((bQ toks (k) e false).next:Nat),.int .i64 e].toArray 102),.obj b1 (.cells [.pointer (some ⟨bl,0,none⟩)].toArray 100),.obj b5 (.cells [.slice x.1.1 (some (x.2,(qK (bQ toks (k) e false)))::st).reverse.length x.1.2].toArray 208),(fnE b4).row (.slice x.1.1 (some (x.2,(qK (bQ toks (k) e false)))::st).reverse.length x.1.2) 1 (some (x.2,(qK (bQ toks (k) e false)))::st).reverse]) (fun(x:(Option Addr×Nat)×Nat)=>[lR (some (x.2,(qK (bQ toks (k) e false)))::st)]):=by
 have hT:=fR;refine cW Tryz.func137 rfl Tryz.ntmps137 rfl ?_;intro β hM;refine sr<|bY rfl rfl rfl rfl xY rfl fun b1=>?_;refine nn<|sr<|ss (ldO hT (bJ kT2)) ?_;refine sp hT ?_;refine bR Tryz.func138 (phraseF_spec bl A c toks (k) e (by omega)) rfl rfl (.cons kT1 .nil) ⟨Has.of mT0,trivial⟩ fun _=>?_;refine sp3 hT ?_;refine bY rfl rfl rfl rfl mA rfl fun b2=>?_;refine bY rfl rfl rfl rfl xY rfl fun b3=>?_;refine sto hT kT1 ?_;refine sto hT kT1 ?_;refine nn<|sr<|ss (ldO hT (bJ kT5)) ?_;refine sp hT ?_;refine bBp (b4:=b4) (m:=(some (b2,(qK (bQ toks (k) e false))):kV)) rfl rfl rfl rfl rfl fun b4=>?_;refine bCm kT7 (dF .head rfl) rfl rfl rfl rfl rfl rfl rfl (by simp only [List.length_singleton,List.length_reverse];omega) fun A5 c6=>?_;rw [←List.reverse_cons];refine sto hT kT7 ?_;refine nn<|sr<|ss (ldN hT (bJ kT3)) ?_;refine sto hT kT6 ?_;refine nn<|bF<|xM kT5 ?_;exact bV ((A5,c6),b2) rfl (bM hT (bJ .head) rfl rfl rfl rfl) (.cons kT5 (.cons kT5 (.cons kT1 (.cons kT1 .nil)))) ⟨bMf (Has.of mT0) (Has.of mT2),trivial⟩ (rfl)
structure dJ where
 how:Int
 at_:Int
 fn:Int
 name:Bs
 nums:List Int
 deriving Inhabited,DecidableEq
def ItemV.it(x:ItemV):dJ:=⟨x.how,x.at_,x.fn,x.name,x.nums.list⟩
def Phr.it(p:Phr):dJ:=⟨p.how,p.at_,p.fn,[],[]⟩
abbrev Stk:=List (Option dJ)
def xR (st:List kV):Stk:=st.map fun o=>o.map fun x=>x.2.it
def jG:Stk→List dJ×Stk
 | some x::r=>(x::(jG r).1,(jG r).2)
 | none::r=>([],none::r)
 | []=>([],[])
theorem wR: ∀st:List kV,(finP st).1.map ItemV.it=(jG (xR st)).1∧xR (finP st).2=(jG (xR st)).2
 | []=>⟨rfl,rfl⟩
 | none::r=>⟨rfl,rfl⟩
 | some x::r=>by
  obtain⟨h1,h2⟩:=wR r;exact⟨by simp [finP,jG,xR] at*;exact h1,h2⟩
def opens:List kV→Nat
 | []=>0
 | none::r=>opens r+1
 | some _::r=>opens r
theorem tU: ∀st:List kV,(finP st).1.length+(finP st).2.length=st.length
 | []=>rfl
 | none::r=>by simp [finP]
 | some x::r=>by have:=tU r;simp [finP];omega
theorem fin_open{st:List kV}(h:0<opens st): ∃r,(finP st).2=none::r∧opens r+1=opens st:=by
 induction st with
 | nil=>simp [opens] at h
 | cons o st ih=>
  cases o with
  | none=>exact⟨st,rfl,rfl⟩
  | some x=>exact ih h
section
variable (toks : List TokV) (e : Int)
def fY (k:Nat):List Int:=((toks.drop k).takeWhile fun t=>t.kind==2).map (·.n)
def isOk (f:Flt):Bool:=nQ ⟨f.1,f.2⟩ ⟨0,0⟩
abbrev qF:=List dJ×Flt
def sX (rec:Nat→List dJ→Stk→Nat→qF)(o k:Nat)(out:List dJ)(st:Stk):qF:=
 if (bP toks k).kind=4 then (if 0<o then ([],(atP toks k e,42)) else (out++(jG st).1,(0,0)))
 else if (bP toks k).kind=2∨pM (bP toks k).word=false then ([],(atP toks k e,46))
 else if isOk (bQ toks k e true).flt then rec (bQ toks k e true).next out (some (bQ toks k e true).it::st) o else ([],(bQ toks k e true).flt)
def mY (rec:Nat→List dJ→Stk→Nat→qF):Nat→Nat→List dJ→Stk→qF
 | 0,k,out,st=>sX toks e rec 0 k out st
 | o+1,k,out,st=>if (bP toks k).kind=3∧(bP toks k).word=[41] then mY rec o (k+1) (out++(jG st).1) (jG st).2.tail else sX toks e rec (o+1) k out st
def rX (k:Nat):dJ:=⟨1,(bP toks k).at_,0,[],fY toks k⟩
def kZ (k:Nat):dJ:=⟨2,(bP toks k).at_,0,(bP toks k).word,[]⟩
def jF:Nat→Nat→List dJ→Stk→Nat→qF
 | 0,_,_,_,_=>([],(0,0))
 | f+1,k,out,st,o=>
  if (bP toks k).kind≠2∧(bP toks k).kind≠4∧pM (bP toks k).word=true then
   if isOk (bQ toks k e false).flt then jF f (bQ toks k e false).next out (some (bQ toks k e false).it::st) o else ([],(bQ toks k e false).flt)
  else if (bP toks k).kind=3∧(bP toks k).word=[40] then
   if o=32 then ([],(atP toks k e,44)) else jF f (k+1) out (none::st) (o+1)
  else if (bP toks k).kind=2 then mY toks e (jF f) o (k+(fY toks k).length) (out++[rX toks k]) st
  else if (bP toks k).kind=1∧dS (bP toks k).word=true then mY toks e (jF f) o (k+1) (out++[kZ toks k]) st
  else if (bP toks k).kind=1 then ([],(atP toks k e,41)) else ([],(atP toks k e,42))
def hZ (k:Nat):qF:=jF toks e (toks.length+1) k [] [] 0
def yW (r:qF)(k:Nat)(out:List dJ)(st:Stk)(o:Nat):Prop:=k≤toks.length∧ ∃f,toks.length+1≤f+k∧jF toks e f k out st o=r
def uG (r:qF)(k:Nat)(out:List dJ)(st:Stk)(o:Nat):Prop:=k≤toks.length∧ ∃f,toks.length+1≤f+k∧mY toks e (jF toks e f) o k out st=r
end
theorem iT{toks:List TokV}{k:Nat}(h:(bP toks k).kind≠4):k<toks.length:=by
 rcases Nat.lt_or_ge k toks.length with h' | h'
 ·exact h'
 ·rw [yS h'] at h;exact absurd rfl h
theorem lX{toks:List TokV}{k:Nat}(h:(bP toks k).kind=2):fY toks k=(bP toks k).n::fY toks (k+1):=by
 have hk:=iT (toks:=toks) (k:=k) (by rw [h];decide);have e:toks[k]?=some toks[k]:=List.getElem?_eq_getElem hk;rw [rJ e] at h⊢;unfold fY;rw [List.drop_eq_getElem_cons hk,List.takeWhile_cons_of_pos (by simpa using h)];rfl
theorem pL{toks:List TokV}{k:Nat}(h:(bP toks k).kind≠2):fY toks k=[]:=by
 unfold fY
 rcases Nat.lt_or_ge k toks.length with hk | hk
 ·have e:toks[k]?=some toks[k]:=List.getElem?_eq_getElem hk;rw [rJ e] at h;rw [List.drop_eq_getElem_cons hk,List.takeWhile_cons_of_neg (by simpa using h)];rfl
 ·rw [List.drop_of_length_le hk];rfl
theorem nums_le(toks:List TokV)(k:Nat):(fY toks k).length≤toks.length-k:=by
 unfold fY;rw [List.length_map];have:=(List.takeWhile_sublist (fun t:TokV=>t.kind==2) (l:=toks.drop k)).length_le
 simpa using this
theorem dP(toks:List TokV)(k:Nat)(e:Int)(b:Bool):k+1≤(bQ toks k e b).next∧(bQ toks k e b).next≤k+2:=by
 unfold bQ;split
 ·split
  ·exact⟨by simp,by simp⟩
  ·exact⟨by simp,by simp⟩
 ·exact⟨by simp,by simp⟩
theorem wV{toks:List TokV}{k:Nat}{e:Int}{b:Bool}(h:k<toks.length):(bQ toks k e b).next≤toks.length:=by
 unfold bQ;split
 ·rename_i h3;have:=iT (toks:=toks) (k:=k+1) (by rw [h3.1];decide);split<;>(simp only;omega)
 ·simp only;omega
theorem bracket_verb:pM [40]=false:=by decide
theorem name_verb{s:Bs}(h:dS s=true):pM s=false:=by
 unfold dS at h;simp only [Bool.and_eq_true,Bool.not_eq_true'] at h;exact h.1
section
variable {toks : List TokV} {e : Int} {r : qF} {k o : Nat} {out : List dJ} {st : Stk}
theorem zP(h:k≤toks.length):yW toks e (hZ toks e k) k [] [] 0:=⟨h,toks.length+1,by omega,rfl⟩
theorem e_verb(h:yW toks e r k out st o)(h2:(bP toks k).kind≠2)(h4:(bP toks k).kind≠4)(hv:pM (bP toks k).word=true):
  (isOk (bQ toks k e false).flt=true→yW toks e r (bQ toks k e false).next out (some (bQ toks k e false).it::st) o)∧(isOk (bQ toks k e false).flt=false→r=([],(bQ toks k e false).flt)):=by
 obtain⟨hk,f,hf,h⟩:=h;have hlt:=iT h4
 obtain⟨f,rfl⟩: ∃g,f=g+1:=⟨f-1,by omega⟩
 rw [jF,if_pos ⟨h2,h4,hv⟩] at h;have:=dP toks k e false;refine⟨fun hi=>?_,fun hi=>?_⟩
 ·rw [if_pos hi] at h;exact⟨wV hlt,f,by omega,h⟩
 ·rw [if_neg (by rw [hi];simp)] at h;exact h.symm
theorem bCg(h:yW toks e r k out st o)(h3:(bP toks k).kind=3)(hw:(bP toks k).word=[40]):
  (o≠32→yW toks e r (k+1) out (none::st) (o+1))∧(o=32→r=([],(atP toks k e,44))):=by
 obtain⟨hk,f,hf,h⟩:=h;have hlt:=iT (toks:=toks) (k:=k) (by rw [h3];decide)
 obtain⟨f,rfl⟩: ∃g,f=g+1:=⟨f-1,by omega⟩
 rw [jF,if_neg (by rw [hw,bracket_verb];simp),if_pos ⟨h3,hw⟩] at h;refine⟨fun hi=>?_,fun hi=>?_⟩
 ·rw [if_neg hi] at h;exact⟨hlt,f,by omega,h⟩
 ·rw [if_pos hi] at h;exact h.symm
theorem e_num(h:yW toks e r k out st o)(h2:(bP toks k).kind=2):uG toks e r (k+(fY toks k).length) (out++[rX toks k]) st o:=by
 obtain⟨hk,f,hf,h⟩:=h;have hlt:=iT (toks:=toks) (k:=k) (by rw [h2];decide)
 obtain⟨f,rfl⟩: ∃g,f=g+1:=⟨f-1,by omega⟩
 rw [jF,if_neg (by rw [h2];simp),if_neg (by rw [h2];simp),if_pos h2] at h;have h1:=nums_le toks k;have h3:=lX h2;have h4:1≤(fY toks k).length:=by rw [h3];simp
 exact⟨by omega,f,by omega,h⟩
theorem e_name(h:yW toks e r k out st o)(h1:(bP toks k).kind=1)(hn:dS (bP toks k).word=true):uG toks e r (k+1) (out++[kZ toks k]) st o:=by
 obtain⟨hk,f,hf,h⟩:=h;have hlt:=iT (toks:=toks) (k:=k) (by rw [h1];decide)
 obtain⟨f,rfl⟩: ∃g,f=g+1:=⟨f-1,by omega⟩
 rw [jF,if_neg (by rw [name_verb hn];simp),if_neg (by rw [h1];simp),if_neg (by rw [h1];simp),if_pos ⟨h1,hn⟩] at h;exact⟨by omega,f,by omega,h⟩
theorem e_word(h:yW toks e r k out st o)(h1:(bP toks k).kind=1)(hv:pM (bP toks k).word=false)(hn:dS (bP toks k).word=false):r=([],(atP toks k e,41)):=by
 obtain⟨hk,f,hf,h⟩:=h;have hlt:=iT (toks:=toks) (k:=k) (by rw [h1];decide)
 obtain⟨f,rfl⟩: ∃g,f=g+1:=⟨f-1,by omega⟩
 rw [jF,if_neg (by rw [hv];simp),if_neg (by rw [h1];simp),if_neg (by rw [h1];simp),if_neg (by rw [hn];simp),if_pos h1] at h;exact h.symm
theorem e_want(h:yW toks e r k out st o)(h1:(bP toks k).kind≠1)(h2:(bP toks k).kind≠2)(hv:(bP toks k).kind=4∨pM (bP toks k).word=false)(hw:(bP toks k).kind≠3∨(bP toks k).word≠[40]):r=([],(atP toks k e,42)):=by
 obtain⟨hk,f,hf,h⟩:=h
 obtain⟨f,rfl⟩: ∃g,f=g+1:=⟨f-1,by omega⟩
 rw [jF,if_neg (by rcases hv with hv | hv<;>simp [hv]),if_neg (by rcases hw with hw | hw<;>simp [hw]),if_neg h2,if_neg (by simp [h1]),if_neg h1] at h;exact h.symm
theorem bFh(h:uG toks e r k out st o)(ho:0<o)(h3:(bP toks k).kind=3)(hw:(bP toks k).word=[41]):uG toks e r (k+1) (out++(jG st).1) (jG st).2.tail (o-1):=by
 obtain⟨hk,f,hf,h⟩:=h;have hlt:=iT (toks:=toks) (k:=k) (by rw [h3];decide)
 obtain⟨o,rfl⟩: ∃g,o=g+1:=⟨o-1,by omega⟩
 rw [mY,if_pos ⟨h3,hw⟩] at h;exact⟨hlt,f,by omega,h⟩
theorem b_rest(h:uG toks e r k out st o)(hn:o=0∨(bP toks k).kind≠3∨(bP toks k).word≠[41]):k≤toks.length∧ ∃f,toks.length+1≤f+k∧sX toks e (jF toks e f) o k out st=r:=by
 obtain⟨hk,f,hf,h⟩:=h;refine⟨hk,f,hf,?_⟩
 cases o with
 | zero=>exact h
 | succ o=>
  rw [mY,if_neg (by
   rintro⟨a,b⟩
   rcases hn with hn | hn | hn
   ·omega
   ·exact hn a
   ·exact hn b)] at h
  exact h
theorem bJh(h:uG toks e r k out st o)(h4:(bP toks k).kind=4)(ho:0<o):r=([],(atP toks k e,42)):=by
 obtain⟨_,f,_,h⟩:=b_rest h (.inr (.inl (by rw [h4];decide)));rw [sX,if_pos h4,if_pos ho] at h;exact h.symm
theorem r_end(h:uG toks e r k out st o)(h4:(bP toks k).kind=4)(ho: ¬0<o):r=(out++(jG st).1,(0,0)):=by
 obtain⟨_,f,_,h⟩:=b_rest h (.inr (.inl (by rw [h4];decide)));rw [sX,if_pos h4,if_neg ho] at h;exact h.symm
theorem sG(h:uG toks e r k out st o)(hn:o=0∨(bP toks k).kind≠3∨(bP toks k).word≠[41])(h4:(bP toks k).kind≠4)(hm:(bP toks k).kind=2∨pM (bP toks k).word=false):r=([],(atP toks k e,46)):=by
 obtain⟨_,f,_,h⟩:=b_rest h hn;rw [sX,if_neg h4,if_pos hm] at h;exact h.symm
theorem oW(h:uG toks e r k out st o)(hn:o=0∨(bP toks k).kind≠3∨(bP toks k).word≠[41])(h4:(bP toks k).kind≠4)(h2:(bP toks k).kind≠2)(hv:pM (bP toks k).word=true):
  (isOk (bQ toks k e true).flt=true→yW toks e r (bQ toks k e true).next out (some (bQ toks k e true).it::st) o)∧(isOk (bQ toks k e true).flt=false→r=([],(bQ toks k e true).flt)):=by
 obtain⟨_,f,hf,h⟩:=b_rest h hn;have hlt:=iT h4;rw [sX,if_neg h4,if_neg (by rw [hv];simp [h2])] at h;have:=dP toks k e true;refine⟨fun hi=>?_,fun hi=>?_⟩
 ·rw [if_pos hi] at h;exact⟨wV hlt,f,by omega,h⟩
 ·rw [if_neg (by rw [hi];simp)] at h;exact h.symm
end
end Go.Proofs.YtbgdphbebhjpiaaGreatDoor
