/- Texts of one proof, one behind the other: Spell, Name, LineA, MixL, ExprA, ExprP. -/
import Derived.Test.YtbgdphbebhjpiaaGreatDoorM3
import Derived.Test.YtbgdphbebhjpiaaGreatDoorM1
import Derived.Test.YtbgdphbebhjpiaaGreatDoorM2
namespace Go.Proofs.YtbgdphbebhjpiaaGreatDoor
open Go.RowKit
theorem bJd(n:Int)(h0: -9223372036854775808≤n)(h1:n≤9223372036854775807):dT Tryz.prog 37 [.string (bs (fJ n))] [] [iC] (fun x:Option Addr×Nat=> .tuple #[.slice x.1 1 x.2,.agg #[.int .i64 0,.int .i64 0]]) (fun _=>[]) (fun x=>[kU.sl (.slice x.1 1 x.2) [⟨2,0,[],n⟩],Fact.pure (1≤x.2)]):=by
 have:=bFy (fJ n) (by have:=oU h0 h1;omega);rw [lexP_spell h0 h1] at this;exact this
theorem zW(n:Int)(h0: -9223372036854775808≤n)(h1:n≤9223372036854775807):dT Tryz.prog 255 [.string (bs (Lib.itoa n)),.string (bs [45]),.string (bs [95]),.int .i64 1] [] [iC] (fun _:Unit=> .string (bs (fJ n))) (fun _=>[]) (fun _=>[]):=by
 have:=replace_spec (Lib.itoa n) (by have:=itoa_len h0 h1;omega);rw [replace_itoa] at this;exact this
def gQ (s:Bs):Int:=
 if s=[43] then 1 else if s=[45] then 2 else if s=[42] then 3 else if s=[37] then 4 else if s=[124] then 5 else if s=[109,105,110] then 6 else if s=[109,97,120] then 7 else if s=[61] then 8 else if s=[126] then 9
 else if s=[60] then 10 else if s=[60,61] then 11 else if s=[62,61] then 12 else if s=[62] then 13 else if s=[97,110,100] then 14 else if s=[111,114] then 15 else if s=[112,111,119] then 17 else if s=[114,104,111] then 37
 else if s=[116,97,107,101] then 38 else if s=[100,114,111,112] then 39 else if s=[99,97,116] then 40 else 0
def lV (s:Bs):Int:=
 if s=[43]∨s=[45]∨s=[42]∨s=[37]∨s=[124]∨s=[109,105,110]∨s=[109,97,120] then gQ s else if s=[126] then 16 else if s=[105,111,116,97] then 32 else if s=[115,104,97,112,101] then 33 else if s=[114,97,118,101,108] then 34
 else if s=[114,101,118] then 35 else if s=[116,117,114,110] then 36 else 0
def nY (s:Bs):Bool:=lV s !=0 || gQ s !=0
def fY (s:Bs)(t:Bool):Int:=if t then gQ s else lV s
set_option maxRecDepth 100000 in
theorem spell_spec(n:Int)(h0: -9223372036854775808≤n)(h1:n≤9223372036854775807):dT Tryz.prog 222 [.agg #[.int .i64 2,.int .i64 0,.string (bs []),.int .i64 n]] [] [iC] (fun(_:Unit)=> .tuple #[.string (bs (fJ n)),.bool true]) (fun _=>[]) (fun _=>[]):=by
 have hT:=fR;refine cU Tryz.func222 rfl Tryz.ntmps222 rfl ?_;intro β hM;refine sr<|gP rfl rfl rfl rfl rfl rfl fun b1=>?_;refine sp2 hT ?_;refine nn<|sr<|sp hT ?_;refine ss (ldO hT (dJ .head)) ?_;refine sp hT ?_;refine nn<|bB<|sr<|sp hT ?_;refine ss (ldO hT (bJ .head)) ?_;refine nn<|bX<|sr<|sp hT ?_;refine cA (t':=true) (by decide) ?_;refine sp hT ?_;refine nn<|cH rfl rfl ?_;refine bD<|sp hT ?_;refine ss (ldO hT (vF .head)) ?_;refine bQ Tryz.func256 (bIz n h0 h1) rfl rfl .nil ⟨Has.of mT0,trivial⟩ fun _=>?_;refine bQ Tryz.func255 (zW n h0 h1) rfl rfl .nil ⟨Has.of mT0,trivial⟩ fun _=>?_;refine sp hT ?_;refine dY<|cD<|bC<|sr<|sp hT ?_;refine bQ Tryz.func37 (bJd n h0 h1) rfl rfl .nil ⟨Has.of mT0,trivial⟩ fun⟨A2,c3⟩=>?_;refine sp3 hT ?_;refine bY rfl rfl rfl rfl yR rfl fun b4=>?_;refine sp hT ?_;refine sto hT .head ?_;refine nn<|bB<|sr<|ss (ldN hT (bJ .head)) ?_;refine ss (cC rfl rfl (wM)) ?_;refine ss (fQ ⟨0,0⟩ ⟨0,0⟩ rfl rfl rfl) ?_;refine cA (t':=false) (rfl) ?_;refine sp4 hT ?_;refine cA (t':=false) (by decide) ?_;refine sp4 hT ?_;refine bT (z':=(((fJ n).length:Nat):Int)) rfl ?_;refine sp hT ?_;refine cA (t':=false) (by have:=oU h0 h1;simp;omega) ?_;refine sp hT ?_;refine nn<|cG rfl rfl ?_;refine bN<|bC<|sr<|sp hT ?_;refine sto hT kT1 ?_;refine nn<|bB<|bB<|cZ _ _ [(true,0),(true,1),(true,2),(true,3),(true,4),(true,5),(true,6),(true,8),(false,7),(true,9),(true,10),(true,11),(true,12),(true,13),(true,14),(true,15),(true,16),(true,17),(false,18),(true,19)] dD (by decide+kernel) (.cons .head (.cons .head .nil)) bI.self ?_;refine puM hT ?_;refine stM rfl (bV hT (k:=0) (bM (Has.of mT0)) rfl rfl rfl rfl rfl rfl rfl (by simp)) ?_;refine stM rfl (dU hT (cP.knows (bM (Has.of mT0)) (k:=0) (x:=(⟨2,0,[],n⟩:TokV)) rfl 0) rfl rfl rfl rfl rfl) ?_;refine stM rfl (ldN hT (bJ .head)) ?_;refine stM rfl (sti_neq_tok (⟨2,0,[],n⟩:TokV) ⟨2,0,([]:Bs),n⟩ rfl rfl rfl) ?_;refine cA (t':=false) (by simp [tokEq]) ?_;refine puM hT ?_;refine puM hT ?_;refine puM hT ?_;refine cL (o:=_) rfl ?_;refine bQ Tryz.func257 (bIg (fJ n) (by have:=oU h0 h1;omega) (fun b hb=>(wA n b hb).1)) rfl rfl .nil ⟨Has.of mT2,trivial⟩ fun _=>?_;refine cK (.cons .head (.cons .head .nil)) (bI.drop 0) ?_;refine puM hT ?_;refine cA (t':=false) (by rw [trim_spell];simp) ?_;refine puM hT ?_;refine dZ rfl rfl rfl rfl ?_;refine dZ rfl rfl rfl rfl ?_;refine dZ rfl rfl rfl rfl ?_;refine puM hT ?_;refine puM hT ?_;refine puM hT ?_;refine puM hT ?_;refine cL (o:=_) rfl ?_;refine bQ Tryz.func258 (bJz _ 35) rfl rfl .nil trivial fun _=>?_;refine cK (.cons .head (.cons .head .nil)) (bI.drop 0) ?_;refine cA (t':=false) (hash_spell n) ?_;refine puM hT ?_;refine cN<|bC<|cG rfl rfl ?_;refine bN<|bC<|sr<|sp3 hT ?_;refine nn<|bG ?_;exact bO () rfl (bF rfl) (bF rfl) .nil trivial (rfl)
set_option maxRecDepth 100000 in
theorem bAw(n:Int)(h0: -9223372036854775808≤n)(h1:n≤9223372036854775807):dT Tryz.prog 167 [.int .i64 n] [] [iC] (fun(_:Unit)=> .string (bs (fJ n))) (fun _=>[]) (fun _=>[]):=by
 have hT:=fR;refine cU Tryz.func167 rfl Tryz.ntmps167 rfl ?_;intro β hM;refine sr<|sp hT ?_;refine nn<|sr<|sp hT ?_;refine ss (cC rfl rfl (mU _ _)) ?_;refine bQ Tryz.func222 (spell_spec n h0 h1) rfl rfl .nil ⟨Has.of mT0,trivial⟩ fun _=>?_;refine sp4 hT ?_;refine sp hT ?_;refine nn<|sr<|sp2 hT ?_;refine nn<|bG ?_;exact bW () rfl (bF rfl) .nil trivial (rfl)
set_option maxRecDepth 100000 in
theorem jG(s:Bs):dT Tryz.prog 200 [.string (bs s)] [] [] (fun(_:Unit)=> .int .u8 (gQ s)) (fun _=>[]) (fun _=>[]):=by
 have hT:=fR;refine cU Tryz.func200 rfl Tryz.ntmps200 rfl ?_;intro β hM;refine sr<|sp hT ?_;refine nn<|bB<|sr<|sp hT ?_;refine nn<|bX<|sr<|sp2 hT ?_;refine nn<|bK rfl (fun hc4=>?_) (fun hc4=>?_)
 ·have hc4:s=([43]:Bs):=eq_of_beq hc4;refine sr<|sp hT ?_;refine nn<|bG<|bH<|bA ?_;exact bW () rfl (bF rfl) .nil trivial (by simp [gQ, *])
 have hc4:s≠([43]:Bs):=fun h=>absurd (beq_iff_eq.2 h) (by rw [show(s==([43]:Bs))=false from hc4];simp);refine sr<|sp2 hT ?_;refine nn<|bK rfl (fun hc6=>?_) (fun hc6=>?_)
 ·have hc6:s=([45]:Bs):=eq_of_beq hc6;refine sr<|sp hT ?_;refine nn<|bG<|bH<|bA ?_;exact bW () rfl (bF rfl) .nil trivial (by simp [gQ, *])
 have hc6:s≠([45]:Bs):=fun h=>absurd (beq_iff_eq.2 h) (by rw [show(s==([45]:Bs))=false from hc6];simp);refine sr<|sp2 hT ?_;refine nn<|bK rfl (fun hc8=>?_) (fun hc8=>?_)
 ·have hc8:s=([42]:Bs):=eq_of_beq hc8;refine sr<|sp hT ?_;refine nn<|bG<|bH<|bA ?_;exact bW () rfl (bF rfl) .nil trivial (by simp [gQ, *])
 have hc8:s≠([42]:Bs):=fun h=>absurd (beq_iff_eq.2 h) (by rw [show(s==([42]:Bs))=false from hc8];simp);refine sr<|sp2 hT ?_;refine nn<|bK rfl (fun hc10=>?_) (fun hc10=>?_)
 ·have hc10:s=([37]:Bs):=eq_of_beq hc10;refine sr<|sp hT ?_;refine nn<|bG<|bH<|bA ?_;exact bW () rfl (bF rfl) .nil trivial (by simp [gQ, *])
 have hc10:s≠([37]:Bs):=fun h=>absurd (beq_iff_eq.2 h) (by rw [show(s==([37]:Bs))=false from hc10];simp);refine sr<|sp2 hT ?_;refine nn<|bK rfl (fun hc12=>?_) (fun hc12=>?_)
 ·have hc12:s=([124]:Bs):=eq_of_beq hc12;refine sr<|sp hT ?_;refine nn<|bG<|bH<|bA ?_;exact bW () rfl (bF rfl) .nil trivial (by simp [gQ, *])
 have hc12:s≠([124]:Bs):=fun h=>absurd (beq_iff_eq.2 h) (by rw [show(s==([124]:Bs))=false from hc12];simp);refine sr<|sp2 hT ?_;refine nn<|bK rfl (fun hc14=>?_) (fun hc14=>?_)
 ·have hc14:s=([109,105,110]:Bs):=eq_of_beq hc14;refine sr<|sp hT ?_;refine nn<|bG<|bH<|bA ?_;exact bW () rfl (bF rfl) .nil trivial (by simp [gQ, *])
 have hc14:s≠([109,105,110]:Bs):=fun h=>absurd (beq_iff_eq.2 h) (by rw [show(s==([109,105,110]:Bs))=false from hc14];simp);refine sr<|sp2 hT ?_;refine nn<|bK rfl (fun hc16=>?_) (fun hc16=>?_)
 ·have hc16:s=([109,97,120]:Bs):=eq_of_beq hc16;refine sr<|sp hT ?_;refine nn<|bG<|bH<|bA ?_;exact bW () rfl (bF rfl) .nil trivial (by simp [gQ, *])
 have hc16:s≠([109,97,120]:Bs):=fun h=>absurd (beq_iff_eq.2 h) (by rw [show(s==([109,97,120]:Bs))=false from hc16];simp);refine sr<|sp2 hT ?_;refine nn<|bK rfl (fun hc18=>?_) (fun hc18=>?_)
 ·have hc18:s=([61]:Bs):=eq_of_beq hc18;refine sr<|sp hT ?_;refine nn<|bG<|bH<|bA ?_;exact bW () rfl (bF rfl) .nil trivial (by simp [gQ, *])
 have hc18:s≠([61]:Bs):=fun h=>absurd (beq_iff_eq.2 h) (by rw [show(s==([61]:Bs))=false from hc18];simp);refine sr<|sp2 hT ?_;refine nn<|bK rfl (fun hc20=>?_) (fun hc20=>?_)
 ·have hc20:s=([126]:Bs):=eq_of_beq hc20;refine sr<|sp hT ?_;refine nn<|bG<|bH<|bA ?_;exact bW () rfl (bF rfl) .nil trivial (by simp [gQ, *])
 have hc20:s≠([126]:Bs):=fun h=>absurd (beq_iff_eq.2 h) (by rw [show(s==([126]:Bs))=false from hc20];simp);refine sr<|sp2 hT ?_;refine nn<|bK rfl (fun hc22=>?_) (fun hc22=>?_)
 ·have hc22:s=([60]:Bs):=eq_of_beq hc22;refine sr<|sp hT ?_;refine nn<|bG<|bH<|bA ?_;exact bW () rfl (bF rfl) .nil trivial (by simp [gQ, *])
 have hc22:s≠([60]:Bs):=fun h=>absurd (beq_iff_eq.2 h) (by rw [show(s==([60]:Bs))=false from hc22];simp);refine sr<|sp2 hT ?_;refine nn<|bK rfl (fun hc24=>?_) (fun hc24=>?_)
 ·have hc24:s=([60,61]:Bs):=eq_of_beq hc24;refine sr<|sp hT ?_;refine nn<|bG<|bH<|bA ?_;exact bW () rfl (bF rfl) .nil trivial (by simp [gQ, *])
 have hc24:s≠([60,61]:Bs):=fun h=>absurd (beq_iff_eq.2 h) (by rw [show(s==([60,61]:Bs))=false from hc24];simp);refine sr<|sp2 hT ?_;refine nn<|bK rfl (fun hc26=>?_) (fun hc26=>?_)
 ·have hc26:s=([62,61]:Bs):=eq_of_beq hc26;refine sr<|sp hT ?_;refine nn<|bG<|bH<|bA ?_;exact bW () rfl (bF rfl) .nil trivial (by simp [gQ, *])
 have hc26:s≠([62,61]:Bs):=fun h=>absurd (beq_iff_eq.2 h) (by rw [show(s==([62,61]:Bs))=false from hc26];simp);refine sr<|sp2 hT ?_;refine nn<|bK rfl (fun hc28=>?_) (fun hc28=>?_)
 ·have hc28:s=([62]:Bs):=eq_of_beq hc28;refine sr<|sp hT ?_;refine nn<|bG<|bH<|bA ?_;exact bW () rfl (bF rfl) .nil trivial (by simp [gQ, *])
 have hc28:s≠([62]:Bs):=fun h=>absurd (beq_iff_eq.2 h) (by rw [show(s==([62]:Bs))=false from hc28];simp);refine sr<|sp2 hT ?_;refine nn<|bK rfl (fun hc30=>?_) (fun hc30=>?_)
 ·have hc30:s=([97,110,100]:Bs):=eq_of_beq hc30;refine sr<|sp hT ?_;refine nn<|bG<|bH<|bA ?_;exact bW () rfl (bF rfl) .nil trivial (by simp [gQ, *])
 have hc30:s≠([97,110,100]:Bs):=fun h=>absurd (beq_iff_eq.2 h) (by rw [show(s==([97,110,100]:Bs))=false from hc30];simp);refine sr<|sp2 hT ?_;refine nn<|bK rfl (fun hc32=>?_) (fun hc32=>?_)
 ·have hc32:s=([111,114]:Bs):=eq_of_beq hc32;refine sr<|sp hT ?_;refine nn<|bG<|bH<|bA ?_;exact bW () rfl (bF rfl) .nil trivial (by simp [gQ, *])
 have hc32:s≠([111,114]:Bs):=fun h=>absurd (beq_iff_eq.2 h) (by rw [show(s==([111,114]:Bs))=false from hc32];simp);refine sr<|sp2 hT ?_;refine nn<|bK rfl (fun hc34=>?_) (fun hc34=>?_)
 ·have hc34:s=([112,111,119]:Bs):=eq_of_beq hc34;refine sr<|sp hT ?_;refine nn<|bG<|bH<|bA ?_;exact bW () rfl (bF rfl) .nil trivial (by simp [gQ, *])
 have hc34:s≠([112,111,119]:Bs):=fun h=>absurd (beq_iff_eq.2 h) (by rw [show(s==([112,111,119]:Bs))=false from hc34];simp);refine sr<|sp2 hT ?_;refine nn<|bK rfl (fun hc36=>?_) (fun hc36=>?_)
 ·have hc36:s=([114,104,111]:Bs):=eq_of_beq hc36;refine sr<|sp hT ?_;refine nn<|bG<|bH<|bA ?_;exact bW () rfl (bF rfl) .nil trivial (by simp [gQ, *])
 have hc36:s≠([114,104,111]:Bs):=fun h=>absurd (beq_iff_eq.2 h) (by rw [show(s==([114,104,111]:Bs))=false from hc36];simp);refine sr<|sp2 hT ?_;refine nn<|bK rfl (fun hc38=>?_) (fun hc38=>?_)
 ·have hc38:s=([116,97,107,101]:Bs):=eq_of_beq hc38;refine sr<|sp hT ?_;refine nn<|bG<|bH<|bA ?_;exact bW () rfl (bF rfl) .nil trivial (by simp [gQ, *])
 have hc38:s≠([116,97,107,101]:Bs):=fun h=>absurd (beq_iff_eq.2 h) (by rw [show(s==([116,97,107,101]:Bs))=false from hc38];simp);refine sr<|sp2 hT ?_;refine nn<|bK rfl (fun hc40=>?_) (fun hc40=>?_)
 ·have hc40:s=([100,114,111,112]:Bs):=eq_of_beq hc40;refine sr<|sp hT ?_;refine nn<|bG<|bH<|bA ?_;exact bW () rfl (bF rfl) .nil trivial (by simp [gQ, *])
 have hc40:s≠([100,114,111,112]:Bs):=fun h=>absurd (beq_iff_eq.2 h) (by rw [show(s==([100,114,111,112]:Bs))=false from hc40];simp);refine sr<|sp2 hT ?_;refine nn<|bK rfl (fun hc42=>?_) (fun hc42=>?_)
 ·have hc42:s=([99,97,116]:Bs):=eq_of_beq hc42;refine sr<|sp hT ?_;refine nn<|bG<|bH<|bA ?_;exact bW () rfl (bF rfl) .nil trivial (by simp [gQ, *])
 have hc42:s≠([99,97,116]:Bs):=fun h=>absurd (beq_iff_eq.2 h) (by rw [show(s==([99,97,116]:Bs))=false from hc42];simp);refine bN<|cD<|bC<|sr<|sp hT ?_;refine nn<|bG ?_;exact bW () rfl (bF rfl) .nil trivial (by simp [gQ, *])
set_option maxRecDepth 100000 in
theorem one_spec(s:Bs):dT Tryz.prog 199 [.string (bs s)] [] [] (fun(_:Unit)=> .int .u8 (lV s)) (fun _=>[]) (fun _=>[]):=by
 have hT:=fR;refine cU Tryz.func199 rfl Tryz.ntmps199 rfl ?_;intro β hM;refine sr<|sp hT ?_;refine nn<|bB<|sr<|sp hT ?_;refine nn<|bX<|bB<|sr<|sp2 hT ?_;refine nn<|bK rfl (fun hc4=>?_) (fun hc4=>?_)
 ·have hc4_r:=hc4;have hc4:s=([43]:Bs):=eq_of_beq hc4;refine bN<|bC<|cH rfl hc4_r ?_;refine sr<|sp hT ?_;refine bQ Tryz.func200 (jG s) rfl rfl .nil trivial fun _=>?_;refine sp hT ?_;refine nn<|bG<|bH<|bA ?_;exact bW () rfl (bF rfl) .nil trivial (by first | (simp [lV, *];done) | simp [lV,gQ, *])
 have hc4_r:=hc4;have hc4:s≠([43]:Bs):=fun h=>absurd (beq_iff_eq.2 h) (by rw [show(s==([43]:Bs))=false from hc4];simp);refine sr<|sp2 hT ?_;refine nn<|bK rfl (fun hc4_1=>?_) (fun hc4_1=>?_)
 ·have hc4_1_r:=hc4_1;have hc4_1:s=([45]:Bs):=eq_of_beq hc4_1;refine bN<|bC<|cH rfl hc4_1_r ?_;refine sr<|sp hT ?_;refine bQ Tryz.func200 (jG s) rfl rfl .nil trivial fun _=>?_;refine sp hT ?_;refine nn<|bG<|bH<|bA ?_;exact bW () rfl (bF rfl) .nil trivial (by first | (simp [lV, *];done) | simp [lV,gQ, *])
 have hc4_1_r:=hc4_1;have hc4_1:s≠([45]:Bs):=fun h=>absurd (beq_iff_eq.2 h) (by rw [show(s==([45]:Bs))=false from hc4_1];simp);refine sr<|sp2 hT ?_;refine nn<|bK rfl (fun hc4_2=>?_) (fun hc4_2=>?_)
 ·have hc4_2_r:=hc4_2;have hc4_2:s=([42]:Bs):=eq_of_beq hc4_2;refine bN<|bC<|cH rfl hc4_2_r ?_;refine sr<|sp hT ?_;refine bQ Tryz.func200 (jG s) rfl rfl .nil trivial fun _=>?_;refine sp hT ?_;refine nn<|bG<|bH<|bA ?_;exact bW () rfl (bF rfl) .nil trivial (by first | (simp [lV, *];done) | simp [lV,gQ, *])
 have hc4_2_r:=hc4_2;have hc4_2:s≠([42]:Bs):=fun h=>absurd (beq_iff_eq.2 h) (by rw [show(s==([42]:Bs))=false from hc4_2];simp);refine sr<|sp2 hT ?_;refine nn<|bK rfl (fun hc4_3=>?_) (fun hc4_3=>?_)
 ·have hc4_3_r:=hc4_3;have hc4_3:s=([37]:Bs):=eq_of_beq hc4_3;refine bN<|bC<|cH rfl hc4_3_r ?_;refine sr<|sp hT ?_;refine bQ Tryz.func200 (jG s) rfl rfl .nil trivial fun _=>?_;refine sp hT ?_;refine nn<|bG<|bH<|bA ?_;exact bW () rfl (bF rfl) .nil trivial (by first | (simp [lV, *];done) | simp [lV,gQ, *])
 have hc4_3_r:=hc4_3;have hc4_3:s≠([37]:Bs):=fun h=>absurd (beq_iff_eq.2 h) (by rw [show(s==([37]:Bs))=false from hc4_3];simp);refine sr<|sp2 hT ?_;refine nn<|bK rfl (fun hc4_4=>?_) (fun hc4_4=>?_)
 ·have hc4_4_r:=hc4_4;have hc4_4:s=([124]:Bs):=eq_of_beq hc4_4;refine bN<|bC<|cH rfl hc4_4_r ?_;refine sr<|sp hT ?_;refine bQ Tryz.func200 (jG s) rfl rfl .nil trivial fun _=>?_;refine sp hT ?_;refine nn<|bG<|bH<|bA ?_;exact bW () rfl (bF rfl) .nil trivial (by first | (simp [lV, *];done) | simp [lV,gQ, *])
 have hc4_4_r:=hc4_4;have hc4_4:s≠([124]:Bs):=fun h=>absurd (beq_iff_eq.2 h) (by rw [show(s==([124]:Bs))=false from hc4_4];simp);refine sr<|sp2 hT ?_;refine nn<|bK rfl (fun hc4_5=>?_) (fun hc4_5=>?_)
 ·have hc4_5_r:=hc4_5;have hc4_5:s=([109,105,110]:Bs):=eq_of_beq hc4_5;refine bN<|bC<|cH rfl hc4_5_r ?_;refine sr<|sp hT ?_;refine bQ Tryz.func200 (jG s) rfl rfl .nil trivial fun _=>?_;refine sp hT ?_;refine nn<|bG<|bH<|bA ?_;exact bW () rfl (bF rfl) .nil trivial (by first | (simp [lV, *];done) | simp [lV,gQ, *])
 have hc4_5_r:=hc4_5;have hc4_5:s≠([109,105,110]:Bs):=fun h=>absurd (beq_iff_eq.2 h) (by rw [show(s==([109,105,110]:Bs))=false from hc4_5];simp);refine bD<|sp2 hT ?_;refine nn<|bK rfl (fun hc4_6=>?_) (fun hc4_6=>?_)
 ·have hc4_6_r:=hc4_6;have hc4_6:s=([109,97,120]:Bs):=eq_of_beq hc4_6;refine sr<|sp hT ?_;refine bQ Tryz.func200 (jG s) rfl rfl .nil trivial fun _=>?_;refine sp hT ?_;refine nn<|bG<|bH<|bA ?_;exact bW () rfl (bF rfl) .nil trivial (by first | (simp [lV, *];done) | simp [lV,gQ, *])
 have hc4_6_r:=hc4_6;have hc4_6:s≠([109,97,120]:Bs):=fun h=>absurd (beq_iff_eq.2 h) (by rw [show(s==([109,97,120]:Bs))=false from hc4_6];simp);refine sr<|sp2 hT ?_;refine nn<|bK rfl (fun hc14=>?_) (fun hc14=>?_)
 ·have hc14_r:=hc14;have hc14:s=([126]:Bs):=eq_of_beq hc14;refine sr<|sp hT ?_;refine nn<|bG<|bH<|bA ?_;exact bW () rfl (bF rfl) .nil trivial (by first | (simp [lV, *];done) | simp [lV,gQ, *])
 have hc14_r:=hc14;have hc14:s≠([126]:Bs):=fun h=>absurd (beq_iff_eq.2 h) (by rw [show(s==([126]:Bs))=false from hc14];simp);refine sr<|sp2 hT ?_;refine nn<|bK rfl (fun hc16=>?_) (fun hc16=>?_)
 ·have hc16_r:=hc16;have hc16:s=([105,111,116,97]:Bs):=eq_of_beq hc16;refine sr<|sp hT ?_;refine nn<|bG<|bH<|bA ?_;exact bW () rfl (bF rfl) .nil trivial (by first | (simp [lV, *];done) | simp [lV,gQ, *])
 have hc16_r:=hc16;have hc16:s≠([105,111,116,97]:Bs):=fun h=>absurd (beq_iff_eq.2 h) (by rw [show(s==([105,111,116,97]:Bs))=false from hc16];simp);refine sr<|sp2 hT ?_;refine nn<|bK rfl (fun hc18=>?_) (fun hc18=>?_)
 ·have hc18_r:=hc18;have hc18:s=([115,104,97,112,101]:Bs):=eq_of_beq hc18;refine sr<|sp hT ?_;refine nn<|bG<|bH<|bA ?_;exact bW () rfl (bF rfl) .nil trivial (by first | (simp [lV, *];done) | simp [lV,gQ, *])
 have hc18_r:=hc18;have hc18:s≠([115,104,97,112,101]:Bs):=fun h=>absurd (beq_iff_eq.2 h) (by rw [show(s==([115,104,97,112,101]:Bs))=false from hc18];simp);refine sr<|sp2 hT ?_;refine nn<|bK rfl (fun hc20=>?_) (fun hc20=>?_)
 ·have hc20_r:=hc20;have hc20:s=([114,97,118,101,108]:Bs):=eq_of_beq hc20;refine sr<|sp hT ?_;refine nn<|bG<|bH<|bA ?_;exact bW () rfl (bF rfl) .nil trivial (by first | (simp [lV, *];done) | simp [lV,gQ, *])
 have hc20_r:=hc20;have hc20:s≠([114,97,118,101,108]:Bs):=fun h=>absurd (beq_iff_eq.2 h) (by rw [show(s==([114,97,118,101,108]:Bs))=false from hc20];simp);refine sr<|sp2 hT ?_;refine nn<|bK rfl (fun hc22=>?_) (fun hc22=>?_)
 ·have hc22_r:=hc22;have hc22:s=([114,101,118]:Bs):=eq_of_beq hc22;refine sr<|sp hT ?_;refine nn<|bG<|bH<|bA ?_;exact bW () rfl (bF rfl) .nil trivial (by first | (simp [lV, *];done) | simp [lV,gQ, *])
 have hc22_r:=hc22;have hc22:s≠([114,101,118]:Bs):=fun h=>absurd (beq_iff_eq.2 h) (by rw [show(s==([114,101,118]:Bs))=false from hc22];simp);refine sr<|sp2 hT ?_;refine nn<|bK rfl (fun hc24=>?_) (fun hc24=>?_)
 ·have hc24_r:=hc24;have hc24:s=([116,117,114,110]:Bs):=eq_of_beq hc24;refine sr<|sp hT ?_;refine nn<|bG<|bH<|bA ?_;exact bW () rfl (bF rfl) .nil trivial (by first | (simp [lV, *];done) | simp [lV,gQ, *])
 have hc24_r:=hc24;have hc24:s≠([116,117,114,110]:Bs):=fun h=>absurd (beq_iff_eq.2 h) (by rw [show(s==([116,117,114,110]:Bs))=false from hc24];simp);refine bN<|cD<|bC<|sr<|sp hT ?_;refine nn<|bG ?_;exact bW () rfl (bF rfl) .nil trivial (by first | (simp [lV, *];done) | simp [lV,gQ, *])
set_option maxRecDepth 100000 in
theorem nN(s:Bs):dT Tryz.prog 135 [.string (bs s)] [] [] (fun(_:Unit)=> .bool (nY s)) (fun _=>[]) (fun _=>[]):=by
 have hT:=fR;refine cU Tryz.func135 rfl Tryz.ntmps135 rfl ?_;intro β hM;refine sr<|sp hT ?_;refine nn<|sr<|sp hT ?_;refine bQ Tryz.func199 (one_spec s) rfl rfl .nil trivial fun _=>?_;refine sp2 hT ?_;refine cF (fun hg6=>?_) (fun hg6=>?_)
 ·have hg6:=bne_iff_ne.1 hg6;refine sk3 ?_;refine sp2 hT ?_;refine nn<|bG ?_;exact bW () rfl (bF rfl) .nil trivial (by simp [nY, *])
 have hg6:=bne_eq_false_iff_eq.1 hg6;refine sp hT ?_;refine bQ Tryz.func200 (jG s) rfl rfl .nil trivial fun _=>?_;refine sp3 hT ?_;refine nn<|bG ?_;exact bW () rfl (bF rfl) .nil trivial (by simp [nY, *])
set_option maxRecDepth 100000 in
theorem bCl(s:Bs)(t:Bool):dT Tryz.prog 166 [.string (bs s),.bool t] [] [] (fun(_:Unit)=> .tuple #[.int .u8 (fY s t),.bool (fY s t !=0)]) (fun _=>[]) (fun _=>[]):=by
 have hT:=fR;refine cU Tryz.func166 rfl Tryz.ntmps166 rfl ?_;intro β hM;refine sr<|sp2 hT ?_;refine nn<|sr<|sp hT ?_;refine bQ Tryz.func199 (one_spec s) rfl rfl .nil trivial fun _=>?_;refine sp hT ?_;refine nn<|bB<|sr<|sp hT ?_;refine nn<|bK rfl (fun hc9=>?_) (fun hc9=>?_)
 ·refine bD<|sp hT ?_;refine bQ Tryz.func200 (jG s) rfl rfl .nil trivial fun _=>?_;refine sp hT ?_;refine nn<|sr<|sp4 hT ?_;refine sp hT ?_;refine nn<|bG ?_;exact bO () rfl (bF rfl) (bF rfl) .nil trivial (by simp [fY, *])
 refine bN<|bC<|sr<|sp4 hT ?_;refine sp hT ?_;refine nn<|bG ?_;exact bO () rfl (bF rfl) (bF rfl) .nil trivial (by simp [fY, *])
def bBz (s:Bs):Bool:=oK ⟨(lexP s).2.1,(lexP s).2.2⟩ ⟨0,0⟩&&match (lexP s).1 with
 | [t]=>t.kind==1&&t.word==s
 | _=>false
def dX (s:Bs):Bool:= !(nY s)&&(!(s==[105,110])&&(!(s==[111,117,116])&&bBz s))
section
variable {s : Bs}
theorem yW(h:nY s=true):Value.bool false= .bool (dX s):=by simp [dX,h]
theorem yB(h:s=[105,110]):Value.bool false= .bool (dX s):=by simp [dX,h]
theorem yP(h:s=[111,117,116]):Value.bool false= .bool (dX s):=by simp [dX,h]
theorem yQ(h:oK ⟨(lexP s).2.1,(lexP s).2.2⟩ ⟨0,0⟩=false):Value.bool false= .bool (dX s):=by simp [dX,bBz,h]
theorem zI(h:(((lexP s).1.length:Nat):Int)≠1):Value.bool false= .bool (dX s):=by
 unfold dX bBz;split
 ·rename_i t ht;rw [ht] at h;simp at h
 ·simp
theorem list_one{α:Type}{l:List α}{x:α}(h:((l.length:Nat):Int)=1)(hx:l[0]?=some x):l=[x]:=by
 match l,h with
 | [a],_=>simp at hx;rw [hx]
 | [],h=>simp at h
 | _::_::_,h=>simp at h;omega
variable (h0 : nY s = false) (h1 : s ≠ [105, 110]) (h2 : s ≠ [111, 117, 116]) (hf : oK ⟨(lexP s).2.1, (lexP s).2.2⟩ ⟨0, 0⟩ = true) (hl : (((lexP s).1.length : Nat) : Int) = 1) {x : TokV} (hx : (lexP s).1[0]? = some x)
include h0 h1 h2 hf hl hx
theorem name_at:dX s=(x.kind==1&&x.word==s):=by
 unfold dX bBz;rw [list_one hl hx,h0,hf,beq_eq_false_iff_ne.2 h1,beq_eq_false_iff_ne.2 h2];simp
theorem yN(hk:x.kind≠1):Value.bool false= .bool (dX s):=by
 rw [name_at h0 h1 h2 hf hl hx];simp [hk]
theorem yD(hk:x.kind=1):Value.bool (x.word==s)= .bool (dX s):=by
 rw [name_at h0 h1 h2 hf hl hx];simp [hk]
end
set_option maxRecDepth 100000 in
theorem mD(s:Bs)(hs:s.length≤140737488355328):dT Tryz.prog 76 [.string (bs s)] [] [iC] (fun(_:Unit)=> .bool (dX s)) (fun _=>[]) (fun _=>[]):=by
 have hT:=fR;refine cU Tryz.func76 rfl Tryz.ntmps76 rfl ?_;intro β hM;refine sr<|sp hT ?_;refine nn<|bB<|sr<|sp hT ?_;refine bQ Tryz.func135 (nN s) rfl rfl .nil trivial fun _=>?_;refine sp hT ?_;refine cF (fun hg7=>?_) (fun hg7=>?_)
 ·refine sk2 ?_;refine sp2 hT ?_;refine sk2 ?_;refine sp hT ?_;refine nn<|cH rfl rfl ?_;refine sr<|sp hT ?_;refine nn<|bG<|bA ?_;exact bW () rfl (bF rfl) .nil trivial (by first | exact yW hg7 | exact yB hg11 | exact yP hc14 | exact yQ hg23 | exact zI hg28 | exact yN hg7 hg11 hc14 hg23 hg28 ‹(lexP s).1[0]?=some _› hg35 | exact yD hg7 hg11 hc14 hg23 hg28 ‹(lexP s).1[0]?=some _› hg35)
 refine sp4 hT ?_;refine cF (fun hg11=>?_) (fun hg11=>?_)
 ·have hg11:s=([105,110]:Bs):=eq_of_beq hg11;refine sk2 ?_;refine sp hT ?_;refine nn<|cH rfl rfl ?_;refine sr<|sp hT ?_;refine nn<|bG<|bA ?_;exact bW () rfl (bF rfl) .nil trivial (by first | exact yW hg7 | exact yB hg11 | exact yP hc14 | exact yQ hg23 | exact zI hg28 | exact yN hg7 hg11 hc14 hg23 hg28 ‹(lexP s).1[0]?=some _› hg35 | exact yD hg7 hg11 hc14 hg23 hg28 ‹(lexP s).1[0]?=some _› hg35)
 have hg11:s≠([105,110]:Bs):=fun h=>absurd (beq_iff_eq.2 h) (by rw [show(s==([105,110]:Bs))=false from hg11];simp);refine sp3 hT ?_;refine nn<|bK rfl (fun hc14=>?_) (fun hc14=>?_)
 ·have hc14:s=([111,117,116]:Bs):=eq_of_beq hc14;refine sr<|sp hT ?_;refine nn<|bG<|bA ?_;exact bW () rfl (bF rfl) .nil trivial (by first | exact yW hg7 | exact yB hg11 | exact yP hc14 | exact yQ hg23 | exact zI hg28 | exact yN hg7 hg11 hc14 hg23 hg28 ‹(lexP s).1[0]?=some _› hg35 | exact yD hg7 hg11 hc14 hg23 hg28 ‹(lexP s).1[0]?=some _› hg35)
 have hc14:s≠([111,117,116]:Bs):=fun h=>absurd (beq_iff_eq.2 h) (by rw [show(s==([111,117,116]:Bs))=false from hc14];simp);refine bN<|bC<|sr<|sp hT ?_;refine bQ Tryz.func37 (bFy s (by omega)) rfl rfl .nil ⟨Has.of mT0,trivial⟩ fun⟨A1,c2⟩=>?_;refine sp3 hT ?_;refine bY rfl rfl rfl rfl yR rfl fun b3=>?_;refine sp hT ?_;refine sto hT .head ?_;refine nn<|sr<|ss (ldN hT (bJ .head)) ?_;refine ss (cC rfl rfl (wM)) ?_;refine ss (rT ⟨(lexP s).2.1,(lexP s).2.2⟩ ⟨0,0⟩ rfl rfl rfl) ?_;refine sp hT ?_;refine cF (fun hg23=>?_) (fun hg23=>?_)
 ·refine sp4 hT ?_;refine sp hT ?_;refine cF (fun hg28=>?_) (fun hg28=>?_)
  ·have hg28:=eq_of_beq hg28;refine sp hT ?_
   obtain⟨x4,hx5⟩: ∃x,(lexP s).1[0]?=some x:=⟨_,List.getElem?_eq_getElem (by omega)⟩
   refine ss (bV hT (k:=0) (bM (Has.of mT0)) rfl rfl rfl rfl rfl rfl rfl (by omega)) ?_;refine sp hT ?_;refine ss (cI hT (cP.knows (bM (Has.of mT0)) (k:=0) (x:=x4) hx5 0) rfl rfl rfl rfl rfl) ?_;refine sp3 hT ?_;refine cF (fun hg35=>?_) (fun hg35=>?_)
   ·have hg35:=eq_of_beq hg35;refine sp hT ?_;refine ss (bV hT (k:=0) (bM (Has.of mT0)) rfl rfl rfl rfl rfl rfl rfl (by omega)) ?_;refine sp hT ?_;refine ss (cI hT (cP.knows (bM (Has.of mT0)) (k:=0) (x:=x4) hx5 2) rfl rfl rfl rfl rfl) ?_;refine sp4 hT ?_;refine nn<|bG ?_;exact bW () rfl (bF rfl) .nil trivial (by first | exact yW hg7 | exact yB hg11 | exact yP hc14 | exact yQ hg23 | exact zI hg28 | exact yN hg7 hg11 hc14 hg23 hg28 ‹(lexP s).1[0]?=some _› hg35 | exact yD hg7 hg11 hc14 hg23 hg28 ‹(lexP s).1[0]?=some _› hg35)
   have hg35:=beq_eq_false_iff_ne.1 hg35;refine sk4 ?_;refine sk2 ?_;refine sp2 hT ?_;refine nn<|bG ?_;exact bW () rfl (bF rfl) .nil trivial (by first | exact yW hg7 | exact yB hg11 | exact yP hc14 | exact yQ hg23 | exact zI hg28 | exact yN hg7 hg11 hc14 hg23 hg28 ‹(lexP s).1[0]?=some _› hg35 | exact yD hg7 hg11 hc14 hg23 hg28 ‹(lexP s).1[0]?=some _› hg35)
  have hg28:=beq_eq_false_iff_ne.1 hg28;refine sk4 ?_;refine sk ?_;refine sp2 hT ?_;refine sk4 ?_;refine sk2 ?_;refine sp2 hT ?_;refine nn<|bG ?_;exact bW () rfl (bF rfl) .nil trivial (by first | exact yW hg7 | exact yB hg11 | exact yP hc14 | exact yQ hg23 | exact zI hg28 | exact yN hg7 hg11 hc14 hg23 hg28 ‹(lexP s).1[0]?=some _› hg35 | exact yD hg7 hg11 hc14 hg23 hg28 ‹(lexP s).1[0]?=some _› hg35)
 refine sk3 ?_;refine sp2 hT ?_;refine sk4 ?_;refine sk ?_;refine sp2 hT ?_;refine sk4 ?_;refine sk2 ?_;refine sp2 hT ?_;refine nn<|bG ?_;exact bW () rfl (bF rfl) .nil trivial (by first | exact yW hg7 | exact yB hg11 | exact yP hc14 | exact yQ hg23 | exact zI hg28 | exact yN hg7 hg11 hc14 hg23 hg28 ‹(lexP s).1[0]?=some _› hg35 | exact yD hg7 hg11 hc14 hg23 hg28 ‹(lexP s).1[0]?=some _› hg35)
def atP (toks:List TokV)(k:Nat)(e:Int):Int:=match toks[k]? with
 | some t=>t.at_
 | none=>e
def bP (toks:List TokV)(k:Nat):TokV:=match toks[k]? with
 | some t=>t
 | none=>⟨4,0,[],0⟩
def tokV (t:TokV):Value:= .agg #[.int .i64 t.kind,.int .i64 t.at_,.string (bs t.word),.int .i64 t.n]
section
variable {toks : List TokV} {k : Nat} {e : Int}
theorem zQ{t:TokV}(h:toks[k]?=some t):atP toks k e=t.at_:=by unfold atP;rw [h]
theorem bGt(h:toks.length≤k):atP toks k e=e:=by unfold atP;rw [List.getElem?_eq_none h]
theorem qX{t:TokV}(h:toks[k]?=some t):bP toks k=t:=by unfold bP;rw [h]
theorem yC(h:toks.length≤k):bP toks k=⟨4,0,[],0⟩:=by unfold bP;rw [List.getElem?_eq_none h]
end
structure Phr where
 how:Int
 at_:Int
 fn:Int
 flt:Flt
 next:Nat
def bS (toks:List TokV)(k:Nat)(e:Int)(left:Bool):Phr:=
 if (bP toks (k+1)).kind=3∧((bP toks (k+1)).word=[47]∨(bP toks (k+1)).word=[92]∨(bP toks (k+1)).word=[46]) then
  if 17<gQ (bP toks k).word∨((bP toks (k+1)).word==[46])≠left then ⟨if left then 4 else 3,(bP toks k).at_,gQ (bP toks k).word,(atP toks k e,43),k+1+1⟩
  else ⟨if (bP toks (k+1)).word=[47] then 5 else if (bP toks (k+1)).word=[92] then 6 else 7,(bP toks k).at_,gQ (bP toks k).word,if gQ (bP toks k).word=0 then (atP toks k e,43) else (0,0),k+1+1⟩
 else ⟨if left then 4 else 3,(bP toks k).at_,fY (bP toks k).word left,if fY (bP toks k).word left=0 then (atP toks k e,43) else (0,0),k+1⟩
def phrV (p:Phr):Value:= .tuple #[.agg #[.int .i64 p.how,.int .i64 p.at_,.int .u8 p.fn,.string (bs []),.slice none 0 0],.agg #[.int .i64 p.flt.1,.int .i64 p.flt.2]]
theorem mG:(Tryz.prog.info? 52).bind (·.zero)=some (.agg #[.int .i64 0,.int .i64 0,.int .u8 0,.string (bs []),.slice none 0 0]):=by kernel_rfl
theorem pI(z0:Int)(z1:Int):Tryz.prog.built 52 [(0,.int .i64 z0),(1,.int .i64 z1)]=some #[.int .i64 z0,.int .i64 z1,.int .u8 0,.string (bs []),.slice none 0 0]:=by kernel_rfl
set_option maxRecDepth 100000 in
theorem at_spec(bl:Nat)(A:Option Addr)(c:Nat)(toks:List TokV)(k:Nat)(e:Int):dT Tryz.prog 134 [.pointer (some ⟨bl,0,none⟩)] [.obj bl (.cells [.slice A toks.length c,.int .i64 (k:Nat),.int .i64 e].toArray 102)] [kU.sl (.slice A toks.length c) toks] (fun(_:Unit)=> .int .i64 (atP toks k e)) (fun(_:Unit)=>[.obj bl (.cells [.slice A toks.length c,.int .i64 (k:Nat),.int .i64 e].toArray 102)]) (fun _=>[]):=by
 have hT:=fR;refine cU Tryz.func134 rfl Tryz.ntmps134 rfl ?_;intro β hM;refine sr<|sp hT ?_;refine nn<|bB<|bB<|cZ _ _ [(true,0),(true,1),(true,2),(true,3),(true,4),(true,5),(true,6),(true,7),(true,8),(true,9)] dD (by decide+kernel) (.cons .head .nil) bI.self ?_;refine puM hT ?_;refine puM hT ?_;refine puM hT ?_;refine stM rfl (ldO hT (fN .head)) ?_;refine puM hT ?_;refine puM hT ?_;refine puM hT ?_;refine stM rfl (ldO hT (bJ .head)) ?_;refine puM hT ?_;refine puM hT ?_;refine cN<|bC<|bK rfl (fun hc12=>?_) (fun hc12=>?_)
 ·have hc12:=of_decide_eq_true hc12;refine bB<|cZ _ _ [(true,0),(true,1),(true,2),(true,3),(true,4),(true,5),(true,6),(true,7),(true,8),(true,9),(true,10),(true,11)] dD (by decide+kernel) (.cons .head .nil) bI.self ?_;refine puM hT ?_;refine puM hT ?_;refine puM hT ?_;refine stM rfl (ldO hT (bJ .head)) ?_;refine puM hT ?_;refine puM hT ?_;refine puM hT ?_;refine stM rfl (ldO hT (fN .head)) ?_
  obtain⟨x1,hx2⟩: ∃x,toks[k]?=some x:=⟨_,List.getElem?_eq_getElem (by omega)⟩
  refine stM rfl (bV hT (k:=k) (bM (Has.of mT0)) rfl rfl rfl rfl rfl rfl rfl (by omega)) ?_;refine puM hT ?_;refine stM rfl (cI hT (cP.knows (bM (Has.of mT0)) (k:=k) (x:=x1) hx2 1) rfl rfl rfl rfl rfl) ?_;refine puM hT ?_;refine cN<|bC<|bG<|bA ?_;exact bW () rfl (bF rfl) (.cons .head .nil) trivial (by rw [zQ hx2])
 have hc12:=Int.not_lt.1 (of_decide_eq_false hc12);refine bN<|bC<|sr<|sp3 hT ?_;refine ss (ldO hT (dJ .head)) ?_;refine sp hT ?_;refine nn<|bG ?_;exact bW () rfl (bF rfl) (.cons .head .nil) trivial (by rw [bGt (by omega)])
set_option maxRecDepth 100000 in
theorem iA(bl:Nat)(A:Option Addr)(c:Nat)(toks:List TokV)(k:Nat)(e:Int):dT Tryz.prog 73 [.pointer (some ⟨bl,0,none⟩)] [.obj bl (.cells [.slice A toks.length c,.int .i64 (k:Nat),.int .i64 e].toArray 102)] [kU.sl (.slice A toks.length c) toks] (fun(_:Unit)=>tokV (bP toks k)) (fun(_:Unit)=>[.obj bl (.cells [.slice A toks.length c,.int .i64 (k:Nat),.int .i64 e].toArray 102)]) (fun _=>[]):=by
 have hT:=fR;refine cU Tryz.func73 rfl Tryz.ntmps73 rfl ?_;intro β hM;refine sr<|bY rfl rfl rfl rfl wP rfl fun b1=>?_;refine nn<|bB<|bB<|cZ _ _ [(true,0),(true,1),(true,2),(true,3),(true,4),(true,5),(true,6),(true,7),(true,8),(true,9)] dD (by decide+kernel) (.cons .head (.cons .head .nil)) bI.self ?_;refine puM hT ?_;refine puM hT ?_;refine puM hT ?_;refine stM rfl (ldO hT (fN kT1)) ?_;refine puM hT ?_;refine puM hT ?_;refine puM hT ?_;refine stM rfl (ldO hT (bJ kT1)) ?_;refine puM hT ?_;refine puM hT ?_;refine cN<|bC<|bK rfl (fun hc12=>?_) (fun hc12=>?_)
 ·have hc12:=of_decide_eq_true hc12;refine bB<|cZ _ _ [(true,0),(true,1),(true,2),(true,3),(true,4),(true,5),(true,6),(true,7),(true,8),(true,9),(false,10)] dD (by decide+kernel) (.cons kT1 .nil) bI.self ?_;refine puM hT ?_;refine puM hT ?_;refine puM hT ?_;refine stM rfl (ldO hT (bJ .head)) ?_;refine puM hT ?_;refine puM hT ?_;refine puM hT ?_;refine stM rfl (ldO hT (fN .head)) ?_
  obtain⟨x2,hx3⟩: ∃x,toks[k]?=some x:=⟨_,List.getElem?_eq_getElem (by omega)⟩
  refine stM rfl (bV hT (k:=k) (bM (Has.of mT0)) rfl rfl rfl rfl rfl rfl rfl (by omega)) ?_;refine stM rfl (dU hT (cP.knows (bM (Has.of mT0)) (k:=k) (x:=x2) hx3 0) rfl rfl rfl rfl rfl) ?_;refine cL (o:=_) rfl ?_;refine sto hT .head ?_;refine cK (.cons kT1 .nil) ⟨Has.of mT0,trivial⟩ ?_;refine cN<|bC<|bG<|bA ?_;exact bW () rfl (bL hT (bJ .head) rfl rfl rfl rfl) (.cons kT1 .nil) trivial (by rw [qX hx3];rfl)
 have hc12:=Int.not_lt.1 (of_decide_eq_false hc12);refine bN<|bC<|sr<|ss (cC rfl rfl (tJ _)) ?_;refine sto hT .head ?_;refine nn<|bG ?_;exact bW () rfl (bL hT (bJ .head) rfl rfl rfl rfl) (.cons kT1 .nil) trivial (by rw [yC (by omega)];rfl)
set_option maxRecDepth 100000 in
theorem cW(bl:Nat)(A:Option Addr)(c:Nat)(toks:List TokV)(k:Nat)(e:Int)(z:Int):dT Tryz.prog 74 [.pointer (some ⟨bl,0,none⟩),.int .i64 z] [.obj bl (.cells [.slice A toks.length c,.int .i64 (k:Nat),.int .i64 e].toArray 102)] [kU.sl (.slice A toks.length c) toks] (fun(_:Unit)=> .agg #[.int .i64 (atP toks k e),.int .i64 z]) (fun(_:Unit)=>[.obj bl (.cells [.slice A toks.length c,.int .i64 (k:Nat),.int .i64 e].toArray 102)]) (fun _=>[]):=by
 have hT:=fR;refine cU Tryz.func74 rfl Tryz.ntmps74 rfl ?_;intro β hM;refine sr<|bY rfl rfl rfl rfl yR rfl fun b1=>?_;refine nn<|sr<|sp hT ?_;refine bQ Tryz.func134 (at_spec bl A c toks (k) e) rfl rfl (.cons kT1 .nil) ⟨Has.of mT0,trivial⟩ fun _=>?_;refine sp hT ?_;refine ss (cC rfl rfl (uL _ _)) ?_;refine sto hT kT1 ?_;refine nn<|bG ?_;exact bW () rfl (bL hT (bJ .head) rfl rfl rfl rfl) (.cons kT1 .nil) trivial (rfl)
set_option maxRecDepth 100000 in
theorem phraseT_spec(bl:Nat)(A:Option Addr)(c:Nat)(toks:List TokV)(k:Nat)(e:Int)(hk:k≤1000000):dT Tryz.prog 138 [.pointer (some ⟨bl,0,none⟩),.bool true] [.obj bl (.cells [.slice A toks.length c,.int .i64 (k:Nat),.int .i64 e].toArray 102)] [kU.sl (.slice A toks.length c) toks] (fun(_:Unit)=>phrV (bS toks k e true)) (fun(_:Unit)=>[.obj bl (.cells [.slice A toks.length c,.int .i64 ((bS toks k e true).next:Nat),.int .i64 e].toArray 102)]) (fun _=>[]):=by
 have hT:=fR;refine cU Tryz.func138 rfl Tryz.ntmps138 rfl ?_;intro β hM;refine sr<|bY rfl rfl rfl rfl mG rfl fun b1=>?_;refine bY rfl rfl rfl rfl yR rfl fun b2=>?_;refine nn<|sr<|sp hT ?_;refine bQ Tryz.func73 (iA bl A c toks (k) e) rfl rfl (.cons kT2 .nil) ⟨Has.of mT0,trivial⟩ fun _=>?_;refine bY rfl rfl rfl rfl wP rfl fun b3=>?_;refine sto hT .head ?_;refine nn<|sr<|sp hT ?_;refine bQ Tryz.func74 (cW bl A c toks (k) e _) rfl rfl (.cons kT1 .nil) ⟨Has.of mT0,trivial⟩ fun _=>?_;refine bY rfl rfl rfl rfl yR rfl fun b4=>?_;refine sto hT .head ?_;refine nn<|sr<|sp3 hT ?_;refine ss (ldO hT (fN kT1)) ?_;refine sp hT ?_;refine bT (z':=(((k+1):Nat):Int)) (cQ (by omega) (by omega)) ?_;refine sp2 hT ?_;refine sto hT kT1 ?_;refine nn<|sr<|sp hT ?_;refine ss (ldO hT (fN kT2)) ?_;refine ss (cC rfl rfl (pI _ _)) ?_;refine bY rfl rfl rfl rfl mG rfl fun b5=>?_;refine sto hT .head ?_;refine nn<|bB<|sr<|sp hT ?_;refine nn<|cH rfl rfl ?_;refine bD<|sp hT ?_;refine sto hT .head ?_;refine nn<|sr<|sp hT ?_;refine ss (ldO hT (dJ kT3)) ?_;refine sp hT ?_;refine bQ Tryz.func166 (bCl _ true) rfl rfl .nil trivial fun _=>?_;refine sp4 hT ?_;refine sto hT .head ?_;refine nn<|bB<|sr<|sp hT ?_;refine bQ Tryz.func73 (iA bl A c toks ((k+1)) e) rfl rfl (.cons kT1 .nil) ⟨Has.of mT0,trivial⟩ fun _=>?_;refine bY rfl rfl rfl rfl wP rfl fun b6=>?_;refine sto hT .head ?_;refine nn<|sr<|sp hT ?_;refine ss (ldO hT (bJ .head)) ?_;refine sp2 hT ?_;refine cF (fun hg39=>?_) (fun hg39=>?_)
 ·have hg39:=eq_of_beq hg39;refine sp hT ?_;refine ss (ldO hT (dJ .head)) ?_;refine sp2 hT ?_;refine cF (fun hg43=>?_) (fun hg43=>?_)
  ·have hg43:(bP toks ((k+1))).word=([47]:Bs):=eq_of_beq hg43;refine sk3 ?_;refine sp2 hT ?_;refine sk3 ?_;refine sp2 hT ?_;refine nn<|cH rfl rfl ?_;refine sr<|sp3 hT ?_;refine ss (ldO hT (fN kT1)) ?_;refine sp hT ?_;refine bT (z':=((((k+1)+1):Nat):Int)) (cQ (by omega) (by omega)) ?_;refine sp2 hT ?_;refine sto hT kT1 ?_;refine nn<|sr<|sp hT ?_;refine ss (ldO hT (dJ kT4)) ?_;refine bQ Tryz.func200 (jG _) rfl rfl .nil trivial fun _=>?_;refine sp hT ?_;refine sto hT kT2 ?_;refine nn<|bB<|sr<|sp hT ?_;refine ss (ldO hT (dJ .head)) ?_;refine sp2 hT ?_;refine cF (fun hg68=>?_) (fun hg68=>?_)
   ·have hg68:=of_decide_eq_true hg68;refine sk4 ?_;refine sk ?_;refine sp hT ?_;refine nn<|cH rfl rfl ?_;refine bB<|cZ _ _ [(true,0),(true,1),(false,2),(false,3)] dD (by decide+kernel) (.cons .head (.cons .head (.cons .head (.cons .head (.cons .head .nil))))) bI.self ?_;refine stM rfl (ldN hT (bJ .head)) ?_;refine stM rfl (ldN hT (bJ kT3)) ?_;refine cL (o:=_) rfl ?_;refine sto hT kT6 ?_;refine cK (.cons kT1 (.cons kT1 (.cons kT1 (.cons kT1 (.cons kT1 .nil))))) ⟨Has.of mT0,trivial⟩ ?_;refine cL (o:=_) rfl ?_;refine sto hT kT6 ?_;refine cK (.cons kT2 (.cons kT2 (.cons kT2 (.cons kT2 (.cons kT2 .nil))))) ⟨Has.of mT0,trivial⟩ ?_;refine cN<|bC<|bG<|bA<|bA ?_;have hph:bS toks k e true=⟨4,(bP toks (k)).at_,(gQ (bP toks k).word),((atP toks (k) e),43),((k+1)+1)⟩:=by first | (simp [bS, *];done) | simp_all [bS]
    rw [hph];exact bO () rfl (bL hT (bJ kT1) rfl rfl rfl rfl) (bL hT (bJ .head) rfl rfl rfl rfl) (.cons kT3 .nil) trivial (rfl)
   have hg68:=Int.not_lt.1 (of_decide_eq_false hg68);refine sp hT ?_;refine ss (ldO hT (dJ kT2)) ?_;refine sp hT ?_;refine cA (t':=false) ((by show((bP toks ((k+1))).word==([46]:Bs))=_;rw [hg43];rfl)) ?_;refine sp2 hT ?_;refine cA (t':=true) rfl ?_;refine sp hT ?_;refine nn<|cH rfl rfl ?_;refine bB<|cZ _ _ [(true,0),(true,1),(false,2),(false,3)] dD (by decide+kernel) (.cons .head (.cons .head (.cons .head (.cons .head (.cons .head .nil))))) bI.self ?_;refine stM rfl (ldN hT (bJ .head)) ?_;refine stM rfl (ldN hT (bJ kT3)) ?_;refine cL (o:=_) rfl ?_;refine sto hT kT6 ?_;refine cK (.cons kT1 (.cons kT1 (.cons kT1 (.cons kT1 (.cons kT1 .nil))))) ⟨Has.of mT0,trivial⟩ ?_;refine cL (o:=_) rfl ?_;refine sto hT kT6 ?_;refine cK (.cons kT2 (.cons kT2 (.cons kT2 (.cons kT2 (.cons kT2 .nil))))) ⟨Has.of mT0,trivial⟩ ?_;refine cN<|bC<|bG<|bA<|bA ?_;have hph:bS toks k e true=⟨4,(bP toks (k)).at_,(gQ (bP toks k).word),((atP toks (k) e),43),((k+1)+1)⟩:=by first | (simp [bS, *];done) | simp_all [bS]
   rw [hph];exact bO () rfl (bL hT (bJ kT1) rfl rfl rfl rfl) (bL hT (bJ .head) rfl rfl rfl rfl) (.cons kT3 .nil) trivial (rfl)
  have hg43:(bP toks ((k+1))).word≠([47]:Bs):=fun h=>absurd (beq_iff_eq.2 h) (by rw [show((bP toks ((k+1))).word==([47]:Bs))=false from hg43];simp);refine sp hT ?_;refine ss (ldO hT (dJ .head)) ?_;refine sp3 hT ?_;refine cF (fun hg48=>?_) (fun hg48=>?_)
  ·have hg48:(bP toks ((k+1))).word=([92]:Bs):=eq_of_beq hg48;refine sk3 ?_;refine sp2 hT ?_;refine nn<|cH rfl rfl ?_;refine sr<|sp3 hT ?_;refine ss (ldO hT (fN kT1)) ?_;refine sp hT ?_;refine bT (z':=((((k+1)+1):Nat):Int)) (cQ (by omega) (by omega)) ?_;refine sp2 hT ?_;refine sto hT kT1 ?_;refine nn<|sr<|sp hT ?_;refine ss (ldO hT (dJ kT4)) ?_;refine bQ Tryz.func200 (jG _) rfl rfl .nil trivial fun _=>?_;refine sp hT ?_;refine sto hT kT2 ?_;refine nn<|bB<|sr<|sp hT ?_;refine ss (ldO hT (dJ .head)) ?_;refine sp2 hT ?_;refine cF (fun hg68=>?_) (fun hg68=>?_)
   ·have hg68:=of_decide_eq_true hg68;refine sk4 ?_;refine sk ?_;refine sp hT ?_;refine nn<|cH rfl rfl ?_;refine bB<|cZ _ _ [(true,0),(true,1),(false,2),(false,3)] dD (by decide+kernel) (.cons .head (.cons .head (.cons .head (.cons .head (.cons .head .nil))))) bI.self ?_;refine stM rfl (ldN hT (bJ .head)) ?_;refine stM rfl (ldN hT (bJ kT3)) ?_;refine cL (o:=_) rfl ?_;refine sto hT kT6 ?_;refine cK (.cons kT1 (.cons kT1 (.cons kT1 (.cons kT1 (.cons kT1 .nil))))) ⟨Has.of mT0,trivial⟩ ?_;refine cL (o:=_) rfl ?_;refine sto hT kT6 ?_;refine cK (.cons kT2 (.cons kT2 (.cons kT2 (.cons kT2 (.cons kT2 .nil))))) ⟨Has.of mT0,trivial⟩ ?_;refine cN<|bC<|bG<|bA<|bA ?_;have hph:bS toks k e true=⟨4,(bP toks (k)).at_,(gQ (bP toks k).word),((atP toks (k) e),43),((k+1)+1)⟩:=by first | (simp [bS, *];done) | simp_all [bS]
    rw [hph];exact bO () rfl (bL hT (bJ kT1) rfl rfl rfl rfl) (bL hT (bJ .head) rfl rfl rfl rfl) (.cons kT3 .nil) trivial (rfl)
   have hg68:=Int.not_lt.1 (of_decide_eq_false hg68);refine sp hT ?_;refine ss (ldO hT (dJ kT2)) ?_;refine sp hT ?_;refine cA (t':=false) ((by show((bP toks ((k+1))).word==([46]:Bs))=_;rw [hg48];rfl)) ?_;refine sp2 hT ?_;refine cA (t':=true) rfl ?_;refine sp hT ?_;refine nn<|cH rfl rfl ?_;refine bB<|cZ _ _ [(true,0),(true,1),(false,2),(false,3)] dD (by decide+kernel) (.cons .head (.cons .head (.cons .head (.cons .head (.cons .head .nil))))) bI.self ?_;refine stM rfl (ldN hT (bJ .head)) ?_;refine stM rfl (ldN hT (bJ kT3)) ?_;refine cL (o:=_) rfl ?_;refine sto hT kT6 ?_;refine cK (.cons kT1 (.cons kT1 (.cons kT1 (.cons kT1 (.cons kT1 .nil))))) ⟨Has.of mT0,trivial⟩ ?_;refine cL (o:=_) rfl ?_;refine sto hT kT6 ?_;refine cK (.cons kT2 (.cons kT2 (.cons kT2 (.cons kT2 (.cons kT2 .nil))))) ⟨Has.of mT0,trivial⟩ ?_;refine cN<|bC<|bG<|bA<|bA ?_;have hph:bS toks k e true=⟨4,(bP toks (k)).at_,(gQ (bP toks k).word),((atP toks (k) e),43),((k+1)+1)⟩:=by first | (simp [bS, *];done) | simp_all [bS]
   rw [hph];exact bO () rfl (bL hT (bJ kT1) rfl rfl rfl rfl) (bL hT (bJ .head) rfl rfl rfl rfl) (.cons kT3 .nil) trivial (rfl)
  have hg48:(bP toks ((k+1))).word≠([92]:Bs):=fun h=>absurd (beq_iff_eq.2 h) (by rw [show((bP toks ((k+1))).word==([92]:Bs))=false from hg48];simp);refine sp hT ?_;refine ss (ldO hT (dJ .head)) ?_;refine sp3 hT ?_;refine nn<|bK rfl (fun hc53=>?_) (fun hc53=>?_)
  ·have hc53:(bP toks ((k+1))).word=([46]:Bs):=eq_of_beq hc53;refine sr<|sp3 hT ?_;refine ss (ldO hT (fN kT1)) ?_;refine sp hT ?_;refine bT (z':=((((k+1)+1):Nat):Int)) (cQ (by omega) (by omega)) ?_;refine sp2 hT ?_;refine sto hT kT1 ?_;refine nn<|sr<|sp hT ?_;refine ss (ldO hT (dJ kT4)) ?_;refine bQ Tryz.func200 (jG _) rfl rfl .nil trivial fun _=>?_;refine sp hT ?_;refine sto hT kT2 ?_;refine nn<|bB<|sr<|sp hT ?_;refine ss (ldO hT (dJ .head)) ?_;refine sp2 hT ?_;refine cF (fun hg68=>?_) (fun hg68=>?_)
   ·have hg68:=of_decide_eq_true hg68;refine sk4 ?_;refine sk ?_;refine sp hT ?_;refine nn<|cH rfl rfl ?_;refine bB<|cZ _ _ [(true,0),(true,1),(false,2),(false,3)] dD (by decide+kernel) (.cons .head (.cons .head (.cons .head (.cons .head (.cons .head .nil))))) bI.self ?_;refine stM rfl (ldN hT (bJ .head)) ?_;refine stM rfl (ldN hT (bJ kT3)) ?_;refine cL (o:=_) rfl ?_;refine sto hT kT6 ?_;refine cK (.cons kT1 (.cons kT1 (.cons kT1 (.cons kT1 (.cons kT1 .nil))))) ⟨Has.of mT0,trivial⟩ ?_;refine cL (o:=_) rfl ?_;refine sto hT kT6 ?_;refine cK (.cons kT2 (.cons kT2 (.cons kT2 (.cons kT2 (.cons kT2 .nil))))) ⟨Has.of mT0,trivial⟩ ?_;refine cN<|bC<|bG<|bA<|bA ?_;have hph:bS toks k e true=⟨4,(bP toks (k)).at_,(gQ (bP toks k).word),((atP toks (k) e),43),((k+1)+1)⟩:=by first | (simp [bS, *];done) | simp_all [bS]
    rw [hph];exact bO () rfl (bL hT (bJ kT1) rfl rfl rfl rfl) (bL hT (bJ .head) rfl rfl rfl rfl) (.cons kT3 .nil) trivial (rfl)
   have hg68:=Int.not_lt.1 (of_decide_eq_false hg68);refine sp hT ?_;refine ss (ldO hT (dJ kT2)) ?_;refine sp hT ?_;refine cA (t':=true) ((by show((bP toks ((k+1))).word==([46]:Bs))=_;rw [hc53];rfl)) ?_;refine sp2 hT ?_;refine cA (t':=false) rfl ?_;refine sp hT ?_;refine nn<|cG rfl rfl ?_;refine bN<|bC<|sr<|sp hT ?_;refine ss (ldO hT (dJ kT2)) ?_;refine nn<|bX<|sr<|sp hT ?_;refine cA (t':=false) ((by show((bP toks ((k+1))).word==([47]:Bs))=_;rw [hc53];rfl)) ?_;refine sp hT ?_;refine nn<|cG rfl rfl ?_;refine sr<|sp hT ?_;refine cA (t':=false) ((by show((bP toks ((k+1))).word==([92]:Bs))=_;rw [hc53];rfl)) ?_;refine sp hT ?_;refine nn<|cG rfl rfl ?_;refine bD<|sp hT ?_;refine sto hT .head ?_;refine dY<|cD<|bC<|bB<|sr<|sp hT ?_;refine ss (ldO hT (dJ .head)) ?_;refine sp hT ?_;refine nn<|bK rfl (fun hc88=>?_) (fun hc88=>?_)
   ·have hc88:=eq_of_beq hc88;refine bB<|cZ _ _ [(true,0),(true,1),(false,2),(false,3)] dD (by decide+kernel) (.cons .head (.cons .head (.cons .head (.cons .head (.cons .head .nil))))) bI.self ?_;refine stM rfl (ldN hT (bJ .head)) ?_;refine stM rfl (ldN hT (bJ kT3)) ?_;refine cL (o:=_) rfl ?_;refine sto hT kT6 ?_;refine cK (.cons kT1 (.cons kT1 (.cons kT1 (.cons kT1 (.cons kT1 .nil))))) ⟨Has.of mT0,trivial⟩ ?_;refine cL (o:=_) rfl ?_;refine sto hT kT6 ?_;refine cK (.cons kT2 (.cons kT2 (.cons kT2 (.cons kT2 (.cons kT2 .nil))))) ⟨Has.of mT0,trivial⟩ ?_;refine cN<|bC<|bG<|bA ?_;have hph:bS toks k e true=⟨7,(bP toks (k)).at_,(gQ (bP toks k).word),((atP toks (k) e),43),((k+1)+1)⟩:=by first | (simp [bS, *];done) | simp_all [bS]
    rw [hph];exact bO () rfl (bL hT (bJ kT1) rfl rfl rfl rfl) (bL hT (bJ .head) rfl rfl rfl rfl) (.cons kT3 .nil) trivial (rfl)
   have hc88:=beq_eq_false_iff_ne.1 hc88;refine bN<|bC<|sr<|ss (ldN hT (bJ .head)) ?_;refine ss (cC rfl rfl (wM)) ?_;refine sto hT kT6 ?_;refine sto hT kT6 ?_;refine nn<|bG ?_;have hph:bS toks k e true=⟨7,(bP toks (k)).at_,(gQ (bP toks k).word),(0,0),((k+1)+1)⟩:=by first | (simp [bS, *];done) | simp_all [bS]
   rw [hph];exact bO () rfl (bL hT (bJ kT1) rfl rfl rfl rfl) (bL hT (bJ .head) rfl rfl rfl rfl) (.cons kT3 .nil) trivial (rfl)
  have hc53:(bP toks ((k+1))).word≠([46]:Bs):=fun h=>absurd (beq_iff_eq.2 h) (by rw [show((bP toks ((k+1))).word==([46]:Bs))=false from hc53];simp);refine bN<|bC<|bB<|sr<|sp hT ?_;refine ss (ldO hT (dJ kT2)) ?_;refine sp hT ?_;refine nn<|bK rfl (fun hc88=>?_) (fun hc88=>?_)
  ·have hc88:=eq_of_beq hc88;refine bB<|cZ _ _ [(true,0),(true,1),(false,2),(false,3)] dD (by decide+kernel) (.cons .head (.cons .head (.cons .head (.cons .head (.cons .head .nil))))) bI.self ?_;refine stM rfl (ldN hT (bJ kT2)) ?_;refine stM rfl (ldN hT (bJ kT3)) ?_;refine cL (o:=_) rfl ?_;refine sto hT kT6 ?_;refine cK (.cons kT1 (.cons kT1 (.cons kT1 (.cons kT1 (.cons kT1 .nil))))) ⟨Has.of mT0,trivial⟩ ?_;refine cL (o:=_) rfl ?_;refine sto hT kT6 ?_;refine cK (.cons kT2 (.cons kT2 (.cons kT2 (.cons kT2 (.cons kT2 .nil))))) ⟨Has.of mT0,trivial⟩ ?_;refine cN<|bC<|bG<|bA ?_;have hph:bS toks k e true=⟨4,(bP toks (k)).at_,(fY (bP toks k).word true),((atP toks (k) e),43),(k+1)⟩:=by first | (simp [bS, *];done) | simp_all [bS]
   rw [hph];exact bO () rfl (bL hT (bJ kT1) rfl rfl rfl rfl) (bL hT (bJ .head) rfl rfl rfl rfl) (.cons kT3 .nil) trivial (rfl)
  have hc88:=beq_eq_false_iff_ne.1 hc88;refine bN<|bC<|sr<|ss (ldN hT (bJ kT2)) ?_;refine ss (cC rfl rfl (wM)) ?_;refine sto hT kT6 ?_;refine sto hT kT6 ?_;refine nn<|bG ?_;have hph:bS toks k e true=⟨4,(bP toks (k)).at_,(fY (bP toks k).word true),(0,0),(k+1)⟩:=by first | (simp [bS, *];done) | simp_all [bS]
  rw [hph];exact bO () rfl (bL hT (bJ kT1) rfl rfl rfl rfl) (bL hT (bJ .head) rfl rfl rfl rfl) (.cons kT3 .nil) trivial (rfl)
 have hg39:=beq_eq_false_iff_ne.1 hg39;refine sk4 ?_;refine sk4 ?_;refine sk4 ?_;refine sk ?_;refine sp hT ?_;refine nn<|cG rfl rfl ?_;refine bN<|bC<|bB<|sr<|sp hT ?_;refine ss (ldO hT (dJ kT2)) ?_;refine sp hT ?_;refine nn<|bK rfl (fun hc88=>?_) (fun hc88=>?_)
 ·have hc88:=eq_of_beq hc88;refine bB<|cZ _ _ [(true,0),(true,1),(false,2),(false,3)] dD (by decide+kernel) (.cons .head (.cons .head (.cons .head (.cons .head (.cons .head .nil))))) bI.self ?_;refine stM rfl (ldN hT (bJ kT2)) ?_;refine stM rfl (ldN hT (bJ kT3)) ?_;refine cL (o:=_) rfl ?_;refine sto hT kT6 ?_;refine cK (.cons kT1 (.cons kT1 (.cons kT1 (.cons kT1 (.cons kT1 .nil))))) ⟨Has.of mT0,trivial⟩ ?_;refine cL (o:=_) rfl ?_;refine sto hT kT6 ?_;refine cK (.cons kT2 (.cons kT2 (.cons kT2 (.cons kT2 (.cons kT2 .nil))))) ⟨Has.of mT0,trivial⟩ ?_;refine cN<|bC<|bG<|bA ?_;have hph:bS toks k e true=⟨4,(bP toks (k)).at_,(fY (bP toks k).word true),((atP toks (k) e),43),(k+1)⟩:=by first | (simp [bS, *];done) | simp_all [bS]
  rw [hph];exact bO () rfl (bL hT (bJ kT1) rfl rfl rfl rfl) (bL hT (bJ .head) rfl rfl rfl rfl) (.cons kT3 .nil) trivial (rfl)
 have hc88:=beq_eq_false_iff_ne.1 hc88;refine bN<|bC<|sr<|ss (ldN hT (bJ kT2)) ?_;refine ss (cC rfl rfl (wM)) ?_;refine sto hT kT6 ?_;refine sto hT kT6 ?_;refine nn<|bG ?_;have hph:bS toks k e true=⟨4,(bP toks (k)).at_,(fY (bP toks k).word true),(0,0),(k+1)⟩:=by first | (simp [bS, *];done) | simp_all [bS]
 rw [hph];exact bO () rfl (bL hT (bJ kT1) rfl rfl rfl rfl) (bL hT (bJ .head) rfl rfl rfl rfl) (.cons kT3 .nil) trivial (rfl)
set_option maxRecDepth 100000 in
theorem phraseF_spec(bl:Nat)(A:Option Addr)(c:Nat)(toks:List TokV)(k:Nat)(e:Int)(hk:k≤1000000):dT Tryz.prog 138 [.pointer (some ⟨bl,0,none⟩),.bool false] [.obj bl (.cells [.slice A toks.length c,.int .i64 (k:Nat),.int .i64 e].toArray 102)] [kU.sl (.slice A toks.length c) toks] (fun(_:Unit)=>phrV (bS toks k e false)) (fun(_:Unit)=>[.obj bl (.cells [.slice A toks.length c,.int .i64 ((bS toks k e false).next:Nat),.int .i64 e].toArray 102)]) (fun _=>[]):=by
 have hT:=fR;refine cU Tryz.func138 rfl Tryz.ntmps138 rfl ?_;intro β hM;refine sr<|bY rfl rfl rfl rfl mG rfl fun b1=>?_;refine bY rfl rfl rfl rfl yR rfl fun b2=>?_;refine nn<|sr<|sp hT ?_;refine bQ Tryz.func73 (iA bl A c toks (k) e) rfl rfl (.cons kT2 .nil) ⟨Has.of mT0,trivial⟩ fun _=>?_;refine bY rfl rfl rfl rfl wP rfl fun b3=>?_;refine sto hT .head ?_;refine nn<|sr<|sp hT ?_;refine bQ Tryz.func74 (cW bl A c toks (k) e _) rfl rfl (.cons kT1 .nil) ⟨Has.of mT0,trivial⟩ fun _=>?_;refine bY rfl rfl rfl rfl yR rfl fun b4=>?_;refine sto hT .head ?_;refine nn<|sr<|sp3 hT ?_;refine ss (ldO hT (fN kT1)) ?_;refine sp hT ?_;refine bT (z':=(((k+1):Nat):Int)) (cQ (by omega) (by omega)) ?_;refine sp2 hT ?_;refine sto hT kT1 ?_;refine nn<|sr<|sp hT ?_;refine ss (ldO hT (fN kT2)) ?_;refine ss (cC rfl rfl (pI _ _)) ?_;refine bY rfl rfl rfl rfl mG rfl fun b5=>?_;refine sto hT .head ?_;refine nn<|bB<|sr<|sp hT ?_;refine nn<|cG rfl rfl ?_;refine bN<|bC<|sr<|sp hT ?_;refine ss (ldO hT (dJ kT3)) ?_;refine sp hT ?_;refine bQ Tryz.func166 (bCl _ false) rfl rfl .nil trivial fun _=>?_;refine sp4 hT ?_;refine sto hT .head ?_;refine nn<|bB<|sr<|sp hT ?_;refine bQ Tryz.func73 (iA bl A c toks ((k+1)) e) rfl rfl (.cons kT1 .nil) ⟨Has.of mT0,trivial⟩ fun _=>?_;refine bY rfl rfl rfl rfl wP rfl fun b6=>?_;refine sto hT .head ?_;refine nn<|sr<|sp hT ?_;refine ss (ldO hT (bJ .head)) ?_;refine sp2 hT ?_;refine cF (fun hg39=>?_) (fun hg39=>?_)
 ·have hg39:=eq_of_beq hg39;refine sp hT ?_;refine ss (ldO hT (dJ .head)) ?_;refine sp2 hT ?_;refine cF (fun hg43=>?_) (fun hg43=>?_)
  ·have hg43:(bP toks ((k+1))).word=([47]:Bs):=eq_of_beq hg43;refine sk3 ?_;refine sp2 hT ?_;refine sk3 ?_;refine sp2 hT ?_;refine nn<|cH rfl rfl ?_;refine sr<|sp3 hT ?_;refine ss (ldO hT (fN kT1)) ?_;refine sp hT ?_;refine bT (z':=((((k+1)+1):Nat):Int)) (cQ (by omega) (by omega)) ?_;refine sp2 hT ?_;refine sto hT kT1 ?_;refine nn<|sr<|sp hT ?_;refine ss (ldO hT (dJ kT4)) ?_;refine bQ Tryz.func200 (jG _) rfl rfl .nil trivial fun _=>?_;refine sp hT ?_;refine sto hT kT2 ?_;refine nn<|bB<|sr<|sp hT ?_;refine ss (ldO hT (dJ .head)) ?_;refine sp2 hT ?_;refine cF (fun hg68=>?_) (fun hg68=>?_)
   ·have hg68:=of_decide_eq_true hg68;refine sk4 ?_;refine sk ?_;refine sp hT ?_;refine nn<|cH rfl rfl ?_;refine bB<|cZ _ _ [(true,0),(true,1),(false,2),(false,3)] dD (by decide+kernel) (.cons .head (.cons .head (.cons .head (.cons .head (.cons .head .nil))))) bI.self ?_;refine stM rfl (ldN hT (bJ .head)) ?_;refine stM rfl (ldN hT (bJ kT3)) ?_;refine cL (o:=_) rfl ?_;refine sto hT kT6 ?_;refine cK (.cons kT1 (.cons kT1 (.cons kT1 (.cons kT1 (.cons kT1 .nil))))) ⟨Has.of mT0,trivial⟩ ?_;refine cL (o:=_) rfl ?_;refine sto hT kT6 ?_;refine cK (.cons kT2 (.cons kT2 (.cons kT2 (.cons kT2 (.cons kT2 .nil))))) ⟨Has.of mT0,trivial⟩ ?_;refine cN<|bC<|bG<|bA<|bA ?_;have hph:bS toks k e false=⟨3,(bP toks (k)).at_,(gQ (bP toks k).word),((atP toks (k) e),43),((k+1)+1)⟩:=by first | (simp [bS, *];done) | simp_all [bS]
    rw [hph];exact bO () rfl (bL hT (bJ kT1) rfl rfl rfl rfl) (bL hT (bJ .head) rfl rfl rfl rfl) (.cons kT3 .nil) trivial (rfl)
   have hg68:=Int.not_lt.1 (of_decide_eq_false hg68);refine sp hT ?_;refine ss (ldO hT (dJ kT2)) ?_;refine sp hT ?_;refine cA (t':=false) ((by show((bP toks ((k+1))).word==([46]:Bs))=_;rw [hg43];rfl)) ?_;refine sp2 hT ?_;refine cA (t':=false) rfl ?_;refine sp hT ?_;refine nn<|cG rfl rfl ?_;refine bN<|bC<|sr<|sp hT ?_;refine ss (ldO hT (dJ kT2)) ?_;refine nn<|bX<|sr<|sp hT ?_;refine cA (t':=true) ((by show((bP toks ((k+1))).word==([47]:Bs))=_;rw [hg43];rfl)) ?_;refine sp hT ?_;refine nn<|cH rfl rfl ?_;refine bD<|sp hT ?_;refine sto hT .head ?_;refine dY<|cD<|bC<|bB<|sr<|sp hT ?_;refine ss (ldO hT (dJ .head)) ?_;refine sp hT ?_;refine nn<|bK rfl (fun hc88=>?_) (fun hc88=>?_)
   ·have hc88:=eq_of_beq hc88;refine bB<|cZ _ _ [(true,0),(true,1),(false,2),(false,3)] dD (by decide+kernel) (.cons .head (.cons .head (.cons .head (.cons .head (.cons .head .nil))))) bI.self ?_;refine stM rfl (ldN hT (bJ .head)) ?_;refine stM rfl (ldN hT (bJ kT3)) ?_;refine cL (o:=_) rfl ?_;refine sto hT kT6 ?_;refine cK (.cons kT1 (.cons kT1 (.cons kT1 (.cons kT1 (.cons kT1 .nil))))) ⟨Has.of mT0,trivial⟩ ?_;refine cL (o:=_) rfl ?_;refine sto hT kT6 ?_;refine cK (.cons kT2 (.cons kT2 (.cons kT2 (.cons kT2 (.cons kT2 .nil))))) ⟨Has.of mT0,trivial⟩ ?_;refine cN<|bC<|bG<|bA ?_;have hph:bS toks k e false=⟨5,(bP toks (k)).at_,(gQ (bP toks k).word),((atP toks (k) e),43),((k+1)+1)⟩:=by first | (simp [bS, *];done) | simp_all [bS]
    rw [hph];exact bO () rfl (bL hT (bJ kT1) rfl rfl rfl rfl) (bL hT (bJ .head) rfl rfl rfl rfl) (.cons kT3 .nil) trivial (rfl)
   have hc88:=beq_eq_false_iff_ne.1 hc88;refine bN<|bC<|sr<|ss (ldN hT (bJ .head)) ?_;refine ss (cC rfl rfl (wM)) ?_;refine sto hT kT6 ?_;refine sto hT kT6 ?_;refine nn<|bG ?_;have hph:bS toks k e false=⟨5,(bP toks (k)).at_,(gQ (bP toks k).word),(0,0),((k+1)+1)⟩:=by first | (simp [bS, *];done) | simp_all [bS]
   rw [hph];exact bO () rfl (bL hT (bJ kT1) rfl rfl rfl rfl) (bL hT (bJ .head) rfl rfl rfl rfl) (.cons kT3 .nil) trivial (rfl)
  have hg43:(bP toks ((k+1))).word≠([47]:Bs):=fun h=>absurd (beq_iff_eq.2 h) (by rw [show((bP toks ((k+1))).word==([47]:Bs))=false from hg43];simp);refine sp hT ?_;refine ss (ldO hT (dJ .head)) ?_;refine sp3 hT ?_;refine cF (fun hg48=>?_) (fun hg48=>?_)
  ·have hg48:(bP toks ((k+1))).word=([92]:Bs):=eq_of_beq hg48;refine sk3 ?_;refine sp2 hT ?_;refine nn<|cH rfl rfl ?_;refine sr<|sp3 hT ?_;refine ss (ldO hT (fN kT1)) ?_;refine sp hT ?_;refine bT (z':=((((k+1)+1):Nat):Int)) (cQ (by omega) (by omega)) ?_;refine sp2 hT ?_;refine sto hT kT1 ?_;refine nn<|sr<|sp hT ?_;refine ss (ldO hT (dJ kT4)) ?_;refine bQ Tryz.func200 (jG _) rfl rfl .nil trivial fun _=>?_;refine sp hT ?_;refine sto hT kT2 ?_;refine nn<|bB<|sr<|sp hT ?_;refine ss (ldO hT (dJ .head)) ?_;refine sp2 hT ?_;refine cF (fun hg68=>?_) (fun hg68=>?_)
   ·have hg68:=of_decide_eq_true hg68;refine sk4 ?_;refine sk ?_;refine sp hT ?_;refine nn<|cH rfl rfl ?_;refine bB<|cZ _ _ [(true,0),(true,1),(false,2),(false,3)] dD (by decide+kernel) (.cons .head (.cons .head (.cons .head (.cons .head (.cons .head .nil))))) bI.self ?_;refine stM rfl (ldN hT (bJ .head)) ?_;refine stM rfl (ldN hT (bJ kT3)) ?_;refine cL (o:=_) rfl ?_;refine sto hT kT6 ?_;refine cK (.cons kT1 (.cons kT1 (.cons kT1 (.cons kT1 (.cons kT1 .nil))))) ⟨Has.of mT0,trivial⟩ ?_;refine cL (o:=_) rfl ?_;refine sto hT kT6 ?_;refine cK (.cons kT2 (.cons kT2 (.cons kT2 (.cons kT2 (.cons kT2 .nil))))) ⟨Has.of mT0,trivial⟩ ?_;refine cN<|bC<|bG<|bA<|bA ?_;have hph:bS toks k e false=⟨3,(bP toks (k)).at_,(gQ (bP toks k).word),((atP toks (k) e),43),((k+1)+1)⟩:=by first | (simp [bS, *];done) | simp_all [bS]
    rw [hph];exact bO () rfl (bL hT (bJ kT1) rfl rfl rfl rfl) (bL hT (bJ .head) rfl rfl rfl rfl) (.cons kT3 .nil) trivial (rfl)
   have hg68:=Int.not_lt.1 (of_decide_eq_false hg68);refine sp hT ?_;refine ss (ldO hT (dJ kT2)) ?_;refine sp hT ?_;refine cA (t':=false) ((by show((bP toks ((k+1))).word==([46]:Bs))=_;rw [hg48];rfl)) ?_;refine sp2 hT ?_;refine cA (t':=false) rfl ?_;refine sp hT ?_;refine nn<|cG rfl rfl ?_;refine bN<|bC<|sr<|sp hT ?_;refine ss (ldO hT (dJ kT2)) ?_;refine nn<|bX<|sr<|sp hT ?_;refine cA (t':=false) ((by show((bP toks ((k+1))).word==([47]:Bs))=_;rw [hg48];rfl)) ?_;refine sp hT ?_;refine nn<|cG rfl rfl ?_;refine sr<|sp hT ?_;refine cA (t':=true) ((by show((bP toks ((k+1))).word==([92]:Bs))=_;rw [hg48];rfl)) ?_;refine sp hT ?_;refine nn<|cH rfl rfl ?_;refine bD<|sp hT ?_;refine sto hT .head ?_;refine dY<|cD<|bC<|bB<|sr<|sp hT ?_;refine ss (ldO hT (dJ .head)) ?_;refine sp hT ?_;refine nn<|bK rfl (fun hc88=>?_) (fun hc88=>?_)
   ·have hc88:=eq_of_beq hc88;refine bB<|cZ _ _ [(true,0),(true,1),(false,2),(false,3)] dD (by decide+kernel) (.cons .head (.cons .head (.cons .head (.cons .head (.cons .head .nil))))) bI.self ?_;refine stM rfl (ldN hT (bJ .head)) ?_;refine stM rfl (ldN hT (bJ kT3)) ?_;refine cL (o:=_) rfl ?_;refine sto hT kT6 ?_;refine cK (.cons kT1 (.cons kT1 (.cons kT1 (.cons kT1 (.cons kT1 .nil))))) ⟨Has.of mT0,trivial⟩ ?_;refine cL (o:=_) rfl ?_;refine sto hT kT6 ?_;refine cK (.cons kT2 (.cons kT2 (.cons kT2 (.cons kT2 (.cons kT2 .nil))))) ⟨Has.of mT0,trivial⟩ ?_;refine cN<|bC<|bG<|bA ?_;have hph:bS toks k e false=⟨6,(bP toks (k)).at_,(gQ (bP toks k).word),((atP toks (k) e),43),((k+1)+1)⟩:=by first | (simp [bS, *];done) | simp_all [bS]
    rw [hph];exact bO () rfl (bL hT (bJ kT1) rfl rfl rfl rfl) (bL hT (bJ .head) rfl rfl rfl rfl) (.cons kT3 .nil) trivial (rfl)
   have hc88:=beq_eq_false_iff_ne.1 hc88;refine bN<|bC<|sr<|ss (ldN hT (bJ .head)) ?_;refine ss (cC rfl rfl (wM)) ?_;refine sto hT kT6 ?_;refine sto hT kT6 ?_;refine nn<|bG ?_;have hph:bS toks k e false=⟨6,(bP toks (k)).at_,(gQ (bP toks k).word),(0,0),((k+1)+1)⟩:=by first | (simp [bS, *];done) | simp_all [bS]
   rw [hph];exact bO () rfl (bL hT (bJ kT1) rfl rfl rfl rfl) (bL hT (bJ .head) rfl rfl rfl rfl) (.cons kT3 .nil) trivial (rfl)
  have hg48:(bP toks ((k+1))).word≠([92]:Bs):=fun h=>absurd (beq_iff_eq.2 h) (by rw [show((bP toks ((k+1))).word==([92]:Bs))=false from hg48];simp);refine sp hT ?_;refine ss (ldO hT (dJ .head)) ?_;refine sp3 hT ?_;refine nn<|bK rfl (fun hc53=>?_) (fun hc53=>?_)
  ·have hc53:(bP toks ((k+1))).word=([46]:Bs):=eq_of_beq hc53;refine sr<|sp3 hT ?_;refine ss (ldO hT (fN kT1)) ?_;refine sp hT ?_;refine bT (z':=((((k+1)+1):Nat):Int)) (cQ (by omega) (by omega)) ?_;refine sp2 hT ?_;refine sto hT kT1 ?_;refine nn<|sr<|sp hT ?_;refine ss (ldO hT (dJ kT4)) ?_;refine bQ Tryz.func200 (jG _) rfl rfl .nil trivial fun _=>?_;refine sp hT ?_;refine sto hT kT2 ?_;refine nn<|bB<|sr<|sp hT ?_;refine ss (ldO hT (dJ .head)) ?_;refine sp2 hT ?_;refine cF (fun hg68=>?_) (fun hg68=>?_)
   ·have hg68:=of_decide_eq_true hg68;refine sk4 ?_;refine sk ?_;refine sp hT ?_;refine nn<|cH rfl rfl ?_;refine bB<|cZ _ _ [(true,0),(true,1),(false,2),(false,3)] dD (by decide+kernel) (.cons .head (.cons .head (.cons .head (.cons .head (.cons .head .nil))))) bI.self ?_;refine stM rfl (ldN hT (bJ .head)) ?_;refine stM rfl (ldN hT (bJ kT3)) ?_;refine cL (o:=_) rfl ?_;refine sto hT kT6 ?_;refine cK (.cons kT1 (.cons kT1 (.cons kT1 (.cons kT1 (.cons kT1 .nil))))) ⟨Has.of mT0,trivial⟩ ?_;refine cL (o:=_) rfl ?_;refine sto hT kT6 ?_;refine cK (.cons kT2 (.cons kT2 (.cons kT2 (.cons kT2 (.cons kT2 .nil))))) ⟨Has.of mT0,trivial⟩ ?_;refine cN<|bC<|bG<|bA<|bA ?_;have hph:bS toks k e false=⟨3,(bP toks (k)).at_,(gQ (bP toks k).word),((atP toks (k) e),43),((k+1)+1)⟩:=by first | (simp [bS, *];done) | simp_all [bS]
    rw [hph];exact bO () rfl (bL hT (bJ kT1) rfl rfl rfl rfl) (bL hT (bJ .head) rfl rfl rfl rfl) (.cons kT3 .nil) trivial (rfl)
   have hg68:=Int.not_lt.1 (of_decide_eq_false hg68);refine sp hT ?_;refine ss (ldO hT (dJ kT2)) ?_;refine sp hT ?_;refine cA (t':=true) ((by show((bP toks ((k+1))).word==([46]:Bs))=_;rw [hc53];rfl)) ?_;refine sp2 hT ?_;refine cA (t':=true) rfl ?_;refine sp hT ?_;refine nn<|cH rfl rfl ?_;refine bB<|cZ _ _ [(true,0),(true,1),(false,2),(false,3)] dD (by decide+kernel) (.cons .head (.cons .head (.cons .head (.cons .head (.cons .head .nil))))) bI.self ?_;refine stM rfl (ldN hT (bJ .head)) ?_;refine stM rfl (ldN hT (bJ kT3)) ?_;refine cL (o:=_) rfl ?_;refine sto hT kT6 ?_;refine cK (.cons kT1 (.cons kT1 (.cons kT1 (.cons kT1 (.cons kT1 .nil))))) ⟨Has.of mT0,trivial⟩ ?_;refine cL (o:=_) rfl ?_;refine sto hT kT6 ?_;refine cK (.cons kT2 (.cons kT2 (.cons kT2 (.cons kT2 (.cons kT2 .nil))))) ⟨Has.of mT0,trivial⟩ ?_;refine cN<|bC<|bG<|bA<|bA ?_;have hph:bS toks k e false=⟨3,(bP toks (k)).at_,(gQ (bP toks k).word),((atP toks (k) e),43),((k+1)+1)⟩:=by first | (simp [bS, *];done) | simp_all [bS]
   rw [hph];exact bO () rfl (bL hT (bJ kT1) rfl rfl rfl rfl) (bL hT (bJ .head) rfl rfl rfl rfl) (.cons kT3 .nil) trivial (rfl)
  have hc53:(bP toks ((k+1))).word≠([46]:Bs):=fun h=>absurd (beq_iff_eq.2 h) (by rw [show((bP toks ((k+1))).word==([46]:Bs))=false from hc53];simp);refine bN<|bC<|bB<|sr<|sp hT ?_;refine ss (ldO hT (dJ kT2)) ?_;refine sp hT ?_;refine nn<|bK rfl (fun hc88=>?_) (fun hc88=>?_)
  ·have hc88:=eq_of_beq hc88;refine bB<|cZ _ _ [(true,0),(true,1),(false,2),(false,3)] dD (by decide+kernel) (.cons .head (.cons .head (.cons .head (.cons .head (.cons .head .nil))))) bI.self ?_;refine stM rfl (ldN hT (bJ kT2)) ?_;refine stM rfl (ldN hT (bJ kT3)) ?_;refine cL (o:=_) rfl ?_;refine sto hT kT6 ?_;refine cK (.cons kT1 (.cons kT1 (.cons kT1 (.cons kT1 (.cons kT1 .nil))))) ⟨Has.of mT0,trivial⟩ ?_;refine cL (o:=_) rfl ?_;refine sto hT kT6 ?_;refine cK (.cons kT2 (.cons kT2 (.cons kT2 (.cons kT2 (.cons kT2 .nil))))) ⟨Has.of mT0,trivial⟩ ?_;refine cN<|bC<|bG<|bA ?_;have hph:bS toks k e false=⟨3,(bP toks (k)).at_,(fY (bP toks k).word false),((atP toks (k) e),43),(k+1)⟩:=by first | (simp [bS, *];done) | simp_all [bS]
   rw [hph];exact bO () rfl (bL hT (bJ kT1) rfl rfl rfl rfl) (bL hT (bJ .head) rfl rfl rfl rfl) (.cons kT3 .nil) trivial (rfl)
  have hc88:=beq_eq_false_iff_ne.1 hc88;refine bN<|bC<|sr<|ss (ldN hT (bJ kT2)) ?_;refine ss (cC rfl rfl (wM)) ?_;refine sto hT kT6 ?_;refine sto hT kT6 ?_;refine nn<|bG ?_;have hph:bS toks k e false=⟨3,(bP toks (k)).at_,(fY (bP toks k).word false),(0,0),(k+1)⟩:=by first | (simp [bS, *];done) | simp_all [bS]
  rw [hph];exact bO () rfl (bL hT (bJ kT1) rfl rfl rfl rfl) (bL hT (bJ .head) rfl rfl rfl rfl) (.cons kT3 .nil) trivial (rfl)
 have hg39:=beq_eq_false_iff_ne.1 hg39;refine sk4 ?_;refine sk4 ?_;refine sk4 ?_;refine sk ?_;refine sp hT ?_;refine nn<|cG rfl rfl ?_;refine bN<|bC<|bB<|sr<|sp hT ?_;refine ss (ldO hT (dJ kT2)) ?_;refine sp hT ?_;refine nn<|bK rfl (fun hc88=>?_) (fun hc88=>?_)
 ·have hc88:=eq_of_beq hc88;refine bB<|cZ _ _ [(true,0),(true,1),(false,2),(false,3)] dD (by decide+kernel) (.cons .head (.cons .head (.cons .head (.cons .head (.cons .head .nil))))) bI.self ?_;refine stM rfl (ldN hT (bJ kT2)) ?_;refine stM rfl (ldN hT (bJ kT3)) ?_;refine cL (o:=_) rfl ?_;refine sto hT kT6 ?_;refine cK (.cons kT1 (.cons kT1 (.cons kT1 (.cons kT1 (.cons kT1 .nil))))) ⟨Has.of mT0,trivial⟩ ?_;refine cL (o:=_) rfl ?_;refine sto hT kT6 ?_;refine cK (.cons kT2 (.cons kT2 (.cons kT2 (.cons kT2 (.cons kT2 .nil))))) ⟨Has.of mT0,trivial⟩ ?_;refine cN<|bC<|bG<|bA ?_;have hph:bS toks k e false=⟨3,(bP toks (k)).at_,(fY (bP toks k).word false),((atP toks (k) e),43),(k+1)⟩:=by first | (simp [bS, *];done) | simp_all [bS]
  rw [hph];exact bO () rfl (bL hT (bJ kT1) rfl rfl rfl rfl) (bL hT (bJ .head) rfl rfl rfl rfl) (.cons kT3 .nil) trivial (rfl)
 have hc88:=beq_eq_false_iff_ne.1 hc88;refine bN<|bC<|sr<|ss (ldN hT (bJ kT2)) ?_;refine ss (cC rfl rfl (wM)) ?_;refine sto hT kT6 ?_;refine sto hT kT6 ?_;refine nn<|bG ?_;have hph:bS toks k e false=⟨3,(bP toks (k)).at_,(fY (bP toks k).word false),(0,0),(k+1)⟩:=by first | (simp [bS, *];done) | simp_all [bS]
 rw [hph];exact bO () rfl (bL hT (bJ kT1) rfl rfl rfl rfl) (bL hT (bJ .head) rfl rfl rfl rfl) (.cons kT3 .nil) trivial (rfl)
section
variable {P : Program} {ops : Array Oper} {md : Region.Mode} {C : World → Prop} {R : Array Bool → Act → World → Prop}
def bIu (P:Program)(md:Region.Mode)(ops:Array Oper)(C:World→Prop)(R:Array Bool→Act→World→Prop):Nat→Array Bool→Act→World→Prop
 | 0,listed,a,w=>C w∧R listed a w
 | fuel+1,listed,a,w=>C w∧Region.ready md ops listed≠[]∧ ∀i∈Region.ready md ops listed,fOp P ops i (bIu P md ops C R fuel (listed.setIfInBounds i true)) a w
theorem tR{Q:Exit→Act→World→Prop}(hR: ∀listed a w,R listed a w→wpAny P md ops Q 1 listed a w): ∀(fuel:Nat) (listed:Array Bool) (a:Act) (w:World),bIu P md ops C R fuel listed a w→wpAny P md ops Q (fuel+1) listed a w
 | 0,_,_,_,h=>hR _ _ _ h.2
 | fuel+1,listed,a,w,h=>by
  refine⟨fun e=>absurd e h.2.1,fun i hi=>?_⟩;have hf:=h.2.2 i hi;unfold wpOp;split
  ·rename_i ho;obtain⟨_,oi,hoi,_⟩:=mem_ready.1 hi;rw [ho] at hoi;cases hoi
  ·rename_i o ho;have h1:=wpNm (hf o ho);split
   ·rename_i hw;simp only [hw,if_true] at h1;exact .inl (vX rfl (fun u w' h'=>tR hR fuel _ _ _ h') (fun d w' h'=>tR hR fuel _ _ _ h') h1)
   ·rename_i hw;simp only [hw] at h1;exact tR hR fuel _ _ _ h1
def depsIn(md:Region.Mode)(ops:Array Oper)(listed:Array Bool)(l:Nat):Prop:= ∀o,ops[l]?=some o→ ∀e∈o.after,Region.binds md e=true→listed.getD e.on false=true
def sR (md:Region.Mode)(ops:Array Oper)(listed:Array Bool):Prop:= ∀j,listed.getD j false=true→depsIn md ops listed j
def waitsN(md:Region.Mode)(ops:Array Oper):Nat→Nat→Nat→Bool
 | 0,_,_=>false
 | n+1,l,i=>match ops[l]? with
  | some o=>o.after.any fun e=>Region.binds md e&&(e.on==i || waitsN md ops n e.on i)
  | none=>false
def waits (md:Region.Mode)(ops:Array Oper)(l i:Nat):Bool:=waitsN md ops 4 l i
theorem bKu{listed:Array Bool}(hc:sR md ops listed): ∀(n l i:Nat),waitsN md ops n l i=true→depsIn md ops listed l→listed.getD i false=true
 | 0,_,_,h,_=>by cases h
 | n+1,l,i,h,hd=>by
  unfold waitsN at h
  cases ho:ops[l]? with
  | none=>rw [ho] at h;cases h
  | some o=>
   rw [ho] at h;obtain⟨e,he,hb⟩:=Array.any_eq_true'.1 h;rw [Bool.and_eq_true,Bool.or_eq_true] at hb;have h1:=hd o ho e he hb.1
   rcases hb.2 with h2 | h2
   ·have h2:e.on=i:=by simpa using h2
    rw [←h2];exact h1
   ·exact bKu hc n e.on i h2 (hc _ h1)
theorem bGn{listed:Array Bool}{l:Nat}(h:l∈Region.ready md ops listed):depsIn md ops listed l:=fun o ho e he hb=>by
 obtain⟨_,o',ho',hall⟩:=mem_ready.1 h;have:o=o':=Option.some.inj (ho.symm.trans ho');subst this;exact hall e he hb
theorem waits_not{l i:Nat}{listed:Array Bool}(hc:sR md ops listed)(h:waits md ops l i=true)(hi:listed.getD i false≠true):l∉Region.ready md ops listed:=fun hl=>hi (bKu hc 4 l i h (bGn hl))
theorem getD_set{listed:Array Bool}{j k:Nat}(h:listed.getD k false=true):(listed.setIfInBounds j true).getD k false=true:=by
 by_cases e:j=k
 ·subst e
  rcases Nat.lt_or_ge j listed.size with h' | h'
  ·simp [h']
  ·simp [Array.getElem?_eq_none h'] at h
 ·rw [getD_set_ne false e];exact h
theorem sR.set{listed:Array Bool}(hc:sR md ops listed){j:Nat}(hj:j∈Region.ready md ops listed):sR md ops (listed.setIfInBounds j true):=fun k hk o ho e he hb=>by
 by_cases e':j=k
 ·subst e';exact getD_set (bGn hj o ho e he hb)
 ·rw [getD_set_ne false e'] at hk;exact getD_set (hc k hk o ho e he hb)
theorem sR.none{n:Nat}:sR md ops (Array.replicate n false):=fun j hj=>by
 simp at hj
 rcases Nat.lt_or_ge j n with h | h<;>simp [h] at hj
theorem wpAnyR_first{i l:Nat}{oi:Oper}{v:Value}(hi:ops[i]?=some oi)(hw:waits md ops l i=true)(hsel: ∀(j:Nat) (o:Oper) cs b,ops[j]?=some o→o.op≠ .select cs b)(hR: ∀listed a w,R listed a w→Region.ready md ops listed=[l]):
  ∀(fuel:Nat) (listed:Array Bool) (a:Act) (w:World),sR md ops listed→
   (∀j oj,ops[j]?=some oj→j≠i→listed.getD j true=false→(∀e∈oj.after,Region.binds md e=true→e.on≠i)→oi.apart ops oj=true)→
   i∈Region.ready md ops listed→Fl P ops C oi v a→
   bIu P md ops C R fuel (listed.setIfInBounds i true) (a.put oi.dst v) w→bIu P md ops C R (fuel+1) listed a w:=by
 have hun: ∀{listed:Array Bool},i∈Region.ready md ops listed→listed.getD i false≠true:=fun{listed} hr e=>by
  have h0:=(mem_ready.1 hr).1
  rcases Nat.lt_or_ge i listed.size with h' | h'
  ·simp [h'] at h0 e;rw [h0] at e;cases e
  ·simp [Array.getElem?_eq_none h'] at e
 intro fuel
 induction fuel with
 | zero=>
  intro listed a w hc _ hr hy H;refine⟨H.1,fun h=>(by rw [h] at hr;cases hr),fun j hj=>?_⟩
  by_cases hji:j=i
  ·subst hji;exact hy.fOp hi H.1 H
  ·have h1:=ready_mono hj hji;rw [hR _ _ _ H.2] at h1;have h2:j=l:=by simpa using h1
   subst h2;exact absurd hj (waits_not hc hw (hun hr))
 | succ fuel ih=>
  intro listed a w hc hfree hr hy H;refine⟨H.1,fun h=>(by rw [h] at hr;cases hr),fun j hj=>?_⟩
  by_cases hji:j=i
  ·subst hji;exact hy.fOp hi H.1 H
  ·have h1:=H.2.2 j (ready_mono hj hji);obtain⟨hjun,oj,hoj,hall⟩:=mem_ready.1 hj
   have hnot: ∀e∈oj.after,Region.binds md e=true→e.on≠i:=fun e he hb heq=>by
    have h1:=hall e he hb;rw [heq] at h1;exact hun hr h1
   have h2:=fOp_put hoj (hfree j oj hoj hji hjun hnot) (fun cs b=>hsel i oi cs b hi) (fun cs b=>hsel j oj cs b hoj) hy h1;have hfree': ∀k ok,ops[k]?=some ok→k≠i→(listed.setIfInBounds j true).getD k true=false→
     (∀e∈ok.after,Region.binds md e=true→e.on≠i)→oi.apart ops ok=true:=fun k ok hk hki hun hno=>by
    refine hfree k ok hk hki ?_ hno
    by_cases hjk:j=k
    ·subst hjk;exact hjun
    ·rw [getD_set_ne true hjk] at hun;exact hun
   refine qY (fun a' w' h3=>ih (listed.setIfInBounds j true) a' w' (hc.set hj) hfree' (ready_mono hr (Ne.symm hji)) h3.1 ?_) h2;rw [Array.setIfInBounds_comm _ _ hji];exact h3.2
def nD (P:Program)(ops:Array Oper)(C:World→Prop)(Q:Exit→Act→World→Prop)(l:Nat):List (Bool×Nat)→Act→World→Prop
 | [],a,w=>fOp P ops l (Q .normal) a w
 | (true,k)::r,a,w=> ∃o v,ops[k]?=some o∧Fl P ops C o v a∧nD P ops C Q l r (a.put o.dst v) w
 | (false,k)::r,a,w=>fOp P ops k (fun a w=>C w∧nD P ops C Q l r a w) a w
def bFu (md:Region.Mode)(ops:Array Oper)(l:Nat):List (Bool×Nat)→Array Bool→Bool
 | [],listed=>(Region.ready md ops listed==[l])&&(Region.ready md ops (listed.setIfInBounds l true)).isEmpty
 | (true,k)::r,listed=>(Region.ready md ops listed).contains k&&Region.free md ops listed k&&waits md ops l k&&bFu md ops l r (listed.setIfInBounds k true)
 | (false,k)::r,listed=>(Region.ready md ops listed==[k])&&bFu md ops l r (listed.setIfInBounds k true)
def EndL (P:Program)(md:Region.Mode)(ops:Array Oper)(Q:Exit→Act→World→Prop)(l:Nat)(listed:Array Bool)(a:Act)(w:World):Prop:=
 Region.ready md ops listed=[l]∧Region.ready md ops (listed.setIfInBounds l true)=[]∧fOp P ops l (Q .normal) a w
theorem yA{Q:Exit→Act→World→Prop}{l:Nat}(hs:Region.noSelect ops=true): ∀(od:List (Bool×Nat)) (listed:Array Bool) (a:Act) (w:World),sR md ops listed→bFu md ops l od listed=true→C w→nD P ops C Q l od a w→bIu P md ops C (EndL P md ops Q l) od.length listed a w
 | [],listed,a,w,_,hB,hC,h=>by
  simp only [bFu,Bool.and_eq_true,beq_iff_eq] at hB;exact⟨hC,hB.1,by simpa using hB.2,h⟩
 | (true,k)::r,listed,a,w,hc,hB,hC,h=>by
  simp only [bFu,Bool.and_eq_true] at hB;obtain⟨o,v,ho,hy,hK⟩:=h;exact wpAnyR_first ho hB.1.2 (Region.noSelect_spec hs) (fun _ _ _ h=>h.1) r.length listed a w hc (Region.free_spec ho hB.1.1.2) (by simpa using hB.1.1.1) hy (yA hs r _ _ _ (hc.set (by simpa using hB.1.1.1)) hB.2 hC hK)
 | (false,k)::r,listed,a,w,hc,hB,hC,h=>by
  simp only [bFu,Bool.and_eq_true,beq_iff_eq] at hB;refine⟨hC,fun h0=>(by rw [hB.1] at h0;cases h0),fun i hi=>?_⟩;rw [hB.1] at hi;have:i=k:=by simpa using hi
  subst this;exact qY (fun a' w' h'=>yA hs r _ _ _ (hc.set (by rw [hB.1];simp)) hB.2 h'.1 h'.2) h
theorem end_any{Q:Exit→Act→World→Prop}{l:Nat}(listed:Array Bool)(a:Act)(w:World)(h:EndL P md ops Q l listed a w):wpAny P md ops Q 1 listed a w:=by
 refine⟨fun e=>(by rw [h.1] at e;cases e),fun i hi=>?_⟩;rw [h.1] at hi;have:i=l:=by simpa using hi
 subst this;have hf:=h.2.2;unfold wpOp;split
 ·rename_i ho;have hl:i∈Region.ready md ops listed:=by rw [h.1];simp
  obtain⟨_,oi,hoi,_⟩:=mem_ready.1 hl;rw [ho] at hoi;cases hoi
 ·rename_i o ho;have h1:=wpNm (hf o ho);split
  ·rename_i hw;simp only [hw,if_true] at h1;exact .inl (vX rfl (fun u w' h'=>⟨h.2.1,h'⟩) (fun d w' h'=>⟨h.2.1,h'⟩) h1)
  ·rename_i hw;simp only [hw] at h1;exact⟨h.2.1,h1⟩
def mixLOk(l:Nat)(od:List (Bool×Nat))(ops:Array Oper):Bool:=Region.noSelect ops&&Nat.beq (od.length+1) ops.size&&bFu .any ops l od (Array.replicate ops.size false)
end
section
variable {P : Program} {β : fU} {n : Nat} {Γ : Env} {H : List bZ} {F : List Fact} {Q : Exit → Act → World → Prop} {Hk : List bZ} {F0 : List Fact} {ops : Array Oper}
theorem sA{id:Nat}{l:List Oper}(last:Nat)(Hk:List bZ)(F0:List Fact)(od:List (Bool×Nat))(hm:P.follows .mixedOrders=true)(hB:mixLOk last od l.toArray=true)(hH:Sel H Hk)(hF:bI F F0)
  (h:At β n Γ H F (nD P l.toArray (StF β Hk F0) Q last od)):At β n Γ H F ((Code.region id l.toArray true).wp P Q):=fun a w S f s k=>by
 simp only [mixLOk,Bool.and_eq_true] at hB;have hw:=StF.drew ⟨S,s,k⟩;obtain⟨S',s',k'⟩:=hw;refine wp_region_any hm ?_;have h1:=yA (P:=P) (md:= .any) (C:=StF β Hk F0) (Q:=Q) hB.1.1 od (Array.replicate l.toArray.size false) a _ sR.none hB.2 (StF.sel hH hF ⟨S',s',k'⟩) (h a _ S' f s' k');have h2:=tR (Q:=Q) end_any _ _ _ _ h1
 rwa [Nat.eq_of_beq_eq_true hB.1.2] at h2
theorem atl_sti{r:List (Bool×Nat)}{o:Oper}{l k d:Nat}{v:Value}(hk:ops[k]?=some o)(hw:want ops Γ o=some true)(hd:o.dst=some d)(hn:Nat.blt d n=true)(h:Sti P β n Γ Hk F0 o v)
  (K:At β n ((d,v)::Γ) H F (nD P ops (StF β Hk F0) Q l r)):At β n Γ H F (nD P ops (StF β Hk F0) Q l ((true,k)::r)):=fun a w S f s hF=>by
 refine⟨o,v,hk,.inl ⟨f.want hw,fun w' ⟨S',s',k'⟩=>h a w' S' f s' k'⟩,?_⟩;rw [hd];exact K _ _ S (f.put (by simpa [Nat.blt_eq] using hn) v) s hF
theorem stL{r:List (Bool×Nat)}{o:Oper}{l k d:Nat}{v:Value}(hk:ops[k]?=some o)(h:Sti P β n Γ Hk F0 o v)(K:At β n ((d,v)::Γ) H F (nD P ops (StF β Hk F0) Q l r))(hw:want ops Γ o=some true:=by exact rfl)(hd:o.dst=some d:=by exact rfl)(hn:Nat.blt d n=true:=by exact rfl):At β n Γ H F (nD P ops (StF β Hk F0) Q l ((true,k)::r)):=atl_sti hk hw hd hn h K
theorem puL{r:List (Bool×Nat)}{o:Oper}{l k d:Nat}{v:Value}{T:Tab}(hT:gF P T)(K:At β n ((d,v)::Γ) H F (nD P ops (StF β Hk F0) Q l r))(hk:ops[k]?=some o:=by exact rfl)(hw:want ops Γ o=some true:=by exact rfl)(hd:o.dst=some d:=by exact rfl)(hn:Nat.blt d n=true:=by exact rfl)(h:mM T Γ o.op=some v:=by exact rfl):At β n Γ H F (nD P ops (StF β Hk F0) Q l ((true,k)::r)):=atl_sti hk hw hd hn (fun _ w _ f _ _=>uB hT f h w) K
theorem nV{r:List (Bool×Nat)}{o:Oper}{l k:Nat}{C:World→Prop}(hk:ops[k]?=some o)(h:At β n Γ H F (wpList P ops (Nm fun a w=>C w∧nD P ops C Q l r a w) [o])):At β n Γ H F (nD P ops C Q l ((false,k)::r)):=fun a w S f s hF o' ho'=>by
 have:o'=o:=Option.some.inj (ho'.symm.trans hk);subst this;exact h a w S f s hF
theorem oH{r:List (Bool×Nat)}{l:Nat}(hH:Sel H Hk)(hF:bI F F0)(h:At β n Γ H F (nD P ops (StF β Hk F0) Q l r)):At β n Γ H F (wpList P ops (Nm fun a w=>StF β Hk F0 w∧nD P ops (StF β Hk F0) Q l r a w) []):=fun a w S f s k=>
 ⟨rfl,StF.sel hH hF ⟨S,s,k⟩,h a w S f s k⟩
theorem pG{o:Oper}{l:Nat}{C:World→Prop}(hk:ops[l]?=some o)(h:At β n Γ H F (wpList P ops (Nm (Q .normal)) [o])):At β n Γ H F (nD P ops C Q l []):=fun a w S f s hF o' ho'=>by
 have:o'=o:=Option.some.inj (ho'.symm.trans hk);subst this;exact h a w S f s hF
theorem rY{K:Act→World→Prop}(h:At β n Γ H F K):At β n Γ H F (wpList P ops (Nm K) []):=fun a w S f s k=>⟨rfl,h a w S f s k⟩
end
abbrev kV:=Option (Nat×ItemV)
def fnV (b4:Nat):kV→Value
 | none=> .nilFunc
 | some x=> .func (.func 139) #[] #[.pointer (some ⟨b4,0,none⟩),.pointer (some ⟨x.1,0,none⟩)]
def fnE (b4:Nat):Flat kV where
 size:=1
 cells:=fun x=>[fnV b4 x]
 len:=fun _=>rfl
 one:=fun x u hu=>by
  simp at hu;subst hu;cases x<;>rfl
 pos:=by decide
theorem fnInfo: ∃i:TypeInfo,Tryz.prog.info? 1=some i∧i.zero=some .nilFunc∧i.size=1∧i.bytes=8:=by
 have h:(Tryz.prog.info? 1).map (fun i=>(i.zero,i.size,i.bytes))=some (some .nilFunc,1,8):=by kernel_rfl
 cases hi:Tryz.prog.info? 1 with
 | none=>simp [hi] at h
 | some i=>simp [hi] at h;exact⟨i,rfl,h.1,h.2.1,h.2.2⟩
section
variable {β : fU} {n : Nat} {Γ : Env} {H : List bZ} {F : List Fact} {Q : Exit → Act → World → Prop} {ops : Array Oper} {rest : List Oper} {o : Oper} {d : Nat}
theorem bCb{b4:Nat}{x:Operand}{m:kV}(hw:want ops Γ o=some true)(ho:o.op= .buildSlice 208 1 #[(0,x)])(hd:o.dst=some d)(hn:Nat.blt d n=true)
  (hx:Γ.ev x=some (fnV b4 m)) (k: ∀b,At β n ((d,.slice (some ⟨b,0,none⟩) 1 1)::Γ) (.obj b (.cells ((fnE b4).all [m]).toArray 1)::H) F (wpList Tryz.prog ops Q rest)):At β n Γ H F (wpList Tryz.prog ops Q (o::rest)):=by
 obtain⟨i,hi,hz,hs,_⟩:=fnInfo;refine jC hw ho hd hn hx Tryz.underlying208 hi hz (by omega) (by omega) ?_ k;rw [hs];cases m<;>kernel_rfl
theorem bBo{b4:Nat}{x y:Operand}{c q:Nat}{v:Value}{A:Option Addr}{xs ys:List kV}{H':List bZ}(hH:dK H ((fnE b4).row v 1 xs) H')(hr:cP β H F (fnE b4) A ys)(hg:o.guard=none)
  (ho:o.op= .call {callee:= .builtin .append,args:= #[x,y],argTypes:= #[208,208]}) (hd:o.dst=some d) (hn:Nat.blt d n=true)
  (hx:Γ.ev x=some v) (hy:Γ.ev y=some (.slice A q c)) (hq:q=ys.length) (hl:xs.length+ys.length≤10000000)
  (k: ∀A' cap',At β n ((d,.slice A' (xs++ys).length cap')::Γ) ((fnE b4).row (.slice A' (xs++ys).length cap') 1 (xs++ys)::H') F (wpList Tryz.prog ops Q rest)):At β n Γ H F (wpList Tryz.prog ops Q (o::rest)):=by
 obtain⟨i,hi,hz,hs,hb⟩:=fnInfo;exact gB hH hr hg ho hd hn Tryz.underlying208 hi hz hs hb rfl hx hy hq (by omega) (by decide) k
end
def lT (st:List kV):Fact:=Fact.each st fun o=>match o with
 | none=>Fact.true
 | some x=>Fact.cells x.1 0 (kY.cells x.2)
def finP:List kV→List ItemV×List kV
 | some x::r=>(x.2::(finP r).1,(finP r).2)
 | none::r=>([],none::r)
 | []=>([],[])
theorem itemZ:(Tryz.prog.info? 47).bind (·.zero)=some (.slice none 0 0):=by kernel_rfl
theorem funcZ:(Tryz.prog.info? 208).bind (·.zero)=some (.slice none 0 0):=by kernel_rfl
theorem bCf{x:kV}{r:List kV}:(x::r).reverse[(r.length+1)-1]?=some x:=by
 simp
theorem bCx{x:kV}{r:List kV}:(x::r).reverse.take ((r.length+1)-1)=r.reverse:=by
 simp
theorem jP(x:kV)(r:List kV):(x::r).reverse.length=r.length+1:=by simp
section
variable {F : List Fact} {x : Nat × ItemV} {o : kV} {r : List kV}
theorem todo_head(h:Has F (lT (some x::r))):Has F (Fact.cells x.1 0 (kY.cells x.2)):=fun S w k=>h S w k (some x) (List.mem_cons_self ..)
theorem bCj(h:Has F (lT (o::r))):Has F (lT r):=fun S w k y hy=>h S w k y (List.mem_cons_of_mem _ hy)
theorem todo_nil:Has F (lT []):=fun _ _ _ y hy=>by simp at hy
theorem todo_none(h:Has F (lT r)):Has F (lT (none::r)):=fun S w k y hy=>by
 rcases List.mem_cons.1 hy with rfl | hy
 ·trivial
 ·exact h S w k y hy
theorem bMd(hx:Has F (Fact.cells x.1 0 (kY.cells x.2)))(h:Has F (lT r)):Has F (lT (some x::r)):=fun S w k y hy=>by
 rcases List.mem_cons.1 hy with rfl | hy
 ·exact hx S w k
 ·exact h S w k y hy
end
def qG (p:Phr):ItemV:=⟨p.how,p.at_,p.fn,[],⟨none,0,[]⟩⟩
set_option maxRecDepth 100000 in
theorem push_spec(b4 bi:Nat)(C:Option Addr)(e:Nat)(out:List ItemV)(it:ItemV)(ho:out.length≤1000000):dT Tryz.prog 139 [.pointer (some ⟨b4,0,none⟩),.pointer (some ⟨bi,0,none⟩)] [.obj b4 (.cells [.slice C out.length e].toArray 47),kY.row (.slice C out.length e) 52 out] [Fact.cells bi 0 (kY.cells it)] (fun(_:Option Addr×Nat)=> .tuple #[]) (fun(x:Option Addr×Nat)=>[.obj b4 (.cells [.slice x.1 (out++[it]).length x.2].toArray 47),kY.row (.slice x.1 (out++[it]).length x.2) 52 (out++[it])]) (fun _=>[]):=by
 have hT:=fR;refine cU Tryz.func139 rfl Tryz.ntmps139 rfl ?_;intro β hM;refine bD<|ss (ldO hT (bJ .head)) ?_;refine ss (dU hT (knows_fact (Has.of mT0)) rfl rfl rfl rfl rfl) ?_;refine vP (m:=it) rfl rfl rfl rfl rfl fun b1=>?_;refine vM kT2 (dE .head rfl) rfl rfl rfl rfl rfl rfl rfl (by simp only [List.length_singleton];omega) fun A2 c3=>?_;refine sto hT kT2 ?_;refine dY ?_;exact uG (A2,c3) rfl (.cons .head (.cons .head .nil)) trivial (rfl)
set_option maxRecDepth 100000 in
theorem nM(b5 b4:Nat)(D:Option Addr)(f:Nat)(st0:List kV)(C:Option Addr)(e:Nat)(out0:List ItemV)(hs:out0.length+st0.length≤100000):dT Tryz.prog 136 [.pointer (some ⟨b5,0,none⟩)] [.obj b5 (.cells [.slice D st0.reverse.length f].toArray 208),(fnE b4).row (.slice D st0.reverse.length f) 1 st0.reverse,.obj b4 (.cells [.slice C out0.length e].toArray 47),kY.row (.slice C out0.length e) 52 out0] [lT st0] (fun(_:(Option Addr×Nat)×(Option Addr×Nat))=> .tuple #[]) (fun(x:(Option Addr×Nat)×(Option Addr×Nat))=>[.obj b5 (.cells [.slice x.1.1 (finP st0).2.reverse.length x.1.2].toArray 208),(fnE b4).row (.slice x.1.1 (finP st0).2.reverse.length x.1.2) 1 (finP st0).2.reverse,.obj b4 (.cells [.slice x.2.1 (out0++(finP st0).1).length x.2.2].toArray 47),kY.row (.slice x.2.1 (out0++(finP st0).1).length x.2.2) 52 (out0++(finP st0).1)]) (fun _=>[lT (finP st0).2]):=by
 have hT:=fR;refine cU Tryz.func136 rfl Tryz.ntmps136 rfl ?_;intro β hM;refine bX<|dI (ι:=List kV×List ItemV×Option Addr×Nat×Option Addr×Nat) [(0,_)] ⟨rfl,trivial⟩ (fun _=>[]) (fun⟨st,out,D,f,C,e⟩=>[.obj b5 (.cells [.slice D st.reverse.length f].toArray 208),(fnE b4).row (.slice D st.reverse.length f) 1 st.reverse,.obj b4 (.cells [.slice C out.length e].toArray 47),kY.row (.slice C out.length e) 52 out]) (fun⟨st,out,D,f,C,e⟩=>[Fact.pure (out0++(finP st0).1=out++(finP st).1∧(finP st0).2=(finP st).2∧out.length+st.length≤100000),lT st]) (fun⟨st,out,D,f,C,e⟩=>st.length) (st0,out0,D,f,C,e) trivial (.cons .head (.cons .head (.cons .head (.cons .head .nil)))) ⟨Has.pure (⟨rfl,rfl,hs⟩),Has.of mT0,trivial⟩ ?_;rintro⟨st,out,D,f,C,e⟩;dsimp only;refine bR (Has.of mT0) fun hinv0=>?_;refine bB<|bB ?_
 rcases st with _ | ⟨_ | ⟨b,it⟩,r⟩
 ·skip
  refine bD<|ss (ldO hT (bJ .head)) ?_;refine sp3 hT ?_;refine cF (fun hg4=>?_) (fun hg4=>?_)
  ·have hg4:=of_decide_eq_true hg4;simp at hg4
  have hg4:=Int.not_lt.1 (of_decide_eq_false hg4);refine sk4 ?_;refine sk3 ?_;refine sp hT ?_;refine nn<|cG rfl rfl ?_;refine dC<|cM<|cM<|dB ?_;have e1:(finP st0).2=[]:=hinv0.2.1;have e2:out0++(finP st0).1=out:=by rw [hinv0.1];simp [finP]
  rw [e1,e2];exact uG ((D,f),(C,e)) rfl (.cons .head (.cons .head (.cons .head (.cons .head .nil)))) ⟨Has.of mT1,trivial⟩ (rfl)
 ·have hsl:r.length≤100000:=by have:=hinv0.2.2;simp at this;omega
  refine bD<|ss (ldO hT (bJ .head)) ?_;refine sp hT ?_;refine bT (z':=(((r.length+1):Nat):Int)) (congrArg Nat.cast (jP _ r)) ?_;refine sp2 hT ?_;refine cF (fun hg4=>?_) (fun hg4=>?_)
  ·have hg4:=of_decide_eq_true hg4;refine ss (ldO hT (bJ .head)) ?_;refine ss (ldO hT (bJ .head)) ?_;refine sp hT ?_;refine bT (z':=(((r.length+1):Nat):Int)) (congrArg Nat.cast (jP _ r)) ?_;refine sp hT ?_;refine bT (z':=((((r.length+1)-1):Nat):Int)) (cQ (by omega) (by omega)) ?_;refine ss (bV hT (k:=((r.length+1)-1)) (cJ kT1) rfl rfl rfl rfl rfl rfl rfl (by rw [jP];omega)) ?_;refine ss (cI hT (cP.knows (cJ kT1) (k:=((r.length+1)-1)) (x:=(none:kV)) bCf 0) rfl rfl rfl rfl rfl) ?_;refine ss (sti_nofn Tryz.underlying1 rfl rfl) ?_;refine sp hT ?_;refine nn<|cG rfl rfl ?_;refine dC<|cM<|cM<|dB ?_;have e1:(finP st0).2=(none:kV)::r:=hinv0.2.1;have e2:out0++(finP st0).1=out:=by rw [hinv0.1];simp [finP]
   rw [e1,e2];exact uG ((D,f),(C,e)) rfl (.cons .head (.cons .head (.cons .head (.cons .head .nil)))) ⟨Has.of mT1,trivial⟩ (rfl)
  have hg4:=Int.not_lt.1 (of_decide_eq_false hg4);omega
 have hsl:r.length≤100000:=by have:=hinv0.2.2;simp at this;omega
 have hol:out.length≤100000:=by have:=hinv0.2.2;omega
 refine bD<|ss (ldO hT (bJ .head)) ?_;refine sp hT ?_;refine bT (z':=(((r.length+1):Nat):Int)) (congrArg Nat.cast (jP _ r)) ?_;refine sp2 hT ?_;refine cF (fun hg4=>?_) (fun hg4=>?_)
 ·have hg4:=of_decide_eq_true hg4;refine ss (ldO hT (bJ .head)) ?_;refine ss (ldO hT (bJ .head)) ?_;refine sp hT ?_;refine bT (z':=(((r.length+1):Nat):Int)) (congrArg Nat.cast (jP _ r)) ?_;refine sp hT ?_;refine bT (z':=((((r.length+1)-1):Nat):Int)) (cQ (by omega) (by omega)) ?_;refine ss (bV hT (k:=((r.length+1)-1)) (cJ kT1) rfl rfl rfl rfl rfl rfl rfl (by rw [jP];omega)) ?_;refine ss (cI hT (cP.knows (cJ kT1) (k:=((r.length+1)-1)) (x:=(some (b,it):kV)) bCf 0) rfl rfl rfl rfl rfl) ?_;refine ss (sti_fn Tryz.underlying1 rfl rfl) ?_;refine sp hT ?_;refine nn<|cH rfl rfl ?_;refine bN<|bC<|bX<|sr<|ss (ldO hT (bJ .head)) ?_;refine ss (ldO hT (bJ .head)) ?_;refine sp hT ?_;refine bT (z':=(((r.length+1):Nat):Int)) (congrArg Nat.cast (jP _ r)) ?_;refine sp hT ?_;refine bT (z':=((((r.length+1)-1):Nat):Int)) (cQ (by omega) (by omega)) ?_;refine ss (bV hT (k:=((r.length+1)-1)) (cJ kT1) rfl rfl rfl rfl rfl rfl rfl (by rw [jP];omega)) ?_;refine ss (cI hT (cP.knows (cJ kT1) (k:=((r.length+1)-1)) (x:=(some (b,it):kV)) bCf 0) rfl rfl rfl rfl rfl) ?_;refine gL (cR Tryz.func139 rfl rfl) (push_spec b4 b _ _ out it (by omega)) rfl rfl rfl rfl rfl rfl rfl (.cons kT2 (.cons kT2 .nil)) ⟨todo_head (Has.of mT1),trivial⟩ fun⟨C1,e2⟩=>?_;refine nn<|bD<|ss (ldO hT (bJ kT2)) ?_;refine ss (ldO hT (bJ kT2)) ?_;refine sp hT ?_;refine bT (z':=(((r.length+1):Nat):Int)) (congrArg Nat.cast (jP _ r)) ?_;refine sp hT ?_;refine bT (z':=((((r.length+1)-1):Nat):Int)) (cQ (by omega) (by omega)) ?_;refine iW hT (k:=((r.length+1)-1)) kT3 rfl rfl rfl rfl rfl rfl rfl rfl rfl (by rw [jP];omega) ?_;rw [bCx];refine sto hT kT3 ?_;refine dY<|cD<|bC<|bE (lT r) (bCj (Has.of mT1)) ?_;exact cO (r,_,_,_,_,_) (by dsimp only;simp) trivial ⟨rfl,trivial⟩ (.cons .head (.cons .head (.cons .head (.cons .head .nil)))) ⟨Has.pure (⟨by rw [hinv0.1];simp [finP],by rw [hinv0.2.1];rfl,by have:=hinv0.2.2;simp at*;omega⟩),Has.of mT0,trivial⟩ (bI.drop 3)
 have hg4:=Int.not_lt.1 (of_decide_eq_false hg4);omega
set_option maxRecDepth 100000 in
theorem nJ(bl:Nat)(A:Option Addr)(c:Nat)(toks:List TokV)(k:Nat)(e:Int)(b1 b5 b4:Nat)(D:Option Addr)(f:Nat)(st:List kV)(hk:k≤1000000)(hs:st.length≤100000):dT Tryz.prog 137 [.bool true,.pointer (some ⟨b1,0,none⟩),.pointer (some ⟨b5,0,none⟩),.pointer (some ⟨b4,0,none⟩)] [.obj bl (.cells [.slice A toks.length c,.int .i64 (k:Nat),.int .i64 e].toArray 102),.obj b1 (.cells [.pointer (some ⟨bl,0,none⟩)].toArray 100),.obj b5 (.cells [.slice D st.reverse.length f].toArray 208),(fnE b4).row (.slice D st.reverse.length f) 1 st.reverse] [kU.sl (.slice A toks.length c) toks,lT st] (fun(_:(Option Addr×Nat)×Nat)=> .agg #[.int .i64 (bS toks (k) e true).flt.1,.int .i64 (bS toks (k) e true).flt.2]) (fun(x:(Option Addr×Nat)×Nat)=>[.obj bl (.cells [.slice A toks.length c,.int .i64 ((bS toks (k) e true).next:Nat),.int .i64 e].toArray 102),.obj b1 (.cells [.pointer (some ⟨bl,0,none⟩)].toArray 100),.obj b5 (.cells [.slice x.1.1 (some (x.2,(qG (bS toks (k) e true)))::st).reverse.length x.1.2].toArray 208),(fnE b4).row (.slice x.1.1 (some (x.2,(qG (bS toks (k) e true)))::st).reverse.length x.1.2) 1 (some (x.2,(qG (bS toks (k) e true)))::st).reverse]) (fun(x:(Option Addr×Nat)×Nat)=>[lT (some (x.2,(qG (bS toks (k) e true)))::st)]):=by
 have hT:=fR;refine cU Tryz.func137 rfl Tryz.ntmps137 rfl ?_;intro β hM;refine sr<|bY rfl rfl rfl rfl yR rfl fun b1=>?_;refine nn<|sr<|ss (ldO hT (bJ kT2)) ?_;refine sp hT ?_;refine bQ Tryz.func138 (phraseT_spec bl A c toks (k) e (by omega)) rfl rfl (.cons kT1 .nil) ⟨Has.of mT0,trivial⟩ fun _=>?_;refine sp3 hT ?_;refine bY rfl rfl rfl rfl mG rfl fun b2=>?_;refine bY rfl rfl rfl rfl yR rfl fun b3=>?_;refine sto hT kT1 ?_;refine sto hT kT1 ?_;refine nn<|sr<|ss (ldO hT (bJ kT5)) ?_;refine sp hT ?_;refine bCb (b4:=b4) (m:=(some (b2,(qG (bS toks (k) e true))):kV)) rfl rfl rfl rfl rfl fun b4=>?_;refine bBo kT7 (dE .head rfl) rfl rfl rfl rfl rfl rfl rfl (by simp only [List.length_singleton,List.length_reverse];omega) fun A5 c6=>?_;rw [←List.reverse_cons];refine sto hT kT7 ?_;refine nn<|sr<|ss (ldN hT (bJ kT3)) ?_;refine sto hT kT6 ?_;refine nn<|bG<|xR kT5 ?_;exact bW ((A5,c6),b2) rfl (bL hT (bJ .head) rfl rfl rfl rfl) (.cons kT5 (.cons kT5 (.cons kT1 (.cons kT1 .nil)))) ⟨bMd (Has.of mT0) (Has.of mT2),trivial⟩ (rfl)
set_option maxRecDepth 100000 in
theorem laterF_spec(bl:Nat)(A:Option Addr)(c:Nat)(toks:List TokV)(k:Nat)(e:Int)(b1 b5 b4:Nat)(D:Option Addr)(f:Nat)(st:List kV)(hk:k≤1000000)(hs:st.length≤100000):dT Tryz.prog 137 [.bool false,.pointer (some ⟨b1,0,none⟩),.pointer (some ⟨b5,0,none⟩),.pointer (some ⟨b4,0,none⟩)] [.obj bl (.cells [.slice A toks.length c,.int .i64 (k:Nat),.int .i64 e].toArray 102),.obj b1 (.cells [.pointer (some ⟨bl,0,none⟩)].toArray 100),.obj b5 (.cells [.slice D st.reverse.length f].toArray 208),(fnE b4).row (.slice D st.reverse.length f) 1 st.reverse] [kU.sl (.slice A toks.length c) toks,lT st] (fun(_:(Option Addr×Nat)×Nat)=> .agg #[.int .i64 (bS toks (k) e false).flt.1,.int .i64 (bS toks (k) e false).flt.2]) (fun(x:(Option Addr×Nat)×Nat)=>[.obj bl (.cells [.slice A toks.length c,.int .i64 ((bS toks (k) e false).next:Nat),.int .i64 e].toArray 102),.obj b1 (.cells [.pointer (some ⟨bl,0,none⟩)].toArray 100),.obj b5 (.cells [.slice x.1.1 (some (x.2,(qG (bS toks (k) e false)))::st).reverse.length x.1.2].toArray 208),(fnE b4).row (.slice x.1.1 (some (x.2,(qG (bS toks (k) e false)))::st).reverse.length x.1.2) 1 (some (x.2,(qG (bS toks (k) e false)))::st).reverse]) (fun(x:(Option Addr×Nat)×Nat)=>[lT (some (x.2,(qG (bS toks (k) e false)))::st)]):=by
 have hT:=fR;refine cU Tryz.func137 rfl Tryz.ntmps137 rfl ?_;intro β hM;refine sr<|bY rfl rfl rfl rfl yR rfl fun b1=>?_;refine nn<|sr<|ss (ldO hT (bJ kT2)) ?_;refine sp hT ?_;refine bQ Tryz.func138 (phraseF_spec bl A c toks (k) e (by omega)) rfl rfl (.cons kT1 .nil) ⟨Has.of mT0,trivial⟩ fun _=>?_;refine sp3 hT ?_;refine bY rfl rfl rfl rfl mG rfl fun b2=>?_;refine bY rfl rfl rfl rfl yR rfl fun b3=>?_;refine sto hT kT1 ?_;refine sto hT kT1 ?_;refine nn<|sr<|ss (ldO hT (bJ kT5)) ?_;refine sp hT ?_;refine bCb (b4:=b4) (m:=(some (b2,(qG (bS toks (k) e false))):kV)) rfl rfl rfl rfl rfl fun b4=>?_;refine bBo kT7 (dE .head rfl) rfl rfl rfl rfl rfl rfl rfl (by simp only [List.length_singleton,List.length_reverse];omega) fun A5 c6=>?_;rw [←List.reverse_cons];refine sto hT kT7 ?_;refine nn<|sr<|ss (ldN hT (bJ kT3)) ?_;refine sto hT kT6 ?_;refine nn<|bG<|xR kT5 ?_;exact bW ((A5,c6),b2) rfl (bL hT (bJ .head) rfl rfl rfl rfl) (.cons kT5 (.cons kT5 (.cons kT1 (.cons kT1 .nil)))) ⟨bMd (Has.of mT0) (Has.of mT2),trivial⟩ (rfl)
structure dN where
 how:Int
 at_:Int
 fn:Int
 name:Bs
 nums:List Int
 deriving Inhabited,DecidableEq
def ItemV.it(x:ItemV):dN:=⟨x.how,x.at_,x.fn,x.name,x.nums.list⟩
def Phr.it(p:Phr):dN:=⟨p.how,p.at_,p.fn,[],[]⟩
abbrev Stk:=List (Option dN)
def xU (st:List kV):Stk:=st.map fun o=>o.map fun x=>x.2.it
def mS:Stk→List dN×Stk
 | some x::r=>(x::(mS r).1,(mS r).2)
 | none::r=>([],none::r)
 | []=>([],[])
theorem xF: ∀st:List kV,(finP st).1.map ItemV.it=(mS (xU st)).1∧xU (finP st).2=(mS (xU st)).2
 | []=>⟨rfl,rfl⟩
 | none::r=>⟨rfl,rfl⟩
 | some x::r=>by
  obtain⟨h1,h2⟩:=xF r;exact⟨by simp [finP,mS,xU] at*;exact h1,h2⟩
def opens:List kV→Nat
 | []=>0
 | none::r=>opens r+1
 | some _::r=>opens r
theorem tP: ∀st:List kV,(finP st).1.length+(finP st).2.length=st.length
 | []=>rfl
 | none::r=>by simp [finP]
 | some x::r=>by have:=tP r;simp [finP];omega
theorem fin_open{st:List kV}(h:0<opens st): ∃r,(finP st).2=none::r∧opens r+1=opens st:=by
 induction st with
 | nil=>simp [opens] at h
 | cons o st ih=>
  cases o with
  | none=>exact⟨st,rfl,rfl⟩
  | some x=>exact ih h
section
variable (toks : List TokV) (e : Int)
def gH (k:Nat):List Int:=((toks.drop k).takeWhile fun t=>t.kind==2).map (·.n)
def kS (f:Flt):Bool:=oK ⟨f.1,f.2⟩ ⟨0,0⟩
abbrev uW:=List dN×Flt
def bBj (rec:Nat→List dN→Stk→Nat→uW)(o k:Nat)(out:List dN)(st:Stk):uW:=
 if (bP toks k).kind=4 then (if 0<o then ([],(atP toks k e,42)) else (out++(mS st).1,(0,0)))
 else if (bP toks k).kind=2∨nY (bP toks k).word=false then ([],(atP toks k e,46))
 else if kS (bS toks k e true).flt then rec (bS toks k e true).next out (some (bS toks k e true).it::st) o else ([],(bS toks k e true).flt)
def rZ (rec:Nat→List dN→Stk→Nat→uW):Nat→Nat→List dN→Stk→uW
 | 0,k,out,st=>bBj toks e rec 0 k out st
 | o+1,k,out,st=>if (bP toks k).kind=3∧(bP toks k).word=[41] then rZ rec o (k+1) (out++(mS st).1) (mS st).2.tail else bBj toks e rec (o+1) k out st
def xK (k:Nat):dN:=⟨1,(bP toks k).at_,0,[],gH toks k⟩
def qT (k:Nat):dN:=⟨2,(bP toks k).at_,0,(bP toks k).word,[]⟩
def lU:Nat→Nat→List dN→Stk→Nat→uW
 | 0,_,_,_,_=>([],(0,0))
 | f+1,k,out,st,o=>
  if (bP toks k).kind≠2∧(bP toks k).kind≠4∧nY (bP toks k).word=true then
   if kS (bS toks k e false).flt then lU f (bS toks k e false).next out (some (bS toks k e false).it::st) o else ([],(bS toks k e false).flt)
  else if (bP toks k).kind=3∧(bP toks k).word=[40] then
   if o=32 then ([],(atP toks k e,44)) else lU f (k+1) out (none::st) (o+1)
  else if (bP toks k).kind=2 then rZ toks e (lU f) o (k+(gH toks k).length) (out++[xK toks k]) st
  else if (bP toks k).kind=1∧dX (bP toks k).word=true then rZ toks e (lU f) o (k+1) (out++[qT toks k]) st
  else if (bP toks k).kind=1 then ([],(atP toks k e,41)) else ([],(atP toks k e,42))
def lG (k:Nat):uW:=lU toks e (toks.length+1) k [] [] 0
def bAh (r:uW)(k:Nat)(out:List dN)(st:Stk)(o:Nat):Prop:=k≤toks.length∧ ∃f,toks.length+1≤f+k∧lU toks e f k out st o=r
def vG (r:uW)(k:Nat)(out:List dN)(st:Stk)(o:Nat):Prop:=k≤toks.length∧ ∃f,toks.length+1≤f+k∧rZ toks e (lU toks e f) o k out st=r
end
theorem iR{toks:List TokV}{k:Nat}(h:(bP toks k).kind≠4):k<toks.length:=by
 rcases Nat.lt_or_ge k toks.length with h' | h'
 ·exact h'
 ·rw [yC h'] at h;exact absurd rfl h
theorem tI{toks:List TokV}{k:Nat}(h:(bP toks k).kind=2):gH toks k=(bP toks k).n::gH toks (k+1):=by
 have hk:=iR (toks:=toks) (k:=k) (by rw [h];decide);have e:toks[k]?=some toks[k]:=List.getElem?_eq_getElem hk;rw [qX e] at h⊢;unfold gH;rw [List.drop_eq_getElem_cons hk,List.takeWhile_cons_of_pos (by simpa using h)];rfl
theorem nums_end{toks:List TokV}{k:Nat}(h:(bP toks k).kind≠2):gH toks k=[]:=by
 unfold gH
 rcases Nat.lt_or_ge k toks.length with hk | hk
 ·have e:toks[k]?=some toks[k]:=List.getElem?_eq_getElem hk;rw [qX e] at h;rw [List.drop_eq_getElem_cons hk,List.takeWhile_cons_of_neg (by simpa using h)];rfl
 ·rw [List.drop_of_length_le hk];rfl
theorem nums_le(toks:List TokV)(k:Nat):(gH toks k).length≤toks.length-k:=by
 unfold gH;rw [List.length_map];have:=(List.takeWhile_sublist (fun t:TokV=>t.kind==2) (l:=toks.drop k)).length_le
 simpa using this
theorem dQ(toks:List TokV)(k:Nat)(e:Int)(b:Bool):k+1≤(bS toks k e b).next∧(bS toks k e b).next≤k+2:=by
 unfold bS;split
 ·split
  ·exact⟨by simp,by simp⟩
  ·exact⟨by simp,by simp⟩
 ·exact⟨by simp,by simp⟩
theorem wV{toks:List TokV}{k:Nat}{e:Int}{b:Bool}(h:k<toks.length):(bS toks k e b).next≤toks.length:=by
 unfold bS;split
 ·rename_i h3;have:=iR (toks:=toks) (k:=k+1) (by rw [h3.1];decide);split<;>(simp only;omega)
 ·simp only;omega
theorem bracket_verb:nY [40]=false:=by decide
theorem name_verb{s:Bs}(h:dX s=true):nY s=false:=by
 unfold dX at h;simp only [Bool.and_eq_true,Bool.not_eq_true'] at h;exact h.1
section
variable {toks : List TokV} {e : Int} {r : uW} {k o : Nat} {out : List dN} {st : Stk}
theorem e_start(h:k≤toks.length):bAh toks e (lG toks e k) k [] [] 0:=⟨h,toks.length+1,by omega,rfl⟩
theorem e_verb(h:bAh toks e r k out st o)(h2:(bP toks k).kind≠2)(h4:(bP toks k).kind≠4)(hv:nY (bP toks k).word=true):
  (kS (bS toks k e false).flt=true→bAh toks e r (bS toks k e false).next out (some (bS toks k e false).it::st) o)∧(kS (bS toks k e false).flt=false→r=([],(bS toks k e false).flt)):=by
 obtain⟨hk,f,hf,h⟩:=h;have hlt:=iR h4
 obtain⟨f,rfl⟩: ∃g,f=g+1:=⟨f-1,by omega⟩
 rw [lU,if_pos ⟨h2,h4,hv⟩] at h;have:=dQ toks k e false;refine⟨fun hi=>?_,fun hi=>?_⟩
 ·rw [if_pos hi] at h;exact⟨wV hlt,f,by omega,h⟩
 ·rw [if_neg (by rw [hi];simp)] at h;exact h.symm
theorem e_open(h:bAh toks e r k out st o)(h3:(bP toks k).kind=3)(hw:(bP toks k).word=[40]):
  (o≠32→bAh toks e r (k+1) out (none::st) (o+1))∧(o=32→r=([],(atP toks k e,44))):=by
 obtain⟨hk,f,hf,h⟩:=h;have hlt:=iR (toks:=toks) (k:=k) (by rw [h3];decide)
 obtain⟨f,rfl⟩: ∃g,f=g+1:=⟨f-1,by omega⟩
 rw [lU,if_neg (by rw [hw,bracket_verb];simp),if_pos ⟨h3,hw⟩] at h;refine⟨fun hi=>?_,fun hi=>?_⟩
 ·rw [if_neg hi] at h;exact⟨hlt,f,by omega,h⟩
 ·rw [if_pos hi] at h;exact h.symm
theorem e_num(h:bAh toks e r k out st o)(h2:(bP toks k).kind=2):vG toks e r (k+(gH toks k).length) (out++[xK toks k]) st o:=by
 obtain⟨hk,f,hf,h⟩:=h;have hlt:=iR (toks:=toks) (k:=k) (by rw [h2];decide)
 obtain⟨f,rfl⟩: ∃g,f=g+1:=⟨f-1,by omega⟩
 rw [lU,if_neg (by rw [h2];simp),if_neg (by rw [h2];simp),if_pos h2] at h;have h1:=nums_le toks k;have h3:=tI h2;have h4:1≤(gH toks k).length:=by rw [h3];simp
 exact⟨by omega,f,by omega,h⟩
theorem e_name(h:bAh toks e r k out st o)(h1:(bP toks k).kind=1)(hn:dX (bP toks k).word=true):vG toks e r (k+1) (out++[qT toks k]) st o:=by
 obtain⟨hk,f,hf,h⟩:=h;have hlt:=iR (toks:=toks) (k:=k) (by rw [h1];decide)
 obtain⟨f,rfl⟩: ∃g,f=g+1:=⟨f-1,by omega⟩
 rw [lU,if_neg (by rw [name_verb hn];simp),if_neg (by rw [h1];simp),if_neg (by rw [h1];simp),if_pos ⟨h1,hn⟩] at h;exact⟨by omega,f,by omega,h⟩
theorem e_word(h:bAh toks e r k out st o)(h1:(bP toks k).kind=1)(hv:nY (bP toks k).word=false)(hn:dX (bP toks k).word=false):r=([],(atP toks k e,41)):=by
 obtain⟨hk,f,hf,h⟩:=h;have hlt:=iR (toks:=toks) (k:=k) (by rw [h1];decide)
 obtain⟨f,rfl⟩: ∃g,f=g+1:=⟨f-1,by omega⟩
 rw [lU,if_neg (by rw [hv];simp),if_neg (by rw [h1];simp),if_neg (by rw [h1];simp),if_neg (by rw [hn];simp),if_pos h1] at h;exact h.symm
theorem e_want(h:bAh toks e r k out st o)(h1:(bP toks k).kind≠1)(h2:(bP toks k).kind≠2)(hv:(bP toks k).kind=4∨nY (bP toks k).word=false)(hw:(bP toks k).kind≠3∨(bP toks k).word≠[40]):r=([],(atP toks k e,42)):=by
 obtain⟨hk,f,hf,h⟩:=h
 obtain⟨f,rfl⟩: ∃g,f=g+1:=⟨f-1,by omega⟩
 rw [lU,if_neg (by rcases hv with hv | hv<;>simp [hv]),if_neg (by rcases hw with hw | hw<;>simp [hw]),if_neg h2,if_neg (by simp [h1]),if_neg h1] at h;exact h.symm
theorem b_close(h:vG toks e r k out st o)(ho:0<o)(h3:(bP toks k).kind=3)(hw:(bP toks k).word=[41]):vG toks e r (k+1) (out++(mS st).1) (mS st).2.tail (o-1):=by
 obtain⟨hk,f,hf,h⟩:=h;have hlt:=iR (toks:=toks) (k:=k) (by rw [h3];decide)
 obtain⟨o,rfl⟩: ∃g,o=g+1:=⟨o-1,by omega⟩
 rw [rZ,if_pos ⟨h3,hw⟩] at h;exact⟨hlt,f,by omega,h⟩
theorem b_rest(h:vG toks e r k out st o)(hn:o=0∨(bP toks k).kind≠3∨(bP toks k).word≠[41]):k≤toks.length∧ ∃f,toks.length+1≤f+k∧bBj toks e (lU toks e f) o k out st=r:=by
 obtain⟨hk,f,hf,h⟩:=h;refine⟨hk,f,hf,?_⟩
 cases o with
 | zero=>exact h
 | succ o=>
  rw [rZ,if_neg (by
   rintro⟨a,b⟩
   rcases hn with hn | hn | hn
   ·omega
   ·exact hn a
   ·exact hn b)] at h
  exact h
theorem r_open(h:vG toks e r k out st o)(h4:(bP toks k).kind=4)(ho:0<o):r=([],(atP toks k e,42)):=by
 obtain⟨_,f,_,h⟩:=b_rest h (.inr (.inl (by rw [h4];decide)));rw [bBj,if_pos h4,if_pos ho] at h;exact h.symm
theorem r_end(h:vG toks e r k out st o)(h4:(bP toks k).kind=4)(ho: ¬0<o):r=(out++(mS st).1,(0,0)):=by
 obtain⟨_,f,_,h⟩:=b_rest h (.inr (.inl (by rw [h4];decide)));rw [bBj,if_pos h4,if_neg ho] at h;exact h.symm
theorem sO(h:vG toks e r k out st o)(hn:o=0∨(bP toks k).kind≠3∨(bP toks k).word≠[41])(h4:(bP toks k).kind≠4)(hm:(bP toks k).kind=2∨nY (bP toks k).word=false):r=([],(atP toks k e,46)):=by
 obtain⟨_,f,_,h⟩:=b_rest h hn;rw [bBj,if_neg h4,if_pos hm] at h;exact h.symm
theorem oY(h:vG toks e r k out st o)(hn:o=0∨(bP toks k).kind≠3∨(bP toks k).word≠[41])(h4:(bP toks k).kind≠4)(h2:(bP toks k).kind≠2)(hv:nY (bP toks k).word=true):
  (kS (bS toks k e true).flt=true→bAh toks e r (bS toks k e true).next out (some (bS toks k e true).it::st) o)∧(kS (bS toks k e true).flt=false→r=([],(bS toks k e true).flt)):=by
 obtain⟨_,f,hf,h⟩:=b_rest h hn;have hlt:=iR h4;rw [bBj,if_neg h4,if_neg (by rw [hv];simp [h2])] at h;have:=dQ toks k e true;refine⟨fun hi=>?_,fun hi=>?_⟩
 ·rw [if_pos hi] at h;exact⟨wV hlt,f,by omega,h⟩
 ·rw [if_neg (by rw [hi];simp)] at h;exact h.symm
end
end Go.Proofs.YtbgdphbebhjpiaaGreatDoor
