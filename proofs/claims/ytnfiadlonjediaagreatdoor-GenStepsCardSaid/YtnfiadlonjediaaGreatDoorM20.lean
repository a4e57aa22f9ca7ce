/- Texts of one proof, one behind the other: GeA, GeB, GmM, KBase, KPut, KWhole, KTog, KPlus, KAdd, MakR, MkA, MkB. -/
import Derived.Test.YtnfiadlonjediaaGreatDoorM7
import Derived.Test.YtnfiadlonjediaaGreatDoorM18
import Derived.Test.YtnfiadlonjediaaGreatDoorM19
import Derived.Test.YtnfiadlonjediaaGreatDoorM8
import Derived.Test.YtnfiadlonjediaaGreatDoorM13
import Derived.Test.YtnfiadlonjediaaGreatDoorM1
import Derived.Test.YtnfiadlonjediaaGreatDoorM6
import Derived.Test.YtnfiadlonjediaaGreatDoorM14
import Derived.Test.YtnfiadlonjediaaGreatDoorM16
import Derived.Test.YtnfiadlonjediaaGreatDoorM12
import Derived.Test.YtnfiadlonjediaaGreatDoorM15
set_option maxRecDepth 100000
namespace Go.Proofs.YtnfiadlonjediaaGreatDoor
open Go.RowKit Go.Proofs.Tryz
open _root_.List renaming getD_eq_getElem?_getD->U5,length_set->P6,getElem?_eq_some_iff->D9,getElem_cons_drop->Y2,drop_of_length_le->R5
open _root_.Int renaming toNat_of_nonneg->aM,mul_nonneg->Y9
section
variable {x : cA} {s : EmS} {code : List cA}
theorem right_regs(h:0<=x.a/\0<=x.b/\0<=x.c)(hr:gW x=true):(0<=x.a/\x.a<16)/\(0<=x.b/\x.b<16)/\(0<=x.c/\x.c<16)/\(x.op≠0/\x.op≠1/\x.op≠2/\x.op≠3/\x.op≠4/\x.op≠10/\x.op≠5/\x.op≠6/\x.op≠7/\x.op≠8/\x.op≠9->64<=x.op):=by
 unfold gW at hr;split at hr
 .cases hr
 .rename_i d;have h1: ¬(16<=x.a\/16<=x.b\/16<=x.c):=λe=>d (.inr e);refine⟨k9,k9,k9,λe=>?_⟩;refine Int.not_lt.1 λhlt=>d (.inl ?_);unfold hasN;rw[if_neg e.1,if_neg e.2.1,if_neg k9,if_neg e.2.2.1,if_neg e.2.2.2.1,if_neg k9,if_neg e.2.2.2.2.1,if_neg k9,if_neg k9,if_neg k9,if_neg k9,if_neg (λk=>by omega),if_neg (λk=>by omega)]
theorem em_out(h:s.at_<0\/((code.length:Nat):Int)<=s.at_):dH code s=emDone 5 s:=if_pos h
theorem em_at(hn: ¬s.at_<0)(hg: ¬((code.length:Nat):Int)<=s.at_)(hx:code[s.at_.toNat]?=some x):dH code s=emIns x s:=by
 unfold dH;rw[if_neg k9,U5,hx];rfl
theorem ei_0(h:x.op=0):emIns x s=emDone 1 s:=if_pos h
theorem ei_1(h:x.op=1):emIns x s=emDone 2 {s with told:=x.imm}:=by unfold emIns;rw[if_neg k9,if_pos h]
theorem ei_2(h:x.op=2):emIns x s=emGo (lT s x.a x.imm):=by unfold emIns;rw[if_neg k9,if_neg k9,if_pos h]
theorem ei_3(h:x.op=3):emIns x s=emGo (lT s x.a (bGj (emReg s x.a) x.imm)):=by unfold emIns;rw[if_neg k9,if_neg k9,if_neg k9,if_pos h]
theorem ei_4(h:x.op=4):emIns x s=emGo (lT s x.a (emReg s x.b)):=by unfold emIns;rw[if_neg k9,if_neg k9,if_neg k9,if_neg k9,if_pos h]
theorem ei_10(h:x.op=10):emIns x s=emGo (lT s x.a (w64 (emReg s x.b+x.imm))):=by unfold emIns;rw[if_neg k9,if_neg k9,if_neg k9,if_neg k9,if_neg k9,if_pos h]
theorem ei_5(h:x.op=5):emIns x s=if uX x s then emGo (lT s x.a (s.mem.getD (emCell x s).toNat 0))else emDone 3 s:=by unfold emIns;rw[if_neg k9,if_neg k9,if_neg k9,if_neg k9,if_neg k9,if_neg k9,if_pos h]
theorem ei_6(h:x.op=6):emIns x s=if uX x s then emGo {s with mem:=s.mem.set (emCell x s).toNat (emReg s x.a)}else emDone 3 s:=by unfold emIns;rw[if_neg k9,if_neg k9,if_neg k9,if_neg k9,if_neg k9,if_neg k9,if_neg k9,if_pos h]
theorem ei_5n(h:x.op=5)(hi: ¬uX x s):emIns x s=emDone 3 s:=(ei_5 h).trans (if_neg hi)
theorem ei_6n(h:x.op=6)(hi: ¬uX x s):emIns x s=emDone 3 s:=(ei_6 h).trans (if_neg hi)
theorem ei_5y{y:Int}(h:x.op=5)(hi:uX x s)(hy:s.mem[(emCell x s).toNat]?=some y):emIns x s=emGo (lT s x.a y):=by
 rw[ei_5 h,if_pos hi,U5,hy];rfl
theorem ei_6y(h:x.op=6)(hi:uX x s):emIns x s=emGo {s with mem:=s.mem.set (emCell x s).toNat (emReg s x.a)}:=(ei_6 h).trans (if_pos hi)
theorem ei_8(h:x.op=8):emIns x s=oA (decide (emReg s x.a<emReg s x.b)) x s:=by unfold emIns;rw[if_neg k9,if_neg k9,if_neg k9,if_neg k9,if_neg k9,if_neg k9,if_neg k9,if_neg k9,if_neg k9,if_pos h]
theorem ei_9(h:x.op=9):emIns x s=oA (emReg s x.a==0) x s:=by unfold emIns;rw[if_neg k9,if_neg k9,if_neg k9,if_neg k9,if_neg k9,if_neg k9,if_neg k9,if_neg k9,if_neg k9,if_neg k9,if_pos h]
theorem ei_7(h:x.op=7):emIns x s=({s with at_:=x.imm},true):=by unfold emIns;rw[if_neg k9,if_neg k9,if_neg k9,if_neg k9,if_neg k9,if_neg k9,if_neg k9,if_neg k9,if_pos h];rfl
theorem ei_8t(h:x.op=8)(hc:emReg s x.a<emReg s x.b):emIns x s=({s with at_:=x.imm},true):=by rw[ei_8 h,decide_eq_true hc];rfl
theorem ei_8f(h:x.op=8)(hc:emReg s x.b<=emReg s x.a):emIns x s=emGo s:=by rw[ei_8 h,decide_eq_false (Int.not_lt.2 hc)];rfl
theorem ei_9t(h:x.op=9)(hc:emReg s x.a=0):emIns x s=({s with at_:=x.imm},true):=by rw[ei_9 h,hc];rfl
theorem ei_9f(h:x.op=9)(hc:emReg s x.a≠0):emIns x s=emGo s:=by rw[ei_9 h,show(emReg s x.a==0)=false by simpa using hc];rfl
theorem ei_c(h:x.op≠0/\x.op≠1/\x.op≠2/\x.op≠3/\x.op≠4/\x.op≠10/\x.op≠5/\x.op≠6/\x.op≠7/\x.op≠8/\x.op≠9):emIns x s=lN x s:=by
 unfold emIns;rw[if_neg k9,if_neg k9,if_neg k9,if_neg k9,if_neg k9,if_neg k9,if_neg k9,if_neg k9,if_neg k9,if_neg k9,if_neg k9]
theorem call_mem(x:cA)(s:EmS):(lN x s).1.mem=s.mem:=by
 unfold lN;split<;>rfl
end
theorem high_em(a n:Int):orW (w64 (a*4294967296)) (IntKind.i64.wrap (IntKind.u32.wrap n))=bGj a n:=by
 unfold bGj
 congr 1
 simp only[IntKind.wrap,IntKind.bits,IntKind.signed];simp;omega
section
variable {P : Program} {β : dE} {n : Nat} {Γ : Env} {H : List bC} {F : List bE} {o : Oper}
theorem sti_shl32{t tt:TypeId}{x y:Operand}{k':IntKind}{a:Int}(ho:o.op= .binOp .shl t x y tt)(hx:Γ.ev x=some (j5 a))(hy:Γ.ev y=some (.int k' 32)):Sti P β n Γ H F o (j5 (w64 (a*4294967296))):=λc w S f s _=>by
 unfold execOp;simp only[ho,f.ev hx,f.ev hy];have e:(2:Int)^min 32 IntKind.i64.bits=4294967296:=l5
 simp[eqGuard,binOp,Op.shift,w64,e]
end
theorem mW(mb:Nat)(s:EmS)(m:Option Addr×Nat×Nat)(k:Option Addr×Nat×Nat)(how:Int):bZ prog 51 [.pointer (some ⟨mb,0,none⟩),j5 how] [emO mb s m k] [] (λ(_:Unit)=> .bool false) (λ(_:Unit)=>[emO mb (emDone how s).1 m k]) (λ_=>[]):=by
 have hT:=tP;refine i7 func51 ntmps51 ?_;intro β hM;refine g21 ?_;exact rs1 () trivial
theorem bSr(mb:Nat)(s:EmS)(m:Option Addr×Nat×Nat)(k:Option Addr×Nat×Nat)(x:cA)(hml:s.mem.length=m.2.1)(hb:0<=x.b/\x.b<16)(hi: -2147483648<=x.imm/\x.imm<2147483648):bZ prog 104 [.pointer (some ⟨mb,0,none⟩),.agg #[j6 x.op,j6 x.a,j6 x.b,j6 x.c,.int .i32 x.imm]] [emO mb s m k] [] (λ(_:Unit)=> .tuple #[j5 (emCell x s),.bool (decide (uX x s))]) (λ(_:Unit)=>[emO mb s m k]) (λ_=>[]):=by
 have hT:=tP;refine i7 func104 ntmps104 ?_;intro β hM;refine g2 ?_;refine i6 λe=>?_;refine g5 ?_;refine dC _ _ [(true,0),(true,1),(true,2),(true,3),(true,4),(true,5),(true,6),(true,7),(true,8),(true,9),(true,10),(true,11),(true,12)] dJ l8 (.c0 (.c0 .nil)) bA.self ?_;refine g6 ?_;refine stM rfl (dZ hT (k:=x.b.toNat) rfl rfl rfl rfl rfl (aM hb.1).symm k9) ?_;refine stM rfl (bK hT (bO (off:=0+x.b.toNat*1) kT1) rfl rfl rfl rfl (sM k9)) ?_;refine bF (z':=emReg s x.b) rfl ?_;refine g3 ?_;refine bF (z':=x.imm) (jJ rfl k9 k9) ?_;refine one ?_;refine bF (z':=emCell x s) rfl ?_;refine g4 ?_;refine dC _ _ [(true,0),(true,1),(true,2),(true,3),(true,4),(true,5),(true,6),(true,7),(true,8),(true,9),(true,10),(true,11),(true,12),(true,13),(true,14)] dJ l8 (.c0 (.c0 .nil)) bA.self ?_;refine g4 ?_;refine k_le (λd=>?_) λd=>?_
 .refine g14 ?_;exact rs2 () e8 (he:=by first|(rw[show decide (uX x s)=false from decide_eq_false ab6];done)|(rw[show decide (uX x s)=decide (emCell x s<(s.mem.length:Nat))from decide_eq_decide.2 ab6,hml];done))
 refine g14 ?_;exact rs2 () e8 (he:=by first|(rw[show decide (uX x s)=false from decide_eq_false ab6];done)|(rw[show decide (uX x s)=decide (emCell x s<(s.mem.length:Nat))from decide_eq_decide.2 ab6,hml];done))
set_option maxHeartbeats 1000000 in
theorem calls_spec(mb:Nat)(s:EmS)(m:Option Addr×Nat×Nat)(k:Option Addr×Nat×Nat)(x:cA)(ha:0<=x.a/\x.a<16)(hb:0<=x.b/\x.b<16)(hc:0<=x.c/\x.c<16)(hr:s.regs.length=16)(hat:0<=s.at_/\s.at_<=100000)(hop:0<=x.op/\x.op<256)(h64:64<=x.op):bZ prog 105 [.pointer (some ⟨mb,0,none⟩),.agg #[j6 x.op,j6 x.a,j6 x.b,j6 x.c,.int .i32 x.imm]] [emO mb s m k] [] (λ(_:Unit)=> .bool (lN x s).2) (λ(_:Unit)=>[emO mb (lN x s).1 m k]) (λ_=>[]):=by
 have hT:=tP;refine i7 func105 ntmps105 ?_;intro β hM;refine g2 ?_;refine i6 λi=>?_;refine g21 ?_;refine bRd (λh=>?_) λh=>?_
 .refine dC _ _ [(true,0),(true,1),(true,2),(true,3),(true,4),(true,5),(true,6),(true,7),(true,8),(true,9),(true,10),(true,11),(true,12),(true,13),(true,14),(true,15),(true,16),(true,17),(true,18),(false,19),(true,20),(true,21),(true,22),(true,23),(true,24)] dJ l8 (.c0 (.c0 .nil)) bA.self ?_;refine g3 ?_;refine bF (z':=x.op-128) (by rw[pF];unfold u8m;omega) ?_;refine g6 ?_;refine stM rfl (dZ hT (k:=x.b.toNat) rfl rfl rfl rfl rfl (aM hb.1).symm k9) ?_;refine stM rfl (bK hT (bO (off:=0+x.b.toNat*1) kT1) rfl rfl rfl rfl (sM k9)) ?_;refine bF (z':=emReg s x.b) rfl ?_;refine g6 ?_;refine stM rfl (dZ hT (k:=x.c.toNat) rfl rfl rfl rfl rfl (aM hc.1).symm k9) ?_;refine stM rfl (bK hT (bO (off:=0+x.c.toNat*1) kT1) rfl rfl rfl rfl (sM k9)) ?_;refine bF (z':=emReg s x.c) rfl ?_;refine one ?_;refine f7 func173 (bVq ((x.op-128)) ((emReg s x.b)) ((emReg s x.c))) .nil e8 λ_=>?_;refine g15 ?_;refine bEw (λd=>?_) λd=>?_
  .refine g3 ?_;refine f7 func51 (mW mb s m k 4) (.c1 .nil) e8 λ_=>?_;refine g5 ?_;have f:emFn x s=vJ ((x.op-128)) ((emReg s x.b)) ((emReg s x.c)):=if_pos k9;have g:lN x s=emDone 4 s:=by unfold lN;rw[f,if_pos d]
   rw[g];exact rs1 () trivial
  refine g3 ?_;refine dC _ _ [(true,0),(true,1),(true,2),(true,3),(true,4),(true,5),(true,6),(true,7),(false,8)] dJ l8 (.c0 .nil) bA.self ?_;refine g7 ?_;refine stM rfl (dZ hT (k:=x.a.toNat) rfl rfl rfl rfl rfl (aM ha.1).symm k9) ?_;refine one ?_;refine rC hT rfl rfl rfl rfl rfl kT1 rfl rfl rfl rfl (bCi (z:=(vJ ((x.op-128)) ((emReg s x.b)) ((emReg s x.c))).1) hr k9 rfl) ?_;refine g11 ?_;refine bF (z':=s.at_+1) (jJ rfl k9 k9) ?_;refine g12 ?_;have f:emFn x s=vJ ((x.op-128)) ((emReg s x.b)) ((emReg s x.c)):=if_pos k9;have g:lN x s=emGo (lT s x.a (vJ ((x.op-128)) ((emReg s x.b)) ((emReg s x.c))).1):=by unfold lN;rw[f,if_neg (λe=>e d)]
  rw[g];exact rs1 () trivial
 refine dC _ _ [(true,0),(true,1),(true,2),(true,3),(true,4),(true,5),(true,6),(true,7),(true,8),(true,9),(true,10),(false,11),(true,12),(true,13),(true,14),(true,15),(true,16)] dJ l8 (.c0 (.c0 .nil)) bA.self ?_;refine g3 ?_;refine bF (z':=u8m (x.op-64)) (pF _) ?_;refine g6 ?_;refine stM rfl (dZ hT (k:=x.b.toNat) rfl rfl rfl rfl rfl (aM hb.1).symm k9) ?_;refine stM rfl (bK hT (bO (off:=0+x.b.toNat*1) kT1) rfl rfl rfl rfl (sM k9)) ?_;refine bF (z':=emReg s x.b) rfl ?_;refine one ?_;refine f7 func174 (Monad_spec ((u8m (x.op-64))) ((emReg s x.b))) .nil e8 λ_=>?_;refine g15 ?_;refine bEw (λd=>?_) λd=>?_
 .refine g3 ?_;refine f7 func51 (mW mb s m k 4) (.c1 .nil) e8 λ_=>?_;refine g5 ?_;have f:emFn x s=gC ((u8m (x.op-64))) ((emReg s x.b)):=if_neg k9;have g:lN x s=emDone 4 s:=by unfold lN;rw[f,if_pos d]
  rw[g];exact rs1 () trivial
 refine g3 ?_;refine dC _ _ [(true,0),(true,1),(true,2),(true,3),(true,4),(true,5),(true,6),(true,7),(false,8)] dJ l8 (.c0 .nil) bA.self ?_;refine g7 ?_;refine stM rfl (dZ hT (k:=x.a.toNat) rfl rfl rfl rfl rfl (aM ha.1).symm k9) ?_;refine one ?_;refine rC hT rfl rfl rfl rfl rfl kT1 rfl rfl rfl rfl (bCi (z:=(gC ((u8m (x.op-64))) ((emReg s x.b))).1) hr k9 rfl) ?_;refine g11 ?_;refine bF (z':=s.at_+1) (jJ rfl k9 k9) ?_;refine g12 ?_;have f:emFn x s=gC ((u8m (x.op-64))) ((emReg s x.b)):=if_neg k9;have g:lN x s=emGo (lT s x.a (gC ((u8m (x.op-64))) ((emReg s x.b))).1):=by unfold lN;rw[f,if_neg (λe=>e d)]
 rw[g];exact rs1 () trivial
set_option maxHeartbeats 2000000 in
theorem stepEm_spec(mb:Nat)(s:EmS)(m:Option Addr×Nat×Nat)(code:List cA)(CA:Option Addr)(cc:Nat)(hr:s.regs.length=16)(hml:s.mem.length=m.2.1)(hcl:code.length<=32768)(hN: ∀x∈code,NnI x)(hRt: ∀x∈code,gW x=true):bZ prog 50 [.pointer (some ⟨mb,0,none⟩)] [emO mb s m (CA,code.length,cc),emM s m] [lO.sl (.slice CA code.length cc) code] (λ(_:Unit)=> .bool (dH code s).2) (λ(_:Unit)=>[emO mb (dH code s).1 m (CA,code.length,cc),emM (dH code s).1 m]) (λ_=>[]):=by
 have hT:=tP;refine i7 func50 ntmps50 ?_;intro β hM;refine g7 ?_;refine dC _ _ [(true,0),(true,1),(true,2),(true,3),(true,4),(true,5),(true,6),(true,7),(true,8),(true,9),(true,10),(true,11),(true,12),(true,13),(true,14),(true,15),(true,16),(true,17),(true,18)] dJ l8 (.c0 (.c0 .nil)) bA.self ?_;refine g7 ?_;refine vP (λB=>?_) λB=>?_
 .refine g18 ?_;refine f7 func51 (mW mb s m (CA,code.length,cc) 5) (.c0 .nil) e8 λ_=>?_;refine g5 ?_;have c:dH code s=_:=em_out k9;rw[c];exact rs1 () trivial
 refine g10 ?_;refine bF (z':=((code.length:Nat):Int)) rfl ?_;refine g4 ?_;refine bRd (λC=>?_) λC=>?_
 .refine g3 ?_;refine f7 func51 (mW mb s m (CA,code.length,cc) 5) (.c0 .nil) e8 λ_=>?_;refine g5 ?_;have c:dH code s=_:=em_out k9;rw[c];exact rs1 () trivial
 refine g3 ?_;have hn: ¬s.at_<0:=k9
 have G: ¬((code.length:Nat):Int)<=s.at_:=k9
 obtain⟨x,hx⟩:=gx code s.at_.toNat;have w:=List.mem_of_getElem? hx;obtain⟨E,L,K,J,N⟩:=hN x w;obtain⟨O,hb,P,M⟩:=right_regs ⟨L,K,J⟩ (hRt x w);have d:=em_at (s:=s) hn G hx;refine dC _ _ [(true,0),(true,1),(true,2),(true,3),(true,4),(true,5),(true,6),(true,7),(true,8),(true,9),(true,10),(false,11),(false,12)] dJ l8 (.c0 (.c0 .nil)) bA.self ?_;refine g9 ?_;refine stM rfl (bJ hT (k:=s.at_.toNat) (bV d7) rfl rfl rfl rfl rfl rfl (aM k9).symm k9) ?_;refine stM rfl (kV hx 0) ?_;refine one ?_;refine f9 bCo λQ=>?_;refine g7 ?_;refine dC _ _ [(true,0),(true,1),(true,2),(true,3),(true,4),(true,5),(true,6),(true,7)] dJ l8 (.c0 (.c0 (.c0 .nil))) bA.self ?_;refine g6 ?_;refine stM rfl (dZ hT (k:=x.a.toNat) rfl rfl rfl rfl rfl (aM O.1).symm k9) ?_;refine g22 ?_;refine fG (λv=>?_) λv=>?_
 .refine g3 ?_;refine f7 func51 (mW mb s m (CA,code.length,cc) 1) (.c1 .nil) e8 λ_=>?_;refine g6 ?_;have c:dH code s=_:=d.trans (ei_0 v);rw[c];exact rs1 () trivial
 refine g6 ?_;refine fG (λu=>?_) λu=>?_
 .refine g14 ?_;refine f7 func51 (mW mb ({s with told:=x.imm}:EmS) m (CA,code.length,cc) 2) (.c0 .nil) e8 λ_=>?_;refine g6 ?_;have c:dH code s=_:=d.trans (ei_1 u);rw[c];exact rs1 () trivial
 refine g6 ?_;refine fG (λt=>?_) λt=>?_
 .refine g5 ?_;refine bF (z':=x.imm) (jJ rfl k9 k9) ?_;refine one ?_;refine rC hT rfl rfl rfl rfl rfl kT1 rfl rfl rfl rfl (bCi (z:=x.imm) hr k9 rfl) ?_;refine g17 ?_;refine bF (z':=s.at_+1) (jJ rfl k9 k9) ?_;refine g12 ?_;have c:dH code s=_:=d.trans (ei_2 t);rw[c];exact rs1 () trivial
 refine g6 ?_;refine fG (λr=>?_) λr=>?_
 .refine dC _ _ [(true,0),(true,1),(true,2),(true,5),(true,6),(true,7),(true,8),(false,3),(true,4),(true,9),(true,10),(false,11)] dJ l8 (.c0 (.c1 .nil)) bA.self ?_;refine g8 ?_;refine ss (bK hT (bO (off:=0+x.a.toNat*1) kT1) rfl rfl rfl rfl (sM k9)) ?_;refine bF (z':=emReg s x.a) rfl ?_;refine one ?_;refine stM rfl (sti_shl32 rfl rfl rfl) ?_;refine one ?_;refine bF (z':=bGj (emReg s x.a) x.imm) (high_em _ _) ?_;refine g2 ?_;refine rC hT rfl rfl rfl rfl rfl kT1 rfl rfl rfl rfl (bCi (z:=(bGj (emReg s x.a) x.imm)) hr k9 rfl) ?_;refine g18 ?_;refine bF (z':=s.at_+1) (jJ rfl k9 k9) ?_;refine g12 ?_;have c:dH code s=_:=d.trans (ei_3 r);rw[c];exact rs1 () trivial
 refine g6 ?_;refine fG (λq=>?_) λq=>?_
 .refine dC _ _ [(true,0),(true,1),(true,2),(true,3),(true,4),(true,5),(true,6),(true,7),(false,8),(true,9),(false,10)] dJ l8 (.c0 (.c1 .nil)) bA.self ?_;refine g7 ?_;refine stM rfl (dZ hT (k:=x.b.toNat) rfl rfl rfl rfl rfl (aM hb.1).symm k9) ?_;refine one ?_;refine ss (bK hT (bO (off:=0+x.b.toNat*1) kT1) rfl rfl rfl rfl (sM k9)) ?_;refine bF (z':=emReg s x.b) rfl ?_;refine g3 ?_;refine rC hT rfl rfl rfl rfl rfl kT1 rfl rfl rfl rfl (bCi (z:=(emReg s x.b)) hr k9 rfl) ?_;refine g18 ?_;refine bF (z':=s.at_+1) (jJ rfl k9 k9) ?_;refine g12 ?_;have c:dH code s=_:=d.trans (ei_4 q);rw[c];exact rs1 () trivial
 refine g6 ?_;refine fG (λp=>?_) λp=>?_
 .refine dC _ _ [(true,0),(true,1),(true,2),(true,3),(true,4),(true,5),(true,6),(true,7),(true,9),(true,10),(true,11),(false,8),(true,12),(true,13),(false,14)] dJ l8 (.c0 (.c1 .nil)) bA.self ?_;refine g7 ?_;refine stM rfl (dZ hT (k:=x.b.toNat) rfl rfl rfl rfl rfl (aM hb.1).symm k9) ?_;refine g3 ?_;refine bF (z':=x.imm) (jJ rfl k9 k9) ?_;refine one ?_;refine ss (bK hT (bO (off:=0+x.b.toNat*1) kT1) rfl rfl rfl rfl (sM k9)) ?_;refine bF (z':=emReg s x.b) rfl ?_;refine g2 ?_;refine bF (z':=w64 (emReg s x.b+x.imm)) rfl ?_;refine g2 ?_;refine rC hT rfl rfl rfl rfl rfl kT1 rfl rfl rfl rfl (bCi (z:=(w64 (emReg s x.b+x.imm))) hr k9 rfl) ?_;refine g18 ?_;refine bF (z':=s.at_+1) (jJ rfl k9 k9) ?_;refine g12 ?_;have c:dH code s=_:=d.trans (ei_10 p);rw[c];exact rs1 () trivial
 refine g6 ?_;refine fG (λn=>?_) λn=>?_
 .refine g4 ?_;refine f7 func104 (bSr mb s m (CA,code.length,cc) x hml hb N) (.c1 .nil) e8 λ_=>?_;refine g14 ?_;refine bBd (λl=>?_) λl=>?_
  .refine g3 ?_;refine f7 func51 (mW mb s m (CA,code.length,cc) 3) (.c0 .nil) e8 λ_=>?_;refine g7 ?_;have c:dH code s=_:=d.trans (ei_5n n (by simpa using l));rw[c];exact rs1 () trivial
  refine g2 ?_;have f:uX x s:=of_decide_eq_true (by simpa using l)
  have A:0<=emCell x s/\emCell x s<(m.2.1:Nat):=⟨f.1,by rw[<-hml];exact f.2⟩
  obtain⟨y,D⟩:=gx s.mem ((emCell x s).toNat);refine g8 ?_;refine ss (bJ hT (k:=(emCell x s).toNat) (cH kT2) rfl rfl rfl rfl rfl hml.symm (aM f.1).symm k9) ?_;refine ss (f8 hT (dO.knows (cH kT2) (k:=(emCell x s).toNat) (x:=y) D 0)) ?_;refine one ?_;refine rC hT rfl rfl rfl rfl rfl .head rfl rfl rfl rfl (bCi (z:=y) hr k9 rfl) ?_;refine g17 ?_;refine bF (z':=s.at_+1) (jJ rfl k9 k9) ?_;refine g12 ?_;have c:dH code s=_:=d.trans (ei_5y n f D);rw[c];exact rs1 () trivial
 refine g6 ?_;refine fG (λj=>?_) λj=>?_
 .refine g4 ?_;refine f7 func104 (bSr mb s m (CA,code.length,cc) x hml hb N) (.c1 .nil) e8 λ_=>?_;refine g14 ?_;refine bBd (λi=>?_) λi=>?_
  .refine g3 ?_;refine f7 func51 (mW mb s m (CA,code.length,cc) 3) (.c0 .nil) e8 λ_=>?_;refine g7 ?_;have c:dH code s=_:=d.trans (ei_6n j (by simpa using i));rw[c];exact rs1 () trivial
  refine g2 ?_;have f:uX x s:=of_decide_eq_true (by simpa using i)
  have A:0<=emCell x s/\emCell x s<(m.2.1:Nat):=⟨f.1,by rw[<-hml];exact f.2⟩
  obtain⟨y,D⟩:=gx s.mem ((emCell x s).toNat);refine dC _ _ [(true,0),(true,1),(true,2),(true,3),(true,4),(true,5),(true,6),(true,7),(true,8),(false,9),(false,10)] dJ l8 (.c0 (.c0 .nil)) bA.self ?_;refine g8 ?_;refine stM rfl (bK hT (bO (off:=0+x.a.toNat*1) .head) rfl rfl rfl rfl (sM k9)) ?_;refine bF (z':=emReg s x.a) rfl ?_;refine one ?_;refine ss (bJ hT (k:=(emCell x s).toNat) (cH kT2) rfl rfl rfl rfl rfl hml.symm (aM f.1).symm k9) ?_;refine g2 ?_;refine cQ hT (k:=(emCell x s).toNat) (fo:=0) (y':=(emReg s x.a)) kT2 rfl rfl rfl rfl rfl rfl rfl rfl rfl D rfl ?_;refine g18 ?_;refine bF (z':=s.at_+1) (jJ rfl k9 k9) ?_;refine g12 ?_;have c:dH code s=_:=d.trans (ei_6y j f);rw[c];exact rs1 () trivial
 refine g6 ?_;refine fG (λo=>?_) λo=>?_
 .refine g17 ?_;refine bF (z':=x.imm) (jJ rfl k9 k9) ?_;refine g12 ?_;have c:dH code s=_:=d.trans (ei_7 o);rw[c];exact rs1 () trivial
 refine g6 ?_;refine fG (λh=>?_) λh=>?_
 .refine dC _ _ [(true,0),(true,1),(true,2),(true,3),(true,4),(true,5),(true,6),(true,7),(true,8),(true,9),(true,10),(true,11),(true,12)] dJ l8 (.c0 (.c0 (.c0 .nil))) bA.self ?_;refine g2 ?_;refine stM rfl (bK hT (bO (off:=0+x.a.toNat*1) kT1) rfl rfl rfl rfl (sM k9)) ?_;refine bF (z':=emReg s x.a) rfl ?_;refine g6 ?_;refine stM rfl (dZ hT (k:=x.b.toNat) rfl rfl rfl rfl rfl (aM hb.1).symm k9) ?_;refine stM rfl (bK hT (bO (off:=0+x.b.toNat*1) kT1) rfl rfl rfl rfl (sM k9)) ?_;refine bF (z':=emReg s x.b) rfl ?_;refine g11 ?_;refine fD (λe=>?_) λe=>?_
  .refine g5 ?_;refine bF (z':=x.imm) (jJ rfl k9 k9) ?_;refine g12 ?_;have c:dH code s=_:=d.trans (ei_8t h e);rw[c];exact rs1 () trivial
  refine g7 ?_;refine bF (z':=s.at_+1) (jJ rfl k9 k9) ?_;refine g12 ?_;have c:dH code s=_:=d.trans (ei_8f h e);rw[c];exact rs1 () trivial
 refine g6 ?_;refine fG (λg=>?_) λg=>?_
 .refine g3 ?_;refine ss (bK hT (bO (off:=0+x.a.toNat*1) kT1) rfl rfl rfl rfl (sM k9)) ?_;refine bF (z':=emReg s x.a) rfl ?_;refine g11 ?_;refine fG (λe=>?_) λe=>?_
  .refine g5 ?_;refine bF (z':=x.imm) (jJ rfl k9 k9) ?_;refine g12 ?_;have c:dH code s=_:=d.trans (ei_9t g e);rw[c];exact rs1 () trivial
  refine g7 ?_;refine bF (z':=s.at_+1) (jJ rfl k9 k9) ?_;refine g12 ?_;have c:dH code s=_:=d.trans (ei_9f g e);rw[c];exact rs1 () trivial
 refine g4 ?_;refine bG func105 (calls_spec mb s m (CA,code.length,cc) x O hb P hr ⟨k9,k9⟩ E (M k9)) rfl rfl (.c1 .nil) e8 λ_=>?_;have I:=call_mem x s;refine g6 ?_;have c:dH code s=_:=d.trans (ei_c k9);rw[c];rw[show emM (lN x s).1 m=emM s m from by unfold emM;rw[I]];exact rs1 () trivial
def emA (s:EmS)(m:Option Addr×Nat×Nat):List Value:=[.int .i64 (s.regs.getD 0 0),.int .i64 (s.regs.getD 1 0),.int .i64 (s.regs.getD 2 0),.int .i64 (s.regs.getD 3 0),.int .i64 (s.regs.getD 4 0),.int .i64 (s.regs.getD 5 0),.int .i64 (s.regs.getD 6 0),.int .i64 (s.regs.getD 7 0),.int .i64 (s.regs.getD 8 0),.int .i64 (s.regs.getD 9 0),.int .i64 (s.regs.getD 10 0),.int .i64 (s.regs.getD 11 0),.int .i64 (s.regs.getD 12 0),.int .i64 (s.regs.getD 13 0),.int .i64 (s.regs.getD 14 0),.int .i64 (s.regs.getD 15 0),.slice m.1 m.2.1 m.2.2,.int .i64 s.at_,.int .i64 s.end_,.int .i32 s.told]
section
variable {code : List cA} {s t : EmS} {n j : Nat} {R : EmS × Nat}
def em0 (mem:List Int):EmS:=⟨List.replicate 16 0,mem,0,0,0⟩
theorem bSz(hr:s.regs.length=16):(dH code s).1.regs.length=16/\(dH code s).1.mem.length=s.mem.length:=by
 have hd: ∀{h:Int} {x:EmS},x.regs.length=16/\x.mem.length=s.mem.length->(emDone h x).1.regs.length=16/\(emDone h x).1.mem.length=s.mem.length:=λh=>h
 have e: ∀{a z:Int},(emGo (lT s a z)).1.regs.length=16/\(emGo (lT s a z)).1.mem.length=s.mem.length:=λ{a z}=>⟨(P6 ..).trans hr,rfl⟩
 have f: ∀{b:Bool} {i:cA},(oA b i s).1.regs.length=16/\(oA b i s).1.mem.length=s.mem.length:=λ{b i}=>by
  unfold oA;split<;>exact⟨hr,rfl⟩
 have d: ∀{c:Prop} [Decidable c] {x y:EmS×Bool},(x.1.regs.length=16/\x.1.mem.length=s.mem.length)->(y.1.regs.length=16/\y.1.mem.length=s.mem.length)->((if c then x else y).1.regs.length=16/\(if c then x else y).1.mem.length=s.mem.length):=λhx g=>by
  split
  .exact hx
  .exact g
 have h0:s.regs.length=16/\s.mem.length=s.mem.length:=⟨hr,rfl⟩
 unfold dH;refine d (hd h0) ?_;unfold emIns lN;exact d (hd h0) (d (hd h0) (d e (d e (d e (d e (d (d e (hd h0)) (d (d ⟨hr,P6 ..⟩ (hd h0)) (d f (d f (d f (d (hd h0) e)))))))))))
theorem run_step(h:R=emRun code (j+1) n s)(hc:(dH code s).2=true):R=emRun code j (n+1) (dH code s).1:=by
 rw[h,emRun,if_pos hc]
theorem run_stop(h:R=emRun code (j+1) n s)(hc:(dH code s).2=false):R=((dH code s).1,n+1):=by
 rw[h,emRun,if_neg (by rw[hc];decide)]
theorem all_right(h: ∀x∈code,gW x=true):code.any (λi=>!gW i)=false:=by
 rw[List.any_eq_false];intro x hx;rw[h x hx];decide
end
theorem xW:(prog.info? 59).bind (·.zero)=some (.agg #[j5 0,j5 0,j5 0,j5 0,j5 0,j5 0,j5 0,j5 0,j5 0,j5 0,j5 0,j5 0,j5 0,j5 0,j5 0,j5 0,.slice none 0 0,j5 0,j5 0,.int .i32 0]):=l4
theorem uH(a1:Option Addr)(l1 c1:Nat):prog.built 59 [(1,.slice a1 l1 c1)]=some #[j5 0,j5 0,j5 0,j5 0,j5 0,j5 0,j5 0,j5 0,j5 0,j5 0,j5 0,j5 0,j5 0,j5 0,j5 0,j5 0,.slice a1 l1 c1,j5 0,j5 0,.int .i32 0]:=l4
theorem rZ(v0_0 v0_1 v0_2 v0_3 v0_4 v0_5 v0_6 v0_7 v0_8 v0_9 v0_10 v0_11 v0_12 v0_13 v0_14 v0_15 v0_16 v0_17 v0_18 v0_19:Value)(a1:Option Addr)(l1 c1:Nat):prog.built 125 [(0,.agg #[v0_0,v0_1,v0_2,v0_3,v0_4,v0_5,v0_6,v0_7,v0_8,v0_9,v0_10,v0_11,v0_12,v0_13,v0_14,v0_15,v0_16,v0_17,v0_18,v0_19]),(1,.slice a1 l1 c1)]=some #[v0_0,v0_1,v0_2,v0_3,v0_4,v0_5,v0_6,v0_7,v0_8,v0_9,v0_10,v0_11,v0_12,v0_13,v0_14,v0_15,v0_16,v0_17,v0_18,v0_19,.slice a1 l1 c1]:=l4
theorem emRun1_spec(x:cA):bZ prog 47 [.agg #[j6 x.op,j6 x.a,j6 x.b,j6 x.c,.int .i32 x.imm]] [] [] (λ(_:Unit)=> .bool (!gW x)) (λ_=>[]) (λ_=>[]):=by
 have hT:=tP;refine i7 func47 ntmps47 ?_;intro β hM;refine g2 ?_;refine i6 λd=>?_;refine g6 ?_;refine f7 func16 (zF x) .nil e8 λ_=>?_;refine g5 ?_;exact rs1 () trivial
theorem indexFE_spec(A:Option Addr)(c:Nat)(l:List cA)(hl:l.length<=140737488355328)(f:FuncId)(cap:List Value)(G:List bE)(p:cA->Bool)(hcf: ∀(args:Array Value) (w:World),(callFunc f args).run prog w= .ok (.enter f args) w)(hf: ∀o:cA,bZ prog f (.agg #[j6 o.op,j6 o.a,j6 o.b,j6 o.c,.int .i32 o.imm]::cap) [] G (λ_:Unit=> .bool (p o)) (λ_=>[]) (λ_=>[])):bZ prog 103 [.slice A l.length c,.func (.func f) #[] cap.toArray] [] (lO.sl (.slice A l.length c) l::G) (λ(_:Unit)=> j5 (oN p l 0)) (λ_=>[]) (λ_=>[]):=by
 have hT:=tP;generalize k:oN p l 0=r;refine i7 func103 ntmps103 ?_;intro β hM;refine g14 ?_;refine bY (ι:=Nat) [(0,_),(1,_),(7,_)] ⟨rfl,rfl,rfl,e8⟩ (λi=>[(8,.int .i64 (i:Nat))]) (λ_=>[]) (λi=>[bE.pure (i<=l.length/\r=oN p (l.drop i) i)]) (λi=>l.length-i) 0 ⟨rfl,e8⟩ .nil ⟨e9 (⟨k9,k.symm⟩),e8⟩ ?_;rintro i;refine bM d7 λd=>?_;refine g6 ?_;refine fD (λh=>?_) λh=>?_
 .refine g15 ?_;obtain⟨j,e⟩:=gx l i;refine ss (ixs i) ?_;refine ss (kV e 0) ?_;refine lA hcf (hf j) rfl rfl rfl rfl rfl rfl rfl .nil (bA.drop 2) λ_=>?_;refine g2 ?_;refine uY (λg=>?_) λg=>?_
  .refine g12 ?_;obtain rfl:=(lK d.2 e).1 ‹_›;exact rs1 () trivial
  refine g5 ?_;refine inc (i+1) ?_;refine g3 ?_;exact bk2 (i+1) ⟨e9 (⟨k9,(lK d.2 e).2 ‹_›⟩),e8⟩
 refine g11 ?_;have hr:=zR d.2 k9;subst hr;exact rs1 () trivial
theorem bLb(A:Option Addr)(c:Nat)(l:List cA)(hl:l.length<=140737488355328)(f:FuncId)(cap:List Value)(G:List bE)(p:cA->Bool)(hcf: ∀(args:Array Value) (w:World),(callFunc f args).run prog w= .ok (.enter f args) w)(hf: ∀o:cA,bZ prog f (.agg #[j6 o.op,j6 o.a,j6 o.b,j6 o.c,.int .i32 o.imm]::cap) [] G (λ_:Unit=> .bool (p o)) (λ_=>[]) (λ_=>[])):bZ prog 48 [.slice A l.length c,.func (.func f) #[] cap.toArray] [] (lO.sl (.slice A l.length c) l::G) (λ(_:Unit)=> .bool (l.any p)) (λ_=>[]) (λ_=>[]):=by
 have hT:=tP;refine i7 func48 ntmps48 ?_;intro β hM;refine g9 ?_;refine f7 func103 (indexFE_spec A c l hl f cap G p hcf hf) .nil bA.self λ_=>?_;refine g5 ?_;exact rs1 () e8 (he:=congrArg Value.bool (zH p l 0 l5))
set_option maxHeartbeats 1000000 in
theorem emRun_spec(code:List cA)(CA:Option Addr)(cc:Nat)(mem:List Int)(MA:Option Addr)(mc most:Nat)(hcl:code.length<=32768)(hml0:mem.length<=2097152)(hmo:most<=67108864)(hN: ∀x∈code,NnI x)(hRt: ∀x∈code,gW x=true):bZ prog 18 [.slice CA code.length cc,.slice MA mem.length mc,j5 (most:Nat)] [] [lO.sl (.slice CA code.length cc) code,cK.sl (.slice MA mem.length mc) mem] (λ(x:Option Addr×Nat)=> .tuple #[.agg (emA (emRun code most 0 (em0 mem)).1 (x.1,mem.length,x.2)).toArray,j5 ((emRun code most 0 (em0 mem)).2:Nat),j5 0]) (λ_=>[]) (λ_=>[]):=by
 have hT:=tP
 obtain⟨R,k⟩: ∃R,(emRun code most 0 (em0 mem))=R:=⟨_,rfl⟩
 refine i7 func18 ntmps18 ?_;intro β hM;refine g2 ?_;refine f9 xW λl=>?_;refine g15 ?_;refine bQ (t':=false) (decide_eq_false k9) ?_;refine g4 ?_;refine bQ (t':=false) (decide_eq_false k9) ?_;refine g4 ?_;refine bQ (t':=false) (decide_eq_false k9) ?_;refine g4 ?_;refine bQ (t':=false) (decide_eq_false k9) ?_;refine g4 ?_;refine bG func48 (bLb CA cc code k9 47 [] [] (λi=>!gW i) (j4 func47) emRun1_spec) rfl rfl .nil ⟨d7,e8⟩ λ_=>?_;refine bQ (t':=false) (all_right hRt) ?_;refine g9 ?_;refine bG func49 (clone_spec MA mc mem k9) rfl rfl .nil ⟨d8,e8⟩ λc=>?_;refine ss (cC rfl rfl (uH _ _ _)) ?_;refine one ?_;refine ss (cC rfl rfl (rZ _ _ _ _ _ _ _ _ _ _ _ _ _ _ _ _ _ _ _ _ _ _ _)) ?_;refine i6 λg=>?_;refine g11 ?_;refine bY (ι:=EmS×Nat) [(2,_),(6,_),(10,_),(40,_)] ⟨rfl,rfl,rfl,rfl,e8⟩ (λ⟨t,n⟩=>[(41,.int .i64 (n:Nat))]) (λ⟨t,n⟩=>[emO g t (c.1,mem.length,c.2) (CA,code.length,cc),emM t (c.1,mem.length,c.2)]) (λ⟨t,n⟩=>[bE.pure (n<=most/\t.regs.length=16/\t.mem.length=mem.length/\R=emRun code (most-n) n t)]) (λ⟨t,n⟩=>most-n) (em0 mem,0) ⟨rfl,e8⟩ (.c0 (.c0 .nil)) ⟨e9 (⟨Nat.zero_le _,rfl,rfl,k.symm⟩),e8⟩ ?_;rintro⟨t,n⟩;dsimp only;refine bM d7 λa=>?_;refine g6 ?_;refine fD (λe=>?_) λe=>?_
 .refine g13 ?_;refine f7 func50 (stepEm_spec g t (c.1,mem.length,c.2) code CA cc a.2.1 a.2.2.1 hcl hN hRt) (.c0 (.c0 .nil)) ⟨d8,e8⟩ λ_=>?_;refine g3 ?_;refine bBd (λb=>?_) λb=>?_
  .have d:(dH code t).2=false:=by simpa using b
   refine g8 ?_;refine inc (n+1) ?_;refine g11 ?_;have f:=run_stop (show R=emRun code (most-n-1+1) n t by rw[show most-n-1+1=most-n by omega];exact a.2.2.2) d;rw[k,f];exact rs3 c trivial
  have d:(dH code t).2=true:=by simpa using b
  refine g5 ?_;refine inc (n+1) ?_;refine g3 ?_;exact bk2 ((dH code t).1,n+1) ⟨e9 (⟨by dsimp only;omega,(bSz a.2.1).1,(bSz a.2.1).2.trans a.2.2.1,by dsimp only;rw[show most-(n+1)=most-n-1 by omega];exact run_step (show R=emRun code (most-n-1+1) n t by rw[show most-n-1+1=most-n by omega];exact a.2.2.2) d⟩),e8⟩
 refine g8 ?_;refine f7 func51 (mW g t (c.1,mem.length,c.2) (CA,code.length,cc) 6) (.c0 .nil) e8 λ_=>?_;refine g15 ?_;have f:R=((emDone 6 t).1,n):=by have h:=a.2.2.2;rw[show most-n=0 by omega]at h;exact h
 have j:n=most:=k9
 rw[j]at f;rw[k,f];exact rs3 c trivial
theorem minR{a:Int}:(if (2097153:Int)<a then (2097153:Int)else a)=min a 2097153:=by
 split<;>omega
theorem mulR{n v:Int}(h0:0<=n)(h1:n<=2097153)(h2:0<=v)(h3:v<=65537):IntKind.i64.wrap (n*v)=n*v:=mulG h0 k9 h2 h3
section
variable {f z : Bool} {ds : List Int} {l : List (List Mono)} {i : Nat} {n : Int} {T : Option (Int × Bool)} {p : List Mono}
theorem bSw(h:T=turnR f ds (l.drop i) n z)(hx:l[i]?=some p)(hb:(bD p ds).2≠0\/65536<(bD p ds).1):T=none:=by
 obtain⟨hlt,e⟩:=D9.1 hx;rw[h,<-Y2 hlt,e];exact if_pos hb
theorem uT(h:T=turnR f ds (l.drop i) n z)(hx:l[i]?=some p)(h2:(bD p ds).2=0)(h3:(bD p ds).1<=65536){v:Int}(hv:v=if f=true/\i+1=l.length then (bD p ds).1+1 else (bD p ds).1):T=turnR f ds (l.drop (i+1)) (min (n*v) 2097153) (z || (v==0)):=by
 obtain⟨hlt,e⟩:=D9.1 hx
 have a:nI f ds p (l.drop (i+1))=v:=by
  unfold nI;rw[hv];have:l.drop (i+1)=[]↔i+1=l.length:=by rw[List.drop_eq_nil_iff];omega
  simp only[this]
 rw[h,<-Y2 hlt,e,turnR,if_neg k9,a]
theorem turnR_end(h:T=turnR f ds (l.drop i) n z)(hi:l.length<=i):T=some (n,z):=by
 rw[h,R5 hi];rfl
end
section
variable {ds : List Int} {l : List bX} {i : Nat} {a n : Int} {z : Bool} {R : Option Int} {x : bX}
theorem bTj(h:R=turnsR ds (l.drop i) a)(hx:l[i]?=some x):R=match turnR (x.how==2) ds x.loops 1 false with
  |none=>none
  |some (n,z)=>turnsR ds (l.drop (i+1)) (if z=true then a else min (a+n*(x.ops.length:Nat)) 2097153):=by
 obtain⟨hlt,e⟩:=D9.1 hx;rw[h,<-Y2 hlt,e];rfl
theorem bTs(h:R=turnsR ds (l.drop i) a)(hx:l[i]?=some x)(ht:turnR (x.how==2) ds x.loops 1 false=none):R=none:=by rw[bTj h hx,ht]
theorem bTx(h:R=turnsR ds (l.drop i) a)(hx:l[i]?=some x)(ht:turnR (x.how==2) ds x.loops 1 false=some (n,z)):R=turnsR ds (l.drop (i+1)) (if z=true then a else min (a+n*(x.ops.length:Nat)) 2097153):=by rw[bTj h hx,ht]
theorem turnsR_end(h:R=turnsR ds (l.drop i) a)(hi:l.length<=i):R=some a:=by
 rw[h,R5 hi];rfl
end
set_option maxHeartbeats 1000000 in
theorem Turns19_spec(c:gD)(hr:cY c.c=true)(DA:Option Addr)(dcap:Nat)(dims:List Int)(hdl:dims.length<=140737488355328):bZ prog 17 [.agg #[j5 c.vars,j0 c.bufs,j0 c.steps,j0 c.outs],.slice DA dims.length dcap] [] [oJ c,cK.sl (.slice DA dims.length dcap) dims] (λ(_:Unit)=> .tuple #[j5 ((turnsR dims c.c.steps 0).getD 0),.bool (turnsR dims c.c.steps 0).isSome]) (λ_=>[]) (λ_=>[]):=by
 have hT:=cO
 obtain⟨R,u⟩: ∃R,turnsR dims c.c.steps 0=R:=⟨_,rfl⟩
 refine i7 func17 ntmps17 ?_;intro β hM;refine g2 ?_;refine i6 λG=>?_;refine g16 ?_;refine bY (ι:=Int×Nat) [(1,_),(2,_)] ⟨rfl,rfl,e8⟩ (λ⟨al,i⟩=>[(6,.int .i64 al),(7,.int .i64 (i:Nat))]) (λ_=>[]) (λ⟨al,i⟩=>[bE.pure (i<=c.steps.list.length/\(0<=al/\al<=2097153)/\R=turnsR dims (c.c.steps.drop i) al)]) (λ⟨al,i⟩=>c.steps.list.length-i) (0,0) ⟨rfl,rfl,e8⟩ .nil ⟨e9 (⟨k9,k9,u.symm⟩),e8⟩ ?_;rintro⟨al,i⟩;dsimp only;refine bM d7 λb=>?_;refine g2 ?_;refine bP (sO.sl (.slice c.steps.addr c.steps.list.length c.steps.cap) c.steps.list) (qS (iG d8))<|bM (bPy (iG d9)) λk=>?_;have B:=k.1;have A:=k.2;refine g8 ?_;refine fD (λp=>?_) λp=>?_
 .refine g5 ?_;obtain⟨x,hx⟩:=gx c.steps.list i;have hg:=bDk hr dims (f4 hx);refine bP (oL x) (Has.each (qU (iG d9)) (f4 hx)) ?_;have hlo:=hg.hlo;have hll:=hg.hll
  obtain⟨T,g⟩: ∃T,turnR (x.how==2) dims (polsL x.loops.list) 1 false=T:=⟨_,rfl⟩
  refine g4 ?_;refine ss (ixs i) ?_;refine ss (kV hx 0) ?_;refine f9 wT λE=>?_;refine g20 ?_;refine bP (iY.sl (.slice x.loops.addr x.loops.list.length x.loops.cap) x.loops.list) (qM (mV d7)) ?_;refine bY (ι:=Int×Bool×Nat) [(1,_),(2,_),(6,_),(7,_),(8,_)] ⟨rfl,rfl,rfl,rfl,rfl,e8⟩ (λ⟨n,z,j⟩=>[(9,.int .i64 n),(10,.bool z),(11,.int .i64 (j:Nat))]) (λ_=>[]) (λ⟨n,z,j⟩=>[bE.pure (j<=x.loops.list.length/\(0<=n/\n<=2097153)/\T=turnR (x.how==2) dims ((polsL x.loops.list).drop j) n z)]) (λ⟨n,z,j⟩=>x.loops.list.length-j) (1,false,0) ⟨rfl,rfl,rfl,e8⟩ .nil ⟨e9 (⟨k9,k9,g.symm⟩),e8⟩ ?_;rintro⟨n,z,j⟩;dsimp only;refine bM d7 λa=>?_;refine g10 ?_;refine fD (λo=>?_) λo=>?_
  .refine g5 ?_;obtain⟨q,hq⟩:=gx x.loops.list j;refine bP (fB q) (Has.each (qJ (mV d9)) (f4 hq)) ?_;have w:=hg.hN q.list (f4 (cW hq));refine g4 ?_;refine ss (ixs j) ?_;refine ss (jB hq 0) ?_;refine one ?_;refine bM (gI d7) λy=>?_;refine f7 func46 (bBk q DA dcap dims y hdl) .nil ⟨d7,(Has.of mT7),e8⟩ λ_=>?_;refine g9 ?_
   by_cases f:(bD q.list dims).2=0
   .have C:=w f;refine g3 ?_;refine bQ (t':=false) (by rw[f];rfl) ?_;refine g6 ?_;refine fD (λm=>?_) λm=>?_
    .refine g18 ?_;have s:R=none:=bTs b.2.2 (dI hx) (g.trans (bSw a.2.2 (cW hq) (.inr k9)));rw[u,s];exact rs2 () trivial
    refine g4 ?_
    by_cases t:x.how=2
    .refine g4 ?_;refine bQ (t':=true) (by rw[t];rfl) ?_;refine g6 ?_;refine bF (z':=((x.loops.list.length:Nat):Int)-1) (jJ rfl k9 k9) ?_;refine g4 ?_;refine fG (λl=>?_) λl=>?_
     .have d:(bD q.list dims).1+1=if (x.how==2)=true/\j+1=(polsL x.loops.list).length then (bD q.list dims).1+1 else (bD q.list dims).1:=by rw[bW,if_pos ⟨by rw[t];rfl,k9⟩]
      refine g3 ?_;refine bF (z':=(bD q.list dims).1+1) (nN k9 k9) ?_;refine g4 ?_
      rcases z with _|_
      .refine g13 ?_;refine bF (z':=n*((bD q.list dims).1+1)) (mulR k9 k9 k9 k9) ?_;refine one ?_;refine bF (z':=min (n*((bD q.list dims).1+1)) 2097153) minR ?_;refine g7 ?_;refine inc (j+1) ?_;refine g3 ?_;have e:0<=n*((bD q.list dims).1+1):=Y9 k9 k9;exact bk2 (min (n*((bD q.list dims).1+1)) 2097153,(false || (((bD q.list dims).1+1)==0)),j+1) ⟨e9 (⟨by dsimp only;omega,by dsimp only;omega,by dsimp only;exact uT a.2.2 (cW hq) f k9 (v:=((bD q.list dims).1+1)) (d)⟩),e8⟩
      refine g13 ?_;refine bF (z':=n*((bD q.list dims).1+1)) (mulR k9 k9 k9 k9) ?_;refine one ?_;refine bF (z':=min (n*((bD q.list dims).1+1)) 2097153) minR ?_;refine g7 ?_;refine inc (j+1) ?_;refine g3 ?_;have e:0<=n*((bD q.list dims).1+1):=Y9 k9 k9;exact bk2 (min (n*((bD q.list dims).1+1)) 2097153,(true || (((bD q.list dims).1+1)==0)),j+1) ⟨e9 (⟨by dsimp only;omega,by dsimp only;omega,by dsimp only;exact uT a.2.2 (cW hq) f k9 (v:=((bD q.list dims).1+1)) (d)⟩),e8⟩
     have d:(bD q.list dims).1=if (x.how==2)=true/\j+1=(polsL x.loops.list).length then (bD q.list dims).1+1 else (bD q.list dims).1:=by rw[bW,if_neg (λh=>by have:=h.2;omega)]
     refine g3 ?_
     rcases z with _|_
     .refine g13 ?_;refine bF (z':=n*(bD q.list dims).1) (mulR k9 k9 k9 k9) ?_;refine one ?_;refine bF (z':=min (n*(bD q.list dims).1) 2097153) minR ?_;refine g7 ?_;refine inc (j+1) ?_;refine g3 ?_;have e:0<=n*(bD q.list dims).1:=Y9 k9 k9;exact bk2 (min (n*(bD q.list dims).1) 2097153,(false || ((bD q.list dims).1==0)),j+1) ⟨e9 (⟨by dsimp only;omega,by dsimp only;omega,by dsimp only;exact uT a.2.2 (cW hq) f k9 (v:=(bD q.list dims).1) (d)⟩),e8⟩
     refine g13 ?_;refine bF (z':=n*(bD q.list dims).1) (mulR k9 k9 k9 k9) ?_;refine one ?_;refine bF (z':=min (n*(bD q.list dims).1) 2097153) minR ?_;refine g7 ?_;refine inc (j+1) ?_;refine g3 ?_;have e:0<=n*(bD q.list dims).1:=Y9 k9 k9;exact bk2 (min (n*(bD q.list dims).1) 2097153,(true || ((bD q.list dims).1==0)),j+1) ⟨e9 (⟨by dsimp only;omega,by dsimp only;omega,by dsimp only;exact uT a.2.2 (cW hq) f k9 (v:=(bD q.list dims).1) (d)⟩),e8⟩
    have d:(bD q.list dims).1=if (x.how==2)=true/\j+1=(polsL x.loops.list).length then (bD q.list dims).1+1 else (bD q.list dims).1:=by rw[bW,if_neg (λh=>t (by simpa using h.1))]
    refine g4 ?_;refine bQ (t':=false) (by simpa using t) ?_;refine g14 ?_
    rcases z with _|_
    .refine g13 ?_;refine bF (z':=n*(bD q.list dims).1) (mulR k9 k9 k9 k9) ?_;refine one ?_;refine bF (z':=min (n*(bD q.list dims).1) 2097153) minR ?_;refine g7 ?_;refine inc (j+1) ?_;refine g3 ?_;have e:0<=n*(bD q.list dims).1:=Y9 k9 k9;exact bk2 (min (n*(bD q.list dims).1) 2097153,(false || ((bD q.list dims).1==0)),j+1) ⟨e9 (⟨by dsimp only;omega,by dsimp only;omega,by dsimp only;exact uT a.2.2 (cW hq) f k9 (v:=(bD q.list dims).1) (d)⟩),e8⟩
    refine g13 ?_;refine bF (z':=n*(bD q.list dims).1) (mulR k9 k9 k9 k9) ?_;refine one ?_;refine bF (z':=min (n*(bD q.list dims).1) 2097153) minR ?_;refine g7 ?_;refine inc (j+1) ?_;refine g3 ?_;have e:0<=n*(bD q.list dims).1:=Y9 k9 k9;exact bk2 (min (n*(bD q.list dims).1) 2097153,(true || ((bD q.list dims).1==0)),j+1) ⟨e9 (⟨by dsimp only;omega,by dsimp only;omega,by dsimp only;exact uT a.2.2 (cW hq) f k9 (v:=(bD q.list dims).1) (d)⟩),e8⟩
   refine g3 ?_;refine bQ (t':=true) (by simpa using f) ?_;refine g25 ?_;have s:R=none:=bTs b.2.2 (dI hx) (g.trans (bSw a.2.2 (cW hq) (.inl f)));rw[u,s];exact rs2 () trivial
  refine g6 ?_;have r:=g.trans (turnR_end a.2.2 o8)
  rcases z with _|_
  .refine g13 ?_;refine bF (z':=n*((x.ops.list.length:Nat):Int)) (mulR k9 k9 k9 k9) ?_;refine one ?_;refine bF (z':=al+n*((x.ops.list.length:Nat):Int)) (nN (by have:=Y9 (show 0<=n by omega) (show(0:Int)<=((x.ops.list.length:Nat):Int) by omega);omega) (by have:=Int.mul_le_mul (show n<=2097153 by omega) (show((x.ops.list.length:Nat):Int)<=256 by omega) k9 k9;omega)) ?_;refine one ?_;refine bF (z':=min (al+n*(x.ops.list.length:Nat)) 2097153) minR ?_;refine g7 ?_;refine inc (i+1) ?_;refine g3 ?_;have D:0<=n*((x.ops.list.length:Nat):Int):=Y9 k9 k9;exact bk2 (min (al+n*(x.ops.list.length:Nat)) 2097153,i+1) ⟨e9 (⟨by dsimp only;omega,by dsimp only;omega,by dsimp only;exact(bTx b.2.2 (dI hx) r).trans (by rw[if_neg l5,show x.c.ops.length=x.ops.list.length from dR _])⟩),e8⟩
  refine g12 ?_;refine inc (i+1) ?_;refine g3 ?_;exact bk2 (al,i+1) ⟨e9 (⟨by dsimp only;omega,by dsimp only;omega,by dsimp only;exact(bTx b.2.2 (dI hx) r).trans (by rw[if_pos rfl])⟩),e8⟩
 refine g13 ?_;have s:R=some al:=turnsR_end b.2.2 o5;rw[u,s];exact rs2 () trivial
end Go.Proofs.YtnfiadlonjediaaGreatDoor
