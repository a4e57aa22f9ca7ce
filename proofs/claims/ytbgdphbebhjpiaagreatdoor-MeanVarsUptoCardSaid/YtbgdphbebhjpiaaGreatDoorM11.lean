/- Texts of one proof, one behind the other: WordS, ArrS, Iter, Rng, Mark, ItC, CopyI, ArrI, Rev, LanesL, PrimL. -/
import Derived.Test.YtbgdphbebhjpiaaGreatDoorM10
import Derived.RangeFuncBox
import Derived.RangeFuncLeaves
import Derived.RangeFuncBound
import Derived.RangeFuncCalls
import Derived.Shelf.Abstract
import Derived.WalkKit
import Derived.OwnWalkIn
import Derived.TacticsInMore
import Derived.LoopNIn
import Derived.LoopIn
import Derived.Test.YtbgdphbebhjpiaaGreatDoorM4
import Derived.OrdersIn
import Derived.RangeFuncNested
import Derived.Test.YtbgdphbebhjpiaaGreatDoorM2
import Derived.Laws.IdiomCopy
namespace Go.Proofs.YtbgdphbebhjpiaaGreatDoor
open Go.RowKit
section
variable {f a b : Int} {two : Bool}
theorem oR(h:f<1∨17<f):Value.bool false= .bool (fU f two):=by rw [fU,if_pos h]
theorem zK(_h1: ¬f<1)(_h2: ¬17<f)(h:f=16):Value.bool (!two)= .bool (fU f two):=by rw [fU,if_neg (by omega),if_pos h]
theorem xX(h1: ¬f<1)(h2: ¬17<f)(h:f≠16)(ht:two=true):Value.bool true= .bool (fU f two):=by rw [fU,if_neg (by omega),if_neg h,ht];rfl
theorem yM(h1: ¬f<1)(h2: ¬17<f)(h:f≠16)(ht:two=false):Value.bool (decide (f≤7))= .bool (fU f two):=by rw [fU,if_neg (by omega),if_neg h,ht];rfl
theorem rest_a(h:a.tmod b≠0)(h2:decide (a.tmod b<0)≠decide (b<0)):Value.int .i64 (w64 (a.tmod b+b))= .int .i64 (sH a b):=by rw [sH,if_pos ⟨h,h2⟩]
theorem rest_b(h2:decide (a.tmod b<0)=decide (b<0)):Value.int .i64 (a.tmod b)= .int .i64 (sH a b):=by rw [sH,if_neg (fun h=>h.2 h2)]
theorem rest_c(h:a.tmod b=0):Value.int .i64 (a.tmod b)= .int .i64 (sH a b):=by rw [sH,if_neg (fun h'=>h'.1 h)]
theorem nz4(hr:gH f a b=false)(h:f=4):b≠0:=by
  rw [gH,if_pos h] at hr
  simpa using hr
theorem nn17(hr:gH f a b=false)(h:f=17):0≤b:=by
  rw [gH,if_neg (by omega),if_pos h] at hr
  simpa using hr
theorem big1_t(h:1<IntKind.u64.wrap a):big1 a=true:=decide_eq_true h
theorem big1_g(h:IntKind.u64.wrap a≤1):big1 a=false:=decide_eq_false (by omega)
theorem dy1(h:f=1):Value.int .i64 (w64 (a+b))= .int .i64 (pQ f a b):=by subst h;rfl
theorem dy2(h:f=2):Value.int .i64 (w64 (a-b))= .int .i64 (pQ f a b):=by subst h;rfl
theorem dy3(h:f=3):Value.int .i64 (w64 (a*b))= .int .i64 (pQ f a b):=by subst h;rfl
theorem dy4a(h:f=4)(hn:sH a b≠a.tmod b):Value.int .i64 (w64 (w64 (a.tdiv b)-1))= .int .i64 (pQ f a b):=by
  subst h;show _=Value.int .i64 (divW a b);rw [divW,if_pos hn]
theorem dy4b(h:f=4)(hn:sH a b=a.tmod b):Value.int .i64 (w64 (a.tdiv b))= .int .i64 (pQ f a b):=by
  subst h;show _=Value.int .i64 (divW a b);rw [divW,if_neg (fun e=>e hn)]
theorem dy5a(h:f=5)(h0:a=0):Value.int .i64 b= .int .i64 (pQ f a b):=by subst h h0;rfl
theorem dy5b(h:f=5)(h0:a≠0):Value.int .i64 (sH b a)= .int .i64 (pQ f a b):=by
  subst h;show _=Value.int .i64 (if a=0 then b else sH b a);rw [if_neg h0]
theorem dy6(h:f=6):Value.int .i64 (if b<a then b else a)= .int .i64 (pQ f a b):=by subst h;rfl
theorem dy7(h:f=7):Value.int .i64 (if b>a then b else a)= .int .i64 (pQ f a b):=by subst h;rfl
theorem dy14(h:f=14):Value.int .i64 (andW a b)= .int .i64 (pQ f a b):=by subst h;rfl
theorem dy15(h:f=15):Value.int .i64 (orW a b)= .int .i64 (pQ f a b):=by subst h;rfl
theorem dy17(h:f=17):Value.int .i64 (yL a b)= .int .i64 (pQ f a b):=by subst h;rfl
theorem dyE(h1:f≠1)(h2:f≠2)(h3:f≠3)(h4:f≠4)(h5:f≠5)(h6:f≠6)(h7:f≠7)(h8:f≠14)(h9:f≠15)(h10:f≠17):Value.int .i64 (sZ (sS f a b))= .int .i64 (pQ f a b):=by
  simp only [pQ,h1,h2,h3,h4,h5,h6,h7,h8,h9,h10,if_false]
theorem mo1(h:fU f false=false):Value.tuple #[.int .i64 0,.int .i64 10]= .tuple #[.int .i64 (gM f a).1,.int .i64 (gM f a).2]:=by simp [gM,h]
theorem mo2(h:f=2):Value.tuple #[.int .i64 (w64 (0-a)),.int .i64 0]= .tuple #[.int .i64 (gM f a).1,.int .i64 (gM f a).2]:=by subst h;rfl
theorem mo3(h:f=3):Value.tuple #[.int .i64 (w64 (sZ (decide (0<a))-sZ (decide (a<0)))),.int .i64 0]= .tuple #[.int .i64 (gM f a).1,.int .i64 (gM f a).2]:=by subst h;rfl
theorem mo4(h:f=4):Value.tuple #[.int .i64 (nW f 1 a).1,.int .i64 (nW f 1 a).2]= .tuple #[.int .i64 (gM f a).1,.int .i64 (gM f a).2]:=by subst h;rfl
theorem mo5(h:f=5):Value.tuple #[.int .i64 (if w64 (0-a)>a then w64 (0-a) else a),.int .i64 0]= .tuple #[.int .i64 (gM f a).1,.int .i64 (gM f a).2]:=by subst h;rfl
theorem mo16a(h:f=16)(hb:big1 a=true):Value.tuple #[.int .i64 0,.int .i64 11]= .tuple #[.int .i64 (gM f a).1,.int .i64 (gM f a).2]:=by
  subst h;have e:gM 16 a=if big1 a=true then (0,11) else (xorW a 1,0):=rfl
  rw [e,if_pos hb]
theorem mo16b(h:f=16)(hb:big1 a=false):Value.tuple #[.int .i64 (xorW a 1),.int .i64 0]= .tuple #[.int .i64 (gM f a).1,.int .i64 (gM f a).2]:=by
  subst h;have e:gM 16 a=if big1 a=true then (0,11) else (xorW a 1,0):=rfl
  rw [e,if_neg (by rw [hb];simp)]
theorem moE(ht:fU f false=true)(h2:f≠2)(h3:f≠3)(h4:f≠4)(h5:f≠5)(h6:f≠16):Value.tuple #[.int .i64 a,.int .i64 0]= .tuple #[.int .i64 (gM f a).1,.int .i64 (gM f a).2]:=by
  simp only [gM,ht,h2,h3,h4,h5,h6,if_false,Bool.true_eq_false]
end
theorem and_one(m:Nat):w64 (((BitVec.ofInt 64 (m:Int))&&&(BitVec.ofInt 64 1)).toNat:Nat)=((m%2:Nat):Int):=by
  have e1:(BitVec.ofInt 64 (m:Int))=BitVec.ofNat 64 m:=by simp
  have e2:(BitVec.ofInt 64 1)=BitVec.ofNat 64 1:=by decide
  rw [e1,e2,BitVec.toNat_and,BitVec.toNat_ofNat,BitVec.toNat_ofNat];have e3:(m%2^64)&&&(1%2^64)=(m%2^64)%2:=Nat.and_one_is_mod _;rw [e3];have e4:(m%2^64)%2=m%2:=by omega
  rw [e4];exact uK (by omega) (by omega)
section
variable {k m : Nat} {p a r : Int}
theorem raised_end(h:jY k p a m=r)(hm:m=0):r=p:=by
  cases k with
  | zero=>exact h.symm
  | succ k=>
    rw [jY,if_pos hm] at h;exact h.symm
theorem bCb(h:jY k p a m=r)(hk:m<k)(hm:0<m):jY (k-1) (if m%2=1 then w64 (p*a) else p) (w64 (a*a)) (m/2)=r:=by
  obtain⟨k,rfl⟩: ∃j,k=j+1:=⟨k-1,by omega⟩
  rw [jY,if_neg (by omega)] at h;exact h
theorem bFo(h:jY k p a m=r)(hk:m<k)(hm:0<m)(h1:m%2=1):jY (k-1) (w64 (p*a)) (w64 (a*a)) (m/2)=r:=by
  have:=bCb h hk hm;rw [if_pos h1] at this;exact this
theorem bBq(h:jY k p a m=r)(hk:m<k)(hm:0<m)(h1: ¬m%2=1):jY (k-1) p (w64 (a*a)) (m/2)=r:=by
  have:=bCb h hk hm;rw [if_neg h1] at this;exact this
end
set_option maxRecDepth 100000 in
theorem lD(f:Int)(two:Bool):dG Tryz.prog 112 [.int .u8 f,.bool two] [] [] (fun(_:Unit)=> .bool (fU f two)) (fun _=>[]) (fun _=>[]):=by
  have hT:=dA;refine cQ Tryz.func112 rfl Tryz.ntmps112 rfl ?_;intro β hM;refine sr<|sp hT ?_;refine nn<|bA<|bR<|sr<|sp3 hT ?_;refine cE (fun hg8=>?_) (fun hg8=>?_)
  · have hg8:=of_decide_eq_true hg8;refine sk2 ?_;refine sp2 hT ?_;refine nn<|cL rfl rfl ?_;refine sr<|sp hT ?_;refine nn<|bG<|bI<|bC ?_;exact bQ () rfl (bD rfl) .nil trivial (by first | exact oR (.inl (by omega)) | exact oR (.inr (by omega)) | exact zK (by omega) (by omega) (by omega) | exact xX (by omega) (by omega) (by omega) (by assumption) | exact yM (by omega) (by omega) (by omega) (by assumption))
  have hg8:=Int.not_lt.1 (of_decide_eq_false hg8);refine sp4 hT ?_;refine nn<|bH rfl (fun hc5=>?_) (fun hc5=>?_)
  · have hc5:=of_decide_eq_true hc5;refine sr<|sp hT ?_;refine nn<|bG<|bI<|bC ?_;exact bQ () rfl (bD rfl) .nil trivial (by first | exact oR (.inl (by omega)) | exact oR (.inr (by omega)) | exact zK (by omega) (by omega) (by omega) | exact xX (by omega) (by omega) (by omega) (by assumption) | exact yM (by omega) (by omega) (by omega) (by assumption))
  have hc5:=Int.not_lt.1 (of_decide_eq_false hc5);refine sr<|sp3 hT ?_;refine nn<|bH rfl (fun hc12=>?_) (fun hc12=>?_)
  · have hc12:=eq_of_beq hc12;refine sr<|sp3 hT ?_;refine nn<|bG<|bI<|bC ?_;exact bQ () rfl (bD rfl) .nil trivial (by first | exact oR (.inl (by omega)) | exact oR (.inr (by omega)) | exact zK (by omega) (by omega) (by omega) | exact xX (by omega) (by omega) (by omega) (by assumption) | exact yM (by omega) (by omega) (by omega) (by assumption))
  have hc12:=beq_eq_false_iff_ne.1 hc12;refine bK<|bY<|bB<|sr<|sp2 hT ?_;refine cE (fun hg18=>?_) (fun hg18=>?_)
  · refine sk2 ?_;refine sp2 hT ?_;refine nn<|bG ?_;exact bQ () rfl (bD rfl) .nil trivial (by first | exact oR (.inl (by omega)) | exact oR (.inr (by omega)) | exact zK (by omega) (by omega) (by omega) | exact xX (by omega) (by omega) (by omega) (by assumption) | exact yM (by omega) (by omega) (by omega) (by assumption))
  refine sp4 hT ?_;refine nn<|bG ?_;exact bQ () rfl (bD rfl) .nil trivial (by first | exact oR (.inl (by omega)) | exact oR (.inr (by omega)) | exact zK (by omega) (by omega) (by omega) | exact xX (by omega) (by omega) (by omega) (by assumption) | exact yM (by omega) (by omega) (by omega) (by assumption))
set_option maxRecDepth 100000 in
theorem bIx(a b:Int)(hb:b≠0):dG Tryz.prog 262 [.int .i64 a,.int .i64 b] [] [] (fun(_:Unit)=> .int .i64 (sH a b)) (fun _=>[]) (fun _=>[]):=by
  have hT:=dA;refine cQ Tryz.func262 rfl Tryz.ntmps262 rfl ?_;intro β hM;refine sr<|sp hT ?_;refine nn<|sr<|sp2 hT ?_;refine ss (bEy rfl rfl rfl (hb)) ?_;refine sp hT ?_;refine nn<|bA<|sr<|sp3 hT ?_;refine cE (fun hg11=>?_) (fun hg11=>?_)
  · have hg11:=bne_iff_ne.1 hg11;refine sp4 hT ?_;refine sp2 hT ?_;refine nn<|bH rfl (fun hc17=>?_) (fun hc17=>?_)
    · have hc17:=bne_iff_ne.1 hc17;refine bE<|sp4 hT ?_;refine nn<|sr<|sp2 hT ?_;refine nn<|bG ?_;exact bQ () rfl (bD rfl) .nil trivial (by first | exact rest_a (by assumption) (by assumption) | exact rest_b (by assumption) | exact rest_c (by assumption))
    have hc17:=bne_eq_false_iff_eq.1 hc17;refine bK<|bB<|sr<|sp2 hT ?_;refine nn<|bG ?_;exact bQ () rfl (bD rfl) .nil trivial (by first | exact rest_a (by assumption) (by assumption) | exact rest_b (by assumption) | exact rest_c (by assumption))
  have hg11:=bne_eq_false_iff_eq.1 hg11;refine sk4 ?_;refine sk ?_;refine sp hT ?_;refine nn<|cN rfl rfl ?_;refine bK<|bB<|sr<|sp2 hT ?_;refine nn<|bG ?_;exact bQ () rfl (bD rfl) .nil trivial (by first | exact rest_a (by assumption) (by assumption) | exact rest_b (by assumption) | exact rest_c (by assumption))
set_option maxRecDepth 100000 in
theorem wZ(t:Bool):dG Tryz.prog 177 [.bool t] [] [] (fun(_:Unit)=> .int .i64 (sZ t)) (fun _=>[]) (fun _=>[]):=by
  have hT:=dA;refine cQ Tryz.func177 rfl Tryz.ntmps177 rfl ?_;intro β hM;refine sr<|sp hT ?_;refine nn<|bA<|sr<|sp hT ?_;refine nn<|bH rfl (fun hc3=>?_) (fun hc3=>?_)
  · refine sr<|sp hT ?_;refine nn<|bG<|bC ?_;exact bQ () rfl (bD rfl) .nil trivial (by simp [sZ, *])
  refine bK<|bB<|sr<|sp hT ?_;refine nn<|bG ?_;exact bQ () rfl (bD rfl) .nil trivial (by simp [sZ, *])
set_option maxRecDepth 100000 in
theorem refuses_spec(f a b:Int):dG Tryz.prog 229 [.int .u8 f,.int .i64 a,.int .i64 b] [] [] (fun(_:Unit)=> .bool (gH f a b)) (fun _=>[]) (fun _=>[]):=by
  have hT:=dA;refine cQ Tryz.func229 rfl Tryz.ntmps229 rfl ?_;intro β hM;refine sr<|sp hT ?_;refine nn<|bA<|sr<|sp hT ?_;refine nn<|bR<|sr<|sp2 hT ?_;refine nn<|bH rfl (fun hc8=>?_) (fun hc8=>?_)
  · have hc8_r:=hc8;have hc8:=eq_of_beq hc8;refine sr<|sp3 hT ?_;refine nn<|bG<|bI<|bC ?_;exact bQ () rfl (bD rfl) .nil trivial (by first | (simp [gH, *];done) | (simp [gH, *];rfl))
  have hc8_r:=hc8;have hc8:=beq_eq_false_iff_ne.1 hc8;refine sr<|sp2 hT ?_;refine nn<|bH rfl (fun hc12=>?_) (fun hc12=>?_)
  · have hc12_r:=hc12;have hc12:=eq_of_beq hc12;refine sr<|sp3 hT ?_;refine nn<|bG<|bI<|bC ?_;exact bQ () rfl (bD rfl) .nil trivial (by first | (simp [gH, *];done) | (simp [gH, *];rfl))
  have hc12_r:=hc12;have hc12:=beq_eq_false_iff_ne.1 hc12;refine bA<|sr<|sp2 hT ?_;refine nn<|bH rfl (fun hc16=>?_) (fun hc16=>?_)
  · have hc16_r:=hc16;have hc16:=eq_of_beq hc16;refine bK<|bB<|cL rfl hc16_r ?_;refine sr<|sp4 hT ?_;refine cE (fun hg22=>?_) (fun hg22=>?_)
    · have hg22:=of_decide_eq_true hg22;have hb1:=big1_t (a:=a) (by assumption);refine sk3 ?_;refine sp2 hT ?_;refine nn<|bG<|bI<|bC ?_;exact bQ () rfl (bD rfl) .nil trivial (by first | (simp [gH, *];done) | (simp [gH, *];rfl))
    have hg22:=Int.not_lt.1 (of_decide_eq_false hg22);have hb1:=big1_g (a:=a) (by assumption);refine sp4 hT ?_;refine sp hT ?_;refine nn<|bG<|bI<|bC ?_;exact bQ () rfl (bD rfl) .nil trivial (by first | (simp [gH, *];done) | (simp [gH, *];rfl))
  have hc16_r:=hc16;have hc16:=beq_eq_false_iff_ne.1 hc16;refine bE<|sp2 hT ?_;refine nn<|bH rfl (fun hc16_1=>?_) (fun hc16_1=>?_)
  · have hc16_1_r:=hc16_1;have hc16_1:=eq_of_beq hc16_1;refine sr<|sp4 hT ?_;refine cE (fun hg22=>?_) (fun hg22=>?_)
    · have hg22:=of_decide_eq_true hg22;have hb1:=big1_t (a:=a) (by assumption);refine sk3 ?_;refine sp2 hT ?_;refine nn<|bG<|bI<|bC ?_;exact bQ () rfl (bD rfl) .nil trivial (by first | (simp [gH, *];done) | (simp [gH, *];rfl))
    have hg22:=Int.not_lt.1 (of_decide_eq_false hg22);have hb1:=big1_g (a:=a) (by assumption);refine sp4 hT ?_;refine sp hT ?_;refine nn<|bG<|bI<|bC ?_;exact bQ () rfl (bD rfl) .nil trivial (by first | (simp [gH, *];done) | (simp [gH, *];rfl))
  have hc16_1_r:=hc16_1;have hc16_1:=beq_eq_false_iff_ne.1 hc16_1;refine bK<|bY<|bB<|sr<|sp hT ?_;refine nn<|bG ?_;exact bQ () rfl (bD rfl) .nil trivial (by first | (simp [gH, *];done) | (simp [gH, *];rfl))
set_option maxRecDepth 100000 in
theorem raised_spec(a:Int)(m:Nat):dG Tryz.prog 263 [.int .i64 a,.int .i64 (m:Nat)] [] [] (fun(_:Unit)=> .int .i64 (yL a (m:Nat))) (fun _=>[]) (fun _=>[]):=by
  have hT:=dA;generalize hR:yL a (m:Nat)=r;refine cQ Tryz.func263 rfl Tryz.ntmps263 rfl ?_;intro β hM;refine sr<|sp hT ?_;refine nn<|sr<|sp hT ?_;refine nn<|bA<|bR<|dB (ι:=Nat×Int×Int×Nat) [] trivial (fun⟨k,p,a,m⟩=>[(0,.int .i64 a),(1,.int .i64 (m:Nat)),(5,.int .i64 p)]) (fun _=>[]) (fun⟨k,p,a,m⟩=>[Fact.pure (m<k∧jY k p a m=r)]) (fun⟨k,p,a,m⟩=>m) (m+1,1,a,m) ⟨rfl,rfl,rfl,trivial⟩ .nil ⟨Has.pure (⟨by omega,by rw [←hR,yL,Int.toNat_natCast]⟩),trivial⟩ ?_;rintro⟨k,p,a,m⟩;dsimp only;refine cD (Has.of mT0) fun hinv2=>?_;refine bA<|sr<|sp2 hT ?_;refine nn<|bH rfl (fun hc7=>?_) (fun hc7=>?_)
  · have hc7:=of_decide_eq_true hc7;refine bK<|bB<|bA<|bR<|bA<|sr<|sp2 hT ?_;refine bP (z':=((m%2:Nat):Int)) (and_one m) ?_;refine sp hT ?_;refine nn<|bH rfl (fun hc12=>?_) (fun hc12=>?_)
    · have hc12:=eq_of_beq hc12;refine bE<|sp4 hT ?_;refine nn<|bE<|sp4 hT ?_;refine dR<|bY<|bB<|bE<|sp hT ?_;refine ss (sti_half rfl rfl rfl (by decide)) ?_;refine bP (z':=((m/2:Nat):Int)) (halfN m) ?_;refine sp hT ?_;refine nn ?_;exact cO (k-1,_,_,m/2) (by dsimp only;omega) ⟨rfl,rfl,rfl,trivial⟩ trivial .nil ⟨Has.pure (⟨by dsimp only;omega,by first | exact bFo hinv2.2 hinv2.1 (by omega) (by omega) | exact bBq hinv2.2 hinv2.1 (by omega) (by omega)⟩),trivial⟩ (bF.drop 1)
    have hc12:=beq_eq_false_iff_ne.1 hc12;refine bK<|bB<|bE<|sp4 hT ?_;refine dR<|bY<|bB<|bE<|sp hT ?_;refine ss (sti_half rfl rfl rfl (by decide)) ?_;refine bP (z':=((m/2:Nat):Int)) (halfN m) ?_;refine sp hT ?_;refine nn ?_;exact cO (k-1,_,_,m/2) (by dsimp only;omega) ⟨rfl,rfl,rfl,trivial⟩ trivial .nil ⟨Has.pure (⟨by dsimp only;omega,by first | exact bFo hinv2.2 hinv2.1 (by omega) (by omega) | exact bBq hinv2.2 hinv2.1 (by omega) (by omega)⟩),trivial⟩ (bF.drop 1)
  have hc7:=Int.not_lt.1 (of_decide_eq_false hc7);refine cW<|cK<|cK<|cX<|bB<|sr<|sp2 hT ?_;refine nn<|bG ?_;have hr:=raised_end hinv2.2 (by omega);subst hr;exact bQ () rfl (bD rfl) .nil trivial rfl
set_option maxRecDepth 100000 in
theorem holds_spec(f a b:Int):dG Tryz.prog 264 [.int .u8 f,.int .i64 a,.int .i64 b] [] [] (fun(_:Unit)=> .bool (sS f a b)) (fun _=>[]) (fun _=>[]):=by
  have hT:=dA;refine cQ Tryz.func264 rfl Tryz.ntmps264 rfl ?_;intro β hM;refine sr<|sp hT ?_;refine nn<|bA<|sr<|sp hT ?_;refine nn<|bR<|sr<|sp2 hT ?_;refine nn<|bH rfl (fun hc8=>?_) (fun hc8=>?_)
  · have hc8:=eq_of_beq hc8;refine sr<|sp4 hT ?_;refine nn<|bG<|bI<|bC ?_;exact bQ () rfl (bD rfl) .nil trivial (by simp [sS, *])
  have hc8:=beq_eq_false_iff_ne.1 hc8;refine sr<|sp2 hT ?_;refine nn<|bH rfl (fun hc13=>?_) (fun hc13=>?_)
  · have hc13:=eq_of_beq hc13;refine sr<|sp4 hT ?_;refine nn<|bG<|bI<|bC ?_;exact bQ () rfl (bD rfl) .nil trivial (by simp [sS, *])
  have hc13:=beq_eq_false_iff_ne.1 hc13;refine sr<|sp2 hT ?_;refine nn<|bH rfl (fun hc18=>?_) (fun hc18=>?_)
  · have hc18:=eq_of_beq hc18;refine sr<|sp4 hT ?_;refine nn<|bG<|bI<|bC ?_;exact bQ () rfl (bD rfl) .nil trivial (by simp [sS, *])
  have hc18:=beq_eq_false_iff_ne.1 hc18;refine sr<|sp2 hT ?_;refine nn<|bH rfl (fun hc23=>?_) (fun hc23=>?_)
  · have hc23:=eq_of_beq hc23;refine sr<|sp4 hT ?_;refine nn<|bG<|bI<|bC ?_;exact bQ () rfl (bD rfl) .nil trivial (by simp [sS, *])
  have hc23:=beq_eq_false_iff_ne.1 hc23;refine sr<|sp2 hT ?_;refine nn<|bH rfl (fun hc28=>?_) (fun hc28=>?_)
  · have hc28:=eq_of_beq hc28;refine sr<|sp4 hT ?_;refine nn<|bG<|bI<|bC ?_;exact bQ () rfl (bD rfl) .nil trivial (by simp [sS, *])
  have hc28:=beq_eq_false_iff_ne.1 hc28;refine bK<|bY<|bB<|sr<|sp4 hT ?_;refine nn<|bG ?_;exact bQ () rfl (bD rfl) .nil trivial (by simp [sS, *])
set_option maxRecDepth 100000 in
theorem dyad_spec(f a b:Int)(hr:gH f a b=false):dG Tryz.prog 230 [.int .u8 f,.int .i64 a,.int .i64 b] [] [] (fun(_:Unit)=> .int .i64 (pQ f a b)) (fun _=>[]) (fun _=>[]):=by
  have hT:=dA;refine cQ Tryz.func230 rfl Tryz.ntmps230 rfl ?_;intro β hM;refine sr<|sp hT ?_;refine nn<|bA<|sr<|sp hT ?_;refine nn<|bR<|sr<|sp2 hT ?_;refine nn<|bH rfl (fun hc9=>?_) (fun hc9=>?_)
  · have hc9:=eq_of_beq hc9;refine sr<|sp4 hT ?_;refine nn<|bG<|bI<|bC ?_;exact bQ () rfl (bD rfl) .nil trivial (dy1 (by assumption))
  have hc9:=beq_eq_false_iff_ne.1 hc9;refine sr<|sp2 hT ?_;refine nn<|bH rfl (fun hc14=>?_) (fun hc14=>?_)
  · have hc14:=eq_of_beq hc14;refine sr<|sp4 hT ?_;refine nn<|bG<|bI<|bC ?_;exact bQ () rfl (bD rfl) .nil trivial (dy2 (by assumption))
  have hc14:=beq_eq_false_iff_ne.1 hc14;refine sr<|sp2 hT ?_;refine nn<|bH rfl (fun hc19=>?_) (fun hc19=>?_)
  · have hc19:=eq_of_beq hc19;refine sr<|sp4 hT ?_;refine nn<|bG<|bI<|bC ?_;exact bQ () rfl (bD rfl) .nil trivial (dy3 (by assumption))
  have hc19:=beq_eq_false_iff_ne.1 hc19;refine sr<|sp2 hT ?_;refine nn<|bH rfl (fun hc24=>?_) (fun hc24=>?_)
  · have hc24:=eq_of_beq hc24;refine sr<|sp2 hT ?_;refine ss (rT rfl rfl rfl (nz4 hr (by assumption))) ?_;refine sp hT ?_;refine nn<|bA<|bA<|cU _ _ [(true,0),(true,1),(true,3),(true,4),(true,5),(false,2),(true,6)] cY (by decide+kernel) .nil bF.self ?_;refine puM hT ?_;refine puM hT ?_;refine puM hT ?_;refine puM hT ?_;refine stM rfl (bEy rfl rfl rfl (nz4 hr (by assumption))) ?_;refine cB (o:=_) rfl ?_;refine bO Tryz.func262 (bIx _ _ (nz4 hr (by assumption))) rfl rfl .nil trivial fun _=>?_;refine cA .nil trivial ?_;refine puM hT ?_;refine cM<|bB<|bH rfl (fun hc35=>?_) (fun hc35=>?_)
    · have hc35:=bne_iff_ne.1 hc35;refine bE<|sp3 hT ?_;refine nn<|sr<|sp2 hT ?_;refine nn<|bG<|bI<|bC ?_;exact bQ () rfl (bD rfl) .nil trivial (dy4a (by assumption) (by assumption))
    have hc35:=bne_eq_false_iff_eq.1 hc35;refine bK<|bB<|sr<|sp2 hT ?_;refine nn<|bG<|bI<|bC ?_;exact bQ () rfl (bD rfl) .nil trivial (dy4b (by assumption) (by assumption))
  have hc24:=beq_eq_false_iff_ne.1 hc24;refine sr<|sp2 hT ?_;refine nn<|bH rfl (fun hc39=>?_) (fun hc39=>?_)
  · have hc39:=eq_of_beq hc39;refine bA<|sr<|sp2 hT ?_;refine nn<|bH rfl (fun hc42=>?_) (fun hc42=>?_)
    · have hc42:=eq_of_beq hc42;refine sr<|sp2 hT ?_;refine nn<|bG<|bC<|bI<|bC ?_;exact bQ () rfl (bD rfl) .nil trivial (dy5a (by assumption) (by assumption))
    have hc42:=beq_eq_false_iff_ne.1 hc42;refine bK<|bB<|sr<|sp2 hT ?_;refine bO Tryz.func262 (bIx _ _ (by assumption)) rfl rfl .nil trivial fun _=>?_;refine sp hT ?_;refine nn<|bG<|bI<|bC ?_;exact bQ () rfl (bD rfl) .nil trivial (dy5b (by assumption) (by assumption))
  have hc39:=beq_eq_false_iff_ne.1 hc39;refine sr<|sp2 hT ?_;refine nn<|bH rfl (fun hc47=>?_) (fun hc47=>?_)
  · have hc47:=eq_of_beq hc47;refine sr<|sp4 hT ?_;refine nn<|bG<|bI<|bC ?_;exact bQ () rfl (bD rfl) .nil trivial (dy6 (by assumption))
  have hc47:=beq_eq_false_iff_ne.1 hc47;refine sr<|sp2 hT ?_;refine nn<|bH rfl (fun hc52=>?_) (fun hc52=>?_)
  · have hc52:=eq_of_beq hc52;refine sr<|sp4 hT ?_;refine nn<|bG<|bI<|bC ?_;exact bQ () rfl (bD rfl) .nil trivial (dy7 (by assumption))
  have hc52:=beq_eq_false_iff_ne.1 hc52;refine sr<|sp2 hT ?_;refine nn<|bH rfl (fun hc57=>?_) (fun hc57=>?_)
  · have hc57:=eq_of_beq hc57;refine sr<|sp4 hT ?_;refine nn<|bG<|bI<|bC ?_;exact bQ () rfl (bD rfl) .nil trivial (dy14 (by assumption))
  have hc57:=beq_eq_false_iff_ne.1 hc57;refine sr<|sp2 hT ?_;refine nn<|bH rfl (fun hc62=>?_) (fun hc62=>?_)
  · have hc62:=eq_of_beq hc62;refine sr<|sp4 hT ?_;refine nn<|bG<|bI<|bC ?_;exact bQ () rfl (bD rfl) .nil trivial (dy15 (by assumption))
  have hc62:=beq_eq_false_iff_ne.1 hc62;refine sr<|sp2 hT ?_;refine nn<|bH rfl (fun hc67=>?_) (fun hc67=>?_)
  · have hc67:=eq_of_beq hc67;refine bA ?_
    obtain⟨m,hm⟩: ∃m:Nat,b=(m:Int):=⟨b.toNat,by have:=nn17 hr (by assumption);omega⟩
    subst hm;refine bE<|sp2 hT ?_;refine bO Tryz.func263 (raised_spec a m) rfl rfl .nil trivial fun _=>?_;refine sp hT ?_;refine nn<|bG<|bI<|bC ?_;exact bQ () rfl (bD rfl) .nil trivial (dy17 (by assumption))
  have hc67:=beq_eq_false_iff_ne.1 hc67;refine bK<|bY<|bB<|sr<|sp3 hT ?_;refine bO Tryz.func264 (holds_spec _ _ _) rfl rfl .nil trivial fun _=>?_;refine bO Tryz.func177 (wZ _) rfl rfl .nil trivial fun _=>?_;refine sp hT ?_;refine nn<|bG ?_;exact bQ () rfl (bD rfl) .nil trivial (dyE (by assumption) (by assumption) (by assumption) (by assumption) (by assumption) (by assumption) (by assumption) (by assumption) (by assumption) (by assumption))
set_option maxRecDepth 100000 in
theorem bKo(f a b:Int):dG Tryz.prog 178 [.int .u8 f,.int .i64 a,.int .i64 b] [] [] (fun(_:Unit)=> .tuple #[.int .i64 (nW f a b).1,.int .i64 (nW f a b).2]) (fun _=>[]) (fun _=>[]):=by
  have hT:=dA;refine cQ Tryz.func178 rfl Tryz.ntmps178 rfl ?_;intro β hM;refine sr<|sp2 hT ?_;refine nn<|bA<|sr<|sp hT ?_;refine bO Tryz.func112 (lD _ _) rfl rfl .nil trivial fun _=>?_;refine sp hT ?_;refine nn<|bH rfl (fun hc10=>?_) (fun hc10=>?_)
  · have hc10:=gA hc10;refine sr<|sp2 hT ?_;refine nn<|bG<|bC ?_;exact bL () rfl (bD rfl) (bD rfl) .nil trivial (by simp [nW, *])
  have hc10:=fM hc10;refine bK<|bB<|bA<|sr<|sp3 hT ?_;refine bO Tryz.func229 (refuses_spec _ _ _) rfl rfl .nil trivial fun _=>?_;refine nn<|bH rfl (fun hc14=>?_) (fun hc14=>?_)
  · refine sr<|sp2 hT ?_;refine nn<|bG<|bC ?_;exact bL () rfl (bD rfl) (bD rfl) .nil trivial (by simp [nW, *])
  refine bK<|bB<|sr<|sp3 hT ?_;refine bO Tryz.func230 (dyad_spec _ _ _ (by assumption)) rfl rfl .nil trivial fun _=>?_;refine sp2 hT ?_;refine nn<|bG ?_;exact bL () rfl (bD rfl) (bD rfl) .nil trivial (by simp [nW, *])
set_option maxRecDepth 100000 in
theorem Monad_spec(f a:Int):dG Tryz.prog 113 [.int .u8 f,.int .i64 a] [] [] (fun(_:Unit)=> .tuple #[.int .i64 (gM f a).1,.int .i64 (gM f a).2]) (fun _=>[]) (fun _=>[]):=by
  have hT:=dA;refine cQ Tryz.func113 rfl Tryz.ntmps113 rfl ?_;intro β hM;refine sr<|sp2 hT ?_;refine nn<|bA<|sr<|sp hT ?_;refine bO Tryz.func112 (lD _ _) rfl rfl .nil trivial fun _=>?_;refine sp hT ?_;refine nn<|bH rfl (fun hc8=>?_) (fun hc8=>?_)
  · have hc8:=gA hc8;refine sr<|sp2 hT ?_;refine nn<|bG<|bC ?_;exact bL () rfl (bD rfl) (bD rfl) .nil trivial (mo1 (by assumption))
  have hc8:=fM hc8;refine bK<|bB<|bA<|sr<|sp hT ?_;refine nn<|bR<|sr<|sp2 hT ?_;refine nn<|bH rfl (fun hc10=>?_) (fun hc10=>?_)
  · have hc10:=eq_of_beq hc10;refine sr<|sp4 hT ?_;refine nn<|bG<|bI<|bC ?_;exact bL () rfl (bD rfl) (bD rfl) .nil trivial (mo2 (by assumption))
  have hc10:=beq_eq_false_iff_ne.1 hc10;refine sr<|sp2 hT ?_;refine nn<|bH rfl (fun hc14=>?_) (fun hc14=>?_)
  · have hc14:=eq_of_beq hc14;refine sr<|sp2 hT ?_;refine bO Tryz.func177 (wZ _) rfl rfl .nil trivial fun _=>?_;refine sp2 hT ?_;refine bO Tryz.func177 (wZ _) rfl rfl .nil trivial fun _=>?_;refine sp3 hT ?_;refine nn<|bG<|bI<|bC ?_;exact bL () rfl (bD rfl) (bD rfl) .nil trivial (mo3 (by assumption))
  have hc14:=beq_eq_false_iff_ne.1 hc14;refine sr<|sp2 hT ?_;refine nn<|bH rfl (fun hc23=>?_) (fun hc23=>?_)
  · have hc23:=eq_of_beq hc23;refine sr<|sp2 hT ?_;refine bO Tryz.func178 (bKo _ _ _) rfl rfl .nil trivial fun _=>?_;refine sp4 hT ?_;refine nn<|bG<|bI<|bC ?_;exact bL () rfl (bD rfl) (bD rfl) .nil trivial (mo4 (by assumption))
  have hc23:=beq_eq_false_iff_ne.1 hc23;refine sr<|sp2 hT ?_;refine nn<|bH rfl (fun hc30=>?_) (fun hc30=>?_)
  · have hc30:=eq_of_beq hc30;refine sr<|sp4 hT ?_;refine sp2 hT ?_;refine nn<|bG<|bI<|bC ?_;exact bL () rfl (bD rfl) (bD rfl) .nil trivial (mo5 (by assumption))
  have hc30:=beq_eq_false_iff_ne.1 hc30;refine sr<|sp2 hT ?_;refine nn<|bH rfl (fun hc36=>?_) (fun hc36=>?_)
  · have hc36:=eq_of_beq hc36;refine bA<|sr<|sp3 hT ?_;refine nn<|bH rfl (fun hc40=>?_) (fun hc40=>?_)
    · have hc40:=of_decide_eq_true hc40;have hb1:=big1_t (a:=a) (by assumption);refine sr<|sp2 hT ?_;refine nn<|bG<|bC<|bI<|bC ?_;exact bL () rfl (bD rfl) (bD rfl) .nil trivial (mo16a (by assumption) (by assumption))
    have hc40:=Int.not_lt.1 (of_decide_eq_false hc40);have hb1:=big1_g (a:=a) (by assumption);refine bK<|bB<|sr<|sp hT ?_;refine ss (sti_xorI rfl rfl rfl) ?_;refine sp2 hT ?_;refine nn<|bG<|bI<|bC ?_;exact bL () rfl (bD rfl) (bD rfl) .nil trivial (mo16b (by assumption) (by assumption))
  have hc36:=beq_eq_false_iff_ne.1 hc36;refine bK<|bY<|bB<|sr<|sp3 hT ?_;refine nn<|bG ?_;exact bL () rfl (bD rfl) (bD rfl) .nil trivial (moE (by assumption) (by assumption) (by assumption) (by assumption) (by assumption) (by assumption))
set_option maxRecDepth 100000 in
theorem Unit_spec(f:Int):dG Tryz.prog 115 [.int .u8 f] [] [] (fun(_:Unit)=> .tuple #[.int .i64 (oZ f).1,.bool (oZ f).2]) (fun _=>[]) (fun _=>[]):=by
  have hT:=dA;refine cQ Tryz.func115 rfl Tryz.ntmps115 rfl ?_;intro β hM;refine sr<|sp2 hT ?_;refine nn<|bA<|sr<|sp hT ?_;refine nn<|bR<|sr<|sp2 hT ?_;refine nn<|bH rfl (fun hc5=>?_) (fun hc5=>?_)
  · have hc5_r:=hc5;have hc5:=eq_of_beq hc5;refine sr<|sp2 hT ?_;refine nn<|bG<|bI<|bC ?_;exact bL () rfl (bD rfl) (bD rfl) .nil trivial (by simp [oZ, *])
  have hc5_r:=hc5;have hc5:=beq_eq_false_iff_ne.1 hc5;refine sr<|sp2 hT ?_;refine nn<|bH rfl (fun hc7=>?_) (fun hc7=>?_)
  · have hc7_r:=hc7;have hc7:=eq_of_beq hc7;refine sr<|sp2 hT ?_;refine nn<|bG<|bI<|bC ?_;exact bL () rfl (bD rfl) (bD rfl) .nil trivial (by simp [oZ, *])
  have hc7_r:=hc7;have hc7:=beq_eq_false_iff_ne.1 hc7;refine bA<|sr<|sp2 hT ?_;refine nn<|bH rfl (fun hc9=>?_) (fun hc9=>?_)
  · have hc9_r:=hc9;have hc9:=eq_of_beq hc9;refine bK<|bB<|cL rfl hc9_r ?_;refine sr<|sp2 hT ?_;refine nn<|bG<|bI<|bC ?_;exact bL () rfl (bD rfl) (bD rfl) .nil trivial (by simp [oZ, *])
  have hc9_r:=hc9;have hc9:=beq_eq_false_iff_ne.1 hc9;refine sr<|sp2 hT ?_;refine nn<|bH rfl (fun hc9_1=>?_) (fun hc9_1=>?_)
  · have hc9_1_r:=hc9_1;have hc9_1:=eq_of_beq hc9_1;refine bK<|bB<|cL rfl hc9_1_r ?_;refine sr<|sp2 hT ?_;refine nn<|bG<|bI<|bC ?_;exact bL () rfl (bD rfl) (bD rfl) .nil trivial (by simp [oZ, *])
  have hc9_1_r:=hc9_1;have hc9_1:=beq_eq_false_iff_ne.1 hc9_1;refine sr<|sp2 hT ?_;refine nn<|bH rfl (fun hc9_2=>?_) (fun hc9_2=>?_)
  · have hc9_2_r:=hc9_2;have hc9_2:=eq_of_beq hc9_2;refine bK<|bB<|cL rfl hc9_2_r ?_;refine sr<|sp2 hT ?_;refine nn<|bG<|bI<|bC ?_;exact bL () rfl (bD rfl) (bD rfl) .nil trivial (by simp [oZ, *])
  have hc9_2_r:=hc9_2;have hc9_2:=beq_eq_false_iff_ne.1 hc9_2;refine sr<|sp2 hT ?_;refine nn<|bH rfl (fun hc9_3=>?_) (fun hc9_3=>?_)
  · have hc9_3_r:=hc9_3;have hc9_3:=eq_of_beq hc9_3;refine bK<|bB<|cL rfl hc9_3_r ?_;refine sr<|sp2 hT ?_;refine nn<|bG<|bI<|bC ?_;exact bL () rfl (bD rfl) (bD rfl) .nil trivial (by simp [oZ, *])
  have hc9_3_r:=hc9_3;have hc9_3:=beq_eq_false_iff_ne.1 hc9_3;refine sr<|sp2 hT ?_;refine nn<|bH rfl (fun hc9_4=>?_) (fun hc9_4=>?_)
  · have hc9_4_r:=hc9_4;have hc9_4:=eq_of_beq hc9_4;refine bK<|bB<|cL rfl hc9_4_r ?_;refine sr<|sp2 hT ?_;refine nn<|bG<|bI<|bC ?_;exact bL () rfl (bD rfl) (bD rfl) .nil trivial (by simp [oZ, *])
  have hc9_4_r:=hc9_4;have hc9_4:=beq_eq_false_iff_ne.1 hc9_4;refine sr<|sp2 hT ?_;refine nn<|bH rfl (fun hc9_5=>?_) (fun hc9_5=>?_)
  · have hc9_5_r:=hc9_5;have hc9_5:=eq_of_beq hc9_5;refine bK<|bB<|cL rfl hc9_5_r ?_;refine sr<|sp2 hT ?_;refine nn<|bG<|bI<|bC ?_;exact bL () rfl (bD rfl) (bD rfl) .nil trivial (by simp [oZ, *])
  have hc9_5_r:=hc9_5;have hc9_5:=beq_eq_false_iff_ne.1 hc9_5;refine bE<|sp2 hT ?_;refine nn<|bH rfl (fun hc9_6=>?_) (fun hc9_6=>?_)
  · have hc9_6_r:=hc9_6;have hc9_6:=eq_of_beq hc9_6;refine sr<|sp2 hT ?_;refine nn<|bG<|bI<|bC ?_;exact bL () rfl (bD rfl) (bD rfl) .nil trivial (by simp [oZ, *])
  have hc9_6_r:=hc9_6;have hc9_6:=beq_eq_false_iff_ne.1 hc9_6;refine bK<|bY<|bB<|sr<|sp hT ?_;refine bO Tryz.func112 (lD _ _) rfl rfl .nil trivial fun _=>?_;refine sp2 hT ?_;refine nn<|bG ?_;exact bL () rfl (bD rfl) (bD rfl) .nil trivial (by simp [oZ, *])
end Go.Proofs.YtbgdphbebhjpiaaGreatDoor
namespace Go.Proofs.YtbgdphbebhjpiaaGreatDoor
open Go.RowKit
theorem bIk{n:Int}(h:n<0):Value.bool true= .bool (lG n):=by simp [lG,h]
theorem bJb{n:Int}(h: ¬n<0):Value.bool (decide (65536<n))= .bool (lG n):=by simp [lG,h]
section
variable {l : List Int} {n s m : Int} {i : Nat} {r : Int × Int}
theorem size_bad(h:4<l.length∨l.any lG=true):dT l=(0,61):=by rw [dT,if_pos h]
theorem size_zero(h1: ¬4<l.length)(h2:l.any lG=false)(h3:l.contains 0=true):dT l=(0,0):=by rw [dT,if_neg (by rw [h2];simp;omega),if_pos h3]
theorem size_prod(h1: ¬4<l.length)(h2:l.any lG=false)(h3:l.contains 0=false):dT l=jN l 1:=by rw [dT,if_neg (by rw [h2];simp;omega),if_neg (by rw [h3];simp)]
theorem prod_big(h:r=jN (l.drop i) n)(hx:l[i]?=some s)(hb:65536<w64 (n*s)):r=(0,61):=by
  rw [fQ hx,jN,if_pos hb] at h;exact h
theorem prod_more(h:r=jN (l.drop i) n)(hx:l[i]?=some s)(hb: ¬65536<w64 (n*s)):r=jN (l.drop (i+1)) (w64 (n*s)):=by
  rw [fQ hx,jN,if_neg hb] at h;exact h
theorem prod_end(h:r=jN (l.drop i) n)(hi:l.length≤i):r=(n,0):=by
  rw [List.drop_of_length_le hi] at h;exact h
end
section
variable {x : ArrV}
theorem right_a(h:(dT x.sides.list).2=0):Value.bool ((dT x.sides.list).1==((x.data.list.length:Nat):Int))= .bool (cP x.arr):=by simp [cP,ArrV.arr,h]
theorem right_b(h:(dT x.sides.list).2≠0):Value.bool false= .bool (cP x.arr):=by simp [cP,ArrV.arr,h]
end
section
variable {sides index : List Int} {n s k : Int} {i : Nat} {r : Int × Int}
theorem place_a(h:(dT sides).2≠0):lT sides index=(0,(dT sides).2):=by rw [lT,if_pos h]
theorem place_b(h:(dT sides).2=0)(h2:index.length≠sides.length):lT sides index=(0,62):=by rw [lT,if_neg (fun e=>e h),if_pos h2]
theorem place_c(h:(dT sides).2=0)(h2:index.length=sides.length):lT sides index=mH sides index 0:=by rw [lT,if_neg (fun e=>e h),if_neg (fun e=>e h2)]
theorem bIg(h:r=mH (sides.drop i) (index.drop i) n)(hx:index[i]?=some k)(hy:sides[i]?=some s)(hb:k<0∨s≤k):r=(0,62):=by
  rw [fQ hx,fQ hy,mH,if_pos hb] at h;exact h
theorem place_more(h:r=mH (sides.drop i) (index.drop i) n)(hx:index[i]?=some k)(hy:sides[i]?=some s)(hb: ¬(k<0∨s≤k)):r=mH (sides.drop (i+1)) (index.drop (i+1)) (w64 (w64 (n*s)+k)):=by
  rw [fQ hx,fQ hy,mH,if_neg hb] at h;exact h
theorem place_end(h:r=mH (sides.drop i) (index.drop i) n)(hi:index.length≤i):r=(n,0):=by
  rw [List.drop_of_length_le hi] at h
  cases hs:sides.drop i with
  | nil=>rw [hs] at h;exact h
  | cons a b=>rw [hs] at h;exact h
end
set_option maxRecDepth 100000 in
theorem sizeBad_spec(n:Int):dG Tryz.prog 68 [.int .i64 n] [] [] (fun(_:Unit)=> .bool (lG n)) (fun _=>[]) (fun _=>[]):=by
  have hT:=dA;refine cQ Tryz.func68 rfl Tryz.ntmps68 rfl ?_;intro β hM;refine sr<|sp hT ?_;refine nn<|sr<|sp3 hT ?_;refine cE (fun hg5=>?_) (fun hg5=>?_)
  · have hg5:=of_decide_eq_true hg5;refine sk2 ?_;refine sp2 hT ?_;refine nn<|bG ?_;exact bQ () rfl (bD rfl) .nil trivial (by first | exact bIk (by omega) | exact bJb (by omega))
  have hg5:=Int.not_lt.1 (of_decide_eq_false hg5);refine sp4 hT ?_;refine nn<|bG ?_;exact bQ () rfl (bD rfl) .nil trivial (by first | exact bIk (by omega) | exact bJb (by omega))
set_option maxRecDepth 100000 in
theorem kK(A:Option Addr)(c:Nat)(l:List Int)(hl:l.length≤140737488355328):dG Tryz.prog 36 [.slice A l.length c] [] [cT.sl (.slice A l.length c) l] (fun(_:Unit)=> .tuple #[.int .i64 (dT l).1,.int .i64 (dT l).2]) (fun _=>[]) (fun _=>[]):=by
  have hT:=dA;generalize hR:dT l=r;refine cQ Tryz.func36 rfl Tryz.ntmps36 rfl ?_;intro β hM;refine sr<|sp2 hT ?_;refine nn<|bA<|sr<|sp4 hT ?_;refine cE (fun hg10=>?_) (fun hg10=>?_)
  · have hg10:=of_decide_eq_true hg10;refine sk2 ?_;refine sp hT ?_;refine nn<|cL rfl rfl ?_;refine sr<|sp2 hT ?_;refine nn<|bG<|bC ?_;have hr:=hR.symm.trans (size_bad (by first | exact .inl (by omega) | exact .inr (by assumption)));subst hr;exact bL () rfl (bD rfl) (bD rfl) .nil trivial rfl
  have hg10:=Int.not_lt.1 (of_decide_eq_false hg10);refine sp hT ?_;refine bO Tryz.func59 (qH _ _ _ hl _ lG (cS Tryz.func68 rfl rfl) sizeBad_spec) rfl rfl .nil ⟨Has.of mT0,trivial⟩ fun _=>?_;refine sp hT ?_;refine nn<|bH rfl (fun hc13=>?_) (fun hc13=>?_)
  · refine sr<|sp2 hT ?_;refine nn<|bG<|bC ?_;have hr:=hR.symm.trans (size_bad (by first | exact .inl (by omega) | exact .inr (by assumption)));subst hr;exact bL () rfl (bD rfl) (bD rfl) .nil trivial rfl
  refine bK<|bB<|bA<|sr<|sp hT ?_;refine bO Tryz.func69 (bEt _ _ _ hl _) rfl rfl .nil ⟨Has.of mT0,trivial⟩ fun _=>?_;refine nn<|bH rfl (fun hc15=>?_) (fun hc15=>?_)
  · refine sr<|sp2 hT ?_;refine nn<|bG<|bC ?_;have hr:=hR.symm.trans (size_zero (by omega) (by assumption) (by assumption));subst hr;exact bL () rfl (bD rfl) (bD rfl) .nil trivial rfl
  refine bK<|bB<|sr<|sp hT ?_;refine nn<|bA<|sr<|sp3 hT ?_;refine nn<|bR<|dB (ι:=Nat×Int) [(16,_),(17,_)] ⟨rfl,rfl,trivial⟩ (fun⟨i,n⟩=>[(4,.int .i64 n),(18,.int .i64 (i:Nat))]) (fun _=>[]) (fun⟨i,n⟩=>[Fact.pure (i≤l.length∧r=jN (l.drop i) n)]) (fun⟨i,n⟩=>l.length-i) (0,1) ⟨rfl,rfl,trivial⟩ .nil ⟨Has.pure (⟨by omega,hR.symm.trans (size_prod (by omega) (by assumption) (by assumption))⟩),trivial⟩ ?_;rintro⟨i,n⟩;dsimp only;refine cD (Has.of mT0) fun hinv7=>?_;refine sr<|sp hT ?_;refine nn<|bA<|bH rfl (fun hc19=>?_) (fun hc19=>?_)
  · have hc19:=of_decide_eq_true hc19;refine bK<|bB<|bA<|bR<|sr ?_
    obtain⟨x1,hx2⟩: ∃x',l[i]?=some x':=⟨_,List.getElem?_eq_getElem (by omega)⟩
    refine ss (bS hT (k:=i) (bJ (Has.of mT1)) rfl rfl rfl rfl rfl rfl rfl (by omega)) ?_;refine ss (bZ hT (cR.knows (bJ (Has.of mT1)) (k:=i) (x:=x1) hx2 0) rfl rfl rfl rfl rfl) ?_;refine sp hT ?_;refine nn<|sr<|sp4 hT ?_;refine nn<|sr<|sp2 hT ?_;refine nn<|bH rfl (fun hc26=>?_) (fun hc26=>?_)
    · have hc26:=of_decide_eq_true hc26;refine sr<|sp2 hT ?_;refine nn<|bG<|bI<|bC<|bC<|bI<|bC ?_;have hr:=prod_big hinv7.2 hx2 (by assumption);subst hr;exact bL () rfl (bD rfl) (bD rfl) .nil trivial rfl
    have hc26:=Int.not_lt.1 (of_decide_eq_false hc26);refine bK<|bY<|bB<|bE<|sp hT ?_;refine bP (z':=(((i+1):Nat):Int)) (cJ (by omega) (by omega)) ?_;refine sp hT ?_;refine nn ?_;exact cO (i+1,_) (by dsimp only;omega) ⟨rfl,rfl,trivial⟩ ⟨rfl,rfl,trivial⟩ .nil ⟨Has.pure (⟨by dsimp only;omega,prod_more hinv7.2 hx2 (Int.not_lt.2 (by assumption))⟩),trivial⟩ (bF.drop 1)
  have hc19:=Int.not_lt.1 (of_decide_eq_false hc19);refine cW<|cK<|cK<|cX<|bB<|sr<|sp3 hT ?_;refine nn<|bG ?_;have hr:=prod_end hinv7.2 (by omega);subst hr;exact bL () rfl (bD rfl) (bD rfl) .nil trivial rfl
set_option maxRecDepth 100000 in
theorem jX(x:ArrV)(hl:x.sides.list.length≤140737488355328):dG Tryz.prog 17 [.agg #[.slice x.sides.addr x.sides.list.length x.sides.cap,.slice x.data.addr x.data.list.length x.data.cap]] [] [cT.sl (.slice x.sides.addr x.sides.list.length x.sides.cap) x.sides.list] (fun(_:Unit)=> .bool (cP x.arr)) (fun _=>[]) (fun _=>[]):=by
  have hT:=dA;refine cQ Tryz.func17 rfl Tryz.ntmps17 rfl ?_;intro β hM;refine sr<|fH rfl rfl rfl rfl rfl rfl fun b1=>?_;refine sp hT ?_;refine nn<|sr<|sp hT ?_;refine ss (ldO hT (bM .head)) ?_;refine bO Tryz.func36 (kK _ _ _ (by omega)) rfl rfl .nil ⟨Has.of mT0,trivial⟩ fun _=>?_;refine sp4 hT ?_;refine sp hT ?_;refine nn<|sr<|sp3 hT ?_;refine cE (fun hg13=>?_) (fun hg13=>?_)
  · have hg13:=eq_of_beq hg13;refine sp2 hT ?_;refine ss (ldO hT (dD .head)) ?_;refine sp4 hT ?_;refine nn<|bG ?_;exact bQ () rfl (bD rfl) .nil trivial (by first | exact right_a (by assumption) | exact right_b (by assumption))
  have hg13:=beq_eq_false_iff_ne.1 hg13;refine sk4 ?_;refine sk ?_;refine sp2 hT ?_;refine nn<|bG ?_;exact bQ () rfl (bD rfl) .nil trivial (by first | exact right_a (by assumption) | exact right_b (by assumption))
set_option maxRecDepth 100000 in
theorem place_spec(A B:Option Addr)(ca cb:Nat)(sides index:List Int)(hs:sides.length≤140737488355328):dG Tryz.prog 176 [.slice A sides.length ca,.slice B index.length cb] [] [cT.sl (.slice A sides.length ca) sides,cT.sl (.slice B index.length cb) index] (fun(_:Unit)=> .tuple #[.int .i64 (lT sides index).1,.int .i64 (lT sides index).2]) (fun _=>[]) (fun _=>[]):=by
  have hT:=dA;generalize hR:lT sides index=r;refine cQ Tryz.func176 rfl Tryz.ntmps176 rfl ?_;intro β hM;refine sr<|sp2 hT ?_;refine nn<|bA<|sr<|sp hT ?_;refine bO Tryz.func36 (kK _ _ _ (by omega)) rfl rfl .nil ⟨Has.of mT0,trivial⟩ fun _=>?_;refine sp4 hT ?_;refine sp hT ?_;refine nn<|sr<|sp2 hT ?_;refine nn<|bH rfl (fun hc17=>?_) (fun hc17=>?_)
  · have hc17:=bne_iff_ne.1 hc17;refine sr<|sp3 hT ?_;refine nn<|bG<|bC ?_;have hr:=hR.symm.trans (place_a (by assumption));subst hr;exact bL () rfl (bD rfl) (bD rfl) .nil trivial rfl
  have hc17:=bne_eq_false_iff_eq.1 hc17;refine bK<|bB<|bA<|sr<|sp4 hT ?_;refine sp hT ?_;refine nn<|bH rfl (fun hc23=>?_) (fun hc23=>?_)
  · have hc23:=bne_iff_ne.1 hc23;refine sr<|sp2 hT ?_;refine nn<|bG<|bC ?_;have hr:=hR.symm.trans (place_b (by assumption) (by omega));subst hr;exact bL () rfl (bD rfl) (bD rfl) .nil trivial rfl
  have hc23:=bne_eq_false_iff_eq.1 hc23;refine bK<|bB<|sr<|sp hT ?_;refine nn<|bA<|sr<|sp3 hT ?_;refine nn<|bR<|dB (ι:=Nat×Int) [(0,_),(24,_),(25,_)] ⟨rfl,rfl,rfl,trivial⟩ (fun⟨i,n⟩=>[(8,.int .i64 n),(26,.int .i64 (i:Nat))]) (fun _=>[]) (fun⟨i,n⟩=>[Fact.pure (i≤index.length∧r=mH (sides.drop i) (index.drop i) n)]) (fun⟨i,n⟩=>index.length-i) (0,0) ⟨rfl,rfl,trivial⟩ .nil ⟨Has.pure (⟨by omega,hR.symm.trans (place_c (by assumption) (by omega))⟩),trivial⟩ ?_;rintro⟨i,n⟩;dsimp only;refine cD (Has.of mT0) fun hinv8=>?_;refine sr<|sp hT ?_;refine nn<|bA<|bH rfl (fun hc27=>?_) (fun hc27=>?_)
  · have hc27:=of_decide_eq_true hc27;refine bK<|bB<|bA<|bR<|sr<|sp hT ?_
    obtain⟨x1,hx2⟩: ∃x',index[i]?=some x':=⟨_,List.getElem?_eq_getElem (by omega)⟩
    refine ss (bS hT (k:=i) (bJ (Has.of mT2)) rfl rfl rfl rfl rfl rfl rfl (by omega)) ?_;refine ss (bZ hT (cR.knows (bJ (Has.of mT2)) (k:=i) (x:=x1) hx2 0) rfl rfl rfl rfl rfl) ?_;refine sp2 hT ?_;refine nn<|bA<|sr<|sp3 hT ?_;refine cE (fun hg33=>?_) (fun hg33=>?_)
    · have hg33:=of_decide_eq_true hg33;refine sk4 ?_;refine sk2 ?_;refine sp hT ?_;refine nn<|cL rfl rfl ?_;refine sr<|sp2 hT ?_;refine nn<|bG<|bC<|bI<|bC<|bC<|bI<|bC ?_;have hr:=bIg hinv8.2 hx2 (List.getElem?_eq_getElem (by omega)) (by omega);subst hr;exact bL () rfl (bD rfl) (bD rfl) .nil trivial rfl
    have hg33:=Int.not_lt.1 (of_decide_eq_false hg33);refine sp3 hT ?_
    obtain⟨x3,hx4⟩: ∃x',sides[i]?=some x':=⟨_,List.getElem?_eq_getElem (by omega)⟩
    refine ss (bS hT (k:=i) (bJ (Has.of mT1)) rfl rfl rfl rfl rfl rfl rfl (by omega)) ?_;refine ss (bZ hT (cR.knows (bJ (Has.of mT1)) (k:=i) (x:=x3) hx4 0) rfl rfl rfl rfl rfl) ?_;refine sp2 hT ?_;refine nn<|bH rfl (fun hc40=>?_) (fun hc40=>?_)
    · have hc40:=of_decide_eq_true hc40;refine sr<|sp2 hT ?_;refine nn<|bG<|bC<|bI<|bC<|bC<|bI<|bC ?_;have hr:=bIg hinv8.2 hx2 hx4 (by omega);subst hr;exact bL () rfl (bD rfl) (bD rfl) .nil trivial rfl
    have hc40:=Int.not_le.1 (of_decide_eq_false hc40);refine bK<|bB<|bE<|sp3 hT ?_;refine ss (bS hT (k:=i) (bJ (Has.of mT1)) rfl rfl rfl rfl rfl rfl rfl (by omega)) ?_;refine ss (bZ hT (cR.knows (bJ (Has.of mT1)) (k:=i) (x:=x3) hx4 0) rfl rfl rfl rfl rfl) ?_;refine sp4 hT ?_;refine dR<|bY<|bB<|bE<|sp hT ?_;refine bP (z':=(((i+1):Nat):Int)) (cJ (by omega) (by omega)) ?_;refine sp hT ?_;refine nn ?_;exact cO (i+1,_) (by dsimp only;omega) ⟨rfl,rfl,trivial⟩ ⟨rfl,rfl,rfl,trivial⟩ .nil ⟨Has.pure (⟨by dsimp only;omega,place_more hinv8.2 hx2 hx4 (by omega)⟩),trivial⟩ (bF.drop 1)
  have hc27:=Int.not_lt.1 (of_decide_eq_false hc27);refine cW<|cK<|cK<|cX<|bB<|sr<|sp3 hT ?_;refine nn<|bG ?_;have hr:=place_end hinv8.2 (by omega);subst hr;exact bL () rfl (bD rfl) (bD rfl) .nil trivial rfl
end Go.Proofs.YtbgdphbebhjpiaaGreatDoor
namespace Go.Proofs.YtbgdphbebhjpiaaGreatDoor
open Go.RowKit Go.Shelf
attribute [local go_sem] Oper.semAt_some
def jC (S:Nat→Prop)(W W':World):Prop:= ∀c,S c→W'.heap[c]?=W.heap[c]?
theorem jC.refl(S:Nat→Prop)(W:World):jC S W W:=fun _ _=>rfl
theorem jC.trans{S:Nat→Prop}{A B C:World}(h:jC S A B)(k:jC S B C):jC S A C:=fun c hc=>(k c hc).trans (h c hc)
theorem jC.cell{S:Nat→Prop}{A B:World}(h:jC S A B){p:Addr}(hp:S p.block):B.cell? p=A.cell? p:=World.cell?_of_block (h p.block hp)
set_option maxRecDepth 100000 in
set_option maxHeartbeats 2000000 in
theorem back1_in(n l Bs b off len cap:Nat)(A:Option Addr)(hA:0<len→A=some ⟨b,off,none⟩)(zs:List Int)(S:Nat→Prop)(hS1:S Bs)(hS2:0<len→S b)(hlen:len≤1000000)(J:Nat→World→Prop)
    (hY: ∀k W,k<len→J k W→YieldAt Fence.wide (n-1) Tryz.prog l #[.int .i64 ((len:Int)-1-k),.int .i64 (zs[len-1-k]?.getD 0)] W fun e W'=>e= .returned (.bool true)∧J (k+1) W'∧jC S W W')
    (W:World) (hBs:W.cell? ⟨Bs,0,none⟩=some (.slice A len cap)) (hc: ∀j,j<len→W.cell? ⟨b,off+j,none⟩=some (.int .i64 (zs[j]?.getD 0))) (h0:J 0 W):
    CallsIn Fence.wide n Tryz.prog 261 #[.func (.yield l) #[] #[],.pointer (some ⟨Bs,0,none⟩)] W fun e W'=>(∃v,e= .returned v)∧J len W'∧jC S W W':=by
  refine callsIn_of_wp Tryz.func261 rfl trivial ?_ rfl;simp only [Tryz.ntmps261,List.size_toArray,List.length_cons,List.length_nil,Nat.reduceAdd,Nat.reduceSub,Array.replicate_succ,Array.replicate_zero,List.push_toArray,List.append_toArray,List.nil_append,List.cons_append]
  gi_wp2
  gi_loopw [3] (fun i wr=> ∃k:Nat,k≤len∧i= .int .i64 ((len:Int)-1-k)∧J k wr∧jC S W wr)
    (fun i _=>(intOf i+1).toNat)
  case atStart=>exact⟨0,Nat.zero_le _,by simp,h0,jC.refl _ _⟩
  case round=>
    obtain⟨k,hk,rfl,hJs,hnx⟩:=hrel
    by_cases hlt:k<len
    · obtain rfl:=hA (by omega)
      replace hS2:=hS2 (by omega)
      have hBs':=(hnx.cell (p:=⟨Bs,0,none⟩) hS1).trans hBs;have hcx:wr.cell? ⟨b,off+(len-1-k),none⟩=some (.int .i64 (zs[len-1-k]?.getD 0)):=(hnx.cell (p:=⟨b,off+(len-1-k),none⟩) hS2).trans (hc _ (by omega));have e1:((len:Int)-1-k).toNat=len-1-k:=by omega
      obtain⟨fn,tmps,assign,body,hy,hR⟩:=hY k wr hlt hJs;have h1:(0:Int)≤(len:Int)-1-k:=by omega
      gi_wp2
      refine⟨fun h=>(by cases h),hR.mono ?_⟩;rintro e W3 ⟨rfl,hJ3,hk3⟩
      gi_wp2
      go_roundw
      case rel=>exact⟨k+1,by omega,by simp;omega,hJ3,hnx.trans hk3⟩
      case measure=>simp [intOf];omega
    · obtain rfl:k=len:=by omega
      gi_wp2
      go_end0
      exact⟨⟨_,rfl⟩,hJs,hnx⟩
set_option maxRecDepth 100000 in
set_option maxHeartbeats 4000000 in
theorem chunk1_in(n l Bs Bn b off len cap m N:Nat)(S:Nat→Prop)(hS1:S Bs)(hS2:S Bn)(hlen:len≤1000000)(hm:0<m)(hN:len=N*m)(hcap:len≤cap)(J:Nat→World→Prop)
    (hJd: ∀k W,J k W→J k W.drew) (hY: ∀k W,k<N→J k W→YieldAt Fence.wide (n-1) Tryz.prog l #[.slice (some ⟨b,off+k*m,none⟩) m m] W fun e W'=>e= .returned (.bool true)∧J (k+1) W'∧jC S W W')
    (W:World) (hBs:W.cell? ⟨Bs,0,none⟩=some (.slice (some ⟨b,off,none⟩) len cap)) (hBn:W.cell? ⟨Bn,0,none⟩=some (.int .i64 (m:Int))) (h0:J 0 W):
    CallsIn Fence.wide n Tryz.prog 227 #[.func (.yield l) #[] #[],.pointer (some ⟨Bs,0,none⟩),.pointer (some ⟨Bn,0,none⟩)] W fun e W'=>(∃v,e= .returned v)∧J N W'∧jC S W W':=by
  refine callsIn_of_wp Tryz.func227 rfl trivial ?_ rfl;simp only [Tryz.ntmps227,List.size_toArray,List.length_cons,List.length_nil,Nat.reduceAdd,Nat.reduceSub,Array.replicate_succ,Array.replicate_zero,List.push_toArray,List.append_toArray,List.nil_append,List.cons_append]
  gi_wp2
  gi_loopw [4] (fun i wr=> ∃k:Nat,k≤N∧i= .int .i64 ((k*m:Nat):Int)∧J k wr∧jC S W wr)
    (fun i _=>len-(intOf i).toNat)
  case atStart=>exact⟨0,Nat.zero_le _,by simp,h0,jC.refl _ _⟩
  case round=>
    obtain⟨k,hk,rfl,hJs,hnx⟩:=hrel;have hBs':=(hnx.cell (p:=⟨Bs,0,none⟩) hS1).trans hBs;have hBn':=(hnx.cell (p:=⟨Bn,0,none⟩) hS2).trans hBn
    by_cases hlt:k<N
    · have h1:(k+1)*m≤N*m:=Nat.mul_le_mul_right _ hlt;rw [Nat.add_mul,Nat.one_mul] at h1
      gi_wp2
      gi_region
      all_goals gi_wp2
      all_goals (try go_bits)
      have e2:((k:Int)*(m:Int)+min (m:Int) ((N*m-k*m:Nat):Int)).toNat-k*m=m:=by
        have e3:((k:Int)*(m:Int))=((k*m:Nat):Int):=by simp
        rw [e3];omega
      rw [e2];obtain⟨fn,tmps,assign,body,hy,hR⟩:=hY k wr.drew hlt (hJd k wr hJs);rw [hy];refine⟨fun h=>(by cases h),hR.mono ?_⟩;rintro e W3 ⟨rfl,hJ3,hk3⟩;have hnx3:jC S W W3:=hnx.trans (jC.trans (B:=wr.drew) (fun _ _=>rfl) hk3);have hBn3:=(hnx3.cell (p:=⟨Bn,0,none⟩) hS2).trans hBn
      gi_wp2
      go_roundw
      case rel=>exact⟨k+1,by omega,by simp [Nat.add_mul],hJ3,hnx3⟩
      case measure=>simp [intOf];omega
    · obtain rfl:k=N:=by omega
      gi_wp2
      go_end0
      exact⟨⟨_,rfl⟩,hJs,hnx⟩
end Go.Proofs.YtbgdphbebhjpiaaGreatDoor
namespace Go.Proofs.YtbgdphbebhjpiaaGreatDoor
open Go.RowKit
theorem rows_wide{n:Nat}{P:Program}{row:String}{args:Array Value}{w:World}{R:Value→World→Prop}(h:Rows P row args w R):RowsIn Fence.wide n P row args w R:=fun c cs _=>
  let ⟨v,w',r,s⟩:=h c cs
  ⟨v,w',r,stepsIn_wide.2 s⟩
def tF (o:Oper):Bool:=match o.op with
  | .defer _=>false
  | _=>true
theorem noDefer_ne{o:Oper}(h:tF o=true)(c:Call):o.op≠ .defer c:=fun e=>by simp [tF,e] at h
section
variable {P : Program} {o : Oper} {a : Act} {w : World} {Q : Exit → Act → World → Prop} {ops : Array Oper}
theorem op_round{l n:Nat}{next:Act→World→Prop}(hd:tF o=true)(h:o.wp P a w next Q):o.wpIn (Fence.wide.inRound l) n P a w next Q:=by
  refine⟨fun _ _=>trivial,?_⟩;rw [Oper.semAt_eq _ _ _ (noDefer_ne hd)];unfold Oper.wp at h;generalize (execOp a.eval o).run P w=r at h⊢
  cases r with
  | ok x w'=>
    cases x with
    | value v=>exact h
    | skip=>exact h
    | defer d=>exact h
    | enter f args=>exact⟨fun e=>(by cases e),CallsIn.inRound l (callsIn_wide.2 h)⟩
    | row r args=>exact⟨fun e=>(by cases e),rows_wide h⟩
    | _=>exact h.elim
  | halt e w'=>
    cases e with
    | panic v=>exact h
    | _=>exact h.elim
theorem vS{md:Region.Mode}{l n:Nat}(hQ: ¬LetsOut Q)(hd: ∀o∈ops,tF o=true): ∀(fuel:Nat) (listed:Array Bool) (a:Act) (w:World),wpAny P md ops Q fuel listed a w→wpAnyIn (Fence.wide.inRound l) n P md ops Q fuel listed a w
  | 0,_,_,_,h=>h
  | fuel+1,listed,a,w,h=>by
    refine⟨h.1,fun i hi=>?_⟩;have:=h.2 i hi;unfold wpOp at this;unfold wpOpIn
    cases ho:ops[i]? with
    | none=>
      rw [ho] at this;exact vS hQ hd fuel _ a w this
    | some o=>
      rw [ho] at this;simp only at this⊢;split at this
      · rename_i hw;rw [if_pos hw];exact Oper.wpIn_mono (fun a w=>vS hQ hd fuel _ a w) (op_round (hd o (Array.mem_of_getElem? ho)) (this.resolve_right fun h=>hQ h.2))
      · rename_i hw;rw [if_neg hw];exact⟨fun _ _=>trivial,vS hQ hd fuel _ _ w this⟩
theorem xF{l n:Nat}(hQ: ¬LetsOut Q): ∀(os:List Oper) (_: ∀o∈os,tF o=true) (a:Act) (w:World),wpList P ops Q os a w→wpListIn (Fence.wide.inRound l) n P ops Q os a w
  | [],_,_,_,h=>h
  | o::os,hd,a,w,h=>by
    unfold wpList at h;unfold wpListIn;split at h
    · rename_i hw;rw [if_pos hw];exact Oper.wpIn_mono (fun a w=>xF hQ os (fun x hx=>hd x (List.mem_cons_of_mem _ hx)) a w) (op_round (hd o (List.mem_cons_self ..)) (h.resolve_right fun h=>hQ h.2))
    · rename_i hw;rw [if_neg hw];exact⟨fun _ _=>trivial,xF hQ os (fun x hx=>hd x (List.mem_cons_of_mem _ hx)) _ w h⟩
end
section
variable {P : Program} {β : fE} {n : Nat} {Γ : Env} {H : List bU} {F : List Fact} {Q : Exit → Act → World → Prop} {K : Act → World → Prop}
theorem bGo{Fc:Fence}{m id:Nat}{c:Code}(h:At β n Γ H F (c.wpIn Fc m P (Exit.inBlock id Q))):At β n Γ H F ((Code.block id c).wpIn Fc m P Q):=fun a w S f s k=>wpIn_block (h a w S f s k)
theorem bAk{r m id:Nat}{l:List Oper}(hQ: ¬LetsOut Q)(hd:l.all tF=true)(h:At β n Γ H F (wpList P l.toArray Q l)):At β n Γ H F ((Code.region id l.toArray false).wpIn (Fence.wide.inRound r) m P Q):=fun a w S f s k=>
  wpIn_region_lit (xF hQ l (fun o ho=>List.all_eq_true.1 hd o ho) a w (h a w S f s k))
theorem in_mixL{r m id:Nat}{l:List Oper}(hQ: ¬LetsOut Q)(hd:l.all tF=true)(last:Nat)(Hk:List bU)(F0:List Fact)(od:List (Bool×Nat))(hm:P.follows .mixedOrders=true)(hB:mixLOk last od l.toArray=true)(hH:Sel H Hk)(hF:bF F F0)
    (h:At β n Γ H F (lU P l.toArray (StF β Hk F0) Q last od)):At β n Γ H F ((Code.region id l.toArray true).wpIn (Fence.wide.inRound r) m P Q):=fun a w S f s k=>by
  simp only [mixLOk,Bool.and_eq_true] at hB;have hw:=StF.drew ⟨S,s,k⟩;obtain⟨S',s',k'⟩:=hw;refine wpIn_region_any hm (vS hQ (fun o ho=>List.all_eq_true.1 hd o (by simpa using ho)) _ _ _ _ ?_);have h1:=sO (P:=P) (md:= .any) (C:=StF β Hk F0) (Q:=Q) hB.1.1 od (Array.replicate l.toArray.size false) a _ qU.none hB.2 (StF.sel hH hF ⟨S',s',k'⟩) (h a _ S' f s' k');have h2:=qL (Q:=Q) end_any _ _ _ _ h1
  rwa [Nat.eq_of_beq_eq_true hB.1.2] at h2
end
def IterC (P:Program)(gf:FuncId)(lb:List Value)(Pre:List Fact)(N:Nat)(encs:Nat→Array Value):Prop:=
  ∀(n l:Nat) (S:kD) (J:Nat→World→Prop) (W:World),All Pre S W→(∀k W,J k W→J k W.drew)→(∀k W,k<N→J k W→YieldAt Fence.wide (n-1) P l (encs k) W fun e W'=>e= .returned (.bool true)∧J (k+1) W'∧jC S W W')→J 0 W→
    CallsIn Fence.wide n P gf (#[.func (.yield l) #[] #[]]++lb.toArray) W fun e W'=>(∃v,e= .returned v)∧J N W'∧jC S W W'
theorem kept_putObj(w:World)(l:Nat)(o:Obj):mN (fun b=>b=l) w (w.putObj l o):=⟨rfl,rfl,rfl,by simp [World.putObj],fun _ _ hn=>World.putObj_heap_other hn⟩
def mkA (D:Nat)(a:Act):Act:={a with defers:=a.defers++[{target:= .collected D,args:= #[]}]}
def rZ {ι:Type}(β:fE)(Hs:ι→List bU)(Fs:ι→List Fact):Exit→Act→World→Prop
  | .normal,_,w=> ∃y S,St β (Hs y) S w∧All (Fs y) S w
  | _,_,_=>False
theorem tE{ι:Type}{β:fE}{Hs:ι→List bU}{Fs:ι→List Fact}: ¬LetsOut (rZ β Hs Fs):=fun⟨_,_,h⟩=>h
theorem bAr{id:Nat}{Q:Exit→Act→World→Prop}(h: ¬LetsOut Q): ¬LetsOut (Exit.inBlock id Q):=fun⟨a,w,k⟩=>h ⟨a,w,k⟩
section
variable {P : Program} {β : fE} {n : Nat} {Γ : Env} {H : List bU} {F : List Fact} {Q : Exit → Act → World → Prop}
theorem at_roundEnd{ι:Type}{Hs:ι→List bU}{Fs:ι→List Fact}(y:ι)(hH:Sel H (Hs y))(hF:bF F (Fs y)):At β n Γ H F (rZ β Hs Fs .normal):=fun _ w S _ s k=>⟨y,S,s.sel hH,hF.all S w k⟩
theorem St.drew{S:kD}{w:World}(s:St β H S w):St β H S w.drew:=⟨⟨s.kept.os,s.kept.tape,s.kept.output,s.kept.size,s.kept.block⟩,fun c hc=>bU.ok_of (s.ok c hc) fun _ _=>rfl,s.own,s.sep,s.zone⟩
theorem at_range{ι:Type}{g:Operand}{ps:Array Tmp}{assign body:Code}{gf:FuncId}{lb:List Value}{Pre:List Fact}{N:Nat}{encs:Nat→Array Value}{Hs:Nat→ι→List bU}{Fs:Nat→ι→List Fact}{H2:List bU}{Γp Γ1:Nat→Env}
    (hg:Γ.ev g=some (.func (.func gf) #[] lb.toArray)) (eg: ∀args w,(callFunc gf args).run P w= .ok (.enter gf args) w) (hit:IterC P gf lb Pre N encs) (hps: ∀k,(encs k).size=ps.size)
    (hfit: ∀k a,jW n Γ a→jW n (Γp k) {tmps:=(ps.zip (encs k)).foldl (fun t (p,v)=>t.setIfInBounds p v) a.tmps,defers:=[]})
    (x0:ι) (hH:mU H (Hs 0 x0) H2) (hF0:bF F (Fs 0 x0)) (hPre:bF F Pre)
    (hassign: ∀(k:Nat) (K:Act→World→Prop) (β':fE) (H':List bU) (F':List Fact) (l m:Nat),At β' n (Γ1 k) H' F' K→At β' n (Γp k) H' F' (assign.wpIn (Fence.wide.inRound l) m P (Exit.then K fun _ _ _=>False)))
    (hbody: ∀(β':fE) (l D:Nat) (r:Loop) (k:Nat) (x:ι) (m:Nat),k<N→
      At β' n (Γ1 k) (.obj l (.loop r):: .obj D (.deferred (some []))::(Hs k x++H2)) (Fs k x++F) (body.wpIn (Fence.wide.inRound l) m P (rZ β' (fun y=> .obj l (.loop r):: .obj D (.deferred (some []))::(Hs (k+1) y++H2)) fun y=>Fs (k+1) y++F)))
    (hk: ∀D x,At β n Γ (.obj D (.deferred (some []))::(Hs N x++H2)) (Fs N x++F) (fun a w=>Q .normal (mkA D a) w)):At β n Γ H F ((Code.rangeFunc g ps assign body).wp P Q):=fun a w S f s k=>by
  refine(wpIn_wide (n:=2)).1 (wpIn_rangeFunc fun fn hfn=>?_)
  obtain⟨rec,hrec⟩: ∃rec:LoopState→Option Code→Loop,rec=fun st pe=>{state:=st,pending:=pe,fn,tmps:=a.tmps,params:=ps,assign,body,defers:=w.heap.size}:=⟨_,rfl⟩
  have sp:St β (Hs 0 x0++H2) S w:=s.perm hH.perm;have sA:=sp.alloc (.deferred (some []));have kA:All F S (w.alloc (.deferred (some []))):=All.alloc sp k _;have sB:=sA.alloc (.loop (rec .ready none));have kB:All F S ((w.alloc (.deferred (some []))).alloc (.loop (rec .ready none))):=All.alloc sA kA _;have hsz:(w.alloc (.deferred (some []))).heap.size=w.heap.size+1:=by simp
  rw [hsz] at sB
  obtain⟨W1,hW1⟩: ∃W1,W1=(w.alloc (.deferred (some []))).alloc (.loop (rec .ready none)):=⟨_,rfl⟩
  rw [←hW1] at sB kB
  refine⟨w.heap.size+1,[{target:= .collected w.heap.size,args:= #[]}],W1,{target:= .fn (.func gf) lb.toArray,args:= #[.func (.yield (w.heap.size+1)) #[] #[]]},W1,gf,#[.func (.yield (w.heap.size+1)) #[] #[]]++lb.toArray,W1,
    by rw [hW1,hrec];exact run_enterLoop_outer _ _ _ _ _,?_,fun _ _=>trivial,?_,fun h=>(by cases h),?_⟩
  · have hev:=f.ev hg;simp only [resolve,hev];simp [go_sem]
  · simp [invoke,go_sem,eg]
  · refine(hit _ (w.heap.size+1) S (fun k W=> ∃x S',(∀b,S b→S' b)∧St β (.obj (w.heap.size+1) (.loop (rec .ready none)):: .obj w.heap.size (.deferred (some []))::(Hs k x++H2)) S' W∧All (Fs k x++F) S' W) _
      (hPre.all S _ kB) (fun k W ⟨x,S',h1,h2,h3⟩=>⟨x,S',h1,h2.drew,All.mono (w:=W) (w':=W.drew) (fun _ h=>h) (fun _ _=>rfl) h3⟩) ?_ ⟨x0,S,fun _ h=>h,sB,(hF0.all S _ kB).append kB⟩).mono ?_
    · rintro k W hkN ⟨x,S',hSS,sW,kW⟩;have hl:W.heap[w.heap.size+1]?=some (.loop (rec .ready none)):=sW.ok _ (List.mem_cons_self ..);refine⟨fn,_,assign,body,(run_yield hl (by rw [hrec];exact hps k)).trans (by rw [hrec]),roundIn_of_wpIn hfn ?_⟩;have sW':St β ((.obj (w.heap.size+1) (.loop (rec .ready none)):: .obj w.heap.size (.deferred (some []))::(Hs k x++H2))++[]) S' W:=by rw [List.append_nil];exact sW
      refine hassign k _ _ _ _ _ _ ?_ _ W S' (hfit k a f) sW'.enter kW;intro a1 w1 S1 f1 s1 k1;have hl1:w1.heap[w.heap.size+1]?=some (.loop (rec .ready none)):=s1.ok _ (List.mem_cons_self ..);have hlt1:w.heap.size+1<w1.heap.size:=(Array.getElem?_eq_some_iff.1 hl1).1;refine⟨_,run_beginRound hl1 (by rw [hrec]),?_⟩;have s2:=s1.swap (c':= .obj (w.heap.size+1) (.loop {rec .ready none with state:= .busy})) (kept_putObj w1 (w.heap.size+1) (.loop {rec .ready none with state:= .busy})) rfl rfl (World.putObj_heap_same hlt1);have k2:All (Fs k x++F) S1 (w1.putObj (w.heap.size+1) (.loop {rec .ready none with state:= .busy})):=All.mono (fun _ h=>h) (s1.agree (kept_putObj _ _ _) (fun c hc e=>by subst e;exact(s1.own _ (List.mem_cons_self ..) _ rfl).2.2 hc)) k1;refine wpIn_mono (hbody _ _ _ _ k x _ hkN a1 _ S1 f1 s2 k2) ?_;rintro e a3 w3 hp
      cases e with
      | normal=>
        obtain⟨y,S3,s3,k3⟩:=hp;have hl3:w3.heap[w.heap.size+1]?=some (.loop {rec .ready none with state:= .busy}):=s3.ok _ (List.mem_cons_self ..);have hlt3:w.heap.size+1<w3.heap.size:=(Array.getElem?_eq_some_iff.1 hl3).1;have s4:=s3.swap (c':= .obj (w.heap.size+1) (.loop (rec .ready none))) (kept_putObj w3 (w.heap.size+1) (.loop (rec .ready none))) rfl rfl (World.putObj_heap_same hlt3);have k4:All (Fs (k+1) y++F) S3 (w3.putObj (w.heap.size+1) (.loop (rec .ready none))):=All.mono (fun _ h=>h) (s3.agree (kept_putObj _ _ _) (fun c hc e=>by subst e;exact(s3.own _ (List.mem_cons_self ..) _ rfl).2.2 hc)) k3;have hend:=run_endRound (P:=P) none hl3;have e1:({{rec .ready none with state:= .busy} with state:=if (none:Option Code).isNone then .ready else .done,pending:=none}:Loop)=rec .ready none:=by rw [hrec];rfl
        rw [e1] at hend;have s5:=sW'.leave s4;rw [List.append_nil] at s5;refine⟨_,_,hend,rfl,⟨y,_,fun b hb=> .inl (hSS b hb),s5,All.mono (fun _ h=> .inr h) (fun _ _=>rfl) k4⟩,fun b hb=>?_⟩;have hz:=sW.zone b (hSS b hb);exact s4.kept.block b hz.1 fun⟨c,hc,hcb⟩=>(sW.own c hc b hcb).2.2 (hSS b hb)
      | ret=>exact hp.elim
      | exit _=>exact hp.elim
      | goto _=>exact hp.elim
      | panic _=>exact hp.elim
      | outgrown=>exact hp.elim
    · rintro e W2 ⟨⟨v,rfl⟩,⟨x,S2,hSS,s2,k2⟩,_⟩;have hl2:W2.heap[w.heap.size+1]?=some (.loop (rec .ready none)):=s2.ok _ (List.mem_cons_self ..);have hlt2:w.heap.size+1<W2.heap.size:=(Array.getElem?_eq_some_iff.1 hl2).1;have hend:=run_endLoop (P:=P) hl2 (by rw [hrec];simp);have s3:=s2.swap (c':= .obj (w.heap.size+1) (.loop {rec .ready none with state:= .exhausted})) (kept_putObj W2 (w.heap.size+1) (.loop {rec .ready none with state:= .exhausted})) rfl rfl (World.putObj_heap_same hlt2);have k3:All (Fs N x++F) S2 (W2.putObj (w.heap.size+1) (.loop {rec .ready none with state:= .exhausted})):=All.mono (fun _ h=>h) (s2.agree (kept_putObj _ _ _) (fun c hc e=>by subst e;exact(s2.own _ (List.mem_cons_self ..) _ rfl).2.2 hc)) k2;refine⟨none,_,by rw [hend,hrec],?_⟩;have:=hk w.heap.size x a _ S2 f s3.tail k3;unfold mkA at this;rw [hrec,f.defers] at this;rw [f.defers];exact this
end
end Go.Proofs.YtbgdphbebhjpiaaGreatDoor
namespace Go.Proofs.YtbgdphbebhjpiaaGreatDoor
open Go.RowKit
def Mk (D:Nat)(K:Act→World→Prop)(a:Act)(w:World):Prop:=K (mkA D a) w
def MkQ (D:Nat)(Q:Exit→Act→World→Prop)(e:Exit)(a:Act)(w:World):Prop:=Q e (mkA D a) w
theorem mkA_put(D:Nat)(a:Act)(d:Option Tmp)(v:Value):(mkA D a).put d v=mkA D (a.put d v):=by cases d<;>rfl
theorem out_mark{D:Nat}{Q:Exit→Act→World→Prop}(h:LetsOut (MkQ D Q)):LetsOut Q:=let ⟨a,w,k⟩:=h;⟨mkA D a,w,k⟩
section
variable {P : Program} {o : Oper} {a : Act} {w : World} {Q : Exit → Act → World → Prop} {ops : Array Oper} {D : Nat}
theorem op_mark{next:Act→World→Prop}(h:o.wp P a w (Mk D next) (MkQ D Q)):o.wp P (mkA D a) w next Q:=by
  unfold Oper.wp at h⊢;have he:(mkA D a).eval=a.eval:=rfl;rw [he];generalize (execOp a.eval o).run P w=r at h⊢
  cases r with
  | ok x w'=>
    cases x with
    | value v=>rw [Oper.upon_value,mkA_put];exact h
    | skip=>rw [Oper.upon_skip,mkA_put];exact h
    | defer d=>rw [Oper.upon_defer];rw [Oper.upon_defer] at h;unfold Mk at h;rw [←mkA_put] at h;exact h
    | enter f args=>
      rw [Oper.upon_enter];rw [Oper.upon_enter] at h;refine h.mono fun e w' k=>?_
      cases e with
      | returned v=>simp only at k⊢;unfold Mk at k;rw [mkA_put];exact k
      | panicked c=>exact k
      | outgrown=>exact out_mark k
    | row r args=>
      rw [Oper.upon_row];rw [Oper.upon_row] at h;exact fun c cs=>let ⟨v,w',r,s⟩:=h c cs;⟨v,w',by have r':=r;unfold Mk at r';simp only at r'⊢;rw [mkA_put];exact r',s⟩
    | _=>exact h.elim
  | halt e w'=>
    cases e with
    | panic v=>exact h
    | _=>exact h.elim
theorem bAi: ∀(os:List Oper) (a:Act) (w:World),wpList P ops (MkQ D Q) os a w→wpList P ops Q os (mkA D a) w
  | [],_,_,h=>h
  | o::os,a,w,h=>by
    unfold wpList at h⊢;have ht:(mkA D a).tmps=a.tmps:=rfl;rw [ht];split at h
    · rename_i hw;rw [if_pos hw]
      rcases h with h | ⟨h1,h2⟩
      · exact .inl (op_mark (Oper.wp_mono (fun a w k=>bAi os a w k) h))
      · exact .inr ⟨h1,out_mark h2⟩
    · rename_i hw;rw [if_neg hw,mkA_put];exact bAi os _ w h
end
section
variable {P : Program} {β : fE} {n : Nat} {Γ : Env} {H : List bU} {F : List Fact} {Q : Exit → Act → World → Prop} {K : Act → World → Prop} {D : Nat}
theorem m_block{id:Nat}(h:At β n Γ H F (Mk D (Q .normal))):At β n Γ H F (Mk D (Exit.inBlock id Q .normal)):=h
theorem bAb(h:At β n Γ H F (Mk D K)):At β n Γ H F (Mk D (Exit.then K Q .normal)):=h
theorem m_seq{x y:Code}(h:At β n Γ H F (Mk D (x.wp P (Exit.then (y.wp P Q) Q)))):At β n Γ H F (Mk D ((Code.seq x y).wp P Q)):=fun a w S f s k=>wp_seq (h a w S f s k)
theorem m_ret(h:At β n Γ H F (Mk D (Q .ret))):At β n Γ H F (Mk D (Code.ret.wp P Q)):=fun a w S f s k=>wp_ret (h a w S f s k)
theorem bGn{id:Nat}{l:List Oper}(h:At β n Γ H F (wpList P l.toArray (MkQ D Q) l)):At β n Γ H F (Mk D ((Code.region id l.toArray false).wp P Q)):=fun a w S f s k=>wp_region_lit (bAi l a w (h a w S f s k))
theorem m_nil{ops:Array Oper}(h:At β n Γ H F (Mk D (Q .normal))):At β n Γ H F (wpList P ops (MkQ D Q) []):=h
end
section
variable {P : Program} {β : fE} {n : Nat} {Γ : Env} {H H' : List bU} {F : List Fact}
theorem fitsA1{p:Nat}{v:Value}{a:Act}(h:Nat.blt p n=true)(f:jW n Γ a):jW n ((p,v)::Γ) {tmps:=(#[p].zip #[v]).foldl (fun t (p,v)=>t.setIfInBounds p v) a.tmps,defers:=[]}:=by
  have:=f.put (by simpa [Nat.blt_eq] using h) v
  simpa [Act.put,f.defers] using this
theorem fits2{p q:Nat}{v u:Value}{a:Act}(h:Nat.blt p n=true)(k:Nat.blt q n=true)(f:jW n Γ a):jW n ((q,u)::(p,v)::Γ) {tmps:=(#[p,q].zip #[v,u]).foldl (fun t (p,v)=>t.setIfInBounds p v) a.tmps,defers:=[]}:=by
  have:=(f.put (by simpa [Nat.blt_eq] using h) v).put (by simpa [Nat.blt_eq] using k) u
  simpa [Act.put,f.defers] using this
theorem bIz{Q:Exit→Act→World→Prop}(ι:Type)(γp γ1:Nat→Env)(N:Nat)(Hs:Nat→ι→List bU)(Fs:Nat→ι→List Fact){g:Operand}{ps:Array Tmp}{assign body:Code}{gf:FuncId}{lb:List Value}{Pre:List Fact}{encs:Nat→Array Value}{H2:List bU}(x0:ι)
    (hit:IterC P gf lb Pre N encs) (hg:Γ.ev g=some (.func (.func gf) #[] lb.toArray)) (eg: ∀args w,(callFunc gf args).run P w= .ok (.enter gf args) w) (hps: ∀k,(encs k).size=ps.size)
    (hfit: ∀k a,jW n Γ a→jW n (γp k++Γ) {tmps:=(ps.zip (encs k)).foldl (fun t (p,v)=>t.setIfInBounds p v) a.tmps,defers:=[]})
    (hH:mU H (Hs 0 x0) H2) (hF0:bF F (Fs 0 x0)) (hPre:bF F Pre)
    (hassign: ∀(k:Nat) (K:Act→World→Prop) (β':fE) (H':List bU) (F':List Fact) (l m:Nat),At β' n (γ1 k++Γ) H' F' K→At β' n (γp k++Γ) H' F' (assign.wpIn (Fence.wide.inRound l) m P (Exit.then K fun _ _ _=>False)))
    (hbody: ∀(β':fE) (l D:Nat) (r:Loop) (k:Nat) (x:ι) (m:Nat),k<N→
      At β' n (γ1 k++Γ) (.obj l (.loop r):: .obj D (.deferred (some []))::(Hs k x++H2)) (Fs k x++F) (body.wpIn (Fence.wide.inRound l) m P (rZ β' (fun y=> .obj l (.loop r):: .obj D (.deferred (some []))::(Hs (k+1) y++H2)) fun y=>Fs (k+1) y++F)))
    (hk: ∀D x,At β n Γ (.obj D (.deferred (some []))::(Hs N x++H2)) (Fs N x++F) (Mk D (Q .normal))):At β n Γ H F ((Code.rangeFunc g ps assign body).wp P Q):=
  at_range (Γp:=fun k=>γp k++Γ) (Γ1:=fun k=>γ1 k++Γ) hg eg hit hps hfit x0 hH hF0 hPre hassign hbody hk
variable {fn : Func} {R : Ending → World → Prop}
theorem rU(h:At β n Γ H F (bodyPost P fn R .ret)):At β n Γ H F (bodyPostM Fence.wide 0 P fn R .ret):=fun a w S f s k=>by
  obtain⟨hd,v,hv⟩:=h a w S f s k;show LeavesInM Fence.wide 0 P fn a.tmps R a.defers .returning w;rw [hd];exact⟨v,hv⟩
theorem bGd{D:Nat}(hD:dL H (.obj D (.deferred (some []))) H')(h:At β n Γ H' F (bodyPost P fn R .ret)):At β n Γ H F (Mk D (bodyPostM Fence.wide 0 P fn R .ret)):=fun a w S f s k=>by
  have s1:=s.perm hD.perm;have hl:w.heap[D]?=some (.deferred (some [])):=s1.ok _ (List.mem_cons_self ..);have hlt:D<w.heap.size:=(Array.getElem?_eq_some_iff.1 hl).1;have s2:=s1.swap (c':= .obj D (.deferred none)) (kept_putObj w D (.deferred none)) rfl rfl (World.putObj_heap_same hlt);have k2:All F S (w.putObj D (.deferred none)):=All.mono (fun _ h=>h) (s1.agree (kept_putObj _ _ _) (fun c hc e=>by subst e;exact(s1.own _ (List.mem_cons_self ..) _ rfl).2.2 hc)) k;obtain⟨hd,v,hv⟩:=h a _ S f s2.tail k2;show LeavesInM Fence.wide 0 P fn a.tmps R (a.defers++[{target:= .collected D,args:= #[]}]) .returning w;rw [hd];exact⟨by simp,.inl ⟨D,_,rfl,run_takeDeferred hl,v,hv⟩⟩
theorem bGs{ι:Type}{f:FuncId}{c:Code}{args:List Value}{Hin:List bU}{Pre:List Fact}{val:ι→Value}{Hout:ι→List bU}{post:ι→List Fact}(hf:P.funcs[f]?=some fn)(hb:fn.body=some c)(hn:fn.ntmps=n)
    (hl:Nat.ble args.length n=true) (h: ∀β,β.M=tZ Hin→At β n (bKi 0 args) Hin Pre (c.wp P (bodyPostM Fence.wide 0 P fn (Done β val Hout post)))):dG P f args Hin Pre val Hout post:=fun S w s k=>by
  refine callsIn_wide.1 (callsIn_of_wp_marks (F:=Fence.wide) (n:=0) hf hb trivial (wpIn_wide.2 (h ⟨w,tZ Hin,S⟩ rfl _ w S ⟨rfl,?_,fun i v hi=>?_⟩ s k)) rfl)
  · have:=Nat.le_of_ble_eq_true hl;simp;omega
  · obtain⟨_,h2⟩:=zU 0 args i v hi;simp only [Nat.sub_zero] at h2;have hlt:i<args.length:=(List.getElem?_eq_some_iff.1 h2).1;simp only [Array.getElem?_append];rw [if_pos (by simpa using hlt)]
    simpa using h2
end
end Go.Proofs.YtbgdphbebhjpiaaGreatDoor
namespace Go.Proofs.YtbgdphbebhjpiaaGreatDoor
open Go.RowKit
theorem back_it(Bs:Nat)(A:Option Addr)(cap:Nat)(zs:List Int)(hlen:zs.length≤1000000):IterC Tryz.prog 261 [.pointer (some ⟨Bs,0,none⟩)] [Fact.cells Bs 0 [.slice A zs.length cap],cT.sl (.slice A zs.length cap) zs] zs.length
    (fun k=> #[.int .i64 ((zs.length-1-k:Nat):Int),.int .i64 (zs[zs.length-1-k]?.getD 0)]):=by
  intro n l S J W hPre hJd hY0 h0
  have hY: ∀k W,k<zs.length→J k W→YieldAt Fence.wide (n-1) Tryz.prog l #[.int .i64 ((zs.length:Int)-1-k),.int .i64 (zs[zs.length-1-k]?.getD 0)] W fun e W'=>e= .returned (.bool true)∧J (k+1) W'∧jC S W W':=fun k W hk hj=>by
    have e:((zs.length:Int)-1-k)=((zs.length-1-k:Nat):Int):=by omega
    rw [e];exact hY0 k W hk hj
  obtain⟨hS1,hBs⟩:=hPre _ (List.mem_cons_self ..);obtain⟨A',cap',e,hd⟩:=hPre (cT.sl (.slice A zs.length cap) zs) (by simp);injection e with e1 e2 e3
  subst e1;have hB:=hBs 0 _ rfl;rw [Nat.add_zero] at hB
  cases hz:zs with
  | nil=>
    subst hz;exact back1_in n l Bs 0 0 0 cap A (fun h=>absurd h (Nat.lt_irrefl _)) [] S hS1 (fun h=>absurd h (Nat.lt_irrefl _)) (by omega) J hY W hB (fun j h=>absurd h (Nat.not_lt_zero _)) h0
  | cons z r=>
    obtain⟨b,o,cs,e1,e2,e3,e4⟩:=hd 0 z (by rw [hz];rfl);rw [←hz];refine back1_in n l Bs b o zs.length cap A (fun _=>e1) zs S hS1 (fun _=>e2) hlen J hY W hB (fun j hj=>?_) h0;obtain⟨b',o',cs',e1',e2',e3',e4'⟩:=hd j _ (List.getElem?_eq_getElem hj);rw [e1] at e1';injection e1' with e1'
    injection e1' with h1 h2
    subst h1 h2;have e4:cs'=[.int .i64 zs[j]]:=e4';have:=e3' 0 (.int .i64 zs[j]) (by rw [e4];rfl);rw [List.getElem?_eq_getElem hj]
    simpa [cT,Enc.flat] using this
theorem chunk_it(Bs Bn b off cap m N:Nat)(zs:List Int)(hlen:zs.length≤1000000)(hm:0<m)(hN:zs.length=N*m)(hcap:zs.length≤cap):IterC Tryz.prog 227 [.pointer (some ⟨Bs,0,none⟩),.pointer (some ⟨Bn,0,none⟩)] [Fact.cells Bs 0 [.slice (some ⟨b,off,none⟩) zs.length cap],Fact.cells Bn 0 [.int .i64 (m:Int)]] N
    (fun k=> #[.slice (some ⟨b,off+k*m,none⟩) m m]):=by
  intro n l S J W hPre hJd hY h0;obtain⟨hS1,hBs⟩:=hPre _ (List.mem_cons_self ..);obtain⟨hS2,hBn⟩:=hPre (Fact.cells Bn 0 [.int .i64 (m:Int)]) (by simp);have hB:=hBs 0 _ rfl;have hC:=hBn 0 _ rfl;rw [Nat.add_zero] at hB hC;exact chunk1_in n l Bs Bn b off zs.length cap m N S hS1 hS2 hlen hm hN hcap J hJd hY W hB hC h0
theorem bHj(A:Option Addr)(c:Nat)(l:List Int):dG Tryz.prog 228 [.slice A l.length c] [] [cT.sl (.slice A l.length c) l] (fun b:Nat=> .func (.func 261) #[] #[.pointer (some ⟨b,0,none⟩)]) (fun _=>[]) (fun b=>[Fact.cells b 0 [.slice A l.length c]]):=by
  have hT:=dA;refine cQ Tryz.func228 rfl Tryz.ntmps228 rfl ?_;intro β hM;refine sr<|fH (cs:=[.slice A l.length c]) rfl rfl rfl rfl rfl rfl fun b=>?_;refine iH .head ?_;refine sp hT ?_;refine nn<|sr<|sp2 hT ?_;refine nn<|bG ?_;exact bQ b rfl (bD rfl) .nil ⟨Has.of mT0,trivial⟩ rfl
theorem bFr(A:Option Addr)(c m:Nat)(l:List Int)(hm:0<m):dG Tryz.prog 173 [.slice A l.length c,.int .i64 (m:Int)] [] [cT.sl (.slice A l.length c) l] (fun b:Nat×Nat=> .func (.func 227) #[] #[.pointer (some ⟨b.1,0,none⟩),.pointer (some ⟨b.2,0,none⟩)]) (fun _=>[]) (fun b=>[Fact.cells b.1 0 [.slice A l.length c],Fact.cells b.2 0 [.int .i64 (m:Int)]]):=by
  have hT:=dA;refine cQ Tryz.func173 rfl Tryz.ntmps173 rfl ?_;intro β hM;refine sr<|fH (cs:=[.slice A l.length c]) rfl rfl rfl rfl rfl rfl fun b1=>?_;refine iH .head ?_;refine fH (cs:=[.int .i64 (m:Int)]) rfl rfl rfl rfl rfl rfl fun b2=>?_;refine iH .head ?_;refine sp hT ?_;refine nn<|bA<|sr<|ss (bZ hT (iB (Has.of mT0)) rfl rfl rfl rfl rfl) ?_;refine sp hT ?_;refine nn<|cN rfl (by simp;omega) ?_;refine bK<|bB<|sr<|sp2 hT ?_;refine nn<|bG ?_;exact bQ (b1,b2) rfl (bD rfl) .nil ⟨Has.of mT1,Has.of mT0,trivial⟩ rfl
end Go.Proofs.YtbgdphbebhjpiaaGreatDoor
namespace Go.Proofs.YtbgdphbebhjpiaaGreatDoor
open Go.RowKit
theorem bBx: ∀(vs xs pre:List Value),xs.length=vs.length→oO (pre++xs) pre.length vs=pre++vs
  | [],xs,pre,h=>by
    have:xs=[]:=List.length_eq_zero_iff.1 h;subst this;rfl
  | v::r,[],pre,h=>by simp at h
  | v::r,x::xs,pre,h=>by
    have e:(pre++x::xs).set pre.length v=(pre++[v])++xs:=by simp
    have e2:pre.length+1=(pre++[v]).length:=by simp
    unfold oO;rw [e,e2,bBx r xs (pre++[v]) (by simpa using h)];simp
theorem bHg(vs xs:List Value)(h:xs.length=vs.length):oO xs 0 vs=vs:=bBx vs xs [] h
section
variable {P : Program} {β : fE} {n : Nat} {Γ : Env} {H : List bU} {F : List Fact} {Q : Exit → Act → World → Prop}
theorem at_copyInts{ops:Array Oper}{rest:List Oper}{o:Oper}{d:Nat}{x y:Operand}{t e t':TypeId}{g c cap m q:Nat}{A:Option Addr}{xs ys:List Int}{H':List bU}(hr:cR β H F cT A ys)(hw:want ops Γ o=some true)
    (ho:o.op= .call {callee:= .builtin .copy,args:= #[x,y],argTypes:= #[t,t]}) (hd:o.dst=some d) (hn:Nat.blt d n=true) (hu:P.underlying t=some (.slice e)) (hs:(P.info? e).map (·.size)=some 1)
    (hx:Γ.ev x=some (.slice (some ⟨g,0,none⟩) m cap)) (hm:xs.length=m) (hy:Γ.ev y=some (.slice A q c)) (hq:q=ys.length) (hqm:ys.length=m) (hH:dL H (cT.row (.slice (some ⟨g,0,none⟩) m cap) t' xs) H')
    (k:At β n ((d,.int .i64 (m:Nat))::Γ) (cT.row (.slice (some ⟨g,0,none⟩) m cap) t' ys::H') F (wpList P ops Q rest)):At β n Γ H F (wpList P ops Q (o::rest)):=
  hX hw fun a w S f s hk=>by
    subst hq;have hl:(cT.all ys).length=m:=by rw [cT.all_length,hqm];show m*1=m;omega
    have hlx:(cT.all xs).length=m:=by rw [cT.all_length,hm];show m*1=m;omega
    have s2:=s.perm hH.perm;have hown:w.ownsRow 0 t' 1 (.slice (some ⟨g,0,none⟩) m cap) xs.length (cT.all xs):=s.ok _ hH.mem;rw [hm] at hown
    have hth:w.there g 0 (cT.all ys).length:=fun j hj=>by
      refine⟨?_,World.ownsRow.frozenAt hown _⟩;rw [World.ownsRow.cellAt hown _ (by omega),List.getElem?_eq_getElem (by rw [hlx];omega)];rfl
    have hcp:(Builtin.copy_ #[t,t] o.type #[.slice (some ⟨g,0,none⟩) m cap,.slice A ys.length c]).run P w= .ok (goInt m) (w.setCells g 0 (cT.all ys)):=by
      by_cases h0:0<ys.length
      · obtain⟨b,off,rfl,hb⟩:=hr.cells s hk h0;have:=run_copy_cells (P:=P) w t t o.type e g 0 m cap ⟨b,off,none⟩ ys.length c (cT.all ys) hu hs (by rw [hl,hqm];exact(Nat.min_self m).symm) hb (fun j hj=>(hth j hj).1) (fun j hj=>(hth j hj).2) cT.all_one
        rwa [hl] at this
      · have e0:ys=[]:=List.length_eq_zero_iff.1 (by omega);subst e0;have h0m:m=0:=by simpa using hqm.symm
        subst h0m;exact run_copy_none (P:=P) w t t o.type e _ A 0 cap 0 c hu hs rfl
    have hr':(execOp a.eval o).run P w= .ok (.value (.int .i64 (m:Nat))) (w.setCells g 0 (cT.all ys)):=by
      unfold execOp;simp only [ho,resolve,invoke,builtin,Sem.run_bind,Sem.run_pure,Result.andThen_ok,List.map_toArray,List.map_cons,List.map_nil,f.ev hx,f.ev hy,hcp];rfl
    unfold Oper.wp;rw [hr',Oper.upon_value,hd];refine k _ _ S (f.put (by simpa [Nat.blt_eq] using hn) _) (s2.swap (mB g _ 0 w) rfl rfl ?_) (All.mono (fun _ h=>h) (s.agree (mB g _ 0 w) (fun c hc e=>by subst e;exact(s2.own _ (List.mem_cons_self ..) _ rfl).2.2 hc)) hk);have:=qD (cT.all ys) 0 w (cT.all xs) hown;rw [bHg _ _ (by rw [hl,hlx])] at this;show World.ownsRow _ 0 t' 1 _ ys.length (cT.all ys);rw [hqm];exact this
end
end Go.Proofs.YtbgdphbebhjpiaaGreatDoor
namespace Go.Proofs.YtbgdphbebhjpiaaGreatDoor
open Go.RowKit
theorem xU: ∃i:TypeInfo,Tryz.prog.info? 2=some i∧i.zero=some (.int .i64 0)∧i.size=1∧i.bytes=8:=by
  have h:(Tryz.prog.info? 2).map (fun i=>(i.zero,i.size,i.bytes))=some (some (.int .i64 0),1,8):=by kernel_rfl
  cases hi:Tryz.prog.info? 2 with
  | none=>simp [hi] at h
  | some i=>simp [hi] at h;exact⟨i,rfl,h.1,h.2.1,h.2.2⟩
theorem pD{β:fE}{n:Nat}{Γ:Env}{H:List bU}{F:List Fact}{Q:Exit→Act→World→Prop}{ops:Array Oper}{rest:List Oper}{o:Oper}{d m:Nat}{x y:Operand}(hw:want ops Γ o=some true)(ho:o.op= .makeSlice 30 x y)(hd:o.dst=some d)(hn:Nat.blt d n=true)
    (hx:Γ.ev x=some (.int .i64 (m:Nat))) (hy:Γ.ev y=some (.int .i64 (m:Nat))) (hm:m≤35184372088832)
    (k: ∀b,At β n ((d,.slice (some ⟨b,0,none⟩) m m)::Γ) (cT.row (.slice (some ⟨b,0,none⟩) m m) 2 (List.replicate m 0)::H) F (wpList Tryz.prog ops Q rest)):At β n Γ H F (wpList Tryz.prog ops Q (o::rest)):=by
  obtain⟨i,hi,hz,hs,hb⟩:=xU;exact at_make (E:=cT) hw ho hd hn hx hy Tryz.underlying30 hi hz hs (by rw [hb];omega) (by simp [maxLen];omega) (madeInts m) (by simp) k
theorem zeroInts:(Tryz.prog.info? 30).bind (·.zero)=some (.slice none 0 0):=by kernel_rfl
theorem i64size:(Tryz.prog.info? 2).map (·.size)=some 1:=by
  obtain⟨i,hi,_,hs,_⟩:=xU;rw [hi,Option.map_some,hs]
theorem index_bad{s:List Int}{p:Int}(h:(dT s).2≠0):iL s p=([],(dT s).2):=by
  unfold iL;rw [if_pos h]
theorem bKc{s:List Int}{p:Int}(h:(dT s).2=0)(k:p<0∨(dT s).1≤p):iL s p=([],62):=by
  unfold iL;rw [if_neg (by simp [h]),if_pos k]
theorem index_ok{s:List Int}{p:Int}(h:(dT s).2=0)(k: ¬(p<0∨(dT s).1≤p)):iL s p=((mK s.reverse p).reverse,0):=by
  unfold iL;rw [if_neg (by simp [h]),if_neg k]
theorem size_four{s:List Int}(h:(dT s).2=0):s.length≤4:=by
  unfold dT at h;split at h
  · simp at h
  · rename_i hh;omega
theorem size_nz{s:List Int}{p:Int}(h:(dT s).2=0)(k: ¬(p<0∨(dT s).1≤p)){j:Nat}{x:Int}(hx:s[j]?=some x):x≠0:=fun e=>by
  subst e;have hm:s.contains 0=true:=by simpa using List.mem_of_getElem? hx
  unfold dT at k h;split at h
  · simp at h
  · rename_i hh;rw [if_neg hh,if_pos hm] at k;simp only at k;omega
theorem index_step{s cur R:List Int}{p x:Int}{k:Nat}(hk:k<s.length)(hx:s[s.length-1-k]?=some x)(hc:cur.length=s.length)(h:R=(mK (s.take (s.length-k)).reverse p).reverse++cur.drop (s.length-k)):
    R=(mK (s.take (s.length-(k+1))).reverse (w64 (p.tdiv x))).reverse++(cur.set (s.length-1-k) (p.tmod x)).drop (s.length-(k+1)):=by
  obtain⟨j,hj⟩: ∃j,j=s.length-1-k:=⟨_,rfl⟩
  have e1:s.length-k=j+1:=by omega
  have e2:s.length-(k+1)=j:=by omega
  rw [←hj] at hx⊢;rw [e1] at h;rw [e2];have hjl:j<cur.length:=by omega
  have h3:(cur.set j (p.tmod x)).drop j=p.tmod x::cur.drop (j+1):=by
    rw [List.drop_eq_getElem_cons (by simpa using hjl)];simp [List.drop_set_of_lt]
  have h4:s.take (j+1)=s.take j++[x]:=by rw [List.take_add_one,hx];rfl
  rw [h,h3,h4];simp [mK]
theorem index_end{s cur R:List Int}{p:Int}(h:R=(mK (s.take (s.length-s.length)).reverse p).reverse++cur.drop (s.length-s.length)):R=cur:=by
  simpa [mK] using h
set_option maxRecDepth 100000 in
theorem indexA_spec(A:Option Addr)(c:Nat)(sides:List Int)(hs:sides.length≤140737488355328)(place:Int):dG Tryz.prog 175 [.slice A sides.length c,.int .i64 place] [] [cT.sl (.slice A sides.length c) sides] (fun(x:Option Addr×Nat)=> .tuple #[.slice x.1 (iL sides place).1.length x.2,.int .i64 (iL sides place).2]) (fun(x:Option Addr×Nat)=>[cT.row (.slice x.1 (iL sides place).1.length x.2) 2 (iL sides place).1]) (fun _=>[]):=by
  have hT:=dA;generalize hR:iL sides place=r;refine bGs Tryz.func175 rfl Tryz.ntmps175 rfl ?_;intro β hM;refine sr<|fH rfl rfl rfl rfl rfl rfl fun b1=>?_;refine fH rfl rfl rfl rfl rfl rfl fun b2=>?_;refine sp2 hT ?_;refine nn<|sr<|ss (ldO hT (bM kT1)) ?_;refine bO Tryz.func36 (kK _ _ _ (by omega)) rfl rfl .nil ⟨Has.of mT0,trivial⟩ fun _=>?_;refine sp4 hT ?_;refine sp hT ?_;refine nn<|bA<|sr<|sp2 hT ?_;refine nn<|bH rfl (fun hc16=>?_) (fun hc16=>?_)
  · have hc16:=bne_iff_ne.1 hc16;refine sr<|sp3 hT ?_;refine nn<|bG<|bC ?_;have hr:=hR.symm.trans (index_bad (by assumption));subst hr;refine dK (t:=2) cT ?_;refine rU ?_;exact bL (none,0) rfl (bD rfl) (bD rfl) (.cons .head .nil) trivial rfl
  have hc16:=bne_eq_false_iff_eq.1 hc16;refine bK<|bB<|bA<|bA ?_;have h0:(dT sides).2=0:=by omega
  have h4:=size_four h0;refine bE<|ss (ldO hT (bM .head)) ?_;refine sp2 hT ?_;refine cE (fun hg20=>?_) (fun hg20=>?_)
  · have hg20:=of_decide_eq_true hg20;refine sk3 ?_;refine sp hT ?_;refine nn<|cL rfl rfl ?_;refine sr<|sp2 hT ?_;refine nn<|bG<|bC ?_;have hr:=hR.symm.trans (bKc h0 (by first | exact .inl (by assumption) | exact .inr (by assumption)));subst hr;refine dK (t:=2) cT ?_;refine rU ?_;exact bL (none,0) rfl (bD rfl) (bD rfl) (.cons .head .nil) trivial rfl
  have hg20:=Int.not_lt.1 (of_decide_eq_false hg20);refine ss (ldO hT (bM .head)) ?_;refine sp3 hT ?_;refine nn<|bH rfl (fun hc24=>?_) (fun hc24=>?_)
  · have hc24:=of_decide_eq_true hc24;refine sr<|sp2 hT ?_;refine nn<|bG<|bC ?_;have hr:=hR.symm.trans (bKc h0 (by first | exact .inl (by assumption) | exact .inr (by assumption)));subst hr;refine dK (t:=2) cT ?_;refine rU ?_;exact bL (none,0) rfl (bD rfl) (bD rfl) (.cons .head .nil) trivial rfl
  have hc24:=Int.not_le.1 (of_decide_eq_false hc24);refine bK<|bB<|bA ?_;have hout: ¬(place<0∨(dT sides).1≤place):=by omega
  refine bE<|ss (ldO hT (bM kT1)) ?_;refine sp hT ?_;refine pD rfl rfl rfl rfl rfl rfl (by omega) fun b3=>?_;refine cG rfl rfl rfl rfl zeroInts rfl fun b4=>?_;refine sto hT .head ?_;refine nn<|sr<|ss (ldO hT (bM .head)) ?_;refine ss (ldO hT (bM kT3)) ?_;refine at_copyInts (bJ (Has.of mT0)) rfl rfl rfl rfl Tryz.underlying30 i64size rfl (by simp) rfl rfl rfl kT1 ?_;refine nn<|bA<|sr<|ss (ldO hT (bM kT3)) ?_;refine bO Tryz.func228 (bHj _ _ _) rfl rfl .nil ⟨Has.of mT0,trivial⟩ fun bk5=>?_;refine nn<|bR<|bIz (Int×List Int) (fun k=>[(34,.int .i64 (sides[sides.length-1-k]?.getD 0)),(33,.int .i64 ((sides.length-1-k:Nat):Int))]) (fun k=>[(9,.int .i64 ((sides.length-1-k:Nat):Int)),(34,.int .i64 (sides[sides.length-1-k]?.getD 0)),(33,.int .i64 ((sides.length-1-k:Nat):Int))]) (sides.length) (fun k ⟨p,cur⟩=>[.obj b2 (.cells #[.int .i64 p] 2),cT.row (.slice (some ⟨b3,0,none⟩) sides.length sides.length) 2 cur]) (fun k ⟨p,cur⟩=>[Fact.pure (cur.length=sides.length∧(mK sides.reverse place).reverse=(mK (sides.take (sides.length-k)).reverse p).reverse++cur.drop (sides.length-k))]) (place,sides) (back_it bk5 _ _ sides (by omega)) rfl (cS Tryz.func261 rfl rfl) (fun _=>rfl) (fun k a f=>fits2 rfl rfl f) (.cons kT2 (.cons .head .nil)) ⟨Has.pure (⟨rfl,by simp⟩),trivial⟩ ⟨Has.of mT0,Has.of mT1,trivial⟩ ?_ ?_ ?_
  · intro k K β' H' F' l m hK;refine bAk (fun⟨_,_,h⟩=>h) rfl ?_;refine sp hT ?_;refine dR ?_;exact bB hK
  · rintro β' l D r k ⟨p,cur⟩ m hk;dsimp only;refine cD (Has.of mT0) fun hinv10=>?_;refine bGo ?_;refine in_mixL (bAr tE) rfl 16 _ _ [(true,0),(true,1),(true,2),(true,3),(true,4),(true,5),(true,6),(true,7),(true,8),(true,9),(true,10),(true,11),(true,12),(true,13),(true,14),(false,15)] cY (by decide+kernel) (.cons .head (.cons .head (.cons .head (.cons kT1 (.cons kT1 .nil))))) bF.self ?_;refine stL rfl (ldO hT (bM kT3)) ?_;refine puL hT ?_;refine stL rfl (ldO hT (bM kT2)) ?_;refine stL rfl (ldO hT (bM kT4)) ?_;refine puL hT ?_
    obtain⟨x6,hx7⟩: ∃x',sides[(sides.length-1-k)]?=some x':=⟨_,List.getElem?_eq_getElem (by omega)⟩
    refine stL rfl (bS hT (k:=(sides.length-1-k)) (bJ (Has.of mT2)) rfl rfl rfl rfl rfl rfl rfl (by omega)) ?_;refine stL rfl (bZ hT (cR.knows (bJ (Has.of mT2)) (k:=(sides.length-1-k)) (x:=x6) hx7 0) rfl rfl rfl rfl rfl) ?_;refine stL rfl (bEy rfl rfl rfl (size_nz h0 hout (by assumption))) ?_;refine stL rfl (ldO hT (bM kT2)) ?_;refine stL rfl (ldO hT (bM kT4)) ?_;refine puL hT ?_;refine stL rfl (bS hT (k:=(sides.length-1-k)) (bJ (Has.of mT2)) rfl rfl rfl rfl rfl rfl rfl (by omega)) ?_;refine stL rfl (bZ hT (cR.knows (bJ (Has.of mT2)) (k:=(sides.length-1-k)) (x:=x6) hx7 0) rfl rfl rfl rfl rfl) ?_;refine stL rfl (rT rfl rfl rfl (size_nz h0 hout (by assumption))) ?_
    obtain⟨x8,hx9⟩: ∃x',cur[(sides.length-1-k)]?=some x':=⟨_,List.getElem?_eq_getElem (by omega)⟩
    refine stL rfl (fI hT (k:=(sides.length-1-k)) rfl rfl rfl rfl rfl rfl (by omega)) ?_;refine iT (o:=_) rfl ?_;refine dI hT (k:=(sides.length-1-k)) (fo:=0) (y':=_) kT3 rfl rfl rfl rfl rfl rfl rfl rfl rfl hx9 rfl ?_;refine iR (.cons kT1 (.cons kT1 (.cons kT1 (.cons kT1 (.cons kT1 .nil))))) (bF.drop 0) ?_;refine jZ (o:=_) rfl ?_;refine sto hT kT3 ?_;refine mI<|bY ?_;exact at_roundEnd (w64 (p.tdiv x6),cur.set (sides.length-1-k) (p.tmod x6)) (.cons kT2 (.cons kT2 (.cons .head (.cons .head (.cons .head (.cons .head .nil)))))) (bF.append ⟨Has.pure (⟨by simp [hinv10.1],index_step hk hx7 hinv10.1 hinv10.2⟩),trivial⟩ (bF.drop 1))
  rintro D ⟨p,cur⟩;dsimp only;refine cD (Has.of mT0) fun hinv10=>?_;refine m_block ?_;refine bAb ?_;refine m_seq ?_;refine bGn ?_;refine ss (ldO hT (bM kT3)) ?_;refine sp2 hT ?_;refine m_nil ?_;refine bAb ?_;refine m_ret ?_;have hr:=hR.symm.trans ((index_ok h0 hout).trans (congrArg (·,(0:Int)) (index_end hinv10.2)));subst hr;have hcl:=hinv10.1;rw [←hcl];refine bGd .head ?_;exact bL (_,_) rfl (bD rfl) (bD rfl) (.cons kT1 .nil) trivial rfl
end Go.Proofs.YtbgdphbebhjpiaaGreatDoor
namespace Go.Proofs.YtbgdphbebhjpiaaGreatDoor
open Go.RowKit
theorem wrapTo{a z:Int}(h:a=z)(h1: -9223372036854775808≤z)(h2:z<9223372036854775808):IntKind.i64.wrap a=z:=by
  rw [h];exact bKk h1 h2
def RevAt (l cur:List Int)(i:Nat):Prop:=cur.length=l.length∧ ∀q,q<l.length→cur[q]?=if q<i∨l.length≤q+i then l[l.length-1-q]? else l[q]?
theorem rev_start(l:List Int):RevAt l l 0:=⟨rfl,fun q hq=>by rw [if_neg (by omega)]⟩
theorem rev_step{l cur:List Int}{i:Nat}{x y:Int}(h:RevAt l cur i)(hi:i<l.length-1-i)(hx:cur[l.length-1-i]?=some x)(hy:cur[i]?=some y):RevAt l ((cur.set i x).set (l.length-1-i) y) (i+1):=by
  obtain⟨h1,h2⟩:=h;refine⟨by simp [h1],fun q hq=>?_⟩;have hx':=h2 (l.length-1-i) (by omega);have hy':=h2 i (by omega);rw [if_neg (by omega)] at hx' hy';rw [hx] at hx';rw [hy] at hy'
  by_cases e1:q=l.length-1-i
  · subst e1;rw [List.getElem?_set_self (by simp;omega),if_pos (by omega),show l.length-1-(l.length-1-i)=i by omega];exact hy'
  · rw [List.getElem?_set_ne (fun e=>e1 e.symm)]
    by_cases e2:q=i
    · subst e2;rw [List.getElem?_set_self (by omega),if_pos (by omega)];exact hx'
    · rw [List.getElem?_set_ne (fun e=>e2 e.symm),h2 q hq]
      by_cases hc:q<i∨l.length≤q+i
      · rw [if_pos hc,if_pos (by omega)]
      · rw [if_neg hc,if_neg (by omega)]
theorem rev_end{l cur:List Int}{i:Nat}(h:RevAt l cur i)(hi:l.length≤2*i+1):cur=l.reverse:=by
  obtain⟨h1,h2⟩:=h;apply List.ext_getElem?;intro q
  by_cases hq:q<l.length
  · rw [h2 q hq,List.getElem?_reverse hq]
    by_cases hc:q<i∨l.length≤q+i
    · rw [if_pos hc]
    · rw [if_neg hc,show l.length-1-q=q by omega]
  · rw [List.getElem?_eq_none (by omega),List.getElem?_eq_none (by simp;omega)]
set_option maxRecDepth 100000 in
theorem tP(A:Option Addr)(c:Nat)(l:List Int)(hl:l.length≤140737488355328):dG Tryz.prog 109 [.slice A l.length c] [cT.row (.slice A l.length c) 2 l] [] (fun(_:Unit)=> .tuple #[]) (fun(_:Unit)=>[cT.row (.slice A l.length c) 2 l.reverse]) (fun _=>[]):=by
  have hT:=dA;refine cQ Tryz.func109 rfl Tryz.ntmps109 rfl ?_;intro β hM;refine sr<|sp3 hT ?_;refine bP (z':=(l.length:Int)-1-((0:Nat):Int)) (wrapTo (by omega) (by omega) (by omega)) ?_;refine sp2 hT ?_;refine nn<|bR<|dB (ι:=Nat×List Int) [(0,_)] ⟨rfl,trivial⟩ (fun⟨i,cur⟩=>[(2,.int .i64 (i:Nat)),(3,.int .i64 ((l.length:Int)-1-(i:Nat)))]) (fun⟨i,cur⟩=>[cT.row (.slice A l.length c) 2 cur]) (fun⟨i,cur⟩=>[Fact.pure (i≤l.length∧RevAt l cur i)]) (fun⟨i,cur⟩=>l.length-i) (0,l) ⟨rfl,rfl,trivial⟩ (.cons .head .nil) ⟨Has.pure (⟨by omega,rev_start l⟩),trivial⟩ ?_;rintro⟨i,cur⟩;dsimp only;refine cD (Has.of mT0) fun hinv1=>?_;refine bA<|sr<|sp3 hT ?_;refine nn<|bH rfl (fun hc9=>?_) (fun hc9=>?_)
  · have hc9:=of_decide_eq_true hc9;refine bK<|bB<|bA<|bR ?_;have hlt:i<l.length-1-i:=by omega
    have hcl:=hinv1.2.1;refine at_rowg .head (by omega) fun g1 hg=>?_;subst hg;have ej:((l.length:Int)-1-(i:Nat))=((l.length-1-i:Nat):Int):=by omega
    rw [ej];refine pT _ _ (.fl 0 (.fl 1 (.fl 2 (.fl 3 (.fl 4 (.fl 5 (.fl 6 (.fl 8 (.fl 9 (.fl 10 (.two 7 11 (.op 11 (.fl 12 (.op 13 (.fl 14 (.op 15 .nil))))) (.op 7 (.fl 12 (.op 13 (.fl 14 (.op 15 .nil)))))))))))))))) cY (by decide+kernel) .nil bF.self ?_;refine puT hT ?_;refine puT hT ?_;refine puT hT ?_;refine puT hT ?_;refine puT hT ?_;refine puT hT ?_
    obtain⟨x2,hx3⟩: ∃x',cur[(l.length-1-i)]?=some x':=⟨_,List.getElem?_eq_getElem (by first | omega | (simp only [List.length_set];omega))⟩
    refine stT rfl (fI hT (k:=(l.length-1-i)) rfl rfl rfl rfl rfl rfl (by first | omega | (simp only [List.length_set];omega))) ?_;refine puT hT ?_;refine puT hT ?_
    obtain⟨x4,hx5⟩: ∃x',cur[i]?=some x':=⟨_,List.getElem?_eq_getElem (by first | omega | (simp only [List.length_set];omega))⟩
    refine stT rfl (fI hT (k:=i) rfl rfl rfl rfl rfl rfl (by first | omega | (simp only [List.length_set];omega))) ?_;refine nJ (o:=_) (o':=_) rfl rfl ?_ ?_
    · refine ss (bZ hT (cR.knows (cH .head) (k:=(l.length-1-i)) (x:=x2) hx3 0) rfl rfl rfl rfl rfl) ?_;refine dE .nil (bF.drop 0) ?_;refine dW (o:=_) rfl ?_;refine ss (bZ hT (cR.knows (cH .head) (k:=i) (x:=x4) hx5 0) rfl rfl rfl rfl rfl) ?_;refine dE .nil (bF.drop 0) ?_;refine stT rfl (fI hT (k:=i) rfl rfl rfl rfl rfl rfl (by first | omega | (simp only [List.length_set];omega))) ?_;refine dW (o:=_) rfl ?_;refine dI hT (k:=i) (fo:=0) (y':=x2) .head rfl rfl rfl rfl rfl rfl rfl rfl rfl hx5 rfl ?_;refine dE .nil (bF.drop 0) ?_
      obtain⟨x6,hx7⟩: ∃x',(cur.set i x2)[(l.length-1-i)]?=some x':=⟨_,List.getElem?_eq_getElem (by first | omega | (simp only [List.length_set];omega))⟩
      refine stT rfl (fI hT (k:=(l.length-1-i)) rfl rfl rfl rfl rfl rfl (by first | omega | (simp only [List.length_set];omega))) ?_;refine dW (o:=_) rfl ?_;refine dI hT (k:=(l.length-1-i)) (fo:=0) (y':=x4) .head rfl rfl rfl rfl rfl rfl rfl rfl rfl hx7 rfl ?_;refine dE .nil (bF.drop 0) ?_;refine hJ<|bY<|bB<|bE<|sp2 hT ?_;refine bP (z':=(((i+1):Nat):Int)) (cJ (by omega) (by omega)) ?_;refine sp2 hT ?_;refine bP (z':=(l.length:Int)-1-((i+1:Nat):Int)) (wrapTo (by omega) (by omega) (by omega)) ?_;refine sp2 hT ?_;refine nn ?_;exact cO (i+1,_) (by dsimp only;omega) ⟨rfl,rfl,trivial⟩ ⟨rfl,trivial⟩ (.cons .head .nil) ⟨Has.pure (⟨by dsimp only;omega,rev_step hinv1.2 hlt (by assumption) (by assumption)⟩),trivial⟩ (bF.drop 1)
    refine ss (bZ hT (cR.knows (cH .head) (k:=i) (x:=x4) hx5 0) rfl rfl rfl rfl rfl) ?_;refine dE .nil (bF.drop 0) ?_;refine dW (o:=_) rfl ?_;refine ss (bZ hT (cR.knows (cH .head) (k:=(l.length-1-i)) (x:=x2) hx3 0) rfl rfl rfl rfl rfl) ?_;refine dE .nil (bF.drop 0) ?_;refine stT rfl (fI hT (k:=i) rfl rfl rfl rfl rfl rfl (by first | omega | (simp only [List.length_set];omega))) ?_;refine dW (o:=_) rfl ?_;refine dI hT (k:=i) (fo:=0) (y':=x2) .head rfl rfl rfl rfl rfl rfl rfl rfl rfl hx5 rfl ?_;refine dE .nil (bF.drop 0) ?_
    obtain⟨x8,hx9⟩: ∃x',(cur.set i x2)[(l.length-1-i)]?=some x':=⟨_,List.getElem?_eq_getElem (by first | omega | (simp only [List.length_set];omega))⟩
    refine stT rfl (fI hT (k:=(l.length-1-i)) rfl rfl rfl rfl rfl rfl (by first | omega | (simp only [List.length_set];omega))) ?_;refine dW (o:=_) rfl ?_;refine dI hT (k:=(l.length-1-i)) (fo:=0) (y':=x4) .head rfl rfl rfl rfl rfl rfl rfl rfl rfl hx9 rfl ?_;refine dE .nil (bF.drop 0) ?_;refine hJ<|bY<|bB<|bE<|sp2 hT ?_;refine bP (z':=(((i+1):Nat):Int)) (cJ (by omega) (by omega)) ?_;refine sp2 hT ?_;refine bP (z':=(l.length:Int)-1-((i+1:Nat):Int)) (wrapTo (by omega) (by omega) (by omega)) ?_;refine sp2 hT ?_;refine nn ?_;exact cO (i+1,_) (by dsimp only;omega) ⟨rfl,rfl,trivial⟩ ⟨rfl,trivial⟩ (.cons .head .nil) ⟨Has.pure (⟨by dsimp only;omega,rev_step hinv1.2 hlt (by assumption) (by assumption)⟩),trivial⟩ (bF.drop 1)
  have hc9:=Int.not_lt.1 (of_decide_eq_false hc9);refine cW<|cK<|cK<|cX ?_;have hr:=rev_end hinv1.2 (by omega);subst hr;exact tR () rfl (.cons .head .nil) trivial (rfl)
end Go.Proofs.YtbgdphbebhjpiaaGreatDoor
namespace Go.Proofs.YtbgdphbebhjpiaaGreatDoor
open Go.RowKit
theorem bJd(m:Nat)(hm:0<m): ∀(N f:Nat) (l:List Int),l.length=N*m→N≤f→lV f m l=(List.range N).map fun k=>(l.drop (k*m)).take m
  | 0,f,l,h,_=>by
    have:l=[]:=List.length_eq_zero_iff.1 (by simpa using h);subst this;cases f<;>rfl
  | N+1,0,_,_,h=>absurd h (by omega)
  | N+1,f+1,[],h,_=>by
    rw [Nat.add_mul,Nat.one_mul] at h;simp at h;omega
  | N+1,f+1,x::r,h,hf=>by
    rw [Nat.add_mul,Nat.one_mul] at h;have e:lV (f+1) m (x::r)=(x::r).take m::lV f m ((x::r).drop m):=by simp [lV]
    rw [e,bJd m hm N f ((x::r).drop m) (by rw [List.length_drop];omega) (by omega),List.range_succ_eq_map,List.map_cons,List.map_map];rw [Nat.zero_mul,List.drop_zero]
    congr 1
    apply List.map_congr_left;intro k _;simp only [Function.comp,List.drop_drop];rw [Nat.succ_mul,Nat.add_comm m]
theorem lanes_eq{a:Arr}(h:cP a=true)(hd:a.data≠[]): ∃N,a.data.length=N*lastA a∧0<lastA a∧fD a=((List.range N).map fun k=>(a.data.drop (k*lastA a)).take (lastA a),0):=by
  obtain⟨l1,l2,_,_,l5,_⟩:=qF h;have hm:=l2 hd;have hle:(fD a).1.length≤(fD a).1.length*lastA a:=Nat.le_mul_of_pos_right _ hm;refine⟨(fD a).1.length,l5.symm,hm,?_⟩
  have e:fD a=(lV a.data.length (lastA a) a.data,0):=by
    unfold fD;rw [if_neg (by simp [h])]
  rw [←bJd (lastA a) hm (fD a).1.length a.data.length a.data l5.symm (by omega)];exact e
theorem last_get{a:Arr}(h:cP a=true){z:Int}(hx:a.sides[a.sides.length-1]?=some z):z=((lastA a:Nat):Int):=by
  obtain⟨hs,hp⟩:=fP.1 h;have e:a.sides.getLast?=some z:=by rw [List.getLast?_eq_getElem?];exact hx
  have h0:=(hs.rng z (List.mem_of_getElem? hx)).1;have e2:lastA a=z.toNat:=by unfold lastA;rw [e]
  rw [e2];omega
theorem last_none{a:Arr}(h:a.sides.length≤0):lastA a=1:=by
  have e:a.sides=[]:=List.length_eq_zero_iff.1 (by omega);unfold lastA;rw [e];rfl
theorem bIb{F:List Fact}{db doff l c m k:Nat}{xs:List Int}(hlen:((xs.drop (k*m)).take m).length=m)(h:Has F (cT.sl (.slice (some ⟨db,doff,none⟩) l c) xs)):Has F (cT.sl (.slice (some ⟨db,doff+k*m,none⟩) m m) ((xs.drop (k*m)).take m)):=fun S w q=>by
  obtain⟨A',cap',e,hh⟩:=h S w q;injection e with e0 e00 e000
  subst e0;refine⟨some ⟨db,doff+k*m,none⟩,m,by rw [hlen],fun j x hx=>?_⟩;have hj:j<m:=by have:=(List.getElem?_eq_some_iff.1 hx).1;omega
  rw [List.getElem?_take_of_lt hj,List.getElem?_drop] at hx;obtain⟨b,o,cs,e1,e2,e3,e4⟩:=hh (k*m+j) x hx;injection e1 with e1
  injection e1 with h1 h2
  subst h1 h2;refine⟨db,doff+k*m,cs,rfl,e2,fun i u hi=>?_,e4⟩;have:=e3 i u hi;simp only [Enc.flat,cT,Nat.mul_one] at this⊢;rw [←Nat.add_assoc] at this;exact this
def laneRow(s:Sl Int):bU:=cT.row (.slice s.addr s.list.length s.cap) 2 s.list
section
variable {P : Program} {β : fE} {n : Nat} {Γ : Env} {H H' : List bU} {F : List Fact} {K : Act → World → Prop}
theorem jS(p:H.Perm H')(h:At β n Γ H' F K):At β n Γ H F K:=fun a w S f s k=>h a w S f (s.perm p) k
theorem yC{ι:Type}{Hs:ι→List bU}{Fs:ι→List Fact}(y:ι)(hH:H.Perm (Hs y))(hF:bF F (Fs y)):At β n Γ H F (rZ β Hs Fs .normal):=fun _ w S _ s k=>⟨y,S,s.perm hH,hF.all S w k⟩
theorem bIp{xs:List (Sl Int)}{x:Sl Int}{i:Nat}(h:xs[i]?=some x)(H:List bU):(xs.map laneRow++H).Perm (laneRow x::((xs.take i++xs.drop (i+1)).map laneRow++H)):=by
  have hlt:=(List.getElem?_eq_some_iff.1 h).1
  have e:xs=xs.take i++x::xs.drop (i+1):=by
    have h2:=(List.getElem?_eq_some_iff.1 h).2;rw [←h2,List.getElem_cons_drop,List.take_append_drop]
  have hp:(xs.map laneRow).Perm (laneRow x::(xs.take i++xs.drop (i+1)).map laneRow):=by
    conv=>lhs;rw [e]
    rw [List.map_append,List.map_cons,List.map_append];exact List.perm_middle
  exact hp.append_right H
theorem lanes_back{xs:List (Sl Int)}{y:Sl Int}{i:Nat}(h:i<xs.length)(H:List bU):(laneRow y::((xs.take i++xs.drop (i+1)).map laneRow++H)).Perm ((xs.set i y).map laneRow++H):=by
  have hs:(xs.set i y)[i]?=some y:=List.getElem?_set_self h;have:=bIp hs H;have e1:(xs.set i y).take i=xs.take i:=by rw [List.take_set_of_le (Nat.le_refl _)]
  have e2:(xs.set i y).drop (i+1)=xs.drop (i+1):=by rw [List.drop_set_of_lt (by omega)]
  rw [e1,e2] at this;exact this.symm
theorem mU.self: ∀(R H2:List bU),mU (R++H2) R H2
  | [],_=> .nil
  | _::R,H2=> .cons .head (mU.self R H2)
theorem bJi{Γ:Env}{Q:Exit→Act→World→Prop}(ι:Type)(γp γ1:Nat→Env)(N:Nat)(Hs:Nat→ι→List bU)(Fs:Nat→ι→List Fact){g:Operand}{ps:Array Tmp}{assign body:Code}{gf:FuncId}{lb:List Value}{Pre:List Fact}{encs:Nat→Array Value}(x0:ι)
    (hit:IterC P gf lb Pre N encs) (hg:Γ.ev g=some (.func (.func gf) #[] lb.toArray)) (eg: ∀args w,(callFunc gf args).run P w= .ok (.enter gf args) w) (hps: ∀k,(encs k).size=ps.size)
    (hfit: ∀k a,jW n Γ a→jW n (γp k++Γ) {tmps:=(ps.zip (encs k)).foldl (fun t (p,v)=>t.setIfInBounds p v) a.tmps,defers:=[]})
    (hH:H.Perm (Hs 0 x0)) (hF0:bF F (Fs 0 x0)) (hPre:bF F Pre)
    (hassign: ∀(k:Nat) (K:Act→World→Prop) (β':fE) (H':List bU) (F':List Fact) (l m:Nat),At β' n (γ1 k++Γ) H' F' K→At β' n (γp k++Γ) H' F' (assign.wpIn (Fence.wide.inRound l) m P (Exit.then K fun _ _ _=>False)))
    (hbody: ∀(β':fE) (l D:Nat) (r:Loop) (k:Nat) (x:ι) (m:Nat),k<N→
      At β' n (γ1 k++Γ) (.obj l (.loop r):: .obj D (.deferred (some []))::Hs k x) (Fs k x++F) (body.wpIn (Fence.wide.inRound l) m P (rZ β' (fun y=> .obj l (.loop r):: .obj D (.deferred (some []))::Hs (k+1) y) fun y=>Fs (k+1) y++F)))
    (hk: ∀D x,At β n Γ (.obj D (.deferred (some []))::Hs N x) (Fs N x++F) (Mk D (Q .normal))):At β n Γ H F ((Code.rangeFunc g ps assign body).wp P Q):=
  jS (H':=Hs 0 x0++[]) (by rw [List.append_nil];exact hH) (bIz ι γp γ1 N Hs Fs x0 hit hg eg hps hfit (mU.self _ []) hF0 hPre hassign
    (fun β' l D r k x m hkN=>by
      have:=hbody β' l D r k x m hkN
      simpa only [List.append_nil] using this)
    (fun D x=>by
      have:=hk D x
      simpa only [List.append_nil] using this))
end
end Go.Proofs.YtbgdphbebhjpiaaGreatDoor
namespace Go.Proofs.YtbgdphbebhjpiaaGreatDoor
open Go.RowKit
theorem fK{α:Type}{l:List α}{i:Nat}{x:α}(h:l[i]?=some x):l.drop i=x::l.drop (i+1):=by
  obtain⟨hlt,e⟩:=List.getElem?_eq_some_iff.1 h;rw [List.drop_eq_getElem_cons hlt,e]
theorem gG{α:Type}{l:List α}{i:Nat}(h:l.length≤i):l.drop i=[]:=List.drop_eq_nil_iff.2 h
theorem take_at{α:Type}{l:List α}{i:Nat}{x:α}(h:l[i]?=some x):l.take (i+1)=l.take i++[x]:=by rw [List.take_add_one,h];rfl
theorem rY{α:Type}{l:List α}{i:Nat}(hi:i<l.length)(x:α):(l.set i x).take (i+1)=l.take i++[x]:=by
  have h:(l.set i x)[i]?=some x:=List.getElem?_set_self hi;rw [take_at h,List.take_set_of_le (Nat.le_refl _)]
def wG (f:Int)(l:List (Int×Int))(i:Nat)(out:List Int)(w:Int)(R:List Int×Int):Prop:=R=(out++(nT f (l.drop i) w).1,(nT f (l.drop i) w).2)
theorem bAf(f:Int)(l:List (Int×Int)):wG f l 0 [] 0 (nT f l 0):=by simp [wG]
theorem bEj{f w:Int}{l:List (Int×Int)}{i:Nat}{out:List Int}{R:List Int×Int}{x y:Int}(h:wG f l i out w R)(hx:l[i]?=some (x,y)):wG f l (i+1) (out++[(gB f w x y).1]) (gB f w x y).2 R:=by
  unfold wG at h⊢;rw [h,fK hx,nT];simp
theorem zip_end{f w:Int}{l:List (Int×Int)}{i:Nat}{out:List Int}{R:List Int×Int}(h:wG f l i out w R)(hi:l.length≤i):R=(out,w):=by
  unfold wG at h;rw [h,gG hi,nT];simp
theorem zip_at{a b:List Int}{i:Nat}{x y:Int}(hx:a[i]?=some x)(hy:b[i]?=some y):(a.zip b)[i]?=some (x,y):=by
  rw [List.getElem?_zip_eq_some];exact⟨hx,hy⟩
theorem mJ{α β:Type}{f:α→β}{l:List α}{i:Nat}{x:α}(h:l[i]?=some x):(l.map f)[i]?=some (f x):=by rw [List.getElem?_map,h];rfl
def OutAt (f:Int)(a b:List Int)(i j:Nat)(out:List Int)(w:Int)(R:List Int×Int):Prop:=
  ∃x,a[i]?=some x∧R=(out++(nT f ((b.drop j).map (fun y=>(x,y))++pairsOf (a.drop (i+1)) b) w).1,(nT f ((b.drop j).map (fun y=>(x,y))++pairsOf (a.drop (i+1)) b) w).2)
def tQ (f:Int)(a b:List Int)(i:Nat)(out:List Int)(w:Int)(R:List Int×Int):Prop:=R=(out++(nT f (pairsOf (a.drop i) b) w).1,(nT f (pairsOf (a.drop i) b) w).2)
theorem out_start(f:Int)(a b:List Int):tQ f a b 0 [] 0 (nT f (pairsOf a b) 0):=by simp [tQ]
theorem out_in{f w:Int}{a b:List Int}{i:Nat}{out:List Int}{R:List Int×Int}{x:Int}(h:tQ f a b i out w R)(hx:a[i]?=some x):OutAt f a b i 0 out w R:=by
  refine⟨x,hx,?_⟩;unfold tQ at h;rw [h,fK hx];rfl
theorem out_step{f w:Int}{a b:List Int}{i j:Nat}{out:List Int}{R:List Int×Int}{x y:Int}(h:OutAt f a b i j out w R)(hx:a[i]?=some x)(hy:b[j]?=some y):OutAt f a b i (j+1) (out++[(gB f w x y).1]) (gB f w x y).2 R:=by
  obtain⟨x',hx',h⟩:=h;rw [hx] at hx';injection hx' with e
  subst e;refine⟨x,hx,?_⟩;rw [h,fK hy,List.map_cons,List.cons_append,nT];simp
theorem out_out{f w:Int}{a b:List Int}{i j:Nat}{out:List Int}{R:List Int×Int}(h:OutAt f a b i j out w R)(hj:b.length≤j):tQ f a b (i+1) out w R:=by
  obtain⟨x',hx',h⟩:=h;unfold tQ;rw [h,gG hj];rfl
theorem out_end{f w:Int}{a b:List Int}{i:Nat}{out:List Int}{R:List Int×Int}(h:tQ f a b i out w R)(hi:a.length≤i):R=(out,w):=by
  unfold tQ at h;rw [h,gG hi];simp [pairsOf,nT]
def bJk (f:Int)(l:List Int)(i:Nat)(out:List Int):Prop:=out.length=l.length∧(mapM f l).2=(mapM f (l.drop i)).2∧((mapM f (l.drop i)).2=0→(mapM f l).1=out.take i++(mapM f (l.drop i)).1)
theorem map_start(f:Int)(l out:List Int)(h:out.length=l.length):bJk f l 0 out:=⟨h,by simp,fun _=>by simp⟩
theorem map_bad{f:Int}{l out:List Int}{i:Nat}{x:Int}(h:bJk f l i out)(hx:l[i]?=some x)(he:(gM f x).2≠0):(mapM f l).2=(gM f x).2:=by
  rw [h.2.1,fK hx,mapM,if_pos he]
theorem map_step{f:Int}{l out:List Int}{i:Nat}{x:Int}(h:bJk f l i out)(hx:l[i]?=some x)(he:(gM f x).2=0):bJk f l (i+1) (out.set i (gM f x).1):=by
  obtain⟨h1,h2,h3⟩:=h;have hi:i<out.length:=by rw [h1];exact(List.getElem?_eq_some_iff.1 hx).1
  have e:mapM f (l.drop i)=if (mapM f (l.drop (i+1))).2≠0 then ([],(mapM f (l.drop (i+1))).2) else ((gM f x).1::(mapM f (l.drop (i+1))).1,0):=by
    rw [fK hx,mapM,if_neg (by simp [he])]
  refine⟨by simpa using h1,?_,fun h0=>?_⟩
  · rw [h2,e];split
    · rfl
    · rename_i hh;exact(Classical.not_not.1 hh).symm
  · rw [e,if_neg (by simp [h0])] at h3;rw [h3 rfl,rY hi];simp
theorem map_end{f:Int}{l out:List Int}{i:Nat}(h:bJk f l i out)(hi:l.length≤i):mapM f l=(out,0):=by
  obtain⟨h1,h2,h3⟩:=h;have e:mapM f (l.drop i)=([],0):=by rw [gG hi];rfl
  rw [e] at h2 h3;have:=h3 rfl;rw [List.take_of_length_le (by omega),List.append_nil] at this;exact Prod.ext this h2
def bAl (f:Int)(l:List Int)(k:Nat)(n w:Int)(R:Int×Int):Prop:=R=xT f (l.drop k) n w
theorem fold_step{f n w:Int}{l:List Int}{k:Nat}{R:Int×Int}{x:Int}(h:bAl f l k n w R)(hx:l[k]?=some x):bAl f l (k+1) (gB f w n x).1 (gB f w n x).2 R:=by
  unfold bAl at h⊢;rw [h,fK hx,xT]
theorem fold_end{f n w:Int}{l:List Int}{k:Nat}{R:Int×Int}(h:bAl f l k n w R)(hk:l.length≤k):R=(n,w):=by
  unfold bAl at h;rw [h,gG hk,xT]
def zD (f:Int)(L:List (List Int))(i:Nat)(out:List Int)(w:Int)(R:List Int×Int):Prop:=out.length=L.length∧R=(out.take i++(pJ f (L.drop i) w).1,(pJ f (L.drop i) w).2)
theorem folds_start(f:Int)(L:List (List Int))(out:List Int)(h:out.length=L.length):zD f L 0 out 0 (pJ f L 0):=⟨h,by simp⟩
theorem folds_step{f w n w':Int}{L:List (List Int)}{i:Nat}{out out':List Int}{R:List Int×Int}{l:List Int}(h:zD f L i out w R)(hl:L[i]?=some l)(ho:out'=out.set i n)(hf:xT f l.tail (l.headD 0) w=(n,w')):zD f L (i+1) out' w' R:=by
  obtain⟨h1,h2⟩:=h;have hi:i<out.length:=by rw [h1];exact(List.getElem?_eq_some_iff.1 hl).1
  subst ho;refine⟨by simpa using h1,?_⟩;rw [h2,fK hl,pJ,hf,rY hi];simp
theorem folds_end{f w:Int}{L:List (List Int)}{i:Nat}{out:List Int}{R:List Int×Int}(h:zD f L i out w R)(hi:L.length≤i):R=(out,w):=by
  obtain⟨h1,h2⟩:=h;rw [h2,gG hi,pJ,List.take_of_length_le (by omega),List.append_nil]
def bFl (f:Int)(l cur:List Int)(k:Nat)(w:Int)(R:List Int×Int):Prop:=
  cur.length=l.length∧1≤k∧k≤l.length∧cur.drop k=l.drop k∧ ∃n,cur[k-1]?=some n∧R=(cur.take k++(nX f (l.drop k) n w).1,(nX f (l.drop k) n w).2)
theorem scan_start{f w:Int}{l:List Int}(h:l≠[]):bFl f l l 1 w (l.headD 0::(nX f l.tail (l.headD 0) w).1,(nX f l.tail (l.headD 0) w).2):=by
  match l,h with
  | x::r,_=>exact⟨rfl,Nat.le_refl _,by simp,rfl,x,rfl,rfl⟩
theorem scan_step{f w:Int}{l cur:List Int}{k:Nat}{R:List Int×Int}{n x:Int}(h:bFl f l cur k w R)(hn:cur[k-1]?=some n)(hx:cur[k]?=some x):bFl f l (cur.set k (gB f w n x).1) (k+1) (gB f w n x).2 R:=by
  obtain⟨h1,h2,h3,h4,m,h5,h6⟩:=h;rw [hn] at h5;injection h5 with e
  subst e;have hk:k<cur.length:=(List.getElem?_eq_some_iff.1 hx).1
  have hx':l[k]?=some x:=by
    have a:=congrArg (fun q:List Int=>q[0]?) h4;simp only [List.getElem?_drop,Nat.add_zero] at a;rw [←a,hx]
  refine⟨by simpa using h1,by omega,by omega,?_,(gB f w n x).1,by rw [Nat.add_sub_cancel];exact List.getElem?_set_self hk,?_⟩
  · rw [List.drop_set_of_lt (by omega)];have a:=congrArg (List.drop 1) h4
    simpa [List.drop_drop] using a
  · rw [h6,fK hx',nX,rY hk];simp
theorem scan_end{f w:Int}{l cur:List Int}{k:Nat}{R:List Int×Int}(h:bFl f l cur k w R)(hk:l.length≤k):R=(cur,w):=by
  obtain⟨h1,h2,h3,h4,m,h5,h6⟩:=h;rw [h6,gG hk,nX,List.take_of_length_le (by omega),List.append_nil]
def vU (f:Int)(L cur:List (List Int))(i:Nat)(w:Int)(R:List (List Int)×Int):Prop:=cur.length=L.length∧cur.drop i=L.drop i∧R=(cur.take i++(nU f (L.drop i) w).1,(nU f (L.drop i) w).2)
theorem scans_start(f:Int)(L:List (List Int)):vU f L L 0 0 (nU f L 0):=⟨rfl,rfl,by simp⟩
theorem scans_at{f w:Int}{L cur:List (List Int)}{i:Nat}{R:List (List Int)×Int}{l:List Int}(h:vU f L cur i w R)(hl:cur[i]?=some l):L[i]?=some l:=by
  have a:=congrArg (fun q:List (List Int)=>q[0]?) h.2.1;simp only [List.getElem?_drop,Nat.add_zero] at a;rw [←a,hl]
theorem scans_step{f w w':Int}{L cur:List (List Int)}{i:Nat}{R:List (List Int)×Int}{l l':List Int}(h:vU f L cur i w R)(hl:cur[i]?=some l)(hs:(l.headD 0::(nX f l.tail (l.headD 0) w).1,(nX f l.tail (l.headD 0) w).2)=(l',w')):vU f L (cur.set i l') (i+1) w' R:=by
  have hL:=scans_at h hl;obtain⟨h1,h2,h3⟩:=h;have hi:i<cur.length:=(List.getElem?_eq_some_iff.1 hl).1;injection hs with e1 e2
  refine⟨by simpa using h1,?_,?_⟩
  · rw [List.drop_set_of_lt (by omega)];have a:=congrArg (List.drop 1) h2
    simpa [List.drop_drop] using a
  · rw [h3,fK hL,nU,e1,e2,rY hi];simp
theorem scans_end{f w:Int}{L cur:List (List Int)}{i:Nat}{R:List (List Int)×Int}(h:vU f L cur i w R)(hi:L.length≤i):R=(cur,w):=by
  obtain⟨h1,h2,h3⟩:=h;rw [h3,gG hi,nU,List.take_of_length_le (by omega),List.append_nil]
def bGb (L cur:List (List Int))(i:Nat):Prop:=cur.length=L.length∧cur.drop i=L.drop i∧cur.take i=(L.take i).map List.reverse
theorem revs_start(L:List (List Int)):bGb L L 0:=⟨rfl,rfl,rfl⟩
theorem revs_step{L cur:List (List Int)}{i:Nat}{l:List Int}(h:bGb L cur i)(hl:cur[i]?=some l):bGb L (cur.set i l.reverse) (i+1):=by
  obtain⟨h1,h2,h3⟩:=h;have hi:i<cur.length:=(List.getElem?_eq_some_iff.1 hl).1
  have hL:L[i]?=some l:=by
    have a:=congrArg (fun q:List (List Int)=>q[0]?) h2;simp only [List.getElem?_drop,Nat.add_zero] at a;rw [←a,hl]
  refine⟨by simpa using h1,?_,?_⟩
  · rw [List.drop_set_of_lt (by omega)];have a:=congrArg (List.drop 1) h2
    simpa [List.drop_drop] using a
  · rw [rY hi,h3,take_at hL];simp
theorem revs_end{L cur:List (List Int)}{i:Nat}(h:bGb L cur i)(hi:L.length≤i):cur=L.map List.reverse:=by
  obtain⟨h1,h2,h3⟩:=h;rw [List.take_of_length_le (by omega),List.take_of_length_le hi] at h3;exact h3
theorem bIr{L:List (List Int)}{i:Nat}{l:List Int}(h:L[i]?=some l):(L.take i).flatten++l=(L.take (i+1)).flatten:=by
  rw [take_at h,List.flatten_append];simp
theorem flat_le{L:List (List Int)}(i:Nat):(L.take i).flatten.length≤L.flatten.length:=by
  conv=>rhs;rw [←List.take_append_drop i L]
  rw [List.flatten_append,List.length_append];omega
theorem cycle_add{l:List Int}{n m:Nat}(hd:l.length∣n)(hm:m≤l.length):rF l n++l.take m=rF l (n+m):=by
  unfold rF;rw [List.range_add,List.map_append,List.map_map]
  congr 1
  apply List.ext_getElem
  · simp;omega
  · intro i h1 h2;simp only [List.getElem_map,List.getElem_range,Function.comp];have hi:i<l.length:=by simp at h1;omega
    obtain⟨k,hk⟩:=hd;rw [hk,Nat.mul_add_mod,Nat.mod_eq_of_lt hi,List.getElem_take];simp [List.getD,hi]
theorem gT{a:Arr}(h:cP a=true):a.data.length≤65536:=by
  obtain⟨hs,hp⟩:=fP.1 h;have:=hs.prod;omega
theorem iD{a:Arr}(h:cP a=true):a.sides.length≤4:=(fP.1 h).1.len
theorem cZ(l:List Int)(n:Nat):(rF l n).length=n:=by simp [rF]
end Go.Proofs.YtbgdphbebhjpiaaGreatDoor
