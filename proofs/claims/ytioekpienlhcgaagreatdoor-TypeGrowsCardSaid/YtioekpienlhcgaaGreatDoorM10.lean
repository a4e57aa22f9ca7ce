/- A part of one proof. -/
import Derived.Test.YtioekpienlhcgaaGreatDoorM3
set_option maxRecDepth 100000
namespace Go.Proofs.YtioekpienlhcgaaGreatDoor
open Go.RowKit Go.Proofs.Tryz
open _root_.List renaming getElem?_eq_getElem->F1,take_add_one->R6,length_take->K6,drop_of_length_le->K3,length_take_le->O0,drop_drop->K8,length_nil->O2,length->Q8,length_cons->F5,length_reverse->O8
open IntKind renaming wrap->J5,signed->J6,bits->J7
open _root_.Bool renaming and_eq_true->J3,eq_iff_iff->L7
open _root_.UInt8 renaming ofNat->L9
open Value renaming tuple->M1,int->M0,string->Q5
open _root_.Nat renaming min_eq_left->L3,cast->L6
open _root_.Int renaming not_lt->aD
open Lib renaming decDigits->M8,nDigits->aM,nDigits_le20->aN
section
variable {P : Program} {β : fS} {n : Nat} {Γ : Env} {H : List bK} {F : List Fact} {Q : Exit -> Act -> World -> Prop} {K : Act -> World -> Prop} {ops : Array Oper} {rest : List Oper} {o : Oper} {d : Nat} {T : Tab}
theorem bQb{t tt:TypeId}{x y:Operand}{k:IntKind}{a b:Int}(ho:o.op= .binOp .quo t x y tt)(hx:Γ.ev x=some (.int k a))(hy:Γ.ev y=some (.int k b))(hb:b≠0):Sti P β n Γ H F o (.int k (k.wrap (a.tdiv b))):=λc w S f s _=>by unfold execOp;simp only[ho,f.ev hx,f.ev hy];simp[eqGuard,binOp,Op.intDiv,hb]
theorem sti_rem{t tt:TypeId}{x y:Operand}{k:IntKind}{a b:Int}(ho:o.op= .binOp .rem t x y tt)(hx:Γ.ev x=some (.int k a))(hy:Γ.ev y=some (.int k b))(hb:b≠0):Sti P β n Γ H F o (.int k (a.tmod b)):=λc w S f s _=>by unfold execOp;simp only[ho,f.ev hx,f.ev hy];simp[eqGuard,binOp,Op.intDiv,hb]
theorem uY{s e u:TypeId}{x:Operand}{A:Option Addr}{m c:Nat}{xs:Bs}(hr:dD β H F oZ A xs)(hs:P.underlying s=some (.slice e))(he:P.underlying e=some (.int .u8))(hu:P.underlying u=some .string)(ho:o.op= .convert s u x)(hx:Γ.ev x=some (.slice A m c))(hm:m=xs.length)(h0:xs≠[]):Sti P β n Γ H F o (.string (bs xs)):=λa w S f g i=>by
 subst hm;obtain⟨⟨b,d,rfl⟩,_⟩:=hr w S g i 0 _ (F1 (List.length_pos_iff.2 h0))
 have:=run_convert_bytes_back (P:=P) w s u e ⟨b,d,none⟩ c xs hs he hu (λj k=>by
  have h:=(hr w S g i j _ (F1 k)).2 0 (.int .u8 (xs[j]).toNat) rfl;have p:(⟨b,d,none⟩:Addr).add j=⟨b,d+j,none⟩:=Addr.add_mid _ _ _;rw[p];have l:d+j*oZ.size+0=d+j:=by show d+j*1+0=_;omega
  simp only[aoff,ablk]at h;rw[l]at h
  exact h)
 unfold execOp;simp only[ho,f.ev hx];rw[Sem.run_bind,this];rfl
theorem xD{x:Operand}{m:UInt8}(hw:want ops Γ o=some true)(ho:o.op= .buildSlice 102 1 #[(0,x)])(hd:o.dst=some d)(hn:Nat.blt d n=true)
  (hx:Γ.ev x=some (k7 m.toNat)) (k: ∀b,At β n ((d,.slice (some ⟨b,0,none⟩) 1 1)::Γ) (.obj b (.cells (oZ.all [m]).toArray 5)::H) F (wpList prog ops Q rest)):At β n Γ H F (wpList prog ops Q (o::rest)):=by
 obtain⟨i,hi,a,hs,_⟩:=u8Info;refine kD hw ho hd hn hx underlying102 hi a l7 l7 ?_ k;rw[hs]
 kernel_rfl
end
theorem pA{z:Int}(h0:0<=z)(h1:z<18446744073709551616):IntKind.u64.wrap z=z:=by simp only[J5,J6,J7];simp;omega
theorem bUx{z:Int}(h0:0<=z)(h1:z<256):IntKind.u8.wrap z=z:=by simp only[J5,J6,J7];simp;omega
theorem wrapNeg{z:Int}(h0:z<0)(h1: -18446744073709551616<=z):IntKind.u64.wrap z=z+18446744073709551616:=by simp only[J5,J6,J7];simp;omega
def pL (l:Bool)(b:UInt8):Bool:=cX b || (l&&lC b)
theorem pL_word:pL true=kU:=by funext b;simp[pL,kU,Bool.or_comm]
theorem pL_digit:pL false=cX:=by funext b;simp[pL]
theorem sub48{b:UInt8}(h:cX b=true):IntKind.u8.wrap ((b.toNat:Int)-48)=((b.toNat-48:Nat):Int)/\b.toNat-48<=9:=by simp only[cX,J3,decide_eq_true_eq]at h;have:=b.toNat_lt;rw[bUx l7 l7];omega
theorem bOp: ∀(a b:Bs) (v:Nat),decV (a++b) v=decV b (decV a v)
 |[],_,_=>rfl
 |_::a,b,_=>bOp a b _
theorem bLd{ds:Bs}{i:Nat}{b:UInt8}(h:ds[i]?=some b):decV (ds.take (i+1)) 0=10*decV (ds.take i) 0+(b.toNat-48):=by rw[R6,h];exact bMd b _ 0
theorem decV_over{ds:Bs}{i:Nat}{b:UInt8}(h:ds[i]?=some b):10*decV (ds.take i) 0+(b.toNat-48)<=decV ds 0:=by
 rw[<-bLd h];have:decV ds 0=decV (ds.drop (i+1)) (decV (ds.take (i+1)) 0):=by rw[<-bOp,List.take_append_drop]
 rw[this];exact decV_ge _ _
def mostP (below:Bool):Nat:=if below then 9223372036854775808 else 9223372036854775807
theorem numP_eq(below:Bool)(ds:Bs):pW below ds=if decV ds 0<=mostP below then some (if below then-(decV ds 0:Int)else (decV ds 0:Int))else none:=by unfold pW mostP;cases below<;>rfl
def valV (o:Option Int):Value:= .tuple #[.int .i64 (o.getD 0),.bool o.isSome]
theorem val_over{below:Bool}{ds:Bs}{i:Nat}{b:UInt8}(h:ds[i]?=some b)(ho:mostP below<10*decV (ds.take i) 0+(b.toNat-48)):pW below ds=none:=by have:=decV_over h;rw[numP_eq,if_neg l7]
theorem val_done{below:Bool}{ds:Bs}{i:Nat}(hi:ds.length<=i)(hm:decV (ds.take i) 0<=mostP below):pW below ds=some (if below then-(decV (ds.take i) 0:Int)else (decV (ds.take i) 0:Int)):=by rw[List.take_of_length_le hi]at hm⊢;rw[numP_eq,if_pos hm]
theorem cO{b:UInt8}{r:Bs}(h:(b=60\/b=62)/\r.head?=some 61):gQ (b::r)=2:=by
 simp only[gQ];rw[if_pos]
 rcases h with ⟨h|h,a⟩<;>simp[h,a]
theorem cP{b:UInt8}{r:Bs}(h:r.head?≠some 61\/b≠60/\b≠62):gQ (b::r)=if fR.contains b then 1 else 0:=by
 simp only[gQ];rw[if_neg];simp only[J3,Bool.or_eq_true,beq_iff_eq];rintro⟨h1,h2⟩
 rcases h with h|⟨a,h4⟩
 .exact h h2
 .rcases h1 with h1|h1
  .exact a h1
  .exact h4 h1
theorem dS{b x:UInt8}{r:Bs}(h:(b::r)[1]?=some x):r.head?=some x:=by
 cases r with
 |nil=>simp at h
 |cons c r=>simpa using h
theorem cH{b:UInt8}{r:Bs}(h:(((b::r).length:Nat):Int)<=1):r.head?≠some 61:=by
 cases r with
 |nil=>simp
 |cons c r=>simp at h;omega
theorem dI{b x:UInt8}{r:Bs}(h:(b::r)[1]?=some x)(hx:x≠61):r.head?≠some 61:=by rw[dS h];simpa using hx
def nextV:Except Int TokR->Value
 |.error e=> .tuple #[.agg #[.int .i64 0,.int .i64 0,.string (bs []),.int .i64 0],.int .i64 0,.int .i64 e]
 |.ok (k,w,v,m)=> .tuple #[.agg #[.int .i64 k,.int .i64 0,.string (bs w),.int .i64 v],.int .i64 (m:Nat),.int .i64 0]
section
variable {b : UInt8} {r : Bs}
theorem t_line(h:b=10):fD (b::r)= .ok (4,[],0,1):=by simp[fD,h]
theorem t_long(h:b≠10)(hl:lC b=true)(h16:(16:Int)<((runB kU (b::r):Nat):Int)):fD (b::r)= .error 33:=by
 have:16<runB kU (b::r):=l7
 simp[fD,h,hl,this]
theorem t_word(h:b≠10)(hl:lC b=true)(h16:((runB kU (b::r):Nat):Int)<=16):fD (b::r)= .ok (1,(b::r).take (runB kU (b::r)),0,runB kU (b::r)):=by
 have: ¬16<runB kU (b::r):=l7
 simp[fD,h,hl,this]
theorem tok_rest(h:b≠10)(hl:lC b=false):fD (b::r)=match jE b r with
  |.error e=> .error e
  |.ok (some t)=> .ok t
  |.ok none=>if gQ (b::r)=0 then .error 31 else .ok (3,(b::r).take (gQ (b::r)),0,gQ (b::r)):=by
 have h1:(b==10)=false:=by simpa using h
 show(if (b==10)=true then _ else _)=_;rw[h1,hl];rfl
theorem t_num(h:b≠10)(hl:lC b=false){ds:Bs}(hds:ds=if b==95 then r else b::r)(hk:runB cX ds≠0):fD (b::r)=match pW (b==95) (ds.take (runB cX ds))with
  |none=> .error 32
  |some v=> .ok (2,[],v,runB cX ds+if b==95 then 1 else 0):=by subst hds;rw[tok_rest h hl];unfold jE;dsimp only;rw[if_neg hk];cases pW (b==95) ((if b==95 then r else b::r).take (runB cX (if b==95 then r else b::r)))<;>rfl
theorem t_sign(h:b≠10)(hl:lC b=false){ds:Bs}(hds:ds=if b==95 then r else b::r)(hk:runB cX ds=0):fD (b::r)=if gQ (b::r)=0 then .error 31 else .ok (3,(b::r).take (gQ (b::r)),0,gQ (b::r)):=by subst hds;rw[tok_rest h hl];unfold jE;dsimp only;rw[if_pos hk]
end
def uJ (w:Bs):Bool:=match w with
 |[]=>false
 |b::r=>decide ((b::r).length<=100)&&(b !=32&&(b !=9&&(b !=35&&match fD (b::r)with
  |.ok (k,x,v,m)=>k==1&&x==(b::r)&&v==0&&m==(b::r).length
  |.error _=>false)))
def wV (b:UInt8):Bool:=(decide (97<=b.toNat)&&decide (b.toNat<=122)) || (decide (65<=b.toNat)&&decide (b.toNat<=90))
theorem vI(b:UInt8):wV b=lC b:=by
 have key: ∀n:Fin 256,wV (L9 n.val)=lC (L9 n.val):=by decide+kernel
 have:=key ⟨b.toNat,b.toNat_lt⟩;have e:L9 b.toNat=b:=by simp
 simpa[e]using this
theorem negWrap{n:Nat}(h:n<=9223372036854775808):IntKind.i64.wrap (IntKind.u64.wrap (0-(n:Int)))= -(n:Int):=by simp only[J5,J6,J7];simp;omega
theorem cAi{α:Type}{o:Option α}(h:o.isSome=false):o=none:=by
 cases o with
 |none=>rfl
 |some x=>cases h
theorem bXn{o:Option Int}(h:o.isSome=true):o=some (o.getD 0):=by
 cases o with
 |none=>cases h
 |some x=>rfl
theorem cAp{b:UInt8}{r:Bs}(h:(b::r).take (gQ (b::r))=[]):gQ (b::r)=0:=by
 cases hs:gQ (b::r)with
 |zero=>rfl
 |succ k=>rw[hs]at h;simp at h
theorem bIq{b:UInt8}{r:Bs}(h:(b::r).take (gQ (b::r))≠[]): ¬gQ (b::r)=0:=λe=>by rw[e]at h;exact h rfl
theorem bYb{b:UInt8}{r:Bs}:(M1 #[.agg #[k6 3,k6 0,.string (bs ((b::r).take (gQ (b::r)))),k6 0],k6 ((0+((b::r).take (gQ (b::r))).length:Nat):Int),k6 0])=nextV (.ok (3,(b::r).take (gQ (b::r)),0,gQ (b::r))):=by have:=bDc (b::r);rw[Nat.zero_add,K6,L3 this];rfl
theorem gA.cons{P:Program}{T:Tab}(h:gA P T){t:Nat}{i:TI}(ht:(P.underlying t).map TD.of=some i.desc/\(P.info? t).map (·.size)=some i.size):gA P ((t,i)::T):=λs j hs=>by
 unfold Tab.get at hs
 cases a:Nat.beq t s with
 |true=>
  have:=Nat.eq_of_beq_eq_true a;subst this;rw[a]at hs;simp at hs;subst hs;exact ht
 |false=>
  rw[a]at hs;exact h s j hs
def refT:Tab:=(221,⟨.int .u64,1⟩)::show2T
theorem jO:gA prog refT:=kY.cons ⟨by rw[underlying221];rfl,m0⟩
theorem uV(z0:Int)(z1:Int):prog.built 110 [(0,k6 z0),(1,k6 z1)]=some #[k6 z0,k6 z1,.string (bs []),k6 0]:=m0
theorem lJ(z0:Int)(z1:Int)(s2:ByteArray):prog.built 110 [(0,k6 z0),(1,k6 z1),(2,.string s2)]=some #[k6 z0,k6 z1,.string s2,k6 0]:=m0
theorem nV(z0:Int)(z1:Int)(z3:Int):prog.built 110 [(0,k6 z0),(1,k6 z1),(3,k6 z3)]=some #[k6 z0,k6 z1,.string (bs []),k6 z3]:=m0
theorem bJh(b:UInt8):cY prog 160 [k7 b.toNat] [] [] (λ(_:Unit)=> .bool (wV b)) (λ_=>[]) (λ_=>[]):=by
 have hT:=jO;refine j5 func160 ntmps160 ?_;intro β hM;refine g10 ?_;refine bRx (λd=>?_) λd=>?_
 .refine g4 ?_;refine bRx (λc=>?_) λc=>?_
  .refine g11 ?_;exact rs1 () i6 (he:=by congr 1;unfold wV;rw[L7];simp;omega)
  refine g3 ?_;refine bRx (λa=>?_) λa=>?_
  .refine g8 ?_;exact rs1 () i6 (he:=by congr 1;unfold wV;rw[L7];simp;omega)
  refine g8 ?_;exact rs1 () i6 (he:=by congr 1;unfold wV;rw[L7];simp;omega)
 refine g7 ?_;refine bRx (λa=>?_) λa=>?_
 .refine g8 ?_;exact rs1 () i6 (he:=by congr 1;unfold wV;rw[L7];simp;omega)
 refine g8 ?_;exact rs1 () i6 (he:=by congr 1;unfold wV;rw[L7];simp;omega)
theorem rdigit_spec(b:UInt8):cY prog 189 [k7 b.toNat] [] [] (λ(_:Unit)=> .bool (cX b)) (λ_=>[]) (λ_=>[]):=by
 have hT:=jO;refine j5 func189 ntmps189 ?_;intro β hM;refine g10 ?_;refine bRx (λa=>?_) λa=>?_
 .refine g7 ?_;exact rs1 () i6 (he:=by congr 1;unfold cX;rw[L7];simp;omega)
 refine g7 ?_;exact rs1 () i6 (he:=by congr 1;unfold cX;rw[L7];simp;omega)
theorem bMc(s:Bs)(at_:Nat)(l:Bool)(hs:s.length<=140737488355328)(ha:at_<=s.length):cY prog 161 [.string (bs s),k6 (at_:Nat),.bool l] [] [] (λ(_:Unit)=> k6 ((at_+runB (pL l) (s.drop at_):Nat):Int)) (λ_=>[]) (λ_=>[]):=by
 have hT:=jO;refine j5 func161 ntmps161 ?_;intro β hM;refine g7 ?_;refine cF (ι:=Nat) [(0,_),(2,_)] ⟨rfl,rfl,i6⟩ (λi=>[(1,.int .i64 (i:Nat))]) (λ_=>[]) (λi=>[Fact.pure (i<=s.length/\at_+runB (pL l) (s.drop at_)=i+runB (pL l) (s.drop i))]) (λi=>s.length-i) at_ ⟨rfl,i6⟩ .nil ⟨i7 (⟨ha,rfl⟩),i6⟩ ?_;rintro i;refine bF d7 λhinv1=>?_;refine g6 ?_;refine bJ (z':=((s.length:Nat):Int)) rfl ?_;refine g2 ?_;refine lR (λhg11=>?_) λhg11=>?_
 .refine g2 ?_;obtain⟨d,hb2⟩:=gx s i;refine ss (fM hT (k:=i) rfl rfl rfl rfl rfl hb2) ?_;refine bD func189 (rdigit_spec _) rfl rfl .nil i6 λ_=>?_;refine one ?_;refine cG (λb=>?_) (λb=>?_)
  .refine g18 ?_;refine inc (i+1) ?_;refine g4 ?_;exact bk2 (i+1) ⟨i7 (⟨l7,by rw[hinv1.2,hO hb2,runB,if_pos af3];omega⟩),i6⟩
  refine g2 ?_;refine cG (λa=>?_) (λa=>?_)
  .refine g2 ?_;refine ss (fM hT (k:=i) rfl rfl rfl rfl rfl hb2) ?_;refine bD func160 (bJh _) rfl rfl .nil i6 λ_=>?_;refine g5 ?_;refine fX (λc=>?_) λc=>?_
   .refine g6 ?_;refine inc (i+1) ?_;refine g4 ?_;exact bk2 (i+1) ⟨i7 (⟨l7,by rw[hinv1.2,hO hb2,runB,if_pos af3];omega⟩),i6⟩
   refine g12 ?_;exact rs1 () i6 (he:=congrArg (λn:Nat=>M0 .i64 (n:Int)) ag2)
  refine g22 ?_;exact rs1 () i6 (he:=congrArg (λn:Nat=>M0 .i64 (n:Int)) ag2)
 refine g29 ?_;exact rs1 () i6 (he:=congrArg (λn:Nat=>M0 .i64 (n:Int)) (by rw[hinv1.2,K3 l7];rfl))
theorem bTq(b:UInt8)(r:Bs):cY prog 163 [.string (bs (b::r)),k6 0] [] [] (λ(_:Unit)=> .string (bs ((b::r).take (gQ (b::r))))) (λ_=>[]) (λ_=>[]):=by
 have hT:=jO;refine j5 func163 ntmps163 ?_;intro β hM;refine g10 ?_;refine inc 1 ?_;refine g2 ?_;refine bJ (z':=(((b::r).length:Nat):Int)) rfl ?_;refine g2 ?_;refine cG (λhg10=>?_) (λhg10=>?_)
 .have hg10:=of_decide_eq_true hg10;refine g2 ?_;refine ss (fM hT (k:=0) rfl rfl rfl rfl rfl rfl) ?_;refine g2 ?_;refine cG (λhg15=>?_) (λhg15=>?_)
  .have hg15:b=60:=dM (k:=60) (eq_of_beq hg15);refine g10 ?_;refine inc 1 ?_;obtain⟨b1,hb2⟩:=gx (b::r) 1;refine ss (fM hT (k:=1) rfl rfl rfl rfl rfl hb2) ?_;refine g4 ?_;refine bX rfl (λhc28=>?_) (λhc28=>?_)
   .have hc28_r:=hc28;have hc28:b1=61:=dM (k:=61) (eq_of_beq hc28);refine g6 ?_;refine inc 2 ?_;refine ss (cS hT (j:=0) (k:=2) rfl rfl rfl rfl rfl rfl rfl m6 l7) ?_;refine g5 ?_;exact rs1 () i6 (he:=l6)
   have hc28_r:=hc28;have hc28:b1≠61:=dL (k:=61) (beq_eq_false_iff_ne.1 hc28);refine g7 ?_;refine ss (fM hT (k:=0) rfl rfl rfl rfl rfl rfl) ?_;refine g10 ?_;refine bX rfl (λa=>?_) (λa=>?_)
   .have c:=a;have a:b=43:=dM (k:=43) (eq_of_beq a);refine g2 ?_;refine cC rfl c ?_;refine g6 ?_;refine inc 1 ?_;refine ss (cS hT (j:=0) (k:=1) rfl rfl rfl rfl rfl rfl rfl m6 m9) ?_;refine g6 ?_;exact rs1 () i6 (he:=l6)
   have c:=a;have a:b≠43:=dL (k:=43) (beq_eq_false_iff_ne.1 a);refine g6 ?_;refine bX rfl (λhc37_3=>?_) (λhc37_3=>?_)
   .have hc37_3_r:=hc37_3;have hc37_3:b=45:=dM (k:=45) (eq_of_beq hc37_3);refine g2 ?_;refine cC rfl hc37_3_r ?_;refine g6 ?_;refine inc 1 ?_;refine ss (cS hT (j:=0) (k:=1) rfl rfl rfl rfl rfl rfl rfl m6 m9) ?_;refine g6 ?_;exact rs1 () i6 (he:=l6)
   have hc37_3_r:=hc37_3;have hc37_3:b≠45:=dL (k:=45) (beq_eq_false_iff_ne.1 hc37_3);refine g6 ?_;refine bX rfl (λhc37_4=>?_) (λhc37_4=>?_)
   .have hc37_4_r:=hc37_4;have hc37_4:b=42:=dM (k:=42) (eq_of_beq hc37_4);refine g2 ?_;refine cC rfl hc37_4_r ?_;refine g6 ?_;refine inc 1 ?_;refine ss (cS hT (j:=0) (k:=1) rfl rfl rfl rfl rfl rfl rfl m6 m9) ?_;refine g6 ?_;exact rs1 () i6 (he:=l6)
   have hc37_4_r:=hc37_4;have hc37_4:b≠42:=dL (k:=42) (beq_eq_false_iff_ne.1 hc37_4);refine g6 ?_;refine bX rfl (λhc37_5=>?_) (λhc37_5=>?_)
   .have hc37_5_r:=hc37_5;have hc37_5:b=37:=dM (k:=37) (eq_of_beq hc37_5);refine g2 ?_;refine cC rfl hc37_5_r ?_;refine g6 ?_;refine inc 1 ?_;refine ss (cS hT (j:=0) (k:=1) rfl rfl rfl rfl rfl rfl rfl m6 m9) ?_;refine g6 ?_;exact rs1 () i6 (he:=l6)
   have hc37_5_r:=hc37_5;have hc37_5:b≠37:=dL (k:=37) (beq_eq_false_iff_ne.1 hc37_5);refine g6 ?_;refine bX rfl (λhc37_6=>?_) (λhc37_6=>?_)
   .have hc37_6_r:=hc37_6;have hc37_6:b=124:=dM (k:=124) (eq_of_beq hc37_6);refine g2 ?_;refine cC rfl hc37_6_r ?_;refine g6 ?_;refine inc 1 ?_;refine ss (cS hT (j:=0) (k:=1) rfl rfl rfl rfl rfl rfl rfl m6 m9) ?_;refine g6 ?_;exact rs1 () i6 (he:=l6)
   have hc37_6_r:=hc37_6;have hc37_6:b≠124:=dL (k:=124) (beq_eq_false_iff_ne.1 hc37_6);refine g6 ?_;refine bX rfl (λhc37_7=>?_) (λhc37_7=>?_)
   .have hc37_7_r:=hc37_7;have hc37_7:b=61:=dM (k:=61) (eq_of_beq hc37_7);refine g2 ?_;refine cC rfl hc37_7_r ?_;refine g6 ?_;refine inc 1 ?_;refine ss (cS hT (j:=0) (k:=1) rfl rfl rfl rfl rfl rfl rfl m6 m9) ?_;refine g6 ?_;exact rs1 () i6 (he:=l6)
   have hc37_7_r:=hc37_7;have hc37_7:b≠61:=dL (k:=61) (beq_eq_false_iff_ne.1 hc37_7);refine g6 ?_;refine bX rfl (λhc37_8=>?_) (λhc37_8=>?_)
   .have hc37_8_r:=hc37_8;have hc37_8:b=126:=dM (k:=126) (eq_of_beq hc37_8);refine g2 ?_;refine cC rfl hc37_8_r ?_;refine g6 ?_;refine inc 1 ?_;refine ss (cS hT (j:=0) (k:=1) rfl rfl rfl rfl rfl rfl rfl m6 m9) ?_;refine g6 ?_;exact rs1 () i6 (he:=l6)
   have hc37_8_r:=hc37_8;have hc37_8:b≠126:=dL (k:=126) (beq_eq_false_iff_ne.1 hc37_8);refine g6 ?_;refine bX rfl (λhc37_9=>?_) (λhc37_9=>?_)
   .have hc37_9_r:=hc37_9;have hc37_9:b=60:=dM (k:=60) (eq_of_beq hc37_9);refine g2 ?_;refine cC rfl hc37_9_r ?_;refine g6 ?_;refine inc 1 ?_;refine ss (cS hT (j:=0) (k:=1) rfl rfl rfl rfl rfl rfl rfl m6 m9) ?_;refine g6 ?_;exact rs1 () i6 (he:=l6)
   have hc37_9_r:=hc37_9;have hc37_9:b≠60:=dL (k:=60) (beq_eq_false_iff_ne.1 hc37_9);refine g6 ?_;refine bX rfl (λhc37_10=>?_) (λhc37_10=>?_)
   .have hc37_10_r:=hc37_10;have hc37_10:b=62:=dM (k:=62) (eq_of_beq hc37_10);refine g2 ?_;refine cC rfl hc37_10_r ?_;refine g6 ?_;refine inc 1 ?_;refine ss (cS hT (j:=0) (k:=1) rfl rfl rfl rfl rfl rfl rfl m6 m9) ?_;refine g6 ?_;exact rs1 () i6 (he:=l6)
   have hc37_10_r:=hc37_10;have hc37_10:b≠62:=dL (k:=62) (beq_eq_false_iff_ne.1 hc37_10);refine g6 ?_;refine bX rfl (λhc37_11=>?_) (λhc37_11=>?_)
   .have hc37_11_r:=hc37_11;have hc37_11:b=47:=dM (k:=47) (eq_of_beq hc37_11);refine g2 ?_;refine cC rfl hc37_11_r ?_;refine g6 ?_;refine inc 1 ?_;refine ss (cS hT (j:=0) (k:=1) rfl rfl rfl rfl rfl rfl rfl m6 m9) ?_;refine g6 ?_;exact rs1 () i6 (he:=l6)
   have hc37_11_r:=hc37_11;have hc37_11:b≠47:=dL (k:=47) (beq_eq_false_iff_ne.1 hc37_11);refine g6 ?_;refine bX rfl (λhc37_12=>?_) (λhc37_12=>?_)
   .have hc37_12_r:=hc37_12;have hc37_12:b=92:=dM (k:=92) (eq_of_beq hc37_12);refine g2 ?_;refine cC rfl hc37_12_r ?_;refine g6 ?_;refine inc 1 ?_;refine ss (cS hT (j:=0) (k:=1) rfl rfl rfl rfl rfl rfl rfl m6 m9) ?_;refine g6 ?_;exact rs1 () i6 (he:=l6)
   have hc37_12_r:=hc37_12;have hc37_12:b≠92:=dL (k:=92) (beq_eq_false_iff_ne.1 hc37_12);refine g6 ?_;refine bX rfl (λhc37_13=>?_) (λhc37_13=>?_)
   .have hc37_13_r:=hc37_13;have hc37_13:b=46:=dM (k:=46) (eq_of_beq hc37_13);refine g2 ?_;refine cC rfl hc37_13_r ?_;refine g6 ?_;refine inc 1 ?_;refine ss (cS hT (j:=0) (k:=1) rfl rfl rfl rfl rfl rfl rfl m6 m9) ?_;refine g6 ?_;exact rs1 () i6 (he:=l6)
   have hc37_13_r:=hc37_13;have hc37_13:b≠46:=dL (k:=46) (beq_eq_false_iff_ne.1 hc37_13);refine g6 ?_;refine bX rfl (λhc37_14=>?_) (λhc37_14=>?_)
   .have hc37_14_r:=hc37_14;have hc37_14:b=58:=dM (k:=58) (eq_of_beq hc37_14);refine g2 ?_;refine cC rfl hc37_14_r ?_;refine g6 ?_;refine inc 1 ?_;refine ss (cS hT (j:=0) (k:=1) rfl rfl rfl rfl rfl rfl rfl m6 m9) ?_;refine g6 ?_;exact rs1 () i6 (he:=l6)
   have hc37_14_r:=hc37_14;have hc37_14:b≠58:=dL (k:=58) (beq_eq_false_iff_ne.1 hc37_14);refine g6 ?_;refine bX rfl (λhc37_15=>?_) (λhc37_15=>?_)
   .have hc37_15_r:=hc37_15;have hc37_15:b=40:=dM (k:=40) (eq_of_beq hc37_15);refine g2 ?_;refine cC rfl hc37_15_r ?_;refine g6 ?_;refine inc 1 ?_;refine ss (cS hT (j:=0) (k:=1) rfl rfl rfl rfl rfl rfl rfl m6 m9) ?_;refine g6 ?_;exact rs1 () i6 (he:=l6)
   have hc37_15_r:=hc37_15;have hc37_15:b≠40:=dL (k:=40) (beq_eq_false_iff_ne.1 hc37_15);refine g5 ?_;refine bX rfl (λhc37_16=>?_) (λhc37_16=>?_)
   .have hc37_16_r:=hc37_16;have hc37_16:b=41:=dM (k:=41) (eq_of_beq hc37_16);refine g6 ?_;refine inc 1 ?_;refine ss (cS hT (j:=0) (k:=1) rfl rfl rfl rfl rfl rfl rfl m6 m9) ?_;refine g6 ?_;exact rs1 () i6 (he:=l6)
   have hc37_16_r:=hc37_16;have hc37_16:b≠41:=dL (k:=41) (beq_eq_false_iff_ne.1 hc37_16);refine g9 ?_;exact rs1 () i6 (he:=l6)
  have hg15:b≠60:=dL (k:=60) (beq_eq_false_iff_ne.1 hg15);refine g2 ?_;refine ss (fM hT (k:=0) rfl rfl rfl rfl rfl rfl) ?_;refine g4 ?_;refine cG (λhg22=>?_) (λhg22=>?_)
  .have hg22:b=62:=dM (k:=62) (eq_of_beq hg22);refine g3 ?_;refine inc 1 ?_;obtain⟨b17,hb18⟩:=gx (b::r) 1;refine ss (fM hT (k:=1) rfl rfl rfl rfl rfl hb18) ?_;refine g4 ?_;refine bX rfl (λhc28=>?_) (λhc28=>?_)
   .have hc28_r:=hc28;have hc28:b17=61:=dM (k:=61) (eq_of_beq hc28);refine g6 ?_;refine inc 2 ?_;refine ss (cS hT (j:=0) (k:=2) rfl rfl rfl rfl rfl rfl rfl m6 l7) ?_;refine g5 ?_;exact rs1 () i6 (he:=l6)
   have hc28_r:=hc28;have hc28:b17≠61:=dL (k:=61) (beq_eq_false_iff_ne.1 hc28);refine g7 ?_;refine ss (fM hT (k:=0) rfl rfl rfl rfl rfl rfl) ?_;refine g10 ?_;refine bX rfl (λa=>?_) (λa=>?_)
   .have c:=a;have a:b=43:=dM (k:=43) (eq_of_beq a);refine g2 ?_;refine cC rfl c ?_;refine g6 ?_;refine inc 1 ?_;refine ss (cS hT (j:=0) (k:=1) rfl rfl rfl rfl rfl rfl rfl m6 m9) ?_;refine g6 ?_;exact rs1 () i6 (he:=l6)
   have c:=a;have a:b≠43:=dL (k:=43) (beq_eq_false_iff_ne.1 a);refine g6 ?_;refine bX rfl (λZ=>?_) (λZ=>?_)
   .have hc37_19_r:=Z;have Z:b=45:=dM (k:=45) (eq_of_beq Z);refine g2 ?_;refine cC rfl hc37_19_r ?_;refine g6 ?_;refine inc 1 ?_;refine ss (cS hT (j:=0) (k:=1) rfl rfl rfl rfl rfl rfl rfl m6 m9) ?_;refine g6 ?_;exact rs1 () i6 (he:=l6)
   have hc37_19_r:=Z;have Z:b≠45:=dL (k:=45) (beq_eq_false_iff_ne.1 Z);refine g6 ?_;refine bX rfl (λY=>?_) (λY=>?_)
   .have hc37_20_r:=Y;have Y:b=42:=dM (k:=42) (eq_of_beq Y);refine g2 ?_;refine cC rfl hc37_20_r ?_;refine g6 ?_;refine inc 1 ?_;refine ss (cS hT (j:=0) (k:=1) rfl rfl rfl rfl rfl rfl rfl m6 m9) ?_;refine g6 ?_;exact rs1 () i6 (he:=l6)
   have hc37_20_r:=Y;have Y:b≠42:=dL (k:=42) (beq_eq_false_iff_ne.1 Y);refine g6 ?_;refine bX rfl (λX=>?_) (λX=>?_)
   .have hc37_21_r:=X;have X:b=37:=dM (k:=37) (eq_of_beq X);refine g2 ?_;refine cC rfl hc37_21_r ?_;refine g6 ?_;refine inc 1 ?_;refine ss (cS hT (j:=0) (k:=1) rfl rfl rfl rfl rfl rfl rfl m6 m9) ?_;refine g6 ?_;exact rs1 () i6 (he:=l6)
   have hc37_21_r:=X;have X:b≠37:=dL (k:=37) (beq_eq_false_iff_ne.1 X);refine g6 ?_;refine bX rfl (λW=>?_) (λW=>?_)
   .have hc37_22_r:=W;have W:b=124:=dM (k:=124) (eq_of_beq W);refine g2 ?_;refine cC rfl hc37_22_r ?_;refine g6 ?_;refine inc 1 ?_;refine ss (cS hT (j:=0) (k:=1) rfl rfl rfl rfl rfl rfl rfl m6 m9) ?_;refine g6 ?_;exact rs1 () i6 (he:=l6)
   have hc37_22_r:=W;have W:b≠124:=dL (k:=124) (beq_eq_false_iff_ne.1 W);refine g6 ?_;refine bX rfl (λV=>?_) (λV=>?_)
   .have hc37_23_r:=V;have V:b=61:=dM (k:=61) (eq_of_beq V);refine g2 ?_;refine cC rfl hc37_23_r ?_;refine g6 ?_;refine inc 1 ?_;refine ss (cS hT (j:=0) (k:=1) rfl rfl rfl rfl rfl rfl rfl m6 m9) ?_;refine g6 ?_;exact rs1 () i6 (he:=l6)
   have hc37_23_r:=V;have V:b≠61:=dL (k:=61) (beq_eq_false_iff_ne.1 V);refine g6 ?_;refine bX rfl (λU=>?_) (λU=>?_)
   .have hc37_24_r:=U;have U:b=126:=dM (k:=126) (eq_of_beq U);refine g2 ?_;refine cC rfl hc37_24_r ?_;refine g6 ?_;refine inc 1 ?_;refine ss (cS hT (j:=0) (k:=1) rfl rfl rfl rfl rfl rfl rfl m6 m9) ?_;refine g6 ?_;exact rs1 () i6 (he:=l6)
   have hc37_24_r:=U;have U:b≠126:=dL (k:=126) (beq_eq_false_iff_ne.1 U);refine g6 ?_;refine bX rfl (λR=>?_) (λR=>?_)
   .have hc37_25_r:=R;have R:b=60:=dM (k:=60) (eq_of_beq R);refine g2 ?_;refine cC rfl hc37_25_r ?_;refine g6 ?_;refine inc 1 ?_;refine ss (cS hT (j:=0) (k:=1) rfl rfl rfl rfl rfl rfl rfl m6 m9) ?_;refine g6 ?_;exact rs1 () i6 (he:=l6)
   have hc37_25_r:=R;have R:b≠60:=dL (k:=60) (beq_eq_false_iff_ne.1 R);refine g6 ?_;refine bX rfl (λQ=>?_) (λQ=>?_)
   .have hc37_26_r:=Q;have Q:b=62:=dM (k:=62) (eq_of_beq Q);refine g2 ?_;refine cC rfl hc37_26_r ?_;refine g6 ?_;refine inc 1 ?_;refine ss (cS hT (j:=0) (k:=1) rfl rfl rfl rfl rfl rfl rfl m6 m9) ?_;refine g6 ?_;exact rs1 () i6 (he:=l6)
   have hc37_26_r:=Q;have Q:b≠62:=dL (k:=62) (beq_eq_false_iff_ne.1 Q);refine g6 ?_;refine bX rfl (λP=>?_) (λP=>?_)
   .have hc37_27_r:=P;have P:b=47:=dM (k:=47) (eq_of_beq P);refine g2 ?_;refine cC rfl hc37_27_r ?_;refine g6 ?_;refine inc 1 ?_;refine ss (cS hT (j:=0) (k:=1) rfl rfl rfl rfl rfl rfl rfl m6 m9) ?_;refine g6 ?_;exact rs1 () i6 (he:=l6)
   have hc37_27_r:=P;have P:b≠47:=dL (k:=47) (beq_eq_false_iff_ne.1 P);refine g6 ?_;refine bX rfl (λO=>?_) (λO=>?_)
   .have hc37_28_r:=O;have O:b=92:=dM (k:=92) (eq_of_beq O);refine g2 ?_;refine cC rfl hc37_28_r ?_;refine g6 ?_;refine inc 1 ?_;refine ss (cS hT (j:=0) (k:=1) rfl rfl rfl rfl rfl rfl rfl m6 m9) ?_;refine g6 ?_;exact rs1 () i6 (he:=l6)
   have hc37_28_r:=O;have O:b≠92:=dL (k:=92) (beq_eq_false_iff_ne.1 O);refine g6 ?_;refine bX rfl (λN=>?_) (λN=>?_)
   .have hc37_29_r:=N;have N:b=46:=dM (k:=46) (eq_of_beq N);refine g2 ?_;refine cC rfl hc37_29_r ?_;refine g6 ?_;refine inc 1 ?_;refine ss (cS hT (j:=0) (k:=1) rfl rfl rfl rfl rfl rfl rfl m6 m9) ?_;refine g6 ?_;exact rs1 () i6 (he:=l6)
   have hc37_29_r:=N;have N:b≠46:=dL (k:=46) (beq_eq_false_iff_ne.1 N);refine g6 ?_;refine bX rfl (λM=>?_) (λM=>?_)
   .have hc37_30_r:=M;have M:b=58:=dM (k:=58) (eq_of_beq M);refine g2 ?_;refine cC rfl hc37_30_r ?_;refine g6 ?_;refine inc 1 ?_;refine ss (cS hT (j:=0) (k:=1) rfl rfl rfl rfl rfl rfl rfl m6 m9) ?_;refine g6 ?_;exact rs1 () i6 (he:=l6)
   have hc37_30_r:=M;have M:b≠58:=dL (k:=58) (beq_eq_false_iff_ne.1 M);refine g6 ?_;refine bX rfl (λL=>?_) (λL=>?_)
   .have hc37_31_r:=L;have L:b=40:=dM (k:=40) (eq_of_beq L);refine g2 ?_;refine cC rfl hc37_31_r ?_;refine g6 ?_;refine inc 1 ?_;refine ss (cS hT (j:=0) (k:=1) rfl rfl rfl rfl rfl rfl rfl m6 m9) ?_;refine g6 ?_;exact rs1 () i6 (he:=l6)
   have hc37_31_r:=L;have L:b≠40:=dL (k:=40) (beq_eq_false_iff_ne.1 L);refine g5 ?_;refine bX rfl (λK=>?_) (λK=>?_)
   .have hc37_32_r:=K;have K:b=41:=dM (k:=41) (eq_of_beq K);refine g6 ?_;refine inc 1 ?_;refine ss (cS hT (j:=0) (k:=1) rfl rfl rfl rfl rfl rfl rfl m6 m9) ?_;refine g6 ?_;exact rs1 () i6 (he:=l6)
   have hc37_32_r:=K;have K:b≠41:=dL (k:=41) (beq_eq_false_iff_ne.1 K);refine g9 ?_;exact rs1 () i6 (he:=l6)
  have hg22:b≠62:=dL (k:=62) (beq_eq_false_iff_ne.1 hg22);refine g16 ?_;refine ss (fM hT (k:=0) rfl rfl rfl rfl rfl rfl) ?_;refine g10 ?_;refine bX rfl (λa=>?_) (λa=>?_)
  .have c:=a;have a:b=43:=dM (k:=43) (eq_of_beq a);refine g2 ?_;refine cC rfl c ?_;refine g6 ?_;refine inc 1 ?_;refine ss (cS hT (j:=0) (k:=1) rfl rfl rfl rfl rfl rfl rfl m6 m9) ?_;refine g6 ?_;exact rs1 () i6 (he:=l6)
  have c:=a;have a:b≠43:=dL (k:=43) (beq_eq_false_iff_ne.1 a);refine g6 ?_;refine bX rfl (λJ=>?_) (λJ=>?_)
  .have hc37_33_r:=J;have J:b=45:=dM (k:=45) (eq_of_beq J);refine g2 ?_;refine cC rfl hc37_33_r ?_;refine g6 ?_;refine inc 1 ?_;refine ss (cS hT (j:=0) (k:=1) rfl rfl rfl rfl rfl rfl rfl m6 m9) ?_;refine g6 ?_;exact rs1 () i6 (he:=l6)
  have hc37_33_r:=J;have J:b≠45:=dL (k:=45) (beq_eq_false_iff_ne.1 J);refine g6 ?_;refine bX rfl (λI=>?_) (λI=>?_)
  .have hc37_34_r:=I;have I:b=42:=dM (k:=42) (eq_of_beq I);refine g2 ?_;refine cC rfl hc37_34_r ?_;refine g6 ?_;refine inc 1 ?_;refine ss (cS hT (j:=0) (k:=1) rfl rfl rfl rfl rfl rfl rfl m6 m9) ?_;refine g6 ?_;exact rs1 () i6 (he:=l6)
  have hc37_34_r:=I;have I:b≠42:=dL (k:=42) (beq_eq_false_iff_ne.1 I);refine g6 ?_;refine bX rfl (λG=>?_) (λG=>?_)
  .have hc37_35_r:=G;have G:b=37:=dM (k:=37) (eq_of_beq G);refine g2 ?_;refine cC rfl hc37_35_r ?_;refine g6 ?_;refine inc 1 ?_;refine ss (cS hT (j:=0) (k:=1) rfl rfl rfl rfl rfl rfl rfl m6 m9) ?_;refine g6 ?_;exact rs1 () i6 (he:=l6)
  have hc37_35_r:=G;have G:b≠37:=dL (k:=37) (beq_eq_false_iff_ne.1 G);refine g6 ?_;refine bX rfl (λE=>?_) (λE=>?_)
  .have hc37_36_r:=E;have E:b=124:=dM (k:=124) (eq_of_beq E);refine g2 ?_;refine cC rfl hc37_36_r ?_;refine g6 ?_;refine inc 1 ?_;refine ss (cS hT (j:=0) (k:=1) rfl rfl rfl rfl rfl rfl rfl m6 m9) ?_;refine g6 ?_;exact rs1 () i6 (he:=l6)
  have hc37_36_r:=E;have E:b≠124:=dL (k:=124) (beq_eq_false_iff_ne.1 E);refine g6 ?_;refine bX rfl (λD=>?_) (λD=>?_)
  .have hc37_37_r:=D;have D:b=61:=dM (k:=61) (eq_of_beq D);refine g2 ?_;refine cC rfl hc37_37_r ?_;refine g6 ?_;refine inc 1 ?_;refine ss (cS hT (j:=0) (k:=1) rfl rfl rfl rfl rfl rfl rfl m6 m9) ?_;refine g6 ?_;exact rs1 () i6 (he:=l6)
  have hc37_37_r:=D;have D:b≠61:=dL (k:=61) (beq_eq_false_iff_ne.1 D);refine g6 ?_;refine bX rfl (λC=>?_) (λC=>?_)
  .have hc37_38_r:=C;have C:b=126:=dM (k:=126) (eq_of_beq C);refine g2 ?_;refine cC rfl hc37_38_r ?_;refine g6 ?_;refine inc 1 ?_;refine ss (cS hT (j:=0) (k:=1) rfl rfl rfl rfl rfl rfl rfl m6 m9) ?_;refine g6 ?_;exact rs1 () i6 (he:=l6)
  have hc37_38_r:=C;have C:b≠126:=dL (k:=126) (beq_eq_false_iff_ne.1 C);refine g6 ?_;refine bX rfl (λB=>?_) (λB=>?_)
  .have hc37_39_r:=B;have B:b=60:=dM (k:=60) (eq_of_beq B);refine g2 ?_;refine cC rfl hc37_39_r ?_;refine g6 ?_;refine inc 1 ?_;refine ss (cS hT (j:=0) (k:=1) rfl rfl rfl rfl rfl rfl rfl m6 m9) ?_;refine g6 ?_;exact rs1 () i6 (he:=l6)
  have hc37_39_r:=B;have B:b≠60:=dL (k:=60) (beq_eq_false_iff_ne.1 B);refine g6 ?_;refine bX rfl (λA=>?_) (λA=>?_)
  .have hc37_40_r:=A;have A:b=62:=dM (k:=62) (eq_of_beq A);refine g2 ?_;refine cC rfl hc37_40_r ?_;refine g6 ?_;refine inc 1 ?_;refine ss (cS hT (j:=0) (k:=1) rfl rfl rfl rfl rfl rfl rfl m6 m9) ?_;refine g6 ?_;exact rs1 () i6 (he:=l6)
  have hc37_40_r:=A;have A:b≠62:=dL (k:=62) (beq_eq_false_iff_ne.1 A);refine g6 ?_;refine bX rfl (λz=>?_) (λz=>?_)
  .have hc37_41_r:=z;have z:b=47:=dM (k:=47) (eq_of_beq z);refine g2 ?_;refine cC rfl hc37_41_r ?_;refine g6 ?_;refine inc 1 ?_;refine ss (cS hT (j:=0) (k:=1) rfl rfl rfl rfl rfl rfl rfl m6 m9) ?_;refine g6 ?_;exact rs1 () i6 (he:=l6)
  have hc37_41_r:=z;have z:b≠47:=dL (k:=47) (beq_eq_false_iff_ne.1 z);refine g6 ?_;refine bX rfl (λy=>?_) (λy=>?_)
  .have hc37_42_r:=y;have y:b=92:=dM (k:=92) (eq_of_beq y);refine g2 ?_;refine cC rfl hc37_42_r ?_;refine g6 ?_;refine inc 1 ?_;refine ss (cS hT (j:=0) (k:=1) rfl rfl rfl rfl rfl rfl rfl m6 m9) ?_;refine g6 ?_;exact rs1 () i6 (he:=l6)
  have hc37_42_r:=y;have y:b≠92:=dL (k:=92) (beq_eq_false_iff_ne.1 y);refine g6 ?_;refine bX rfl (λx=>?_) (λx=>?_)
  .have hc37_43_r:=x;have x:b=46:=dM (k:=46) (eq_of_beq x);refine g2 ?_;refine cC rfl hc37_43_r ?_;refine g6 ?_;refine inc 1 ?_;refine ss (cS hT (j:=0) (k:=1) rfl rfl rfl rfl rfl rfl rfl m6 m9) ?_;refine g6 ?_;exact rs1 () i6 (he:=l6)
  have hc37_43_r:=x;have x:b≠46:=dL (k:=46) (beq_eq_false_iff_ne.1 x);refine g6 ?_;refine bX rfl (λw=>?_) (λw=>?_)
  .have hc37_44_r:=w;have w:b=58:=dM (k:=58) (eq_of_beq w);refine g2 ?_;refine cC rfl hc37_44_r ?_;refine g6 ?_;refine inc 1 ?_;refine ss (cS hT (j:=0) (k:=1) rfl rfl rfl rfl rfl rfl rfl m6 m9) ?_;refine g6 ?_;exact rs1 () i6 (he:=l6)
  have hc37_44_r:=w;have w:b≠58:=dL (k:=58) (beq_eq_false_iff_ne.1 w);refine g6 ?_;refine bX rfl (λv=>?_) (λv=>?_)
  .have hc37_45_r:=v;have v:b=40:=dM (k:=40) (eq_of_beq v);refine g2 ?_;refine cC rfl hc37_45_r ?_;refine g6 ?_;refine inc 1 ?_;refine ss (cS hT (j:=0) (k:=1) rfl rfl rfl rfl rfl rfl rfl m6 m9) ?_;refine g6 ?_;exact rs1 () i6 (he:=l6)
  have hc37_45_r:=v;have v:b≠40:=dL (k:=40) (beq_eq_false_iff_ne.1 v);refine g5 ?_;refine bX rfl (λu=>?_) (λu=>?_)
  .have hc37_46_r:=u;have u:b=41:=dM (k:=41) (eq_of_beq u);refine g6 ?_;refine inc 1 ?_;refine ss (cS hT (j:=0) (k:=1) rfl rfl rfl rfl rfl rfl rfl m6 m9) ?_;refine g6 ?_;exact rs1 () i6 (he:=l6)
  have hc37_46_r:=u;have u:b≠41:=dL (k:=41) (beq_eq_false_iff_ne.1 u);refine g9 ?_;exact rs1 () i6 (he:=l6)
 have hg10:=aD.1 (of_decide_eq_false hg10);refine g28 ?_;refine ss (fM hT (k:=0) rfl rfl rfl rfl rfl rfl) ?_;refine g10 ?_;refine bX rfl (λa=>?_) (λa=>?_)
 .have c:=a;have a:b=43:=dM (k:=43) (eq_of_beq a);refine g2 ?_;refine cC rfl c ?_;refine g6 ?_;refine inc 1 ?_;refine ss (cS hT (j:=0) (k:=1) rfl rfl rfl rfl rfl rfl rfl m6 m9) ?_;refine g6 ?_;exact rs1 () i6 (he:=l6)
 have c:=a;have a:b≠43:=dL (k:=43) (beq_eq_false_iff_ne.1 a);refine g6 ?_;refine bX rfl (λt=>?_) (λt=>?_)
 .have hc37_47_r:=t;have t:b=45:=dM (k:=45) (eq_of_beq t);refine g2 ?_;refine cC rfl hc37_47_r ?_;refine g6 ?_;refine inc 1 ?_;refine ss (cS hT (j:=0) (k:=1) rfl rfl rfl rfl rfl rfl rfl m6 m9) ?_;refine g6 ?_;exact rs1 () i6 (he:=l6)
 have hc37_47_r:=t;have t:b≠45:=dL (k:=45) (beq_eq_false_iff_ne.1 t);refine g6 ?_;refine bX rfl (λs=>?_) (λs=>?_)
 .have hc37_48_r:=s;have s:b=42:=dM (k:=42) (eq_of_beq s);refine g2 ?_;refine cC rfl hc37_48_r ?_;refine g6 ?_;refine inc 1 ?_;refine ss (cS hT (j:=0) (k:=1) rfl rfl rfl rfl rfl rfl rfl m6 m9) ?_;refine g6 ?_;exact rs1 () i6 (he:=l6)
 have hc37_48_r:=s;have s:b≠42:=dL (k:=42) (beq_eq_false_iff_ne.1 s);refine g6 ?_;refine bX rfl (λq=>?_) (λq=>?_)
 .have hc37_49_r:=q;have q:b=37:=dM (k:=37) (eq_of_beq q);refine g2 ?_;refine cC rfl hc37_49_r ?_;refine g6 ?_;refine inc 1 ?_;refine ss (cS hT (j:=0) (k:=1) rfl rfl rfl rfl rfl rfl rfl m6 m9) ?_;refine g6 ?_;exact rs1 () i6 (he:=l6)
 have hc37_49_r:=q;have q:b≠37:=dL (k:=37) (beq_eq_false_iff_ne.1 q);refine g6 ?_;refine bX rfl (λp=>?_) (λp=>?_)
 .have hc37_50_r:=p;have p:b=124:=dM (k:=124) (eq_of_beq p);refine g2 ?_;refine cC rfl hc37_50_r ?_;refine g6 ?_;refine inc 1 ?_;refine ss (cS hT (j:=0) (k:=1) rfl rfl rfl rfl rfl rfl rfl m6 m9) ?_;refine g6 ?_;exact rs1 () i6 (he:=l6)
 have hc37_50_r:=p;have p:b≠124:=dL (k:=124) (beq_eq_false_iff_ne.1 p);refine g6 ?_;refine bX rfl (λo=>?_) (λo=>?_)
 .have hc37_51_r:=o;have o:b=61:=dM (k:=61) (eq_of_beq o);refine g2 ?_;refine cC rfl hc37_51_r ?_;refine g6 ?_;refine inc 1 ?_;refine ss (cS hT (j:=0) (k:=1) rfl rfl rfl rfl rfl rfl rfl m6 m9) ?_;refine g6 ?_;exact rs1 () i6 (he:=l6)
 have hc37_51_r:=o;have o:b≠61:=dL (k:=61) (beq_eq_false_iff_ne.1 o);refine g6 ?_;refine bX rfl (λn=>?_) (λn=>?_)
 .have hc37_52_r:=n;have n:b=126:=dM (k:=126) (eq_of_beq n);refine g2 ?_;refine cC rfl hc37_52_r ?_;refine g6 ?_;refine inc 1 ?_;refine ss (cS hT (j:=0) (k:=1) rfl rfl rfl rfl rfl rfl rfl m6 m9) ?_;refine g6 ?_;exact rs1 () i6 (he:=l6)
 have hc37_52_r:=n;have n:b≠126:=dL (k:=126) (beq_eq_false_iff_ne.1 n);refine g6 ?_;refine bX rfl (λm=>?_) (λm=>?_)
 .have hc37_53_r:=m;have m:b=60:=dM (k:=60) (eq_of_beq m);refine g2 ?_;refine cC rfl hc37_53_r ?_;refine g6 ?_;refine inc 1 ?_;refine ss (cS hT (j:=0) (k:=1) rfl rfl rfl rfl rfl rfl rfl m6 m9) ?_;refine g6 ?_;exact rs1 () i6 (he:=l6)
 have hc37_53_r:=m;have m:b≠60:=dL (k:=60) (beq_eq_false_iff_ne.1 m);refine g6 ?_;refine bX rfl (λl=>?_) (λl=>?_)
 .have hc37_54_r:=l;have l:b=62:=dM (k:=62) (eq_of_beq l);refine g2 ?_;refine cC rfl hc37_54_r ?_;refine g6 ?_;refine inc 1 ?_;refine ss (cS hT (j:=0) (k:=1) rfl rfl rfl rfl rfl rfl rfl m6 m9) ?_;refine g6 ?_;exact rs1 () i6 (he:=l6)
 have hc37_54_r:=l;have l:b≠62:=dL (k:=62) (beq_eq_false_iff_ne.1 l);refine g6 ?_;refine bX rfl (λi=>?_) (λi=>?_)
 .have hc37_55_r:=i;have i:b=47:=dM (k:=47) (eq_of_beq i);refine g2 ?_;refine cC rfl hc37_55_r ?_;refine g6 ?_;refine inc 1 ?_;refine ss (cS hT (j:=0) (k:=1) rfl rfl rfl rfl rfl rfl rfl m6 m9) ?_;refine g6 ?_;exact rs1 () i6 (he:=l6)
 have hc37_55_r:=i;have i:b≠47:=dL (k:=47) (beq_eq_false_iff_ne.1 i);refine g6 ?_;refine bX rfl (λh=>?_) (λh=>?_)
 .have hc37_56_r:=h;have h:b=92:=dM (k:=92) (eq_of_beq h);refine g2 ?_;refine cC rfl hc37_56_r ?_;refine g6 ?_;refine inc 1 ?_;refine ss (cS hT (j:=0) (k:=1) rfl rfl rfl rfl rfl rfl rfl m6 m9) ?_;refine g6 ?_;exact rs1 () i6 (he:=l6)
 have hc37_56_r:=h;have h:b≠92:=dL (k:=92) (beq_eq_false_iff_ne.1 h);refine g6 ?_;refine bX rfl (λg=>?_) (λg=>?_)
 .have hc37_57_r:=g;have g:b=46:=dM (k:=46) (eq_of_beq g);refine g2 ?_;refine cC rfl hc37_57_r ?_;refine g6 ?_;refine inc 1 ?_;refine ss (cS hT (j:=0) (k:=1) rfl rfl rfl rfl rfl rfl rfl m6 m9) ?_;refine g6 ?_;exact rs1 () i6 (he:=l6)
 have hc37_57_r:=g;have g:b≠46:=dL (k:=46) (beq_eq_false_iff_ne.1 g);refine g6 ?_;refine bX rfl (λf=>?_) (λf=>?_)
 .have hc37_58_r:=f;have f:b=58:=dM (k:=58) (eq_of_beq f);refine g2 ?_;refine cC rfl hc37_58_r ?_;refine g6 ?_;refine inc 1 ?_;refine ss (cS hT (j:=0) (k:=1) rfl rfl rfl rfl rfl rfl rfl m6 m9) ?_;refine g6 ?_;exact rs1 () i6 (he:=l6)
 have hc37_58_r:=f;have f:b≠58:=dL (k:=58) (beq_eq_false_iff_ne.1 f);refine g6 ?_;refine bX rfl (λe=>?_) (λe=>?_)
 .have hc37_59_r:=e;have e:b=40:=dM (k:=40) (eq_of_beq e);refine g2 ?_;refine cC rfl hc37_59_r ?_;refine g6 ?_;refine inc 1 ?_;refine ss (cS hT (j:=0) (k:=1) rfl rfl rfl rfl rfl rfl rfl m6 m9) ?_;refine g6 ?_;exact rs1 () i6 (he:=l6)
 have hc37_59_r:=e;have e:b≠40:=dL (k:=40) (beq_eq_false_iff_ne.1 e);refine g5 ?_;refine bX rfl (λd=>?_) (λd=>?_)
 .have hc37_60_r:=d;have d:b=41:=dM (k:=41) (eq_of_beq d);refine g6 ?_;refine inc 1 ?_;refine ss (cS hT (j:=0) (k:=1) rfl rfl rfl rfl rfl rfl rfl m6 m9) ?_;refine g6 ?_;exact rs1 () i6 (he:=l6)
 have hc37_60_r:=d;have d:b≠41:=dL (k:=41) (beq_eq_false_iff_ne.1 d);refine g9 ?_;exact rs1 () i6 (he:=l6)
theorem bNv(s:Bs)(below:Bool)(hs:s.length<=140737488355328)(hds: ∀b∈s,cX b=true):cY prog 162 [.string (bs s),.bool below] [] [] (λ(_:Unit)=>valV (pW below s)) (λ_=>[]) (λ_=>[]):=by
 have hT:=jO;refine j5 func162 ntmps162 ?_;intro β hM;refine g7 ?_;cases below
 .refine g25 ?_;refine cF (ι:=Nat×Nat) [(0,_),(1,_),(7,_)] ⟨rfl,rfl,rfl,i6⟩ (λ⟨n,i⟩=>[(6,.int .u64 (n:Nat)),(8,.int .i64 (i:Nat))]) (λ_=>[]) (λ⟨n,i⟩=>[Fact.pure (n=decV (s.take i) 0/\n<=9223372036854775807/\i<=s.length)]) (λ⟨n,i⟩=>s.length-i) (0,0) ⟨rfl,rfl,i6⟩ .nil ⟨i7 (⟨rfl,l7,l7⟩),i6⟩ ?_;rintro⟨n,i⟩;dsimp only;refine bF d7 λa=>?_;refine g6 ?_;refine bJ (z':=((s.length:Nat):Int)) rfl ?_;refine g3 ?_;refine dP (λhc14=>?_) λhc14=>?_
  .refine g8 ?_;obtain⟨g,hb2⟩:=gx s i;refine ss (fM hT (k:=i) rfl rfl rfl rfl rfl hb2) ?_;refine one ?_;have h:=hds g (j0 hb2);have e:=sub48 h;refine bJ (z':=((g.toNat-48:Nat):Int)) e.1 ?_;refine one ?_;refine bJ (z':=((g.toNat-48:Nat):Int)) (pA l7 l7) ?_;refine g10 ?_;refine bJ (z':=((9223372036854775807-(g.toNat-48):Nat):Int)) ab6 ?_;refine ss (bQb rfl rfl rfl m6) ?_;refine bJ (z':=((((9223372036854775807-(g.toNat-48))/10:Nat):Nat):Int)) ad6 ?_;refine g3 ?_;refine dP (λc=>?_) λc=>?_
   .refine g13 ?_;exact rs2 () i6 (he:=by rw[val_over hb2 (by rw[<-a.1];show 9223372036854775807<_;omega)];rfl)
   refine g5 ?_;refine bJ (z':=((10*n:Nat):Int)) ab6 ?_;refine g2 ?_;refine bJ (z':=((10*n+(g.toNat-48):Nat):Int)) ab6 ?_;refine g7 ?_;refine inc (i+1) ?_;refine g3 ?_;exact bk2 (10*n+(g.toNat-48),i+1) ⟨i7 (⟨by rw[bLd hb2,a.1],by dsimp only;omega,by dsimp only;omega⟩),i6⟩
  refine g18 ?_;refine bJ (z':=((n:Nat):Int)) (yW l7 l7) ?_;refine g5 ?_;exact rs2 () i6 (he:=by rw[val_done (i:=i) l7 (by rw[<-a.1];exact a.2.1),<-a.1];rfl)
 refine g27 ?_;refine cF (ι:=Nat×Nat) [(0,_),(1,_),(7,_)] ⟨rfl,rfl,rfl,i6⟩ (λ⟨n,i⟩=>[(6,.int .u64 (n:Nat)),(8,.int .i64 (i:Nat))]) (λ_=>[]) (λ⟨n,i⟩=>[Fact.pure (n=decV (s.take i) 0/\n<=9223372036854775808/\i<=s.length)]) (λ⟨n,i⟩=>s.length-i) (0,0) ⟨rfl,rfl,i6⟩ .nil ⟨i7 (⟨rfl,l7,l7⟩),i6⟩ ?_;rintro⟨n,i⟩;dsimp only;refine bF d7 λa=>?_;refine g6 ?_;refine bJ (z':=((s.length:Nat):Int)) rfl ?_;refine g3 ?_;refine dP (λhc14=>?_) λhc14=>?_
 .refine g8 ?_;obtain⟨f,d⟩:=gx s i;refine ss (fM hT (k:=i) rfl rfl rfl rfl rfl d) ?_;refine one ?_;have h:=hds f (j0 d);have e:=sub48 h;refine bJ (z':=((f.toNat-48:Nat):Int)) e.1 ?_;refine one ?_;refine bJ (z':=((f.toNat-48:Nat):Int)) (pA l7 l7) ?_;refine g10 ?_;refine bJ (z':=((9223372036854775808-(f.toNat-48):Nat):Int)) ab6 ?_;refine ss (bQb rfl rfl rfl m6) ?_;refine bJ (z':=((((9223372036854775808-(f.toNat-48))/10:Nat):Nat):Int)) ad6 ?_;refine g3 ?_;refine dP (λc=>?_) λc=>?_
  .refine g13 ?_;exact rs2 () i6 (he:=by rw[val_over d (by rw[<-a.1];show 9223372036854775808<_;omega)];rfl)
  refine g5 ?_;refine bJ (z':=((10*n:Nat):Int)) ab6 ?_;refine g2 ?_;refine bJ (z':=((10*n+(f.toNat-48):Nat):Int)) ab6 ?_;refine g7 ?_;refine inc (i+1) ?_;refine g3 ?_;exact bk2 (10*n+(f.toNat-48),i+1) ⟨i7 (⟨by rw[bLd d,a.1],by dsimp only;omega,by dsimp only;omega⟩),i6⟩
 refine g17 ?_;refine bJ (z':=(-(n:Int))) (negWrap l7) ?_;refine g6 ?_;exact rs2 () i6 (he:=by rw[val_done (i:=i) l7 (by rw[<-a.1];exact a.2.1),<-a.1];rfl)
theorem bRv(b:UInt8)(r:Bs)(hl:(b::r).length<=65536):cY prog 140 [.string (bs (b::r)),k6 0] [] [] (λ(_:Unit)=>nextV (fD (b::r))) (λ_=>[]) (λ_=>[]):=by
 have hT:=jO;refine j5 func140 ntmps140 ?_;intro β hM;refine g2 ?_;refine j1 bDb λn=>?_;refine g9 ?_;refine ss (fM hT (k:=0) rfl rfl rfl rfl rfl rfl) ?_;refine g3 ?_;refine fX (λd=>?_) λd=>?_
 .have d:b=10:=dM (k:=10) (eq_of_beq d);refine g3 ?_;refine ss (j3 (uV _ _)) ?_;refine g2 ?_;refine inc 1 ?_;refine g7 ?_;exact rs3 () i6 (he:=by rw[t_line ‹_›];rfl)
 have d:b≠10:=dL (k:=10) (beq_eq_false_iff_ne.1 d);refine g7 ?_;refine ss (fM hT (k:=0) rfl rfl rfl rfl rfl rfl) ?_;refine bD func160 (bJh _) rfl rfl .nil i6 λ_=>?_;refine g2 ?_;refine fX (λhc24=>?_) λhc24=>?_
 .rw[vI]at hc24;refine g4 ?_;refine j2 func161 (bMc (b::r) 0 true l7 m9) i6 λ_=>?_;refine bJ (z':=(((runB kU (b::r)):Nat):Int)) (by rw[pL_word];simp) ?_;have l:=lB kU (b::r);have hbr:(b::r).length=r.length+1:=rfl;refine g9 ?_;refine inc ((runB kU (b::r))-0) ?_;refine g3 ?_;refine dP (λm=>?_) λm=>?_
  .refine g2 ?_;refine ss (j3 (sI)) ?_;refine g8 ?_;exact rs3 () i6 (he:=by rw[t_long ‹_› ‹_› l7];rfl)
  refine g8 ?_;refine ss (cS hT (j:=0) (k:=(runB kU (b::r))) rfl rfl rfl rfl rfl rfl rfl l7 l7) ?_;refine hZ (v':= .string (bs ((b::r).take (runB kU (b::r))))) (by rfl) ?_;refine ss (j3 (lJ _ _ _)) ?_;refine g8 ?_;exact rs3 () i6 (he:=by rw[t_word ‹_› ‹_› l7];rfl)
 rw[vI]at hc24;refine g13 ?_;refine ss (fM hT (k:=0) rfl rfl rfl rfl rfl rfl) ?_;refine g3 ?_;refine fX (λc=>?_) λc=>?_
 .have c:b=95:=dM (k:=95) (eq_of_beq c);refine g3 ?_;refine inc 1 ?_;refine g4 ?_;have a:r=if b==95 then r else b::r:=by rw[show(b==95)=true from by simp[*]];rfl
  refine g3 ?_;refine j2 func161 (bMc (b::r) 1 false l7 m9) i6 λ_=>?_;refine bJ (z':=(((1+runB cX r):Nat):Int)) (by rw[pL_digit];rfl) ?_;have l:=lB cX r;have hbr:(b::r).length=r.length+1:=rfl;refine g11 ?_;refine dP (λf=>?_) λf=>?_
  .refine g5 ?_;refine ss (cS hT (j:=1) (k:=(1+runB cX r)) rfl rfl rfl rfl rfl rfl rfl l7 l7) ?_;refine hZ (v':= .string (bs (r.take (runB cX r)))) (by rw[Nat.add_sub_cancel_left];rfl) ?_;refine g3 ?_;refine bC (t':=true) m6<|bC (t':=true) m6 ?_;refine bD func162 (bNv (r.take (runB cX r)) true ae5 (zQ _ _)) rfl rfl .nil i6 λ_=>?_;refine g14 ?_;refine iQ (λe=>?_) λe=>?_
   .refine g2 ?_;refine ss (j3 (sI)) ?_;refine g8 ?_;exact rs3 () i6 (he:=by rw[t_num ‹_› ‹_› a l7,(show(b==95)=true from by simp[*]),cAi (by assumption:(pW true (r.take (runB cX r))).isSome=false)];rfl)
   refine g6 ?_;refine ss (j3 (nV _ _ _)) ?_;refine g8 ?_;exact rs3 () i6 (he:=by rw[t_num ‹_› ‹_› a l7,(show(b==95)=true from by simp[*]),bXn (by assumption:(pW true (r.take (runB cX r))).isSome=true)];rw[Nat.add_comm];rfl)
  refine g6 ?_;refine j2 func163 (bTq b r) i6 λ_=>?_;refine g10 ?_;refine fX (λhc75=>?_) λhc75=>?_
  .have hc75:((b::r).take (gQ (b::r)))=([]:Bs):=eq_of_beq hc75;refine g2 ?_;refine ss (j3 (sI)) ?_;refine g7 ?_;exact rs3 () i6 (he:=by rw[t_sign ‹_› ‹_› a l7,if_pos (cAp ‹_›)];rfl)
  have hc75:((b::r).take (gQ (b::r)))≠([]:Bs):=λh=>absurd (beq_iff_eq.2 h) ai4;refine g3 ?_;have g:=O0 (gQ (b::r)) (b::r);have i:=bDc (b::r);have hbr:(b::r).length=r.length+1:=rfl;refine g3 ?_;refine ss (j3 (lJ _ _ _)) ?_;refine g3 ?_;refine bJ (z':=((((b::r).take (gQ (b::r))).length:Nat):Int)) rfl ?_;refine one ?_;refine inc (0+((b::r).take (gQ (b::r))).length) ?_;refine g6 ?_;exact rs3 () i6 (he:=by rw[t_sign ‹_› ‹_› a l7,if_neg (bIq ‹_›)];exact bYb)
 have c:b≠95:=dL (k:=95) (beq_eq_false_iff_ne.1 c);refine g3 ?_;have a:(b::r)=if b==95 then r else b::r:=by rw[show(b==95)=false from by simp[*]];rfl
 refine g3 ?_;refine j2 func161 (bMc (b::r) 0 false l7 m9) i6 λ_=>?_;refine bJ (z':=(((runB cX (b::r)):Nat):Int)) (by rw[pL_digit];simp) ?_;have l:=lB cX (b::r);have hbr:(b::r).length=r.length+1:=rfl;refine g11 ?_;refine dP (λf=>?_) λf=>?_
 .refine g5 ?_;refine ss (cS hT (j:=0) (k:=(runB cX (b::r))) rfl rfl rfl rfl rfl rfl rfl l7 l7) ?_;refine hZ (v':= .string (bs ((b::r).take (runB cX (b::r))))) (by rfl) ?_;refine g3 ?_;refine bC (t':=false) m6<|bC (t':=false) m6 ?_;refine bD func162 (bNv ((b::r).take (runB cX (b::r))) false ae5 (zQ _ _)) rfl rfl .nil i6 λ_=>?_;refine g14 ?_;refine iQ (λe=>?_) λe=>?_
  .refine g2 ?_;refine ss (j3 (sI)) ?_;refine g8 ?_;exact rs3 () i6 (he:=by rw[t_num ‹_› ‹_› a l7,(show(b==95)=false from by simp[*]),cAi (by assumption:(pW false ((b::r).take (runB cX (b::r)))).isSome=false)];rfl)
  refine g6 ?_;refine ss (j3 (nV _ _ _)) ?_;refine g8 ?_;exact rs3 () i6 (he:=by rw[t_num ‹_› ‹_› a l7,(show(b==95)=false from by simp[*]),bXn (by assumption:(pW false ((b::r).take (runB cX (b::r)))).isSome=true)];rfl)
 refine g6 ?_;refine j2 func163 (bTq b r) i6 λ_=>?_;refine g10 ?_;refine fX (λhc75=>?_) λhc75=>?_
 .have hc75:((b::r).take (gQ (b::r)))=([]:Bs):=eq_of_beq hc75;refine g2 ?_;refine ss (j3 (sI)) ?_;refine g7 ?_;exact rs3 () i6 (he:=by rw[t_sign ‹_› ‹_› a l7,if_pos (cAp ‹_›)];rfl)
 have hc75:((b::r).take (gQ (b::r)))≠([]:Bs):=λh=>absurd (beq_iff_eq.2 h) ai4;refine g3 ?_;have g:=O0 (gQ (b::r)) (b::r);have i:=bDc (b::r);have hbr:(b::r).length=r.length+1:=rfl;refine g3 ?_;refine ss (j3 (lJ _ _ _)) ?_;refine g3 ?_;refine bJ (z':=((((b::r).take (gQ (b::r))).length:Nat):Int)) rfl ?_;refine one ?_;refine inc (0+((b::r).take (gQ (b::r))).length) ?_;refine g6 ?_;exact rs3 () i6 (he:=by rw[t_sign ‹_› ‹_› a l7,if_neg (bIq ‹_›)];exact bYb)
theorem bNw{u:Nat}{s:Bs}(h:9<u):M8 u++s=M8 (u/10)++([L9 (48+u%10)]++s):=by rw[M8,dif_neg l7,List.append_assoc]
theorem bNt{u:Nat}(h:u<=9):M8 u=[L9 (48+u)]:=by rw[M8,dif_pos l7]
theorem bWu{u:Nat}(h:9<u):aM u=aM (u/10)+1:=Lib.nDigits_big l7
section
variable {b : UInt8} {r : Bs}
theorem next_err(b:UInt8)(r:Bs)(hl:(b::r).length<=65536){e:Int}(ht:fD (b::r)= .error e):cY prog 140 [.string (bs (b::r)),k6 0] [] [] (λ_:Unit=> .tuple #[.agg #[k6 0,k6 0,.string (bs []),k6 0],k6 0,k6 e]) (λ_=>[]) (λ_=>[]):=by have:=bRv b r hl;rw[ht]at this;exact this
theorem next_ok(b:UInt8)(r:Bs)(hl:(b::r).length<=65536){k v:Int}{wd:Bs}{m:Nat}(ht:fD (b::r)= .ok (k,wd,v,m)):cY prog 140 [.string (bs (b::r)),k6 0] [] [] (λ_:Unit=> .tuple #[.agg #[k6 k,k6 0,.string (bs wd),k6 v],k6 (m:Nat),k6 0]) (λ_=>[]) (λ_=>[]):=by have:=bRv b r hl;rw[ht]at this;exact this
theorem nH(hl:(b::r).length<=100)(h1:b≠32)(h2:b≠9)(h3:b≠35){k v:Int}{wd:Bs}{m:Nat}(ht:fD (b::r)= .ok (k,wd,v,m))(hk:k=1)(hw:wd=b::r)(hv:v=0)(hm:m=(b::r).length):uJ (b::r)=true:=by
 simp only[uJ,ht,hk,hw,hv,hm];simp[h1,h2,h3]
 simpa using hl
theorem qP(h:100<(b::r).length\/b=32\/b=9\/b=35\/(∃e,fD (b::r)= .error e)\/ ∃k v wd m,fD (b::r)= .ok (k,wd,v,m)/\(k≠1\/wd≠b::r\/v≠0\/m≠(b::r).length)):uJ (b::r)=false:=by
 rcases h with h|h|h|h|⟨e,h⟩|⟨k,v,wd,m,ht,h⟩
 .have: ¬(b::r).length<=100:=l7
  simp only[uJ,decide_eq_false this,Bool.false_and]
 .simp[uJ,h]
 .simp[uJ,h]
 .simp[uJ,h]
 .simp only[uJ,h,Bool.and_false]
 .simp only[uJ,ht]
  rcases h with h|h|h|h<;>simp[h]
  all_goals (intros;simp_all)
end
theorem spell_cons(n:Int): ∃b r,fC n=b::r:=by
 cases h:fC n with
 |nil=>
  unfold fC at h;exact absurd (List.append_eq_nil_iff.1 h).2 (uS _)
 |cons b r=>exact⟨b,r,rfl⟩
theorem spell_b{n:Int}{b:UInt8}{r:Bs}(h:fC n=b::r):((b.toNat:Int)==32)=false/\((b.toNat:Int)==9)=false/\((b.toNat:Int)==35)=false:=by
 have key: ∀b:UInt8,b=95\/cX b=true->b.toNat=95\/(48<=b.toNat/\b.toNat<=57):=λb a=>by
  rcases a with rfl|a
  .exact .inl rfl
  .right
   simpa[cX]using a
 have:=key b (bFt h);refine⟨?_,?_,?_⟩<;>(rw[beq_eq_false_iff_ne];omega)
theorem rdigits_spec(n:Int)(h0: -9223372036854775808<=n)(h1:n<=9223372036854775807):cY prog 139 [k6 n] [] [] (λ(_:Unit)=> .string (bs (fC n))) (λ_=>[]) (λ_=>[]):=by
 have hT:=jO;refine j5 func139 ntmps139 ?_;intro β hM;refine g6 ?_
 rcases Int.lt_or_le n 0 with hn|hn
 .skip
  refine g3 ?_;refine bJ (z':=n+18446744073709551616) (wrapNeg l7 l7) ?_;refine g15 ?_;refine dP (λd=>?_) λd=>?_
  .refine g3 ?_;refine bJ (z':=((n.natAbs:Nat):Int)) (by rw[wrapNeg l7 l7];omega) ?_;refine g5 ?_;refine cF (ι:=Nat×Bs) [(0,_)] ⟨rfl,i6⟩ (λ⟨u,s⟩=>[(3,.int .u64 (u:Nat)),(4,.string (bs s))]) (λ_=>[]) (λ⟨u,s⟩=>[Fact.pure (M8 n.natAbs=M8 u++s/\u<=9223372036854775808/\s.length+aM u<=20)]) (λ⟨u,s⟩=>u) (n.natAbs,[]) ⟨rfl,rfl,i6⟩ .nil ⟨i7 (⟨m9,l7,by have:=aN n.natAbs l7;simp;omega⟩),i6⟩ ?_;rintro⟨u,s⟩;dsimp only;refine bF d7 λa=>?_;refine g7 ?_;refine dP (λc=>?_) λc=>?_
   .refine g6 ?_;refine ss (sti_rem rfl rfl rfl m6) ?_;refine bJ (z':=((u%10:Nat):Int)) al1 ?_;refine one ?_;refine bJ (z':=((48+u%10:Nat):Int)) ag0 ?_;refine one ?_;refine bJ (z':=(((L9 (48+u%10)).toNat:Nat):Int)) af2 ?_;refine xD (m:=(L9 (48+u%10))) rfl rfl rfl rfl rfl λh=>?_;refine ss (uY (bU .head rfl) underlying102 underlying5 underlying9 rfl rfl rfl m9) ?_;refine one ?_;refine ss (dJ rfl rfl rfl q9) ?_;refine g5 ?_;refine ss (bQb rfl rfl rfl m6) ?_;refine bJ (z':=((u/10:Nat):Int)) ad6 ?_;refine g4 ?_;exact bk2 (u/10,[L9 (48+u%10)]++s) ⟨i7 (⟨by rw[a.1];exact bNw l7,by dsimp only;omega,by have:=bWu (u:=u) l7;simp;omega⟩),i6⟩
   refine g9 ?_;refine bJ (z':=((48+u:Nat):Int)) ag0 ?_;refine one ?_;refine bJ (z':=(((L9 (48+u)).toNat:Nat):Int)) af2 ?_;refine xD (m:=(L9 (48+u))) rfl rfl rfl rfl rfl λg=>?_;refine ss (uY (bU .head rfl) underlying102 underlying5 underlying9 rfl rfl rfl m9) ?_;refine one ?_;refine ss (dJ rfl rfl rfl q9) ?_;refine g10 ?_;refine dP (λb=>?_) λb=>?_
   .refine g3 ?_;refine ss (dJ rfl rfl rfl q9) ?_;refine g5 ?_;exact rs1 () i6 (he:=by rw[fC,a.1,bNt (u:=u) l7];simp[hn])
   omega
  omega
 skip
 refine g3 ?_;refine bJ (z':=((n.natAbs:Nat):Int)) ag0 ?_;refine g15 ?_;refine dP (λd=>?_) λd=>?_
 .omega
 refine g4 ?_;refine cF (ι:=Nat×Bs) [(0,_)] ⟨rfl,i6⟩ (λ⟨u,s⟩=>[(3,.int .u64 (u:Nat)),(4,.string (bs s))]) (λ_=>[]) (λ⟨u,s⟩=>[Fact.pure (M8 n.natAbs=M8 u++s/\u<=9223372036854775808/\s.length+aM u<=20)]) (λ⟨u,s⟩=>u) (n.natAbs,[]) ⟨rfl,rfl,i6⟩ .nil ⟨i7 (⟨m9,l7,by have:=aN n.natAbs l7;simp;omega⟩),i6⟩ ?_;rintro⟨u,s⟩;dsimp only;refine bF d7 λa=>?_;refine g7 ?_;refine dP (λc=>?_) λc=>?_
 .refine g6 ?_;refine ss (sti_rem rfl rfl rfl m6) ?_;refine bJ (z':=((u%10:Nat):Int)) al1 ?_;refine one ?_;refine bJ (z':=((48+u%10:Nat):Int)) ag0 ?_;refine one ?_;refine bJ (z':=(((L9 (48+u%10)).toNat:Nat):Int)) af2 ?_;refine xD (m:=(L9 (48+u%10))) rfl rfl rfl rfl rfl λf=>?_;refine ss (uY (bU .head rfl) underlying102 underlying5 underlying9 rfl rfl rfl m9) ?_;refine one ?_;refine ss (dJ rfl rfl rfl q9) ?_;refine g5 ?_;refine ss (bQb rfl rfl rfl m6) ?_;refine bJ (z':=((u/10:Nat):Int)) ad6 ?_;refine g4 ?_;exact bk2 (u/10,[L9 (48+u%10)]++s) ⟨i7 (⟨by rw[a.1];exact bNw l7,by dsimp only;omega,by have:=bWu (u:=u) l7;simp;omega⟩),i6⟩
 refine g9 ?_;refine bJ (z':=((48+u:Nat):Int)) ag0 ?_;refine one ?_;refine bJ (z':=(((L9 (48+u)).toNat:Nat):Int)) af2 ?_;refine xD (m:=(L9 (48+u))) rfl rfl rfl rfl rfl λe=>?_;refine ss (uY (bU .head rfl) underlying102 underlying5 underlying9 rfl rfl rfl m9) ?_;refine one ?_;refine ss (dJ rfl rfl rfl q9) ?_;refine g10 ?_;refine dP (λb=>?_) λb=>?_
 .omega
 refine g9 ?_;exact rs1 () i6 (he:=by rw[fC,a.1,bNt (u:=u) l7,if_neg l7];simp)
theorem rspellW_spec(b:UInt8)(r:Bs):cY prog 104 [.agg #[k6 1,k6 0,.string (bs (b::r)),k6 0]] [] [] (λ(_:Unit)=> .tuple #[.string (bs (if uJ (b::r)then b::r else [])),.bool (uJ (b::r))]) (λ_=>[]) (λ_=>[]):=by
 have hT:=jO;refine j5 func104 ntmps104 ?_;intro β hM;refine g2 ?_;refine j4 λu=>?_;refine g22 ?_;refine bC (t':=false) m6 ?_;refine g7 ?_;refine bC (t':=false) m6 ?_;refine g12 ?_;refine bJ (z':=(((b::r).length:Nat):Int)) rfl ?_;refine g2 ?_;refine sD (λn=>?_) λn=>?_
 .have:(b::r).length=r.length+1:=rfl;omega
 refine g2 ?_;refine bJ (z':=(((b::r).length:Nat):Int)) rfl ?_;refine g3 ?_;refine lR (λl=>?_) λl=>?_
 .refine g25 ?_;exact rs2 () i6 (he:=m5)
 refine one ?_;refine ss (fM hT (k:=0) rfl rfl rfl rfl rfl rfl) ?_;refine g3 ?_;refine cG (λd=>?_) (λd=>?_)
 .have d:b=32:=dM (k:=32) (eq_of_beq d);refine g20 ?_;exact rs2 () i6 (he:=m5)
 have d:b≠32:=dL (k:=32) (beq_eq_false_iff_ne.1 d);refine one ?_;refine ss (fM hT (k:=0) rfl rfl rfl rfl rfl rfl) ?_;refine g3 ?_;refine cG (λc=>?_) (λc=>?_)
 .have c:b=9:=dM (k:=9) (eq_of_beq c);refine g15 ?_;exact rs2 () i6 (he:=m5)
 have c:b≠9:=dL (k:=9) (beq_eq_false_iff_ne.1 c);refine one ?_;refine ss (fM hT (k:=0) rfl rfl rfl rfl rfl rfl) ?_;refine g4 ?_;refine fX (λf=>?_) λf=>?_
 .have f:b=35:=dM (k:=35) (eq_of_beq f);refine g8 ?_;exact rs2 () i6 (he:=m5)
 have f:b≠35:=dL (k:=35) (beq_eq_false_iff_ne.1 f);refine g3 ?_
 rcases ht:fD (b::r)with e|⟨k,p,v,m⟩
 .skip
  refine g2 ?_;refine j2 func140 (next_err b r l7 ht) i6 λ_=>?_;refine g4 ?_;refine j1 bDb λt=>?_;refine g11 ?_;refine yQ (λj=>?_) λj=>?_
  .refine g37 ?_;exact rs2 () i6 (he:=m5)
  exact absurd ‹_› (bQn ht)
 have q:=vR ht;dsimp only at q;refine g2 ?_;refine j2 func140 (next_ok b r l7 ht) i6 λ_=>?_;refine g4 ?_;refine j1 bDb λs=>?_;refine g10 ?_;refine bC (t':=false) m6 ?_;refine g4 ?_;refine bJ (z':=(((b::r).length:Nat):Int)) rfl ?_;refine g3 ?_;refine yQ (λi=>?_) λi=>?_
 .refine g31 ?_;exact rs2 () i6 (he:=m5)
 refine g7 ?_;refine yQ (λg=>?_) λg=>?_
 .refine g24 ?_;exact rs2 () i6 (he:=m5)
 refine g7 ?_;refine cG (λa=>?_) (λa=>?_)
 .have a:p≠(b::r):=λh=>by rw[h]at a;first|(simp at a;done)|exact absurd a m6
  refine g17 ?_;exact rs2 () i6 (he:=m5)
 have a:p=(b::r):=eq_of_beq (mT a);refine g8 ?_;refine uD (λo=>?_) λo=>?_
 .refine g8 ?_;exact rs2 () i6 (he:=m5)
 refine g10 ?_;exact rs2 () i6 (he:=m5)
theorem rspellN_spec(n:Int)(h0: -9223372036854775808<=n)(h1:n<=9223372036854775807):cY prog 104 [.agg #[k6 2,k6 0,.string (bs []),k6 n]] [] [] (λ(_:Unit)=> .tuple #[.string (bs (fC n)),.bool true]) (λ_=>[]) (λ_=>[]):=by have hT:=jO;refine j5 func104 ntmps104 ?_;intro β hM;refine g2 ?_;refine j4 λf=>?_;refine g22 ?_;refine bC (t':=true) m6 ?_;refine g7 ?_;refine j2 func139 (rdigits_spec n h0 h1) i6 λ_=>?_;obtain⟨b,r,a⟩:=spell_cons n;have c:=spell_b a;have d:=mI h0 h1;have ht:=bKd h0 h1;rw[a]at d ht;refine hZ (congrArg (λl:Bs=>Q5 (bs l)) a) ?_;refine g9 ?_;refine bJ (z':=(((b::r).length:Nat):Int)) rfl ?_;refine one ?_;refine bC (t':=false) (by rw[beq_eq_false_iff_ne];have:(b::r).length=r.length+1:=rfl;omega) ?_;refine g3 ?_;refine bJ (z':=(((b::r).length:Nat):Int)) rfl ?_;refine one ?_;refine bC (t':=false) (decide_eq_false l7) ?_;refine g3 ?_;refine ss (fM hT (k:=0) rfl rfl rfl rfl rfl rfl) ?_;refine one ?_;refine bC (t':=false) (c.1) ?_;refine g3 ?_;refine ss (fM hT (k:=0) rfl rfl rfl rfl rfl rfl) ?_;refine one ?_;refine bC (t':=false) (c.2.1) ?_;refine g3 ?_;refine ss (fM hT (k:=0) rfl rfl rfl rfl rfl rfl) ?_;refine one ?_;refine bC (t':=false) (c.2.2) ?_;refine g9 ?_;refine j2 func140 (next_ok b r l7 ht) i6 λ_=>?_;refine g4 ?_;refine j1 bDb λe=>?_;refine g10 ?_;refine bC (t':=false) m6 ?_;refine g4 ?_;refine bJ (z':=(((b::r).length:Nat):Int)) rfl ?_;refine one ?_;refine bC (t':=false) m9 ?_;refine g7 ?_;refine bC (t':=false) m6 ?_;refine g7 ?_;refine bC (t':=false) (by rfl) ?_;refine g7 ?_;refine bC (t':=false) m9 ?_;refine g14 ?_;exact rs2 () i6 (he:=by rw[a])
def oneB (f:Int):Bool:=decide (1<=f/\f<=7\/f=16)
def jG (s:Bs)(t:Bool):Int:=
 if s=[43]then 1 else if s=[45]then 2 else if s=[42]then 3 else if s=[37]then 4 else if s=[124]then 5 else if s=[109,105,110]then 6 else if s=[109,97,120]then 7 else if s=[61]then 8
 else if s=[60]then 10 else if s=[60,61]then 11 else if s=[62,61]then 12 else if s=[62]then 13 else if s=[97,110,100]then 14 else if s=[111,114]then 15 else if s=[112,111,119]then 17
 else if s=[126]then (if t then 9 else 16)else 0
section
variable {f : Int} {two : Bool}
theorem bDp(ht:two=true)(h:1<=f/\f<=17/\f≠16):true=(if two then pT f else oneB f):=by rw[ht,if_pos rfl,pT,decide_eq_true h]
theorem bDs(ht:two=true)(h: ¬(1<=f/\f<=17)):false=(if two then pT f else oneB f):=by rw[ht,if_pos rfl,pT,decide_eq_false l7]
theorem bEs(ht:two=true)(h:1<=f)(h':f<=17):(f !=16)=(if two then pT f else oneB f):=by
 rw[ht,if_pos rfl,pT]
 by_cases e:f=16
 .rw[e];rfl
 .rw[decide_eq_true ⟨h,h',e⟩];simpa using e
theorem bXd(ht:two=false)(h:1<=f/\f<=7):true=(if two then pT f else oneB f):=by rw[ht,if_neg m9,oneB,decide_eq_true (.inl h)]
theorem bWw(ht:two=false)(h: ¬(1<=f/\f<=7)):(f==16)=(if two then pT f else oneB f):=by
 rw[ht,if_neg m9,oneB]
 by_cases e:f=16
 .rw[e];rfl
 .rw[decide_eq_false l7];simpa using e
end
def iA (s:Bs)(t:Bool):Int:=
 if jG s t≠0 then (if (if t then pT (jG s t)else oneB (jG s t))=true then jG s t else 0)
 else if s=[114,104,111]then (if t then 37 else 0)else if s=[116,97,107,101]then (if t then 38 else 0)else if s=[100,114,111,112]then (if t then 39 else 0)else if s=[99,97,116]then (if t then 40 else 0)
 else if s=[105,111,116,97]then (if t then 0 else 32)else if s=[115,104,97,112,101]then (if t then 0 else 33)else if s=[114,97,118,101,108]then (if t then 0 else 34)else if s=[114,101,118]then (if t then 0 else 35)else if s=[116,117,114,110]then (if t then 0 else 36)else 0
theorem refVerb_eq(s:Bs)(t:Bool):iA s t=gF s t:=by
 by_cases q:s∈verbWords
 .have key: ∀s∈verbWords,∀t:Bool,iA s t=gF s t:=m6
  exact key s q t
 .simp only[verbWords,List.mem_cons,List.not_mem_nil,or_false,not_or]at q;obtain⟨h1,h2,w,h4,v,u,r,h8,h9,p,o,n,m,l,k,j,i,h,g,f,e,d,c,b,a⟩:=q;have hn:jG s t=0:=by simp only[jG,h1,h2,w,h4,v,u,r,h8,h9,p,o,n,m,l,k,j,if_false]
  have x:jK s=0:=by simp only[jK,h1,h2,w,h4,v,u,r,h8,h9,p,o,n,m,l,k,j,i,h,g,f,if_false]
  have y:oJ s=0:=by simp only[oJ,h1,h2,w,h4,v,u,r,h9,e,d,c,b,a,or_self,if_false]
  have hr:iA s t=0:=by simp only[iA,hn,i,h,g,f,e,d,c,b,a,ne_eq,not_true_eq_false,if_false]
  rw[hr,gF,y,x];cases t<;>rfl
def bDd (s:Bs):Bool:=uJ s&&(!(nQ s)&&(!(s==[105,110])&& !(s==[111,117,116])))
theorem bDr: ∀(f i:Nat) (s:Bs) (out:List Tok) (t:Tok),t∈(lexGo f i s out).1->t∈out\/ ∃j b r,s.drop j=b::r/\nG b=false/\(b==35)=false/\ ∃m,fD (b::r)= .ok (t.kind,t.word,t.n,m)
 |0,_,_,_,_,h=> .inl h
 |_+1,_,[],_,_,h=> .inl h
 |f+1,i,b::r,out,t,h=>by
  unfold lexGo at h;split at h
  .rcases bDr f _ _ _ t h with h|⟨j,c,q,h1,h2⟩
   .exact .inl h
   .exact .inr ⟨j+1,c,q,h1,h2⟩
  .rename_i a;split at h
   .rcases bDr f _ _ _ t h with h|⟨j,c,q,h1,h2⟩
    .exact .inl h
    .exact .inr ⟨_,c,q,by rw[<-h1,K8],h2⟩
   .rename_i hn;split at h
    .simp at h
    .rename_i k d v m ht
     rcases bDr f _ _ _ t h with h|⟨j,c,q,h1,h2⟩
     .rcases List.mem_append.1 h with h|h
      .exact .inl h
      .rw[List.mem_singleton.1 h];exact .inr ⟨0,b,r,rfl,by simpa using a,by simpa using hn,m,ht⟩
     .exact .inr ⟨_,c,q,by rw[<-h1,K8],h2⟩
theorem word_tok{s:Bs}{k v:Int}{wd:Bs}{m:Nat}(h:fD s= .ok (k,wd,v,m))(hk:k=1):v=0/\wd=s.take m/\m<=s.length:=by
 cases s with
 |nil=>cases h
 |cons b r=>
  subst hk;simp only[fD]at h;split at h
  .simp at h
  .split at h
   .split at h
    .cases h
    .simp only[Except.ok.injEq,Prod.mk.injEq]at h;obtain⟨_,rfl,rfl,rfl⟩:=h;exact⟨rfl,rfl,lB _ _⟩
   .split at h
    .cases h
    .rename_i t ht;simp only[Except.ok.injEq]at h;subst h;unfold jE at ht;dsimp only at ht
     by_cases a:(b==95)=true
     .simp only[a,if_true]at ht;split at ht
      .cases ht
      .split at ht
       .cases ht
       .simp at ht
     .simp only[a,Bool.false_eq_true,if_false]at ht;split at ht
      .cases ht
      .split at ht
       .cases ht
       .simp at ht
    .split at h
     .cases h
     .simp at h
theorem lex_single{b:UInt8}{r:Bs}{k v:Int}{wd:Bs}(hl:(b::r).length<=65536)(hb:nG b=false)(hn:(b==35)=false)(ht:fD (b::r)= .ok (k,wd,v,(b::r).length)):iD (b::r)=([⟨k,0,wd,v⟩],(0,0)):=by unfold iD;rw[if_neg l7,oP,hb,if_neg m9,hn,if_neg m9,ht];simp only[List.drop_length,O2];rfl
theorem wordR_lex(s:Bs):uJ s=xJ s:=by
 rw[L7];constructor
 .intro h
  cases s with
  |nil=>cases h
  |cons b r=>
   unfold uJ at h;simp only[J3,decide_eq_true_eq,bne_iff_ne]at h;obtain⟨d,u,h9,p,h⟩:=h
   cases ht:fD (b::r)with
   |error e=>rw[ht]at h;cases h
   |ok t=>
    obtain⟨k,x,v,m⟩:=t;rw[ht]at h;simp only[J3,beq_iff_eq]at h;obtain⟨⟨⟨rfl,rfl⟩,rfl⟩,rfl⟩:=h;unfold xJ;rw[lex_single l7 (by simp[nG,u,h9]) (by simpa using p) ht];simp[nO]
 .intro h;unfold xJ at h;rw[J3]at h;obtain⟨_,h⟩:=h
  cases d:(iD s).1 with
  |nil=>rw[d]at h;cases h
  |cons t q=>
   cases q with
   |cons _ _=>rw[d]at h;cases h
   |nil=>
    rw[d]at h;simp only[J3,beq_iff_eq]at h;obtain⟨z,y⟩:=h;have w:=(lex_ok s t (by rw[d];simp)).word;have l:t∈(iD s).1:=by rw[d];simp
    unfold iD at l;split at l
    .simp at l
    .rcases bDr _ _ _ _ t l with h|⟨j,b,r,n,o,hn,m,ht⟩
     .simp at h
     .obtain⟨A,f,i⟩:=word_tok ht z;have a:=congrArg Q8 n;rw[List.length_drop]at a;rw[y]at f w;have c:=congrArg Q8 f;rw[K6,L3 i]at c
      have B:j=0:=by simp only[F5]at a i;omega
      subst B;rw[List.drop_zero]at n;subst n;simp only[nG,Bool.or_eq_false_iff]at o;have g:m=(b::r).length:=l7
      rw[z,y,A,g]at ht;refine nH l7 ?_ ?_ ?_ ht rfl rfl rfl rfl
      .simpa using o.1
      .simpa using o.2
      .simpa using hn
theorem nameR_eq(s:Bs):bDd s=dQ s:=by unfold bDd dQ;rw[wordR_lex];cases xJ s<;>cases nQ s<;>cases s==[105,110]<;>cases s==[111,117,116]<;>rfl
section
variable {s : Bs}
theorem any_a(h:(gF s false !=0)=true):true=nQ s:=by rw[nQ,show(oJ s !=0)=true from h];rfl
theorem any_b(h:(gF s false !=0)=false):(gF s true !=0)=nQ s:=by rw[nQ,show(oJ s !=0)=false from h];rfl
theorem nm_0:false=bDd []:=rfl
theorem nm_a(h:uJ s=false):false=bDd s:=by rw[bDd,h];rfl
theorem nm_b(h:nQ s=true):false=bDd s:=by rw[bDd,h];simp
theorem nm_c(h:s=[105,110]):false=bDd s:=by rw[bDd,h];simp
theorem nm_d(h:uJ s=true)(h1:nQ s=false)(h2:s≠[105,110]):(!(s==[111,117,116]))=bDd s:=by rw[bDd,h,h1,beq_eq_false_iff_ne.2 h2];simp
end
theorem bOq(f:Int)(two:Bool):cY prog 137 [k7 f,.bool two] [] [] (λ(_:Unit)=> .bool (if two then pT f else oneB f)) (λ_=>[]) (λ_=>[]):=by
 have hT:=jO;refine j5 func137 ntmps137 ?_;intro β hM;refine g11 ?_;refine fX (λe=>?_) λe=>?_
 .refine g5 ?_;refine bRx (λd=>?_) λd=>?_
  .refine g4 ?_;refine bRx (λc=>?_) λc=>?_
   .refine g8 ?_;exact rs1 () i6 (he:=o9)
   refine g8 ?_;exact rs1 () i6 (he:=o9)
  refine g12 ?_;exact rs1 () i6 (he:=o9)
 refine g7 ?_;refine bRx (λb=>?_) λb=>?_
 .refine g4 ?_;refine bRx (λa=>?_) λa=>?_
  .refine g7 ?_;exact rs1 () i6 (he:=o9)
  refine g7 ?_;exact rs1 () i6 (he:=o9)
 refine g11 ?_;exact rs1 () i6 (he:=o9)
theorem rnumber_spec(s:Bs)(t:Bool):cY prog 164 [.string (bs s),.bool t] [] [] (λ(_:Unit)=> k7 (jG s t)) (λ_=>[]) (λ_=>[]):=by
 have hT:=jO;refine j5 func164 ntmps164 ?_;intro β hM;refine g18 ?_;refine fX (λj=>?_) λj=>?_
 .have j:s=([43]:Bs):=eq_of_beq j;refine g8 ?_;exact rs1 () i6 (he:=by simp[jG, *])
 have j:s≠([43]:Bs):=λh=>absurd (beq_iff_eq.2 h) (by rw[show(s==([43]:Bs))=false from j];simp);refine g6 ?_;refine fX (λi=>?_) λi=>?_
 .have i:s=([45]:Bs):=eq_of_beq i;refine g8 ?_;exact rs1 () i6 (he:=by simp[jG, *])
 have i:s≠([45]:Bs):=λh=>absurd (beq_iff_eq.2 h) (by rw[show(s==([45]:Bs))=false from i];simp);refine g6 ?_;refine fX (λhc10=>?_) λhc10=>?_
 .have hc10:s=([42]:Bs):=eq_of_beq hc10;refine g8 ?_;exact rs1 () i6 (he:=by simp[jG, *])
 have hc10:s≠([42]:Bs):=λh=>absurd (beq_iff_eq.2 h) (by rw[show(s==([42]:Bs))=false from hc10];simp);refine g6 ?_;refine fX (λg=>?_) λg=>?_
 .have g:s=([37]:Bs):=eq_of_beq g;refine g8 ?_;exact rs1 () i6 (he:=by simp[jG, *])
 have g:s≠([37]:Bs):=λh=>absurd (beq_iff_eq.2 h) (by rw[show(s==([37]:Bs))=false from g];simp);refine g6 ?_;refine fX (λhc14=>?_) λhc14=>?_
 .have hc14:s=([124]:Bs):=eq_of_beq hc14;refine g8 ?_;exact rs1 () i6 (he:=by simp[jG, *])
 have hc14:s≠([124]:Bs):=λh=>absurd (beq_iff_eq.2 h) (by rw[show(s==([124]:Bs))=false from hc14];simp);refine g6 ?_;refine fX (λf=>?_) λf=>?_
 .have f:s=([109,105,110]:Bs):=eq_of_beq f;refine g8 ?_;exact rs1 () i6 (he:=by simp[jG, *])
 have f:s≠([109,105,110]:Bs):=λh=>absurd (beq_iff_eq.2 h) (by rw[show(s==([109,105,110]:Bs))=false from f];simp);refine g6 ?_;refine fX (λe=>?_) λe=>?_
 .have e:s=([109,97,120]:Bs):=eq_of_beq e;refine g8 ?_;exact rs1 () i6 (he:=by simp[jG, *])
 have e:s≠([109,97,120]:Bs):=λh=>absurd (beq_iff_eq.2 h) (by rw[show(s==([109,97,120]:Bs))=false from e];simp);refine g6 ?_;refine fX (λd=>?_) λd=>?_
 .have d:s=([61]:Bs):=eq_of_beq d;refine g8 ?_;exact rs1 () i6 (he:=by simp[jG, *])
 have d:s≠([61]:Bs):=λh=>absurd (beq_iff_eq.2 h) (by rw[show(s==([61]:Bs))=false from d];simp);refine g6 ?_;refine fX (λc=>?_) λc=>?_
 .have c:s=([60]:Bs):=eq_of_beq c;refine g8 ?_;exact rs1 () i6 (he:=by simp[jG, *])
 have c:s≠([60]:Bs):=λh=>absurd (beq_iff_eq.2 h) (by rw[show(s==([60]:Bs))=false from c];simp);refine g6 ?_;refine fX (λhc24=>?_) λhc24=>?_
 .have hc24:s=([60,61]:Bs):=eq_of_beq hc24;refine g8 ?_;exact rs1 () i6 (he:=by simp[jG, *])
 have hc24:s≠([60,61]:Bs):=λh=>absurd (beq_iff_eq.2 h) al3;refine g6 ?_;refine fX (λhc26=>?_) λhc26=>?_
 .have hc26:s=([62,61]:Bs):=eq_of_beq hc26;refine g8 ?_;exact rs1 () i6 (he:=by simp[jG, *])
 have hc26:s≠([62,61]:Bs):=λh=>absurd (beq_iff_eq.2 h) al4;refine g6 ?_;refine fX (λb=>?_) λb=>?_
 .have b:s=([62]:Bs):=eq_of_beq b;refine g8 ?_;exact rs1 () i6 (he:=by simp[jG, *])
 have b:s≠([62]:Bs):=λh=>absurd (beq_iff_eq.2 h) (by rw[show(s==([62]:Bs))=false from b];simp);refine g6 ?_;refine fX (λhc30=>?_) λhc30=>?_
 .have hc30:s=([97,110,100]:Bs):=eq_of_beq hc30;refine g8 ?_;exact rs1 () i6 (he:=by simp[jG, *])
 have hc30:s≠([97,110,100]:Bs):=λh=>absurd (beq_iff_eq.2 h) ak5;refine g6 ?_;refine fX (λhc32=>?_) λhc32=>?_
 .have hc32:s=([111,114]:Bs):=eq_of_beq hc32;refine g8 ?_;exact rs1 () i6 (he:=by simp[jG, *])
 have hc32:s≠([111,114]:Bs):=λh=>absurd (beq_iff_eq.2 h) ak9;refine g6 ?_;refine fX (λhc34=>?_) λhc34=>?_
 .have hc34:s=([112,111,119]:Bs):=eq_of_beq hc34;refine g8 ?_;exact rs1 () i6 (he:=by simp[jG, *])
 have hc34:s≠([112,111,119]:Bs):=λh=>absurd (beq_iff_eq.2 h) ak3;refine g6 ?_;refine fX (λa=>?_) λa=>?_
 .have a:s=([126]:Bs):=eq_of_beq a;refine g6 ?_;refine fX (λk=>?_) λk=>?_
  .refine g9 ?_;exact rs1 () i6 (he:=by simp[jG, *])
  refine g10 ?_;exact rs1 () i6 (he:=by simp[jG, *])
 have a:s≠([126]:Bs):=λh=>absurd (beq_iff_eq.2 h) (by rw[show(s==([126]:Bs))=false from a];simp);refine g9 ?_;exact rs1 () i6 (he:=by simp[jG, *])
theorem bHl(s:Bs)(t:Bool):cY prog 141 [.string (bs s),.bool t] [] [] (λ(_:Unit)=> .tuple #[k7 (gF s t),.bool (gF s t !=0)]) (λ_=>[]) (λ_=>[]):=by
 have hT:=jO;rw[<-refVerb_eq];refine j5 func141 ntmps141 ?_;intro β hM;refine g10 ?_;refine j2 func164 (rnumber_spec s t) i6 λ_=>?_;refine g10 ?_;refine uD (λhc11=>?_) λhc11=>?_
 .refine g5 ?_;refine bD func137 (bOq _ t) rfl rfl .nil i6 λ_=>?_;refine g2 ?_;refine fX (λhc14=>?_) λhc14=>?_
  .refine g10 ?_;exact rs2 () i6 (he:=t7)
  refine g10 ?_;exact rs2 () i6 (he:=t7)
 refine g15 ?_;refine fX (λg=>?_) λg=>?_
 .have g:s=([114,104,111]:Bs):=eq_of_beq g;refine g10 ?_;refine bC (t':=true) m6 ?_;refine g9 ?_;refine fX (λb=>?_) λb=>?_
  .refine g10 ?_;exact rs2 () i6 (he:=t7)
  refine g10 ?_;exact rs2 () i6 (he:=t7)
 have g:s≠([114,104,111]:Bs):=λh=>absurd (beq_iff_eq.2 h) (by rw[show(s==([114,104,111]:Bs))=false from g];simp);refine g6 ?_;refine fX (λhc19=>?_) λhc19=>?_
 .have hc19:s=([116,97,107,101]:Bs):=eq_of_beq hc19;refine g10 ?_;refine bC (t':=true) m6 ?_;refine g9 ?_;refine fX (λb=>?_) λb=>?_
  .refine g10 ?_;exact rs2 () i6 (he:=t7)
  refine g10 ?_;exact rs2 () i6 (he:=t7)
 have hc19:s≠([116,97,107,101]:Bs):=λh=>absurd (beq_iff_eq.2 h) (by rw[show(s==([116,97,107,101]:Bs))=false from hc19];simp);refine g6 ?_;refine fX (λf=>?_) λf=>?_
 .have f:s=([100,114,111,112]:Bs):=eq_of_beq f;refine g10 ?_;refine bC (t':=true) m6 ?_;refine g9 ?_;refine fX (λb=>?_) λb=>?_
  .refine g10 ?_;exact rs2 () i6 (he:=t7)
  refine g10 ?_;exact rs2 () i6 (he:=t7)
 have f:s≠([100,114,111,112]:Bs):=λh=>absurd (beq_iff_eq.2 h) (by rw[show(s==([100,114,111,112]:Bs))=false from f];simp);refine g6 ?_;refine fX (λe=>?_) λe=>?_
 .have e:s=([99,97,116]:Bs):=eq_of_beq e;refine g10 ?_;refine bC (t':=true) m6 ?_;refine g9 ?_;refine fX (λb=>?_) λb=>?_
  .refine g10 ?_;exact rs2 () i6 (he:=t7)
  refine g10 ?_;exact rs2 () i6 (he:=t7)
 have e:s≠([99,97,116]:Bs):=λh=>absurd (beq_iff_eq.2 h) (by rw[show(s==([99,97,116]:Bs))=false from e];simp);refine g8 ?_;refine bC (t':=false) ((congrArg not (show((jG s t)==0)=true from (by rw[hc11];rfl)):(!_)=_)) ?_;refine g18 ?_;refine fX (λhc30=>?_) λhc30=>?_
 .have hc30:s=([105,111,116,97]:Bs):=eq_of_beq hc30;refine g10 ?_;refine bC (t':=false) m6 ?_;refine g5 ?_;refine fX (λa=>?_) λa=>?_
  .refine g8 ?_;exact rs2 () i6 (he:=t7)
  refine g10 ?_;exact rs2 () i6 (he:=t7)
 have hc30:s≠([105,111,116,97]:Bs):=λh=>absurd (beq_iff_eq.2 h) (by rw[show(s==([105,111,116,97]:Bs))=false from hc30];simp);refine g6 ?_;refine fX (λhc32=>?_) λhc32=>?_
 .have hc32:s=([115,104,97,112,101]:Bs):=eq_of_beq hc32;refine g10 ?_;refine bC (t':=false) m6 ?_;refine g5 ?_;refine fX (λa=>?_) λa=>?_
  .refine g8 ?_;exact rs2 () i6 (he:=t7)
  refine g10 ?_;exact rs2 () i6 (he:=t7)
 have hc32:s≠([115,104,97,112,101]:Bs):=λh=>absurd (beq_iff_eq.2 h) (by rw[show(s==([115,104,97,112,101]:Bs))=false from hc32];simp);refine g6 ?_;refine fX (λhc34=>?_) λhc34=>?_
 .have hc34:s=([114,97,118,101,108]:Bs):=eq_of_beq hc34;refine g10 ?_;refine bC (t':=false) m6 ?_;refine g5 ?_;refine fX (λa=>?_) λa=>?_
  .refine g8 ?_;exact rs2 () i6 (he:=t7)
  refine g10 ?_;exact rs2 () i6 (he:=t7)
 have hc34:s≠([114,97,118,101,108]:Bs):=λh=>absurd (beq_iff_eq.2 h) (by rw[show(s==([114,97,118,101,108]:Bs))=false from hc34];simp);refine g6 ?_;refine fX (λd=>?_) λd=>?_
 .have d:s=([114,101,118]:Bs):=eq_of_beq d;refine g10 ?_;refine bC (t':=false) m6 ?_;refine g5 ?_;refine fX (λa=>?_) λa=>?_
  .refine g8 ?_;exact rs2 () i6 (he:=t7)
  refine g10 ?_;exact rs2 () i6 (he:=t7)
 have d:s≠([114,101,118]:Bs):=λh=>absurd (beq_iff_eq.2 h) (by rw[show(s==([114,101,118]:Bs))=false from d];simp);refine g6 ?_;refine fX (λc=>?_) λc=>?_
 .have c:s=([116,117,114,110]:Bs):=eq_of_beq c;refine g10 ?_;refine bC (t':=false) m6 ?_;refine g5 ?_;refine fX (λa=>?_) λa=>?_
  .refine g8 ?_;exact rs2 () i6 (he:=t7)
  refine g10 ?_;exact rs2 () i6 (he:=t7)
 have c:s≠([116,117,114,110]:Bs):=λh=>absurd (beq_iff_eq.2 h) (by rw[show(s==([116,117,114,110]:Bs))=false from c];simp);refine g8 ?_;refine bC (t':=true) (by rw[hc11];rfl) ?_;refine g14 ?_;exact rs2 () i6 (he:=t7)
theorem rAny_spec(s:Bs):cY prog 105 [.string (bs s)] [] [] (λ(_:Unit)=> .bool (nQ s)) (λ_=>[]) (λ_=>[]):=by
 have hT:=jO;refine j5 func105 ntmps105 ?_;intro β hM;refine g8 ?_;refine j2 func141 (bHl s false) i6 λ_=>?_;refine g10 ?_;refine j2 func141 (bHl s true) i6 λ_=>?_;refine g11 ?_;refine cG (λa=>?_) (λa=>?_)
 .refine g6 ?_;exact rs1 () i6 (he:=ah0)
 refine g6 ?_;exact rs1 () i6 (he:=ah0)
theorem rspell0_spec:cY prog 104 [.agg #[k6 1,k6 0,.string (bs []),k6 0]] [] [] (λ(_:Unit)=> .tuple #[.string (bs []),.bool false]) (λ_=>[]) (λ_=>[]):=by have hT:=jO;refine j5 func104 ntmps104 ?_;intro β hM;refine g2 ?_;refine j4 λa=>?_;refine g22 ?_;refine bC (t':=false) m6 ?_;refine g7 ?_;refine bC (t':=false) m6 ?_;refine g12 ?_;refine bJ (z':=((([]:Bs).length:Nat):Int)) rfl ?_;refine one ?_;refine bC (t':=true) (by rfl) ?_;refine g31 ?_;exact rs2 () trivial
theorem bAj(s:Bs):cY prog 67 [.string (bs s)] [] [] (λ(_:Unit)=> .bool (dQ s)) (λ_=>[]) (λ_=>[]):=by
 have hT:=jO;rw[<-nameR_eq];refine j5 func67 ntmps67 ?_;intro β hM;refine g6 ?_
 rcases s with _|⟨b,r⟩
 .refine g2 ?_;refine ss (j3 (qE _ _)) ?_;refine j2 func104 (rspell0_spec) i6 λ_=>?_;refine g32 ?_;exact rs1 () i6 (he:=t8)
 refine g2 ?_;refine ss (j3 (qE _ _)) ?_;refine j2 func104 (rspellW_spec b r) i6 λ_=>?_;refine g11 ?_;refine cG (λd=>?_) (λd=>?_)
 .refine g3 ?_;refine bC (t':=true) ag3 ?_;refine g3 ?_;refine j2 func105 (rAny_spec (b::r)) i6 λ_=>?_;refine g3 ?_;refine bTi (λc=>?_) λc=>?_
  .refine g4 ?_;refine cG (λa=>?_) (λa=>?_)
   .have a:(b::r)≠([105,110]:Bs):=λh=>by rw[h]at a;first|(simp at a;done)|exact absurd a m6
    refine g7 ?_;exact rs1 () i6 (he:=t8)
   have a:(b::r)=([105,110]:Bs):=eq_of_beq (mT a);refine g7 ?_;exact rs1 () i6 (he:=t8)
  refine g11 ?_;exact rs1 () i6 (he:=t8)
 refine g21 ?_;exact rs1 () i6 (he:=t8)
def bLi:List (Nat×Value):=verbWords.zipIdx.map λp=>(p.2,.string (bs p.1))
theorem at_words{β:fS}{n:Nat}{Γ:Env}{H:List bK}{F:List Fact}{Q:Exit->Act->World->Prop}{ops:Array Oper}{rest:List Oper}{o:Oper}{d:Nat}{parts:List (Nat×Operand)}(hw:want ops Γ o=some true)(ho:o.op= .buildSlice 46 25 parts.toArray)(hd:o.dst=some d)(hn:Nat.blt d n=true)
  (hp: ∀a:Act,(parts.map λ(i,x)=>(i,a.eval x))=bLi) (k: ∀b,At β n ((d,.slice (some ⟨b,0,none⟩) verbWords.length verbWords.length)::Γ) (lZ.row (.slice (some ⟨b,0,none⟩) verbWords.length verbWords.length) 9 verbWords::H) F (wpList prog ops Q rest)):At β n Γ H F (wpList prog ops Q (o::rest)):=by
 obtain⟨i,hi,c,hs,_⟩:=bPw;refine bDh (e:=9) (cs:=lZ.all verbWords) hw ho hd hn (λa w f=>?_) λb=>dO (E:=lZ) (xs:=verbWords) .head m6 (k b);rw[show(parts.toArray.map λ(i,x)=>(i,a.eval x))=bLi.toArray by rw[<-hp a];simp];refine run_buildSlice w _ _ 25 bLi.toArray _ i _ underlying46 hi c l7 l7 ?_;rw[hs]
 kernel_rfl
section
variable {f : Int} {two : Bool} {i : Nat} {s : Bs}
theorem first_here(h:lF two f (verbWords.drop i)=dR two f)(hs:verbWords[i]?=some s)(hh:(gF s two !=0)=true)(he:gF s two=f):s=dR two f:=by rw[<-h,hO hs,lF,hh,he];simp
theorem bUs(h:lF two f (verbWords.drop i)=dR two f)(hs:verbWords[i]?=some s)(hh:(gF s two !=0)=false\/gF s two≠f):lF two f (verbWords.drop (i+1))=dR two f:=by
 rw[<-h,hO hs,lF,if_neg]
 rcases hh with hh|hh
 .simp[hh]
 .simp[hh]
theorem first_end(h:lF two f (verbWords.drop i)=dR two f)(hi:25<=i):[]=dR two f:=by rw[<-h,K3 ae8];rfl
end
section
variable {it : ItemV}
theorem bQj(h:it.fn≠0):operandR it.it=oD:=by rw[operandR,if_pos (show it.it.fn≠0 from h)]
theorem bFz(h:it.fn=0)(h2:it.H=2)(hb:(0:Int)<((it.nums.A.length:Nat):Int)\/dQ it.name=false):operandR it.it=oD:=by
 rw[operandR,if_neg (show ¬it.it.fn≠0 from λk=>k h),if_pos (show it.it.H=2 from h2),if_pos]
 rcases hb with hb|hb
 .exact .inl (gC hb)
 .exact .inr hb
theorem zH(h:it.fn=0)(h2:it.H=2)(hb:it.nums.A.length=0)(hn:dQ it.name=true):operandR it.it=⟨it.name,true,1,0⟩:=by
 rw[operandR,if_neg (show ¬it.it.fn≠0 from λk=>k h),if_pos (show it.it.H=2 from h2),if_neg]
 .rfl
 .rintro(k|k)
  .exact k (List.eq_nil_of_length_eq_zero hb)
  .have:dQ it.name=false:=k;rw[hn]at this;cases this
theorem bGr(h:it.fn=0)(h2:it.H≠2)(hb:it.name≠[]\/256<it.nums.A.length):operandR it.it=oD:=by rw[operandR,if_neg (show ¬it.it.fn≠0 from λk=>k h),if_neg (show ¬it.it.H=2 from h2),if_pos (show it.it.name≠[]\/256<it.it.nums.length from hb)]
theorem zN(h:it.fn=0)(h2:it.H≠2)(hn:it.name=[])(hl:it.nums.A.length<=256):operandR it.it=⟨joinSp (it.nums.A.map fC),true,it.nums.A.length,0⟩:=by
 rw[operandR,if_neg (show ¬it.it.fn≠0 from λk=>k h),if_neg (show ¬it.it.H=2 from h2),if_neg,bBt]
 .rfl
 .rintro(k|k)
  .exact k hn
  .have:256<it.nums.A.length:=k;omega
end
theorem bVw{l:List Int}{z:Int}(h:l[0]?=some z):fC z=joinSp ((l.take (0+1)).map fC):=by
 cases l with
 |nil=>simp at h
 |cons x r=>simp at h;subst h;rfl
theorem bYg{l:List Int}{i:Nat}{z:Int}(h:l[i]?=some z)(hi:0<i):(joinSp ((l.take i).map fC)++[32])++fC z=joinSp ((l.take (i+1)).map fC):=by
 have a:=(List.getElem?_eq_some_iff.1 h).1
 have h0:(l.take i).map fC≠[]:=by intro k;have:=congrArg Q8 k;rw[List.length_map,K6,O2]at this;omega
 rw[show l.take (i+1)=l.take i++[z] by rw[R6,h];rfl,List.map_append,xU _ _ h0 m9];simp[joinSp]
theorem nE:(prog.info? 164).bind (·.zero)=some (.agg #[.string (bs []),.bool false,k6 0,k6 0]):=m0
theorem gM:prog.built 164 []=some #[.string (bs []),.bool false,k6 0,k6 0]:=m0
theorem lQ(s0:ByteArray)(b1:Bool)(z2:Int):prog.built 164 [(0,.string s0),(1,.bool b1),(2,k6 z2)]=some #[.string s0,.bool b1,k6 z2,k6 0]:=m0
theorem qJ(s0:ByteArray)(z2:Int)(z3:Int):prog.built 164 [(0,.string s0),(2,k6 z2),(3,k6 z3)]=some #[.string s0,.bool false,k6 z2,k6 z3]:=m0
theorem rwords_spec:cY prog 159 [] [] [] (λ(x:Nat)=> .slice (some ⟨x,0,none⟩) verbWords.length verbWords.length) (λ_=>[]) (λ(x:Nat)=>[lZ.sl (.slice (some ⟨x,0,none⟩) verbWords.length verbWords.length) verbWords]):=by have hT:=jO;refine j5 func159 ntmps159 ?_;intro β hM;refine sr<|sp hT ?_;refine nn<|sr<|at_words rfl rfl rfl rfl (λ_=>rfl) λa=>?_;refine sp hT ?_;refine nn<|cW<|bR .head ?_;exact iX a rfl (bW rfl) .nil ⟨d7,i6⟩ rfl
theorem tY(f:Int)(two:Bool):cY prog 136 [k7 f,.bool two] [] [] (λ(_:Unit)=> .string (bs (dR two f))) (λ_=>[]) (λ_=>[]):=by
 have hT:=jO;refine j5 func136 ntmps136 ?_;intro β hM;refine sr<|sp hT ?_;refine nn<|sr<|j2 func159 rwords_spec i6 λx1=>?_;refine sp hT ?_;refine nn<|bP<|sr<|sp hT ?_;refine nn<|iJ<|cF (ι:=Nat) [(0,_),(1,_),(5,_)] ⟨rfl,rfl,rfl,i6⟩ (λi=>[(6,.int .i64 (i:Nat))]) (λ_=>[]) (λi=>[Fact.pure (i<=25/\lF two f (verbWords.drop i)=dR two f)]) (λi=>25-i) 0 ⟨rfl,i6⟩ .nil ⟨i7 (⟨l7,qY two f⟩),i6⟩ ?_;rintro i;refine bF d7 λa=>?_;refine bP<|sr<|sp3 hT ?_;refine bJ (z':=((25:Nat):Int)) (rfl) ?_;refine sp hT ?_;refine nn<|bX rfl (λb=>?_) (λb=>?_)
 .have b:=of_decide_eq_true b;refine fH<|dB<|bP<|iJ<|sr<|sp2 hT ?_
  obtain⟨e,c⟩: ∃x',verbWords[i]?=some x':=⟨_,F1 ae8⟩
  refine ss (cA hT (k:=i) (bG d8) rfl rfl rfl rfl rfl rfl rfl ae8) ?_;refine ss (j6 hT (dD.knows (bG d8) (k:=i) (x:=e) c 0)) ?_;refine sp hT ?_;refine j2 func141 (bHl e two) i6 λ_=>?_;refine sp4 hT ?_;refine sp hT ?_;refine nn<|sr<|sp2 hT ?_;refine cG (λd=>?_) (λd=>?_)
  .refine sp4 hT ?_;refine nn<|bX rfl (λhc30=>?_) (λhc30=>?_)
   .have hc30:=eq_of_beq hc30;refine sr<|sp2 hT ?_;refine ss (cA hT (k:=i) (bG d8) rfl rfl rfl rfl rfl rfl rfl ae8) ?_;refine ss (j6 hT (dD.knows (bG d8) (k:=i) (x:=e) c 0)) ?_;refine sp hT ?_;refine nn<|cW<|iK<|cJ<|cJ<|iK<|cJ ?_;exact iX () rfl (bW rfl) .nil i6 (congrArg (λs:Bs=>Q5 (bs s)) (first_here a.2 c ‹_› ‹_›))
   have hc30:=beq_eq_false_iff_ne.1 hc30;refine fH<|mE<|dB<|dH<|sp2 hT ?_;refine bJ (z':=(((i+1):Nat):Int)) (kQ l7 l7) ?_;refine sp hT ?_;refine nn ?_;exact dA (i+1) l7 ⟨rfl,i6⟩ ⟨rfl,rfl,rfl,i6⟩ .nil ⟨i7 (⟨l7,bUs a.2 c n7⟩),i6⟩ (bA.drop 1)
  refine sk3 ?_;refine sp hT ?_;refine nn<|jT rfl rfl ?_;refine fH<|mE<|dB<|dH<|sp2 hT ?_;refine bJ (z':=(((i+1):Nat):Int)) (kQ l7 l7) ?_;refine sp hT ?_;refine nn ?_;exact dA (i+1) l7 ⟨rfl,i6⟩ ⟨rfl,rfl,rfl,i6⟩ .nil ⟨i7 (⟨l7,bUs a.2 c n7⟩),i6⟩ (bA.drop 1)
 have b:=aD.1 (of_decide_eq_false b);refine tI<|nK<|nK<|tO<|dB<|sr<|sp hT ?_;refine nn<|cW ?_;exact iX () rfl (bW rfl) .nil i6 (congrArg (λs:Bs=>Q5 (bs s)) (first_end a.2 l7))
theorem bHj(n:Int)(h0: -9223372036854775808<=n)(h1:n<=9223372036854775807):cY prog 102 [k6 n] [] [] (λ(_:Unit)=> .string (bs (fC n))) (λ_=>[]) (λ_=>[]):=by have hT:=jO;refine j5 func102 ntmps102 ?_;intro β hM;refine sr<|sp hT ?_;refine nn<|sr<|sp hT ?_;refine ss (j3 (qI _ _)) ?_;refine j2 func104 (rspellN_spec n h0 h1) i6 λ_=>?_;refine sp4 hT ?_;refine sp hT ?_;refine nn<|sr<|sp2 hT ?_;refine nn<|cW ?_;exact iX () rfl (bW rfl) .nil i6 (rfl)
theorem bFj(it:ItemV)(hz: ∀z∈it.nums.A,-9223372036854775808<=z/\z<=9223372036854775807):cY prog 135 [.agg #[k6 it.H,k6 it.at_,k7 it.fn,.string (bs it.name),j8 it.nums]] [] [bOy it] (λ(_:Unit)=> .agg #[.string (bs (operandR it.it).s),.bool (operandR it.it).plain,k6 ((operandR it.it).D:Nat),k6 ((operandR it.it).J:Nat)]) (λ_=>[]) (λ_=>[]):=by
 have hT:=jO;refine j5 func135 ntmps135 ?_;intro β hM;refine sr<|j4 λo=>?_;refine j1 nE λn=>?_;refine nn<|bP<|sr<|sp hT ?_;refine ss (ldO hT (uB kT1)) ?_;refine sp hT ?_;refine nn<|bX rfl (λf=>?_) (λf=>?_)
 .have f:=bne_iff_ne.1 f;refine sr<|ss (j3 (gM)) ?_;refine sto hT .head ?_;refine nn<|cW<|cJ ?_;exact iX () rfl (qR hT (gG .head) rfl rfl rfl rfl) .nil i6 o5
 have f:=bne_eq_false_iff_eq.1 f;refine fH<|dB<|bP<|sr<|sp hT ?_;refine ss (ldO hT (gG kT1)) ?_;refine sp hT ?_;refine nn<|bX rfl (λhc11=>?_) (λhc11=>?_)
 .have hc11:=eq_of_beq hc11;refine bP<|sr<|sp hT ?_;refine ss (ldO hT (bTc kT1)) ?_;refine sp3 hT ?_;refine cG (λb=>?_) (λb=>?_)
  .have b:=of_decide_eq_true b;refine sk4 ?_;refine sp hT ?_;refine nn<|cC rfl rfl ?_;refine sr<|ss (j3 (gM)) ?_;refine sto hT .head ?_;refine nn<|cW<|cJ<|cJ ?_;exact iX () rfl (qR hT (gG .head) rfl rfl rfl rfl) .nil i6 o5
  have b:=aD.1 (of_decide_eq_false b);refine sp hT ?_;refine ss (ldO hT (bFb kT1)) ?_;refine bD func67 (bAj _) rfl rfl .nil i6 λ_=>?_;refine sp2 hT ?_;refine nn<|bX rfl (λe=>?_) (λe=>?_)
  .have e:=yZ e;refine sr<|ss (j3 (gM)) ?_;refine sto hT .head ?_;refine nn<|cW<|cJ<|cJ ?_;exact iX () rfl (qR hT (gG .head) rfl rfl rfl rfl) .nil i6 o5
  have e:=mT e;refine fH<|dB<|sr<|sp hT ?_;refine ss (ldO hT (bFb kT1)) ?_;refine ss (j3 (lQ _ _ _)) ?_;refine sto hT .head ?_;refine nn<|cW<|cJ ?_;exact iX () rfl (qR hT (gG .head) rfl rfl rfl rfl) .nil i6 o5
 have hc11:=beq_eq_false_iff_ne.1 hc11;refine fH<|dB<|bP<|sr<|sp hT ?_;refine ss (ldO hT (bFb kT1)) ?_;refine sp2 hT ?_;refine cG (λa=>?_) (λa=>?_)
 .have a:it.name≠([]:Bs):=λh=>by rw[h]at a;first|(simp at a;done)|exact absurd a m6
  refine sk4 ?_;refine sp hT ?_;refine nn<|cC rfl rfl ?_;refine sr<|ss (j3 (gM)) ?_;refine sto hT .head ?_;refine nn<|cW<|cJ ?_;exact iX () rfl (qR hT (gG .head) rfl rfl rfl rfl) .nil i6 o5
 have a:it.name=([]:Bs):=eq_of_beq (mT a);refine sp hT ?_;refine ss (ldO hT (bTc kT1)) ?_;refine sp3 hT ?_;refine nn<|bX rfl (λhc34=>?_) (λhc34=>?_)
 .have hc34:=of_decide_eq_true hc34;refine sr<|ss (j3 (gM)) ?_;refine sto hT .head ?_;refine nn<|cW<|cJ ?_;exact iX () rfl (qR hT (gG .head) rfl rfl rfl rfl) .nil i6 o5
 have hc34:=aD.1 (of_decide_eq_false hc34);refine fH<|dB<|sr<|sp hT ?_;refine nn<|bP<|sr<|sp hT ?_;refine nn<|iJ<|cF (ι:=Nat×Bs) [(1,_),(2,_)] ⟨rfl,rfl,i6⟩ (λ⟨i,t⟩=>[(3,.string (bs t)),(4,.int .i64 (i:Nat))]) (λ_=>[]) (λ⟨i,t⟩=>[Fact.pure (i<=it.nums.A.length/\t=joinSp ((it.nums.A.take i).map fC)/\t.length<=22*i)]) (λ⟨i,t⟩=>it.nums.A.length-i) (0,[]) ⟨rfl,rfl,i6⟩ .nil ⟨i7 (⟨l7,rfl,m9⟩),i6⟩ ?_;rintro⟨i,t⟩;dsimp only;refine bF d7 λhinv11=>?_;refine bP<|sr<|sp2 hT ?_;refine ss (ldO hT (bTc kT1)) ?_;refine sp2 hT ?_;refine nn<|bX rfl (λd=>?_) (λd=>?_)
 .have d:=of_decide_eq_true d;refine fH<|dB<|bP<|iJ<|bP<|sr<|sp2 hT ?_;refine nn<|bX rfl (λc=>?_) (λc=>?_)
  .have c:=of_decide_eq_true c;refine dH<|sp hT ?_;refine ss (dJ rfl rfl rfl p7) ?_;refine sp hT ?_;refine nn<|dH<|sp2 hT ?_;refine ss (ldO hT (bTc kT1)) ?_;refine sp hT ?_
   obtain⟨x3,j⟩: ∃x',it.nums.A[i]?=some x':=⟨_,F1 l7⟩
   refine ss (cA hT (k:=i) (bG d8) rfl rfl rfl rfl rfl rfl rfl l7) ?_;refine ss (j6 hT (dD.knows (bG d8) (k:=i) (x:=x3) j 0)) ?_;have hr:=hz x3 (j0 j);have l:=mI hr.1 hr.2;refine bD func102 (bHj _ hr.1 hr.2) rfl rfl .nil i6 λ_=>?_;refine ss (dJ rfl rfl rfl p7) ?_;refine sp hT ?_;refine sZ<|mE<|dB<|dH<|sp2 hT ?_;refine bJ (z':=(((i+1):Nat):Int)) (kQ l7 l7) ?_;refine sp hT ?_;refine nn ?_;exact dA (i+1,_) v8 ⟨rfl,rfl,i6⟩ ⟨rfl,rfl,i6⟩ (.c0 (.c0 .nil)) ⟨i7 (⟨by dsimp only;omega,by rw[hinv11.2.1];first|exact bYg j l7|(have h0:i=0:=by omega);subst h0;exact bVw j,by simp;omega⟩),i6⟩ (bA.drop 1)
  have c:=aD.1 (of_decide_eq_false c);refine fH<|dB<|dH<|sp2 hT ?_;refine ss (ldO hT (bTc kT1)) ?_;refine sp hT ?_
  obtain⟨m,g⟩: ∃x',it.nums.A[i]?=some x':=⟨_,F1 l7⟩
  refine ss (cA hT (k:=i) (bG d8) rfl rfl rfl rfl rfl rfl rfl l7) ?_;refine ss (j6 hT (dD.knows (bG d8) (k:=i) (x:=m) g 0)) ?_;have hr:=hz m (j0 g);have l:=mI hr.1 hr.2;refine bD func102 (bHj _ hr.1 hr.2) rfl rfl .nil i6 λ_=>?_;refine ss (dJ rfl rfl rfl p7) ?_;refine sp hT ?_;refine sZ<|mE<|dB<|dH<|sp2 hT ?_;refine bJ (z':=(((i+1):Nat):Int)) (kQ l7 l7) ?_;refine sp hT ?_;refine nn ?_;exact dA (i+1,_) v8 ⟨rfl,rfl,i6⟩ ⟨rfl,rfl,i6⟩ (.c0 (.c0 .nil)) ⟨i7 (⟨by dsimp only;omega,by rw[hinv11.2.1];first|exact bYg g l7|(have h0:i=0:=by omega);subst h0;exact bVw g,by simp;omega⟩),i6⟩ (bA.drop 1)
 have d:=aD.1 (of_decide_eq_false d);refine tI<|nK<|nK<|tO<|dB<|sr<|sp2 hT ?_;refine ss (ldO hT (bTc kT1)) ?_;refine sp hT ?_;refine ss (j3 (lQ _ _ _)) ?_;refine sto hT .head ?_;refine nn<|cW ?_;exact iX () rfl (qR hT (gG .head) rfl rfl rfl rfl) .nil i6 o5
theorem bYf(p:Part)(hs:p.s.length<=140737488355000)(ht:p.D<=140737488355000)(hn:p.J<=140737488355000):cY prog 138 [.agg #[.string (bs p.s),.bool p.plain,k6 (p.D:Nat),k6 (p.J:Nat)]] [] [] (λ(_:Unit)=> .agg #[.string (bs (brkR p).s),.bool (brkR p).plain,k6 ((brkR p).D:Nat),k6 ((brkR p).J:Nat)]) (λ_=>[]) (λ_=>[]):=by
 have hT:=jO;refine j5 func138 ntmps138 ?_;intro β hM;refine sr<|j4 λc=>?_;refine j1 nE λb=>?_;refine nn<|bP<|sr<|sp hT ?_;refine ss (ldO hT (bRd kT1)) ?_;refine nn<|bX rfl (λa=>?_) (λa=>?_)
 .refine sr<|ss (ldN hT (gG kT1)) ?_;refine sto hT .head ?_;refine nn<|cW<|cJ ?_;exact iX () rfl (qR hT (gG .head) rfl rfl rfl rfl) .nil i6 ai9
 refine fH<|dB<|sr<|sp hT ?_;refine ss (ldO hT (gG kT1)) ?_;refine ss (dJ rfl rfl rfl p7) ?_;refine ss (dJ rfl rfl rfl p7) ?_;refine sp hT ?_;refine ss (ldO hT (uB kT1)) ?_;refine sp hT ?_;refine bJ (z':=(((p.D+2):Nat):Int)) (kQ l7 l7) ?_;refine sp hT ?_;refine ss (ldO hT (bFb kT1)) ?_;refine sp hT ?_;refine bJ (z':=(((p.J+1):Nat):Int)) (kQ l7 l7) ?_;refine ss (j3 (qJ _ _ _)) ?_;refine sto hT .head ?_;refine nn<|cW ?_;exact iX () rfl (qR hT (gG .head) rfl rfl rfl rfl) .nil i6 ai9
theorem zC(f:Int):cY prog 137 [k7 f,.bool true] [] [] (λ_:Unit=> .bool (pT f)) (λ_=>[]) (λ_=>[]):=bOq f true
section
variable {x : fF} {l r : List Part} {p q : Part} {b : Bool} {mk : Bs} {k : Nat}
theorem how_cases(_: ¬(x.H=1\/x.H=2)):x.H=3\/x.H=4\/x.H=5\/x.H=6\/x.H=7\/(x.H<3\/7<x.H):=l7
theorem st_op(h:x.H=1\/x.H=2):stepR l x=if 0<(operandR x).D then some (operandR x::l)else none:=by unfold stepR;rw[if_pos h]
theorem st_op_v(h:x.H=1\/x.H=2):decide ((0:Int)<(((operandR x).D:Nat):Int))=(stepR l x).isSome:=by
 rw[st_op h]
 by_cases h0:0<(operandR x).D
 .rw[if_pos h0,decide_eq_true l7];rfl
 .rw[if_neg h0,decide_eq_false l7];rfl
theorem st_op_r(h:x.H=1\/x.H=2)(hr:stepR l x=some r):l.reverse++[operandR x]=r.reverse:=by
 rw[st_op h]at hr;split at hr
 .cases hr;simp
 .cases hr
theorem mS(ho: ¬(x.H=1\/x.H=2))(hb:x.H<3\/7<x.H\/x.nums≠[]\/x.name≠[]):stepR l x=none:=by unfold stepR;rw[if_neg ho,if_pos hb]
theorem wT(ho: ¬(x.H=1\/x.H=2))(hv:(verbR x).1=[]):stepR l x=none:=by
 unfold stepR;rw[if_neg ho];split
 .rfl
 .first|rfl|rw[if_pos hv]
theorem iH(ho: ¬(x.H=1\/x.H=2))(hl:l.length<1):stepR l x=none:=by
 match l,hl with
 |[],_=>
  unfold stepR;rw[if_neg ho];split
  .rfl
  .split
   .rfl
   .split<;>rfl
theorem iF(ho: ¬(x.H=1\/x.H=2))(ht:vU x.H=true)(hl:l.length<2):stepR l x=none:=by
 unfold stepR;rw[if_neg ho,ht]
 match l,hl with
 |[],_=>
  split
  .rfl
  .split<;>rfl
 |[_],_=>
  split
  .rfl
  .split<;>rfl
 |_::_::_,hl=>simp at hl;omega
theorem bCf(hb:(x.H !=3)=b)(h:dR b x.fn=[]\/x.H≠3/\x.H≠4/\pT x.fn=false):(verbR x).1=[]:=by subst hb;unfold verbR;rw[qY];dsimp only;rw[if_pos h]
theorem vr_ok(hb:(x.H !=3)=b)(h1:dR b x.fn≠[])(h2:x.H=3\/x.H=4\/pT x.fn=true)(hm:bCh x.H=mk)(hk:(if 5<=x.H then 2 else 1)=k):verbR x=(dR b x.fn++mk,k):=by
 subst hb hm hk;unfold verbR;rw[qY];dsimp only;rw[if_neg];rintro(h|⟨h3,h4,h5⟩)
 .exact h1 h
 .rcases h2 with h|h|h
  .exact h3 h
  .exact h4 h
  .rw[h]at h5;cases h5
theorem vr_ok0(hb:(x.H !=3)=b)(h1:dR b x.fn≠[])(h2:x.H=3\/x.H=4):verbR x=(dR b x.fn,1):=by
 rw[vr_ok (mk:=[]) (k:=1) hb h1 (by rcases h2 with h|h<;>simp[h]) (by rcases h2 with h|h<;>simp[bCh,h]) (by rcases h2 with h|h<;>simp[h]),List.append_nil]
variable {w : Bs}
theorem bAl(h3:3<=x.H)(h7:x.H<=7)(hn:x.nums=[])(hm:x.name=[])(hv:verbR x=(w,k))(hw:w≠[])(ht:vU x.H=false):stepR (p::r) x=some (⟨(w++[32])++p.s,false,k+p.D,p.J⟩::r):=by
 unfold stepR;rw[if_neg l7,if_neg,hv,if_neg hw,ht]
 .rfl
 .rintro(h|h|h|h)
  .omega
  .omega
  .exact h hn
  .exact h hm
theorem bLr(h3:3<=x.H)(h7:x.H<=7)(hn:x.nums=[])(hm:x.name=[])(hv:verbR x=(w,k))(hw:w≠[])(ht:vU x.H=true):stepR (p::q::r) x=some (⟨(((brkR q).s++[32])++w++[32])++p.s,false,(brkR q).D+k+p.D,max (brkR q).J p.J⟩::r):=by
 unfold stepR;rw[if_neg l7,if_neg,hv,if_neg hw,ht]
 .rfl
 .rintro(h|h|h|h)
  .omega
  .omega
  .exact h hn
  .exact h hm
end
section
variable {α : Type} {x y : α} {r : List α}
theorem cons1G{l:List α}(h:1<=l.length): ∃p r,l=p::r:=by
 match l,h with
 |p::r,_=>exact⟨p,r,rfl⟩
theorem cons2G{l:List α}(h:2<=l.length): ∃p q r,l=p::q::r:=by
 match l,h with
 |p::q::r,_=>exact⟨p,q,r,rfl⟩
theorem rev1G:(x::r).reverse[(r.length+1)-1]?=some x:=by simp
theorem rev2G:(x::y::r).reverse[(r.length+2)-1]?=some x/\(x::y::r).reverse[(r.length+2)-2]?=some y:=by
 constructor
 .simp
 .simp
end
theorem rcut1{F:List Fact}{B:Option Addr}{e:Nat}{p:Part}{r:List Part}(h:Has F (iP.sl (.slice B (p::r).reverse.length e) (p::r).reverse)):Has F (iP.sl (.slice B r.reverse.length e) r.reverse):=by
 have:=bBq h (k:=r.length) m9;rw[show r.reverse.length=r.length from O8]
 rwa[show(p::r).reverse.take r.length=r.reverse by simp]at this
theorem rcut2{F:List Fact}{B:Option Addr}{e:Nat}{p q:Part}{r:List Part}(h:Has F (iP.sl (.slice B (p::q::r).reverse.length e) (p::q::r).reverse)):Has F (iP.sl (.slice B r.reverse.length e) r.reverse):=by
 have:=bBq h (k:=r.length) m9;rw[show r.reverse.length=r.length from O8]
 rwa[show(p::q::r).reverse.take r.length=r.reverse by simp]at this
theorem brk_len(p:Part):(brkR p).s.length<=p.s.length+2/\(brkR p).D<=p.D+2/\(brkR p).J<=p.J+1:=by
 unfold brkR;split
 .exact⟨l7,l7,l7⟩
 .exact⟨m9,m9,m9⟩
theorem rstep_spec(B:Option Addr)(e:Nat)(st:List Part)(it:ItemV)(hz: ∀z∈it.nums.A,-9223372036854775808<=z/\z<=9223372036854775807)(hl:st.length<=1000000)(hok: ∀p∈st,p.s.length<=1000000000/\p.D<=1000000000/\p.J<=1000000000):cY prog 103 [.slice B st.reverse.length e,.agg #[k6 it.H,k6 it.at_,k7 it.fn,.string (bs it.name),j8 it.nums]] [iP.row (.slice B st.reverse.length e) 164 st.reverse] [bOy it] (λ(x:Option Addr×Nat×List Part)=> .tuple #[.slice x.1 x.2.2.length x.2.1,.bool (stepR st it.it).isSome]) (λ(x:Option Addr×Nat×List Part)=>[iP.row (.slice x.1 x.2.2.length x.2.1) 164 x.2.2]) (λ(x:Option Addr×Nat×List Part)=>[Fact.pure (∀r,stepR st it.it=some r->x.2.2=r.reverse)]):=by
 have hT:=jO;refine j5 func103 ntmps103 ?_;intro β hM;refine sr<|j4 λb1=>?_;refine sp2 hT ?_;refine nn<|bP<|sr<|sp hT ?_;refine ss (ldO hT (gG .head)) ?_;refine sp2 hT ?_;refine cG (λG=>?_) (λG=>?_)
 .have G:=eq_of_beq G;refine sk3 ?_;refine sp hT ?_;refine nn<|cC rfl rfl ?_;refine bP ?_;have J:it.it.H=1\/it.it.H=2:=by first|exact .inl ‹_›|exact .inr ‹_›
  refine dH<|ss (ldN hT (gG .head)) ?_;refine j2 func135 (bFj it hz) ⟨d7,i6⟩ λ_=>?_;refine j1 nE λb2=>?_;refine sto hT .head ?_;refine nn<|bP<|cL _ _ [j9,u0,A00,u6,A02,A05,A06,A01,A03] cN o0 (.c0 (.c0 .nil)) bA.self ?_;refine puM hT ?_;refine stM rfl (ldN hT (gG .head)) ?_;refine puM hT ?_;refine stM rfl (ldO hT (uB .head)) ?_;refine puM hT ?_;refine bGf (o:=_) rfl ?_;refine hJ (m:=(operandR it.it)) rfl rfl rfl rfl rfl λb3=>?_;refine fJ (.c1 (.c1 .nil)) (bA.drop 0) ?_;refine bGf (o:=_) rfl ?_;refine dN kT3 (bU .head rfl) rfl rfl rfl rfl rfl rfl rfl n0 λA4 c5=>?_;refine fJ (.c2 (.c2 .nil)) (bA.drop 0) ?_;refine puM hT ?_;refine puM hT ?_;refine uU<|dB<|cW<|cJ ?_;exact dF (_,_,(st.reverse++[(operandR it.it)])) rfl (bW rfl) (bW rfl) (.c0 .nil) ⟨i7 (λr hr=>st_op_r J hr),i6⟩ (congrArg (λb:Bool=>M1 #[_,.bool b]) (st_op_v J))
 have G:=beq_eq_false_iff_ne.1 G;refine sp hT ?_;refine ss (ldO hT (gG .head)) ?_;refine sp2 hT ?_;refine nn<|bX rfl (λC=>?_) (λC=>?_)
 .have M:=C;have C:=eq_of_beq C;refine bP ?_;have J:it.it.H=1\/it.it.H=2:=by first|exact .inl ‹_›|exact .inr ‹_›
  refine dH<|ss (ldN hT (gG .head)) ?_;refine j2 func135 (bFj it hz) ⟨d7,i6⟩ λ_=>?_;refine j1 nE λb6=>?_;refine sto hT .head ?_;refine nn<|bP<|cL _ _ [j9,u0,A00,u6,A02,A05,A06,A01,A03] cN o0 (.c0 (.c0 .nil)) bA.self ?_;refine puM hT ?_;refine stM rfl (ldN hT (gG .head)) ?_;refine puM hT ?_;refine stM rfl (ldO hT (uB .head)) ?_;refine puM hT ?_;refine bGf (o:=_) rfl ?_;refine hJ (m:=(operandR it.it)) rfl rfl rfl rfl rfl λb7=>?_;refine fJ (.c1 (.c1 .nil)) (bA.drop 0) ?_;refine bGf (o:=_) rfl ?_;refine dN kT3 (bU .head rfl) rfl rfl rfl rfl rfl rfl rfl n0 λA8 c9=>?_;refine fJ (.c2 (.c2 .nil)) (bA.drop 0) ?_;refine puM hT ?_;refine puM hT ?_;refine uU<|dB<|cW<|cJ ?_;exact dF (_,_,(st.reverse++[(operandR it.it)])) rfl (bW rfl) (bW rfl) (.c0 .nil) ⟨i7 (λr hr=>st_op_r J hr),i6⟩ (congrArg (λb:Bool=>M1 #[_,.bool b]) (st_op_v J))
 have M:=C;have C:=beq_eq_false_iff_ne.1 C;refine fH<|dB<|bP ?_;have a: ¬(it.it.H=1\/it.it.H=2):=by(have h1:it.H≠1:=by assumption);(have h2:it.H≠2:=by assumption);exact not_or.2 ⟨h1,h2⟩
 refine fW kT1 λI=>bR kT1 ?_
 rcases how_cases a with hh|hh|hh|hh|hh|hh
 .refine dH<|sp hT ?_;refine ss (ldO hT (gG .head)) ?_;refine bJ (z':=((3:Nat):Int)) hh ?_;refine sp hT ?_;refine bC (t':=false) m6 ?_;refine sp2 hT ?_;refine ss (ldO hT (gG .head)) ?_;refine bJ (z':=((3:Nat):Int)) hh ?_;refine sp hT ?_;refine bC (t':=false) m6 ?_;refine sp2 hT ?_;refine nn<|bP<|sr<|sp hT ?_;refine ss (ldO hT (gG .head)) ?_;refine bJ (z':=((3:Nat):Int)) hh ?_;refine sp hT ?_;refine bC (t':=false) m6 ?_;refine sp2 hT ?_;refine ss (ldO hT (gG .head)) ?_;refine bJ (z':=((3:Nat):Int)) hh ?_;refine sp hT ?_;refine bC (t':=false) m6 ?_;refine sp3 hT ?_;refine ss (ldO hT (bTc .head)) ?_;refine sp4 hT ?_;refine cG (λi=>?_) (λi=>?_)
  .have i:=of_decide_eq_true i;refine sk3 ?_;refine sp2 hT ?_;refine sk3 ?_;refine sp2 hT ?_;refine sk4 ?_;refine sk2 ?_;refine sp hT ?_;refine nn<|cC rfl rfl ?_;refine sr<|sp2 hT ?_;refine nn<|cW<|cJ<|bQ (t:=164) iP ?_;have hs:stepR st it.it=none:=by first|exact mS a m7|exact iF a q7 l7|exact iH a l7
   exact dF (none,0,[]) rfl (bW rfl) (bW rfl) (.c0 .nil) ⟨i7 (λr hr=>by rw[hs]at hr;cases hr),i6⟩ aa2
  have i:=aD.1 (of_decide_eq_false i);refine sp hT ?_;refine ss (ldO hT (bFb .head)) ?_;refine sp3 hT ?_;refine cG (λd=>?_) (λd=>?_)
  .have d:it.name≠([]:Bs):=λh=>by rw[h]at d;first|(simp at d;done)|exact absurd d m6
   refine sk3 ?_;refine sp2 hT ?_;refine sk4 ?_;refine sk2 ?_;refine sp hT ?_;refine nn<|cC rfl rfl ?_;refine sr<|sp2 hT ?_;refine nn<|cW<|cJ<|bQ (t:=164) iP ?_;have hs:stepR st it.it=none:=by first|exact mS a m7|exact iF a q7 l7|exact iH a l7
   exact dF (none,0,[]) rfl (bW rfl) (bW rfl) (.c0 .nil) ⟨i7 (λr hr=>by rw[hs]at hr;cases hr),i6⟩ aa2
  have d:it.name=([]:Bs):=eq_of_beq (mT d);refine sp2 hT ?_;refine bJ (z':=((st.length:Nat):Int)) (congrArg L6 O8) ?_;refine sp3 hT ?_;refine cG (λg=>?_) (λg=>?_)
  .have g:=of_decide_eq_true g;refine sk4 ?_;refine sk2 ?_;refine sp hT ?_;refine nn<|cC rfl rfl ?_;refine sr<|sp2 hT ?_;refine nn<|cW<|cJ<|bQ (t:=164) iP ?_;have hs:stepR st it.it=none:=by first|exact mS a m7|exact iF a q7 l7|exact iH a l7
   exact dF (none,0,[]) rfl (bW rfl) (bW rfl) (.c0 .nil) ⟨i7 (λr hr=>by rw[hs]at hr;cases hr),i6⟩ aa2
  have g:=aD.1 (of_decide_eq_false g);refine sp2 hT ?_;refine sk3 ?_;refine sp2 hT ?_;refine nn<|jT rfl rfl ?_;refine fH<|dB<|bP ?_;obtain⟨c,st,rfl⟩:=cons1G (l:=st) l7;have L:=hok c m9;simp only[F5]at hl;simp only[O8,F5]at I;refine dH<|sp3 hT ?_;refine bJ (z':=(((st.length+1):Nat):Int)) m9 ?_;refine sp hT ?_;refine bJ (z':=((((st.length+1)-1):Nat):Int)) (kQ l7 l7) ?_;refine ss (cA hT (k:=((st.length+1)-1)) (bG d7) rfl rfl rfl rfl rfl rfl rfl ab2) ?_;refine ss (fP hT (dD.knows (bG d7) (k:=((st.length+1)-1)) (x:=c) rev1G 0) rfl rfl rfl rfl rfl) ?_;refine j1 nE λb10=>?_;refine sto hT .head ?_;refine nn<|sr<|sp hT ?_;refine ss (ldO hT (uB kT1)) ?_;refine sp hT ?_;refine ss (ldO hT (gG kT1)) ?_;refine bJ (z':=((3:Nat):Int)) hh ?_;refine sp hT ?_;refine bC (t':=false) m6 ?_;refine j2 func136 (tY it.fn false) i6 λ_=>?_;have A:(it.it.H !=3)=false:=by rw[show it.it.H=3 from hh];rfl
  have K:=pN false it.fn;refine sp hT ?_;refine nn<|bP<|sr<|sp3 hT ?_;refine cG (λhg85=>?_) (λhg85=>?_)
  .have hg85:(dR false it.fn)=([]:Bs):=eq_of_beq hg85;refine sk4 ?_;refine sk4 ?_;refine sk4 ?_;refine sk2 ?_;refine sp hT ?_;refine nn<|cC rfl rfl ?_;refine sr<|sp2 hT ?_;refine nn<|cW<|cJ<|bQ (t:=164) iP ?_;have hs:stepR (c::st) it.it=none:=wT a (bCf A t6);exact dF (none,0,[]) rfl (bW rfl) (bW rfl) (.c0 .nil) ⟨i7 (λr hr=>by rw[hs]at hr;cases hr),i6⟩ aa2
  have hg85:(dR false it.fn)≠([]:Bs):=λh=>absurd (beq_iff_eq.2 h) (by rw[show((dR false it.fn)==([]:Bs))=false from hg85];simp);refine sp hT ?_;refine ss (ldO hT (gG kT1)) ?_;refine bJ (z':=((3:Nat):Int)) hh ?_;refine sp hT ?_;refine bC (t':=false) m6 ?_;refine sp hT ?_;refine sk3 ?_;refine sp2 hT ?_;refine sk4 ?_;refine sp2 hT ?_;refine nn<|jT rfl rfl ?_;refine fH<|dB<|sr<|sp hT ?_;refine nn<|bP<|sr<|sp hT ?_;refine ss (ldO hT (gG kT1)) ?_;refine bJ (z':=((3:Nat):Int)) hh ?_;refine nn<|iJ<|sr<|sp hT ?_;refine bC (t':=false) m6 ?_;refine sp hT ?_;refine nn<|jT rfl rfl ?_;refine sr<|sp hT ?_;refine bC (t':=false) m6 ?_;refine sp hT ?_;refine nn<|jT rfl rfl ?_;refine sr<|sp hT ?_;refine bC (t':=false) m6 ?_;refine sp hT ?_;refine nn<|jT rfl rfl ?_;refine fH<|mE<|dB<|bP<|bP ?_;have u:=vr_ok0 A ‹_› (by first|exact .inl hh|exact .inr hh);have n:(dR false it.fn)≠[]:=by first|assumption|simp
  refine dH<|sp2 hT ?_;refine nn<|cC rfl rfl ?_;refine sr<|sp hT ?_;refine ss (dJ rfl rfl rfl p7) ?_;refine sp hT ?_;refine ss (ldO hT (gG .head)) ?_;refine ss (dJ rfl rfl rfl p7) ?_;refine sp2 hT ?_;refine ss (ldO hT (uB .head)) ?_;refine sp hT ?_;refine bJ (z':=(((1+c.D):Nat):Int)) (kQ l7 l7) ?_;refine sp hT ?_;refine ss (ldO hT (bFb .head)) ?_;refine ss (j3 (qJ _ _ _)) ?_;refine j1 nE λb11=>?_;refine sto hT .head ?_;refine nn<|bP<|bB (iP.sl (.slice B st.reverse.length e) st.reverse) (rcut1 d7) ?_;refine kZ _ _ (.fl 1 (.fl 2 (.fl 3 (.fl 4 (.fl 5 (.fl 7 (.two 0 8 (.two 6 8 (.op 8 (.op 9 (.fl 10 (.fl 11 .nil)))) (.op 6 (.op 9 (.fl 10 (.fl 11 .nil))))) (.op 0 (.op 6 (.op 9 (.fl 10 (.fl 11 .nil)))))))))))) cN o0 (.c0 (.c0 (.c0 .nil))) bA.self ?_;refine pvT hT ?_;refine pvT hT ?_;refine pvT hT ?_;refine bJ (z':=(((st.length+1):Nat):Int)) m9 ?_;refine pvT hT ?_;refine bJ (z':=((((st.length+1)-1):Nat):Int)) (kQ l7 l7) ?_;refine sqT rfl (iY hT (k:=st.reverse.length) rfl rfl rfl rfl rfl m9 q9) ?_;refine sqT rfl (ldN hT (gG .head)) ?_;refine gT (o:=_) (o':=_) rfl rfl ?_ ?_
  .refine kR rfl rfl rfl rfl λb12=>?_;refine cZ (.c1 (.c1 (.c1 .nil))) (bA.drop 0) ?_;refine gT (o:=_) (o':=_) rfl rfl ?_ ?_
   .refine dN .head (bG d7) rfl rfl rfl rfl rfl rfl rfl n0 λA13 c14=>?_;refine cZ (.c1 (.c1 (.c1 .nil))) (bA.drop 0) ?_;refine iM (o:=_) rfl ?_;refine hJ (m:=(⟨(((dR false it.fn)++([32]:Bs))++c.s),false,(1+c.D),c.J⟩:Part)) rfl rfl rfl rfl rfl λb15=>?_;refine cZ (.c2 (.c2 (.c2 .nil))) (bA.drop 0) ?_;refine iM (o:=_) rfl ?_;refine dN kT1 (bU .head rfl) rfl rfl rfl rfl rfl rfl rfl n0 λA16 c17=>?_;refine cZ (.c2 (.c2 (.c2 .nil))) (bA.drop 0) ?_;refine pvT hT ?_;refine pvT hT ?_;refine mW<|dB<|cW<|cJ ?_;have hs:=bAl (p:=c) (r:=st) (x:=it.it) r8 r8 (iB l7) ‹_› u n q7;exact dF (_,_,(([]++st.reverse)++[(⟨(((dR false it.fn)++([32]:Bs))++c.s),false,(1+c.D),c.J⟩:Part)])) rfl (bW rfl) (bW rfl) (.c0 .nil) ⟨i7 (λr hr=>by rw[hs]at hr;cases hr;first|(simp;done)|(simp;rfl)),i6⟩ aa2
   refine hJ (m:=(⟨(((dR false it.fn)++([32]:Bs))++c.s),false,(1+c.D),c.J⟩:Part)) rfl rfl rfl rfl rfl λb18=>?_;refine cZ (.c2 (.c2 (.c2 .nil))) (bA.drop 0) ?_;refine iM (o:=_) rfl ?_;refine dN kT1 (bG d7) rfl rfl rfl rfl rfl rfl rfl n0 λA19 c20=>?_;refine cZ (.c2 (.c2 (.c2 .nil))) (bA.drop 0) ?_;refine iM (o:=_) rfl ?_;refine dN .head (bU kT1 rfl) rfl rfl rfl rfl rfl rfl rfl n0 λA21 c22=>?_;refine cZ (.c2 (.c2 (.c2 .nil))) (bA.drop 0) ?_;refine pvT hT ?_;refine pvT hT ?_;refine mW<|dB<|cW<|cJ ?_;have hs:=bAl (p:=c) (r:=st) (x:=it.it) r8 r8 (iB l7) ‹_› u n q7;exact dF (_,_,(([]++st.reverse)++[(⟨(((dR false it.fn)++([32]:Bs))++c.s),false,(1+c.D),c.J⟩:Part)])) rfl (bW rfl) (bW rfl) (.c0 .nil) ⟨i7 (λr hr=>by rw[hs]at hr;cases hr;first|(simp;done)|(simp;rfl)),i6⟩ aa2
  refine hJ (m:=(⟨(((dR false it.fn)++([32]:Bs))++c.s),false,(1+c.D),c.J⟩:Part)) rfl rfl rfl rfl rfl λb23=>?_;refine cZ (.c1 (.c1 (.c1 .nil))) (bA.drop 0) ?_;refine iM (o:=_) rfl ?_;refine kR rfl rfl rfl rfl λb24=>?_;refine cZ (.c2 (.c2 (.c2 .nil))) (bA.drop 0) ?_;refine iM (o:=_) rfl ?_;refine dN .head (bG d7) rfl rfl rfl rfl rfl rfl rfl n0 λA25 c26=>?_;refine cZ (.c2 (.c2 (.c2 .nil))) (bA.drop 0) ?_;refine iM (o:=_) rfl ?_;refine dN .head (bU kT1 rfl) rfl rfl rfl rfl rfl rfl rfl n0 λA27 c28=>?_;refine cZ (.c2 (.c2 (.c2 .nil))) (bA.drop 0) ?_;refine pvT hT ?_;refine pvT hT ?_;refine mW<|dB<|cW<|cJ ?_;have hs:=bAl (p:=c) (r:=st) (x:=it.it) r8 r8 (iB l7) ‹_› u n q7;exact dF (_,_,(([]++st.reverse)++[(⟨(((dR false it.fn)++([32]:Bs))++c.s),false,(1+c.D),c.J⟩:Part)])) rfl (bW rfl) (bW rfl) (.c0 .nil) ⟨i7 (λr hr=>by rw[hs]at hr;cases hr;first|(simp;done)|(simp;rfl)),i6⟩ aa2
 .refine dH<|sp hT ?_;refine ss (ldO hT (gG .head)) ?_;refine bJ (z':=((4:Nat):Int)) hh ?_;refine sp hT ?_;refine bC (t':=true) m6 ?_;refine sp hT ?_;refine sk3 ?_;refine sp2 hT ?_;refine nn<|bP<|sr<|sp hT ?_;refine ss (ldO hT (gG .head)) ?_;refine bJ (z':=((4:Nat):Int)) hh ?_;refine sp hT ?_;refine bC (t':=false) m6 ?_;refine sp2 hT ?_;refine ss (ldO hT (gG .head)) ?_;refine bJ (z':=((4:Nat):Int)) hh ?_;refine sp hT ?_;refine bC (t':=false) m6 ?_;refine sp3 hT ?_;refine ss (ldO hT (bTc .head)) ?_;refine sp4 hT ?_;refine cG (λi=>?_) (λi=>?_)
  .have i:=of_decide_eq_true i;refine sk3 ?_;refine sp2 hT ?_;refine sk3 ?_;refine sp2 hT ?_;refine sk4 ?_;refine sk2 ?_;refine sp hT ?_;refine nn<|cC rfl rfl ?_;refine sr<|sp2 hT ?_;refine nn<|cW<|cJ<|bQ (t:=164) iP ?_;have hs:stepR st it.it=none:=by first|exact mS a m7|exact iF a q7 l7|exact iH a l7
   exact dF (none,0,[]) rfl (bW rfl) (bW rfl) (.c0 .nil) ⟨i7 (λr hr=>by rw[hs]at hr;cases hr),i6⟩ aa2
  have i:=aD.1 (of_decide_eq_false i);refine sp hT ?_;refine ss (ldO hT (bFb .head)) ?_;refine sp3 hT ?_;refine cG (λd=>?_) (λd=>?_)
  .have d:it.name≠([]:Bs):=λh=>by rw[h]at d;first|(simp at d;done)|exact absurd d m6
   refine sk3 ?_;refine sp2 hT ?_;refine sk4 ?_;refine sk2 ?_;refine sp hT ?_;refine nn<|cC rfl rfl ?_;refine sr<|sp2 hT ?_;refine nn<|cW<|cJ<|bQ (t:=164) iP ?_;have hs:stepR st it.it=none:=by first|exact mS a m7|exact iF a q7 l7|exact iH a l7
   exact dF (none,0,[]) rfl (bW rfl) (bW rfl) (.c0 .nil) ⟨i7 (λr hr=>by rw[hs]at hr;cases hr),i6⟩ aa2
  have d:it.name=([]:Bs):=eq_of_beq (mT d);refine sp2 hT ?_;refine bJ (z':=((st.length:Nat):Int)) (congrArg L6 O8) ?_;refine sp3 hT ?_;refine cG (λg=>?_) (λg=>?_)
  .have g:=of_decide_eq_true g;refine sk4 ?_;refine sk2 ?_;refine sp hT ?_;refine nn<|cC rfl rfl ?_;refine sr<|sp2 hT ?_;refine nn<|cW<|cJ<|bQ (t:=164) iP ?_;have hs:stepR st it.it=none:=by first|exact mS a m7|exact iF a q7 l7|exact iH a l7
   exact dF (none,0,[]) rfl (bW rfl) (bW rfl) (.c0 .nil) ⟨i7 (λr hr=>by rw[hs]at hr;cases hr),i6⟩ aa2
  have g:=aD.1 (of_decide_eq_false g);refine sp4 hT ?_;refine bJ (z':=((st.length:Nat):Int)) (congrArg L6 O8) ?_;refine sp3 hT ?_;refine nn<|bX rfl (λj=>?_) (λj=>?_)
  .have D:=j;have j:=of_decide_eq_true j;refine sr<|sp2 hT ?_;refine nn<|cW<|cJ<|bQ (t:=164) iP ?_;have hs:stepR st it.it=none:=by first|exact mS a m7|exact iF a q7 l7|exact iH a l7
   exact dF (none,0,[]) rfl (bW rfl) (bW rfl) (.c0 .nil) ⟨i7 (λr hr=>by rw[hs]at hr;cases hr),i6⟩ aa2
  have D:=j;have j:=aD.1 (of_decide_eq_false j);refine fH<|dB<|bP ?_;obtain⟨c,q1,st,rfl⟩:=cons2G (l:=st) l7;have N:=hok q1 m9;have L:=hok c m9;simp only[F5]at hl;simp only[O8,F5]at I;refine dH<|sp3 hT ?_;refine bJ (z':=(((st.length+2):Nat):Int)) m9 ?_;refine sp hT ?_;refine bJ (z':=((((st.length+2)-1):Nat):Int)) (kQ l7 l7) ?_;refine ss (cA hT (k:=((st.length+2)-1)) (bG d7) rfl rfl rfl rfl rfl rfl rfl ab2) ?_;refine ss (fP hT (dD.knows (bG d7) (k:=((st.length+2)-1)) (x:=c) rev2G.1 0) rfl rfl rfl rfl rfl) ?_;refine j1 nE λb29=>?_;refine sto hT .head ?_;refine nn<|sr<|sp hT ?_;refine ss (ldO hT (uB kT1)) ?_;refine sp hT ?_;refine ss (ldO hT (gG kT1)) ?_;refine bJ (z':=((4:Nat):Int)) hh ?_;refine sp hT ?_;refine bC (t':=true) m6 ?_;refine j2 func136 (tY it.fn true) i6 λ_=>?_;have A:(it.it.H !=3)=true:=by rw[show it.it.H=4 from hh];rfl
  have K:=pN true it.fn;refine sp hT ?_;refine nn<|bP<|sr<|sp3 hT ?_;refine cG (λhg85=>?_) (λhg85=>?_)
  .have hg85:(dR true it.fn)=([]:Bs):=eq_of_beq hg85;refine sk4 ?_;refine sk4 ?_;refine sk4 ?_;refine sk2 ?_;refine sp hT ?_;refine nn<|cC rfl rfl ?_;refine sr<|sp2 hT ?_;refine nn<|cW<|cJ<|bQ (t:=164) iP ?_;have hs:stepR (c::q1::st) it.it=none:=wT a (bCf A t6);exact dF (none,0,[]) rfl (bW rfl) (bW rfl) (.c0 .nil) ⟨i7 (λr hr=>by rw[hs]at hr;cases hr),i6⟩ aa2
  have hg85:(dR true it.fn)≠([]:Bs):=λh=>absurd (beq_iff_eq.2 h) ae7;refine sp hT ?_;refine ss (ldO hT (gG kT1)) ?_;refine bJ (z':=((4:Nat):Int)) hh ?_;refine sp hT ?_;refine bC (t':=true) m6 ?_;refine sp2 hT ?_;refine ss (ldO hT (gG kT1)) ?_;refine bJ (z':=((4:Nat):Int)) hh ?_;refine sp hT ?_;refine bC (t':=false) m6 ?_;refine sp2 hT ?_;refine sk4 ?_;refine sp2 hT ?_;refine nn<|jT rfl rfl ?_;refine fH<|dB<|sr<|sp hT ?_;refine nn<|bP<|sr<|sp hT ?_;refine ss (ldO hT (gG kT1)) ?_;refine bJ (z':=((4:Nat):Int)) hh ?_;refine nn<|iJ<|sr<|sp hT ?_;refine bC (t':=false) m6 ?_;refine sp hT ?_;refine nn<|jT rfl rfl ?_;refine sr<|sp hT ?_;refine bC (t':=false) m6 ?_;refine sp hT ?_;refine nn<|jT rfl rfl ?_;refine sr<|sp hT ?_;refine bC (t':=false) m6 ?_;refine sp hT ?_;refine nn<|jT rfl rfl ?_;refine fH<|mE<|dB<|bP<|bP ?_;have u:=vr_ok0 A ‹_› (by first|exact .inl hh|exact .inr hh);have n:(dR true it.fn)≠[]:=by first|assumption|simp
  refine dH<|sp2 hT ?_;refine nn<|jT rfl rfl ?_;refine fH<|dB<|sr<|sp3 hT ?_;refine bJ (z':=(((st.length+2):Nat):Int)) m9 ?_;refine sp hT ?_;refine bJ (z':=((((st.length+2)-2):Nat):Int)) (kQ l7 l7) ?_;refine ss (cA hT (k:=((st.length+2)-2)) (bG d7) rfl rfl rfl rfl rfl rfl rfl ab2) ?_;refine ss (fP hT (dD.knows (bG d7) (k:=((st.length+2)-2)) (x:=q1) rev2G.2 0) rfl rfl rfl rfl rfl) ?_;refine j2 func138 (bYf q1 l7 l7 l7) i6 λ_=>?_;have O:=brk_len q1;refine j1 nE λb30=>?_;refine sto hT .head ?_;refine nn<|sr<|sp hT ?_;refine ss (ldO hT (gG .head)) ?_;refine ss (dJ rfl rfl rfl p7) ?_;refine sp hT ?_;refine ss (dJ rfl rfl rfl p7) ?_;refine ss (dJ rfl rfl rfl p7) ?_;refine sp hT ?_;refine ss (ldO hT (gG kT1)) ?_;refine ss (dJ rfl rfl rfl p7) ?_;refine sp hT ?_;refine ss (ldO hT (uB .head)) ?_;refine sp2 hT ?_;refine bJ (z':=((((brkR q1).D+1):Nat):Int)) (kQ l7 l7) ?_;refine sp hT ?_;refine ss (ldO hT (uB kT1)) ?_;refine sp hT ?_;refine bJ (z':=(((((brkR q1).D+1)+c.D):Nat):Int)) (kQ l7 l7) ?_;refine sp hT ?_;refine ss (ldO hT (bFb .head)) ?_;refine sp hT ?_;refine ss (ldO hT (bFb kT1)) ?_;refine sp hT ?_;refine bJ (z':=(((max (brkR q1).J c.J):Nat):Int)) (maxN _ _) ?_;refine ss (j3 (qJ _ _ _)) ?_;refine j1 nE λb31=>?_;refine sto hT .head ?_;refine nn<|bP<|bB (iP.sl (.slice B st.reverse.length e) st.reverse) (rcut2 d7) ?_;refine kZ _ _ (.fl 1 (.fl 2 (.fl 3 (.fl 4 (.fl 5 (.fl 7 (.two 0 8 (.two 6 8 (.op 8 (.op 9 (.fl 10 (.fl 11 .nil)))) (.op 6 (.op 9 (.fl 10 (.fl 11 .nil))))) (.op 0 (.op 6 (.op 9 (.fl 10 (.fl 11 .nil)))))))))))) cN o0 (.c0 (.c0 (.c0 (.c0 .nil)))) bA.self ?_;refine pvT hT ?_;refine pvT hT ?_;refine pvT hT ?_;refine bJ (z':=(((st.length+2):Nat):Int)) m9 ?_;refine pvT hT ?_;refine bJ (z':=((((st.length+2)-2):Nat):Int)) (kQ l7 l7) ?_;refine sqT rfl (iY hT (k:=st.reverse.length) rfl rfl rfl rfl rfl m9 q9) ?_;refine sqT rfl (ldN hT (gG .head)) ?_;refine gT (o:=_) (o':=_) rfl rfl ?_ ?_
  .refine kR rfl rfl rfl rfl λb32=>?_;refine cZ (.c1 (.c1 (.c1 (.c1 .nil)))) (bA.drop 0) ?_;refine gT (o:=_) (o':=_) rfl rfl ?_ ?_
   .refine dN .head (bG d7) rfl rfl rfl rfl rfl rfl rfl n0 λA33 c34=>?_;refine cZ (.c1 (.c1 (.c1 (.c1 .nil)))) (bA.drop 0) ?_;refine iM (o:=_) rfl ?_;refine hJ (m:=(⟨(((((brkR q1).s++([32]:Bs))++(dR true it.fn))++([32]:Bs))++c.s),false,(((brkR q1).D+1)+c.D),(max (brkR q1).J c.J)⟩:Part)) rfl rfl rfl rfl rfl λb35=>?_;refine cZ (.c2 (.c2 (.c2 (.c2 .nil)))) (bA.drop 0) ?_;refine iM (o:=_) rfl ?_;refine dN kT1 (bU .head rfl) rfl rfl rfl rfl rfl rfl rfl n0 λA36 c37=>?_;refine cZ (.c2 (.c2 (.c2 (.c2 .nil)))) (bA.drop 0) ?_;refine pvT hT ?_;refine pvT hT ?_;refine mW<|dB<|cW ?_;have hs:=bLr (p:=c) (q:=q1) (r:=st) (x:=it.it) r8 r8 (iB l7) ‹_› u n q7;exact dF (_,_,(([]++st.reverse)++[(⟨(((((brkR q1).s++([32]:Bs))++(dR true it.fn))++([32]:Bs))++c.s),false,(((brkR q1).D+1)+c.D),(max (brkR q1).J c.J)⟩:Part)])) rfl (bW rfl) (bW rfl) (.c0 .nil) ⟨i7 (λr hr=>by rw[hs]at hr;cases hr;first|(simp;done)|(simp;rfl)),i6⟩ aa2
   refine hJ (m:=(⟨(((((brkR q1).s++([32]:Bs))++(dR true it.fn))++([32]:Bs))++c.s),false,(((brkR q1).D+1)+c.D),(max (brkR q1).J c.J)⟩:Part)) rfl rfl rfl rfl rfl λb38=>?_;refine cZ (.c2 (.c2 (.c2 (.c2 .nil)))) (bA.drop 0) ?_;refine iM (o:=_) rfl ?_;refine dN kT1 (bG d7) rfl rfl rfl rfl rfl rfl rfl n0 λA39 c40=>?_;refine cZ (.c2 (.c2 (.c2 (.c2 .nil)))) (bA.drop 0) ?_;refine iM (o:=_) rfl ?_;refine dN .head (bU kT1 rfl) rfl rfl rfl rfl rfl rfl rfl n0 λA41 c42=>?_;refine cZ (.c2 (.c2 (.c2 (.c2 .nil)))) (bA.drop 0) ?_;refine pvT hT ?_;refine pvT hT ?_;refine mW<|dB<|cW ?_;have hs:=bLr (p:=c) (q:=q1) (r:=st) (x:=it.it) r8 r8 (iB l7) ‹_› u n q7;exact dF (_,_,(([]++st.reverse)++[(⟨(((((brkR q1).s++([32]:Bs))++(dR true it.fn))++([32]:Bs))++c.s),false,(((brkR q1).D+1)+c.D),(max (brkR q1).J c.J)⟩:Part)])) rfl (bW rfl) (bW rfl) (.c0 .nil) ⟨i7 (λr hr=>by rw[hs]at hr;cases hr;first|(simp;done)|(simp;rfl)),i6⟩ aa2
  refine hJ (m:=(⟨(((((brkR q1).s++([32]:Bs))++(dR true it.fn))++([32]:Bs))++c.s),false,(((brkR q1).D+1)+c.D),(max (brkR q1).J c.J)⟩:Part)) rfl rfl rfl rfl rfl λb43=>?_;refine cZ (.c1 (.c1 (.c1 (.c1 .nil)))) (bA.drop 0) ?_;refine iM (o:=_) rfl ?_;refine kR rfl rfl rfl rfl λb44=>?_;refine cZ (.c2 (.c2 (.c2 (.c2 .nil)))) (bA.drop 0) ?_;refine iM (o:=_) rfl ?_;refine dN .head (bG d7) rfl rfl rfl rfl rfl rfl rfl n0 λA45 c46=>?_;refine cZ (.c2 (.c2 (.c2 (.c2 .nil)))) (bA.drop 0) ?_;refine iM (o:=_) rfl ?_;refine dN .head (bU kT1 rfl) rfl rfl rfl rfl rfl rfl rfl n0 λA47 c48=>?_;refine cZ (.c2 (.c2 (.c2 (.c2 .nil)))) (bA.drop 0) ?_;refine pvT hT ?_;refine pvT hT ?_;refine mW<|dB<|cW ?_;have hs:=bLr (p:=c) (q:=q1) (r:=st) (x:=it.it) r8 r8 (iB l7) ‹_› u n q7;exact dF (_,_,(([]++st.reverse)++[(⟨(((((brkR q1).s++([32]:Bs))++(dR true it.fn))++([32]:Bs))++c.s),false,(((brkR q1).D+1)+c.D),(max (brkR q1).J c.J)⟩:Part)])) rfl (bW rfl) (bW rfl) (.c0 .nil) ⟨i7 (λr hr=>by rw[hs]at hr;cases hr;first|(simp;done)|(simp;rfl)),i6⟩ aa2
 .refine dH<|sp hT ?_;refine ss (ldO hT (gG .head)) ?_;refine bJ (z':=((5:Nat):Int)) hh ?_;refine sp hT ?_;refine bC (t':=false) m6 ?_;refine sp2 hT ?_;refine ss (ldO hT (gG .head)) ?_;refine bJ (z':=((5:Nat):Int)) hh ?_;refine sp hT ?_;refine bC (t':=false) m6 ?_;refine sp2 hT ?_;refine nn<|bP<|sr<|sp hT ?_;refine ss (ldO hT (gG .head)) ?_;refine bJ (z':=((5:Nat):Int)) hh ?_;refine sp hT ?_;refine bC (t':=false) m6 ?_;refine sp2 hT ?_;refine ss (ldO hT (gG .head)) ?_;refine bJ (z':=((5:Nat):Int)) hh ?_;refine sp hT ?_;refine bC (t':=false) m6 ?_;refine sp3 hT ?_;refine ss (ldO hT (bTc .head)) ?_;refine sp4 hT ?_;refine cG (λi=>?_) (λi=>?_)
  .have i:=of_decide_eq_true i;refine sk3 ?_;refine sp2 hT ?_;refine sk3 ?_;refine sp2 hT ?_;refine sk4 ?_;refine sk2 ?_;refine sp hT ?_;refine nn<|cC rfl rfl ?_;refine sr<|sp2 hT ?_;refine nn<|cW<|cJ<|bQ (t:=164) iP ?_;have hs:stepR st it.it=none:=by first|exact mS a m7|exact iF a q7 l7|exact iH a l7
   exact dF (none,0,[]) rfl (bW rfl) (bW rfl) (.c0 .nil) ⟨i7 (λr hr=>by rw[hs]at hr;cases hr),i6⟩ aa2
  have i:=aD.1 (of_decide_eq_false i);refine sp hT ?_;refine ss (ldO hT (bFb .head)) ?_;refine sp3 hT ?_;refine cG (λd=>?_) (λd=>?_)
  .have d:it.name≠([]:Bs):=λh=>by rw[h]at d;first|(simp at d;done)|exact absurd d m6
   refine sk3 ?_;refine sp2 hT ?_;refine sk4 ?_;refine sk2 ?_;refine sp hT ?_;refine nn<|cC rfl rfl ?_;refine sr<|sp2 hT ?_;refine nn<|cW<|cJ<|bQ (t:=164) iP ?_;have hs:stepR st it.it=none:=by first|exact mS a m7|exact iF a q7 l7|exact iH a l7
   exact dF (none,0,[]) rfl (bW rfl) (bW rfl) (.c0 .nil) ⟨i7 (λr hr=>by rw[hs]at hr;cases hr),i6⟩ aa2
  have d:it.name=([]:Bs):=eq_of_beq (mT d);refine sp2 hT ?_;refine bJ (z':=((st.length:Nat):Int)) (congrArg L6 O8) ?_;refine sp3 hT ?_;refine cG (λg=>?_) (λg=>?_)
  .have g:=of_decide_eq_true g;refine sk4 ?_;refine sk2 ?_;refine sp hT ?_;refine nn<|cC rfl rfl ?_;refine sr<|sp2 hT ?_;refine nn<|cW<|cJ<|bQ (t:=164) iP ?_;have hs:stepR st it.it=none:=by first|exact mS a m7|exact iF a q7 l7|exact iH a l7
   exact dF (none,0,[]) rfl (bW rfl) (bW rfl) (.c0 .nil) ⟨i7 (λr hr=>by rw[hs]at hr;cases hr),i6⟩ aa2
  have g:=aD.1 (of_decide_eq_false g);refine sp2 hT ?_;refine sk3 ?_;refine sp2 hT ?_;refine nn<|jT rfl rfl ?_;refine fH<|dB<|bP ?_;obtain⟨c,st,rfl⟩:=cons1G (l:=st) l7;have L:=hok c m9;simp only[F5]at hl;simp only[O8,F5]at I;refine dH<|sp3 hT ?_;refine bJ (z':=(((st.length+1):Nat):Int)) m9 ?_;refine sp hT ?_;refine bJ (z':=((((st.length+1)-1):Nat):Int)) (kQ l7 l7) ?_;refine ss (cA hT (k:=((st.length+1)-1)) (bG d7) rfl rfl rfl rfl rfl rfl rfl ab2) ?_;refine ss (fP hT (dD.knows (bG d7) (k:=((st.length+1)-1)) (x:=c) rev1G 0) rfl rfl rfl rfl rfl) ?_;refine j1 nE λb49=>?_;refine sto hT .head ?_;refine nn<|sr<|sp hT ?_;refine ss (ldO hT (uB kT1)) ?_;refine sp hT ?_;refine ss (ldO hT (gG kT1)) ?_;refine bJ (z':=((5:Nat):Int)) hh ?_;refine sp hT ?_;refine bC (t':=true) m6 ?_;refine j2 func136 (tY it.fn true) i6 λ_=>?_;have A:(it.it.H !=3)=true:=by rw[show it.it.H=5 from hh];rfl
  have K:=pN true it.fn;refine sp hT ?_;refine nn<|bP<|sr<|sp3 hT ?_;refine cG (λhg85=>?_) (λhg85=>?_)
  .have hg85:(dR true it.fn)=([]:Bs):=eq_of_beq hg85;refine sk4 ?_;refine sk4 ?_;refine sk4 ?_;refine sk2 ?_;refine sp hT ?_;refine nn<|cC rfl rfl ?_;refine sr<|sp2 hT ?_;refine nn<|cW<|cJ<|bQ (t:=164) iP ?_;have hs:stepR (c::st) it.it=none:=wT a (bCf A t6);exact dF (none,0,[]) rfl (bW rfl) (bW rfl) (.c0 .nil) ⟨i7 (λr hr=>by rw[hs]at hr;cases hr),i6⟩ aa2
  have hg85:(dR true it.fn)≠([]:Bs):=λh=>absurd (beq_iff_eq.2 h) ae7;refine sp hT ?_;refine ss (ldO hT (gG kT1)) ?_;refine bJ (z':=((5:Nat):Int)) hh ?_;refine sp hT ?_;refine bC (t':=true) m6 ?_;refine sp2 hT ?_;refine ss (ldO hT (gG kT1)) ?_;refine bJ (z':=((5:Nat):Int)) hh ?_;refine sp hT ?_;refine bC (t':=true) m6 ?_;refine sp3 hT ?_;refine ss (ldO hT (uB kT1)) ?_;refine bD func137 (zC _) rfl rfl .nil i6 λ_=>?_;refine sp3 hT ?_;refine nn<|bX rfl (λf=>?_) (λf=>?_)
  .have y:=f;have f:=yZ f;refine sr<|sp2 hT ?_;refine nn<|cW<|cJ<|bQ (t:=164) iP ?_;have hs:stepR (c::st) it.it=none:=wT a (bCf A t6);exact dF (none,0,[]) rfl (bW rfl) (bW rfl) (.c0 .nil) ⟨i7 (λr hr=>by rw[hs]at hr;cases hr),i6⟩ aa2
  have y:=f;have f:=mT f;refine fH<|dB<|sr<|sp hT ?_;refine nn<|bP<|sr<|sp hT ?_;refine ss (ldO hT (gG kT1)) ?_;refine bJ (z':=((5:Nat):Int)) hh ?_;refine nn<|iJ<|sr<|sp hT ?_;refine bC (t':=true) m6 ?_;refine sp hT ?_;refine nn<|cC rfl rfl ?_;refine sr<|sp hT ?_;refine ss (dJ rfl rfl rfl p7) ?_;refine sp hT ?_;refine nn<|dH<|sp hT ?_;refine sZ<|mE<|dB<|bP<|bP ?_;have u:=vr_ok (mk:=[47]) (k:=2) A ‹_› (.inr (.inr ‹_›)) (by rw[show it.it.H=5 from hh];rfl) (by rw[show it.it.H=5 from hh];rfl);have n:((dR true it.fn)++([47]:Bs))≠[]:=by first|assumption|simp
  refine dH<|sp2 hT ?_;refine nn<|cC rfl rfl ?_;refine sr<|sp hT ?_;refine ss (dJ rfl rfl rfl p7) ?_;refine sp hT ?_;refine ss (ldO hT (gG .head)) ?_;refine ss (dJ rfl rfl rfl p7) ?_;refine sp2 hT ?_;refine ss (ldO hT (uB .head)) ?_;refine sp hT ?_;refine bJ (z':=(((2+c.D):Nat):Int)) (kQ l7 l7) ?_;refine sp hT ?_;refine ss (ldO hT (bFb .head)) ?_;refine ss (j3 (qJ _ _ _)) ?_;refine j1 nE λb50=>?_;refine sto hT .head ?_;refine nn<|bP<|bB (iP.sl (.slice B st.reverse.length e) st.reverse) (rcut1 d7) ?_;refine kZ _ _ (.fl 1 (.fl 2 (.fl 3 (.fl 4 (.fl 5 (.fl 7 (.two 0 8 (.two 6 8 (.op 8 (.op 9 (.fl 10 (.fl 11 .nil)))) (.op 6 (.op 9 (.fl 10 (.fl 11 .nil))))) (.op 0 (.op 6 (.op 9 (.fl 10 (.fl 11 .nil)))))))))))) cN o0 (.c0 (.c0 (.c0 .nil))) bA.self ?_;refine pvT hT ?_;refine pvT hT ?_;refine pvT hT ?_;refine bJ (z':=(((st.length+1):Nat):Int)) m9 ?_;refine pvT hT ?_;refine bJ (z':=((((st.length+1)-1):Nat):Int)) (kQ l7 l7) ?_;refine sqT rfl (iY hT (k:=st.reverse.length) rfl rfl rfl rfl rfl m9 q9) ?_;refine sqT rfl (ldN hT (gG .head)) ?_;refine gT (o:=_) (o':=_) rfl rfl ?_ ?_
  .refine kR rfl rfl rfl rfl λb51=>?_;refine cZ (.c1 (.c1 (.c1 .nil))) (bA.drop 0) ?_;refine gT (o:=_) (o':=_) rfl rfl ?_ ?_
   .refine dN .head (bG d7) rfl rfl rfl rfl rfl rfl rfl n0 λA52 c53=>?_;refine cZ (.c1 (.c1 (.c1 .nil))) (bA.drop 0) ?_;refine iM (o:=_) rfl ?_;refine hJ (m:=(⟨((((dR true it.fn)++([47]:Bs))++([32]:Bs))++c.s),false,(2+c.D),c.J⟩:Part)) rfl rfl rfl rfl rfl λb54=>?_;refine cZ (.c2 (.c2 (.c2 .nil))) (bA.drop 0) ?_;refine iM (o:=_) rfl ?_;refine dN kT1 (bU .head rfl) rfl rfl rfl rfl rfl rfl rfl n0 λA55 c56=>?_;refine cZ (.c2 (.c2 (.c2 .nil))) (bA.drop 0) ?_;refine pvT hT ?_;refine pvT hT ?_;refine mW<|dB<|cW<|cJ ?_;have hs:=bAl (p:=c) (r:=st) (x:=it.it) r8 r8 (iB l7) ‹_› u n q7;exact dF (_,_,(([]++st.reverse)++[(⟨((((dR true it.fn)++([47]:Bs))++([32]:Bs))++c.s),false,(2+c.D),c.J⟩:Part)])) rfl (bW rfl) (bW rfl) (.c0 .nil) ⟨i7 (λr hr=>by rw[hs]at hr;cases hr;first|(simp;done)|(simp;rfl)),i6⟩ aa2
   refine hJ (m:=(⟨((((dR true it.fn)++([47]:Bs))++([32]:Bs))++c.s),false,(2+c.D),c.J⟩:Part)) rfl rfl rfl rfl rfl λb57=>?_;refine cZ (.c2 (.c2 (.c2 .nil))) (bA.drop 0) ?_;refine iM (o:=_) rfl ?_;refine dN kT1 (bG d7) rfl rfl rfl rfl rfl rfl rfl n0 λA58 c59=>?_;refine cZ (.c2 (.c2 (.c2 .nil))) (bA.drop 0) ?_;refine iM (o:=_) rfl ?_;refine dN .head (bU kT1 rfl) rfl rfl rfl rfl rfl rfl rfl n0 λA60 c61=>?_;refine cZ (.c2 (.c2 (.c2 .nil))) (bA.drop 0) ?_;refine pvT hT ?_;refine pvT hT ?_;refine mW<|dB<|cW<|cJ ?_;have hs:=bAl (p:=c) (r:=st) (x:=it.it) r8 r8 (iB l7) ‹_› u n q7;exact dF (_,_,(([]++st.reverse)++[(⟨((((dR true it.fn)++([47]:Bs))++([32]:Bs))++c.s),false,(2+c.D),c.J⟩:Part)])) rfl (bW rfl) (bW rfl) (.c0 .nil) ⟨i7 (λr hr=>by rw[hs]at hr;cases hr;first|(simp;done)|(simp;rfl)),i6⟩ aa2
  refine hJ (m:=(⟨((((dR true it.fn)++([47]:Bs))++([32]:Bs))++c.s),false,(2+c.D),c.J⟩:Part)) rfl rfl rfl rfl rfl λb62=>?_;refine cZ (.c1 (.c1 (.c1 .nil))) (bA.drop 0) ?_;refine iM (o:=_) rfl ?_;refine kR rfl rfl rfl rfl λb63=>?_;refine cZ (.c2 (.c2 (.c2 .nil))) (bA.drop 0) ?_;refine iM (o:=_) rfl ?_;refine dN .head (bG d7) rfl rfl rfl rfl rfl rfl rfl n0 λA64 c65=>?_;refine cZ (.c2 (.c2 (.c2 .nil))) (bA.drop 0) ?_;refine iM (o:=_) rfl ?_;refine dN .head (bU kT1 rfl) rfl rfl rfl rfl rfl rfl rfl n0 λA66 c67=>?_;refine cZ (.c2 (.c2 (.c2 .nil))) (bA.drop 0) ?_;refine pvT hT ?_;refine pvT hT ?_;refine mW<|dB<|cW<|cJ ?_;have hs:=bAl (p:=c) (r:=st) (x:=it.it) r8 r8 (iB l7) ‹_› u n q7;exact dF (_,_,(([]++st.reverse)++[(⟨((((dR true it.fn)++([47]:Bs))++([32]:Bs))++c.s),false,(2+c.D),c.J⟩:Part)])) rfl (bW rfl) (bW rfl) (.c0 .nil) ⟨i7 (λr hr=>by rw[hs]at hr;cases hr;first|(simp;done)|(simp;rfl)),i6⟩ aa2
 .refine dH<|sp hT ?_;refine ss (ldO hT (gG .head)) ?_;refine bJ (z':=((6:Nat):Int)) hh ?_;refine sp hT ?_;refine bC (t':=false) m6 ?_;refine sp2 hT ?_;refine ss (ldO hT (gG .head)) ?_;refine bJ (z':=((6:Nat):Int)) hh ?_;refine sp hT ?_;refine bC (t':=false) m6 ?_;refine sp2 hT ?_;refine nn<|bP<|sr<|sp hT ?_;refine ss (ldO hT (gG .head)) ?_;refine bJ (z':=((6:Nat):Int)) hh ?_;refine sp hT ?_;refine bC (t':=false) m6 ?_;refine sp2 hT ?_;refine ss (ldO hT (gG .head)) ?_;refine bJ (z':=((6:Nat):Int)) hh ?_;refine sp hT ?_;refine bC (t':=false) m6 ?_;refine sp3 hT ?_;refine ss (ldO hT (bTc .head)) ?_;refine sp4 hT ?_;refine cG (λi=>?_) (λi=>?_)
  .have i:=of_decide_eq_true i;refine sk3 ?_;refine sp2 hT ?_;refine sk3 ?_;refine sp2 hT ?_;refine sk4 ?_;refine sk2 ?_;refine sp hT ?_;refine nn<|cC rfl rfl ?_;refine sr<|sp2 hT ?_;refine nn<|cW<|cJ<|bQ (t:=164) iP ?_;have hs:stepR st it.it=none:=by first|exact mS a m7|exact iF a q7 l7|exact iH a l7
   exact dF (none,0,[]) rfl (bW rfl) (bW rfl) (.c0 .nil) ⟨i7 (λr hr=>by rw[hs]at hr;cases hr),i6⟩ aa2
  have i:=aD.1 (of_decide_eq_false i);refine sp hT ?_;refine ss (ldO hT (bFb .head)) ?_;refine sp3 hT ?_;refine cG (λd=>?_) (λd=>?_)
  .have d:it.name≠([]:Bs):=λh=>by rw[h]at d;first|(simp at d;done)|exact absurd d m6
   refine sk3 ?_;refine sp2 hT ?_;refine sk4 ?_;refine sk2 ?_;refine sp hT ?_;refine nn<|cC rfl rfl ?_;refine sr<|sp2 hT ?_;refine nn<|cW<|cJ<|bQ (t:=164) iP ?_;have hs:stepR st it.it=none:=by first|exact mS a m7|exact iF a q7 l7|exact iH a l7
   exact dF (none,0,[]) rfl (bW rfl) (bW rfl) (.c0 .nil) ⟨i7 (λr hr=>by rw[hs]at hr;cases hr),i6⟩ aa2
  have d:it.name=([]:Bs):=eq_of_beq (mT d);refine sp2 hT ?_;refine bJ (z':=((st.length:Nat):Int)) (congrArg L6 O8) ?_;refine sp3 hT ?_;refine cG (λg=>?_) (λg=>?_)
  .have g:=of_decide_eq_true g;refine sk4 ?_;refine sk2 ?_;refine sp hT ?_;refine nn<|cC rfl rfl ?_;refine sr<|sp2 hT ?_;refine nn<|cW<|cJ<|bQ (t:=164) iP ?_;have hs:stepR st it.it=none:=by first|exact mS a m7|exact iF a q7 l7|exact iH a l7
   exact dF (none,0,[]) rfl (bW rfl) (bW rfl) (.c0 .nil) ⟨i7 (λr hr=>by rw[hs]at hr;cases hr),i6⟩ aa2
  have g:=aD.1 (of_decide_eq_false g);refine sp2 hT ?_;refine sk3 ?_;refine sp2 hT ?_;refine nn<|jT rfl rfl ?_;refine fH<|dB<|bP ?_;obtain⟨c,st,rfl⟩:=cons1G (l:=st) l7;have L:=hok c m9;simp only[F5]at hl;simp only[O8,F5]at I;refine dH<|sp3 hT ?_;refine bJ (z':=(((st.length+1):Nat):Int)) m9 ?_;refine sp hT ?_;refine bJ (z':=((((st.length+1)-1):Nat):Int)) (kQ l7 l7) ?_;refine ss (cA hT (k:=((st.length+1)-1)) (bG d7) rfl rfl rfl rfl rfl rfl rfl ab2) ?_;refine ss (fP hT (dD.knows (bG d7) (k:=((st.length+1)-1)) (x:=c) rev1G 0) rfl rfl rfl rfl rfl) ?_;refine j1 nE λb68=>?_;refine sto hT .head ?_;refine nn<|sr<|sp hT ?_;refine ss (ldO hT (uB kT1)) ?_;refine sp hT ?_;refine ss (ldO hT (gG kT1)) ?_;refine bJ (z':=((6:Nat):Int)) hh ?_;refine sp hT ?_;refine bC (t':=true) m6 ?_;refine j2 func136 (tY it.fn true) i6 λ_=>?_;have A:(it.it.H !=3)=true:=by rw[show it.it.H=6 from hh];rfl
  have K:=pN true it.fn;refine sp hT ?_;refine nn<|bP<|sr<|sp3 hT ?_;refine cG (λhg85=>?_) (λhg85=>?_)
  .have hg85:(dR true it.fn)=([]:Bs):=eq_of_beq hg85;refine sk4 ?_;refine sk4 ?_;refine sk4 ?_;refine sk2 ?_;refine sp hT ?_;refine nn<|cC rfl rfl ?_;refine sr<|sp2 hT ?_;refine nn<|cW<|cJ<|bQ (t:=164) iP ?_;have hs:stepR (c::st) it.it=none:=wT a (bCf A t6);exact dF (none,0,[]) rfl (bW rfl) (bW rfl) (.c0 .nil) ⟨i7 (λr hr=>by rw[hs]at hr;cases hr),i6⟩ aa2
  have hg85:(dR true it.fn)≠([]:Bs):=λh=>absurd (beq_iff_eq.2 h) ae7;refine sp hT ?_;refine ss (ldO hT (gG kT1)) ?_;refine bJ (z':=((6:Nat):Int)) hh ?_;refine sp hT ?_;refine bC (t':=true) m6 ?_;refine sp2 hT ?_;refine ss (ldO hT (gG kT1)) ?_;refine bJ (z':=((6:Nat):Int)) hh ?_;refine sp hT ?_;refine bC (t':=true) m6 ?_;refine sp3 hT ?_;refine ss (ldO hT (uB kT1)) ?_;refine bD func137 (zC _) rfl rfl .nil i6 λ_=>?_;refine sp3 hT ?_;refine nn<|bX rfl (λf=>?_) (λf=>?_)
  .have y:=f;have f:=yZ f;refine sr<|sp2 hT ?_;refine nn<|cW<|cJ<|bQ (t:=164) iP ?_;have hs:stepR (c::st) it.it=none:=wT a (bCf A t6);exact dF (none,0,[]) rfl (bW rfl) (bW rfl) (.c0 .nil) ⟨i7 (λr hr=>by rw[hs]at hr;cases hr),i6⟩ aa2
  have y:=f;have f:=mT f;refine fH<|dB<|sr<|sp hT ?_;refine nn<|bP<|sr<|sp hT ?_;refine ss (ldO hT (gG kT1)) ?_;refine bJ (z':=((6:Nat):Int)) hh ?_;refine nn<|iJ<|sr<|sp hT ?_;refine bC (t':=false) m6 ?_;refine sp hT ?_;refine nn<|jT rfl rfl ?_;refine sr<|sp hT ?_;refine bC (t':=true) m6 ?_;refine sp hT ?_;refine nn<|cC rfl rfl ?_;refine sr<|sp hT ?_;refine ss (dJ rfl rfl rfl p7) ?_;refine sp hT ?_;refine nn<|dH<|sp hT ?_;refine sZ<|mE<|dB<|bP<|bP ?_;have u:=vr_ok (mk:=[92]) (k:=2) A ‹_› (.inr (.inr ‹_›)) (by rw[show it.it.H=6 from hh];rfl) (by rw[show it.it.H=6 from hh];rfl);have n:((dR true it.fn)++([92]:Bs))≠[]:=by first|assumption|simp
  refine dH<|sp2 hT ?_;refine nn<|cC rfl rfl ?_;refine sr<|sp hT ?_;refine ss (dJ rfl rfl rfl p7) ?_;refine sp hT ?_;refine ss (ldO hT (gG .head)) ?_;refine ss (dJ rfl rfl rfl p7) ?_;refine sp2 hT ?_;refine ss (ldO hT (uB .head)) ?_;refine sp hT ?_;refine bJ (z':=(((2+c.D):Nat):Int)) (kQ l7 l7) ?_;refine sp hT ?_;refine ss (ldO hT (bFb .head)) ?_;refine ss (j3 (qJ _ _ _)) ?_;refine j1 nE λb69=>?_;refine sto hT .head ?_;refine nn<|bP<|bB (iP.sl (.slice B st.reverse.length e) st.reverse) (rcut1 d7) ?_;refine kZ _ _ (.fl 1 (.fl 2 (.fl 3 (.fl 4 (.fl 5 (.fl 7 (.two 0 8 (.two 6 8 (.op 8 (.op 9 (.fl 10 (.fl 11 .nil)))) (.op 6 (.op 9 (.fl 10 (.fl 11 .nil))))) (.op 0 (.op 6 (.op 9 (.fl 10 (.fl 11 .nil)))))))))))) cN o0 (.c0 (.c0 (.c0 .nil))) bA.self ?_;refine pvT hT ?_;refine pvT hT ?_;refine pvT hT ?_;refine bJ (z':=(((st.length+1):Nat):Int)) m9 ?_;refine pvT hT ?_;refine bJ (z':=((((st.length+1)-1):Nat):Int)) (kQ l7 l7) ?_;refine sqT rfl (iY hT (k:=st.reverse.length) rfl rfl rfl rfl rfl m9 q9) ?_;refine sqT rfl (ldN hT (gG .head)) ?_;refine gT (o:=_) (o':=_) rfl rfl ?_ ?_
  .refine kR rfl rfl rfl rfl λb70=>?_;refine cZ (.c1 (.c1 (.c1 .nil))) (bA.drop 0) ?_;refine gT (o:=_) (o':=_) rfl rfl ?_ ?_
   .refine dN .head (bG d7) rfl rfl rfl rfl rfl rfl rfl n0 λA71 c72=>?_;refine cZ (.c1 (.c1 (.c1 .nil))) (bA.drop 0) ?_;refine iM (o:=_) rfl ?_;refine hJ (m:=(⟨((((dR true it.fn)++([92]:Bs))++([32]:Bs))++c.s),false,(2+c.D),c.J⟩:Part)) rfl rfl rfl rfl rfl λb73=>?_;refine cZ (.c2 (.c2 (.c2 .nil))) (bA.drop 0) ?_;refine iM (o:=_) rfl ?_;refine dN kT1 (bU .head rfl) rfl rfl rfl rfl rfl rfl rfl n0 λA74 c75=>?_;refine cZ (.c2 (.c2 (.c2 .nil))) (bA.drop 0) ?_;refine pvT hT ?_;refine pvT hT ?_;refine mW<|dB<|cW<|cJ ?_;have hs:=bAl (p:=c) (r:=st) (x:=it.it) r8 r8 (iB l7) ‹_› u n q7;exact dF (_,_,(([]++st.reverse)++[(⟨((((dR true it.fn)++([92]:Bs))++([32]:Bs))++c.s),false,(2+c.D),c.J⟩:Part)])) rfl (bW rfl) (bW rfl) (.c0 .nil) ⟨i7 (λr hr=>by rw[hs]at hr;cases hr;first|(simp;done)|(simp;rfl)),i6⟩ aa2
   refine hJ (m:=(⟨((((dR true it.fn)++([92]:Bs))++([32]:Bs))++c.s),false,(2+c.D),c.J⟩:Part)) rfl rfl rfl rfl rfl λb76=>?_;refine cZ (.c2 (.c2 (.c2 .nil))) (bA.drop 0) ?_;refine iM (o:=_) rfl ?_;refine dN kT1 (bG d7) rfl rfl rfl rfl rfl rfl rfl n0 λA77 c78=>?_;refine cZ (.c2 (.c2 (.c2 .nil))) (bA.drop 0) ?_;refine iM (o:=_) rfl ?_;refine dN .head (bU kT1 rfl) rfl rfl rfl rfl rfl rfl rfl n0 λA79 c80=>?_;refine cZ (.c2 (.c2 (.c2 .nil))) (bA.drop 0) ?_;refine pvT hT ?_;refine pvT hT ?_;refine mW<|dB<|cW<|cJ ?_;have hs:=bAl (p:=c) (r:=st) (x:=it.it) r8 r8 (iB l7) ‹_› u n q7;exact dF (_,_,(([]++st.reverse)++[(⟨((((dR true it.fn)++([92]:Bs))++([32]:Bs))++c.s),false,(2+c.D),c.J⟩:Part)])) rfl (bW rfl) (bW rfl) (.c0 .nil) ⟨i7 (λr hr=>by rw[hs]at hr;cases hr;first|(simp;done)|(simp;rfl)),i6⟩ aa2
  refine hJ (m:=(⟨((((dR true it.fn)++([92]:Bs))++([32]:Bs))++c.s),false,(2+c.D),c.J⟩:Part)) rfl rfl rfl rfl rfl λb81=>?_;refine cZ (.c1 (.c1 (.c1 .nil))) (bA.drop 0) ?_;refine iM (o:=_) rfl ?_;refine kR rfl rfl rfl rfl λb82=>?_;refine cZ (.c2 (.c2 (.c2 .nil))) (bA.drop 0) ?_;refine iM (o:=_) rfl ?_;refine dN .head (bG d7) rfl rfl rfl rfl rfl rfl rfl n0 λA83 c84=>?_;refine cZ (.c2 (.c2 (.c2 .nil))) (bA.drop 0) ?_;refine iM (o:=_) rfl ?_;refine dN .head (bU kT1 rfl) rfl rfl rfl rfl rfl rfl rfl n0 λA85 c86=>?_;refine cZ (.c2 (.c2 (.c2 .nil))) (bA.drop 0) ?_;refine pvT hT ?_;refine pvT hT ?_;refine mW<|dB<|cW<|cJ ?_;have hs:=bAl (p:=c) (r:=st) (x:=it.it) r8 r8 (iB l7) ‹_› u n q7;exact dF (_,_,(([]++st.reverse)++[(⟨((((dR true it.fn)++([92]:Bs))++([32]:Bs))++c.s),false,(2+c.D),c.J⟩:Part)])) rfl (bW rfl) (bW rfl) (.c0 .nil) ⟨i7 (λr hr=>by rw[hs]at hr;cases hr;first|(simp;done)|(simp;rfl)),i6⟩ aa2
 .refine dH<|sp hT ?_;refine ss (ldO hT (gG .head)) ?_;refine bJ (z':=((7:Nat):Int)) hh ?_;refine sp hT ?_;refine bC (t':=false) m6 ?_;refine sp2 hT ?_;refine ss (ldO hT (gG .head)) ?_;refine bJ (z':=((7:Nat):Int)) hh ?_;refine sp hT ?_;refine bC (t':=true) m6 ?_;refine sp2 hT ?_;refine nn<|bP<|sr<|sp hT ?_;refine ss (ldO hT (gG .head)) ?_;refine bJ (z':=((7:Nat):Int)) hh ?_;refine sp hT ?_;refine bC (t':=false) m6 ?_;refine sp2 hT ?_;refine ss (ldO hT (gG .head)) ?_;refine bJ (z':=((7:Nat):Int)) hh ?_;refine sp hT ?_;refine bC (t':=false) m6 ?_;refine sp3 hT ?_;refine ss (ldO hT (bTc .head)) ?_;refine sp4 hT ?_;refine cG (λi=>?_) (λi=>?_)
  .have i:=of_decide_eq_true i;refine sk3 ?_;refine sp2 hT ?_;refine sk3 ?_;refine sp2 hT ?_;refine sk4 ?_;refine sk2 ?_;refine sp hT ?_;refine nn<|cC rfl rfl ?_;refine sr<|sp2 hT ?_;refine nn<|cW<|cJ<|bQ (t:=164) iP ?_;have hs:stepR st it.it=none:=by first|exact mS a m7|exact iF a q7 l7|exact iH a l7
   exact dF (none,0,[]) rfl (bW rfl) (bW rfl) (.c0 .nil) ⟨i7 (λr hr=>by rw[hs]at hr;cases hr),i6⟩ aa2
  have i:=aD.1 (of_decide_eq_false i);refine sp hT ?_;refine ss (ldO hT (bFb .head)) ?_;refine sp3 hT ?_;refine cG (λd=>?_) (λd=>?_)
  .have d:it.name≠([]:Bs):=λh=>by rw[h]at d;first|(simp at d;done)|exact absurd d m6
   refine sk3 ?_;refine sp2 hT ?_;refine sk4 ?_;refine sk2 ?_;refine sp hT ?_;refine nn<|cC rfl rfl ?_;refine sr<|sp2 hT ?_;refine nn<|cW<|cJ<|bQ (t:=164) iP ?_;have hs:stepR st it.it=none:=by first|exact mS a m7|exact iF a q7 l7|exact iH a l7
   exact dF (none,0,[]) rfl (bW rfl) (bW rfl) (.c0 .nil) ⟨i7 (λr hr=>by rw[hs]at hr;cases hr),i6⟩ aa2
  have d:it.name=([]:Bs):=eq_of_beq (mT d);refine sp2 hT ?_;refine bJ (z':=((st.length:Nat):Int)) (congrArg L6 O8) ?_;refine sp3 hT ?_;refine cG (λg=>?_) (λg=>?_)
  .have g:=of_decide_eq_true g;refine sk4 ?_;refine sk2 ?_;refine sp hT ?_;refine nn<|cC rfl rfl ?_;refine sr<|sp2 hT ?_;refine nn<|cW<|cJ<|bQ (t:=164) iP ?_;have hs:stepR st it.it=none:=by first|exact mS a m7|exact iF a q7 l7|exact iH a l7
   exact dF (none,0,[]) rfl (bW rfl) (bW rfl) (.c0 .nil) ⟨i7 (λr hr=>by rw[hs]at hr;cases hr),i6⟩ aa2
  have g:=aD.1 (of_decide_eq_false g);refine sp4 hT ?_;refine bJ (z':=((st.length:Nat):Int)) (congrArg L6 O8) ?_;refine sp3 hT ?_;refine nn<|bX rfl (λj=>?_) (λj=>?_)
  .have D:=j;have j:=of_decide_eq_true j;refine sr<|sp2 hT ?_;refine nn<|cW<|cJ<|bQ (t:=164) iP ?_;have hs:stepR st it.it=none:=by first|exact mS a m7|exact iF a q7 l7|exact iH a l7
   exact dF (none,0,[]) rfl (bW rfl) (bW rfl) (.c0 .nil) ⟨i7 (λr hr=>by rw[hs]at hr;cases hr),i6⟩ aa2
  have D:=j;have j:=aD.1 (of_decide_eq_false j);refine fH<|dB<|bP ?_;obtain⟨c,q1,st,rfl⟩:=cons2G (l:=st) l7;have N:=hok q1 m9;have L:=hok c m9;simp only[F5]at hl;simp only[O8,F5]at I;refine dH<|sp3 hT ?_;refine bJ (z':=(((st.length+2):Nat):Int)) m9 ?_;refine sp hT ?_;refine bJ (z':=((((st.length+2)-1):Nat):Int)) (kQ l7 l7) ?_;refine ss (cA hT (k:=((st.length+2)-1)) (bG d7) rfl rfl rfl rfl rfl rfl rfl ab2) ?_;refine ss (fP hT (dD.knows (bG d7) (k:=((st.length+2)-1)) (x:=c) rev2G.1 0) rfl rfl rfl rfl rfl) ?_;refine j1 nE λb87=>?_;refine sto hT .head ?_;refine nn<|sr<|sp hT ?_;refine ss (ldO hT (uB kT1)) ?_;refine sp hT ?_;refine ss (ldO hT (gG kT1)) ?_;refine bJ (z':=((7:Nat):Int)) hh ?_;refine sp hT ?_;refine bC (t':=true) m6 ?_;refine j2 func136 (tY it.fn true) i6 λ_=>?_;have A:(it.it.H !=3)=true:=by rw[show it.it.H=7 from hh];rfl
  have K:=pN true it.fn;refine sp hT ?_;refine nn<|bP<|sr<|sp3 hT ?_;refine cG (λhg85=>?_) (λhg85=>?_)
  .have hg85:(dR true it.fn)=([]:Bs):=eq_of_beq hg85;refine sk4 ?_;refine sk4 ?_;refine sk4 ?_;refine sk2 ?_;refine sp hT ?_;refine nn<|cC rfl rfl ?_;refine sr<|sp2 hT ?_;refine nn<|cW<|cJ<|bQ (t:=164) iP ?_;have hs:stepR (c::q1::st) it.it=none:=wT a (bCf A t6);exact dF (none,0,[]) rfl (bW rfl) (bW rfl) (.c0 .nil) ⟨i7 (λr hr=>by rw[hs]at hr;cases hr),i6⟩ aa2
  have hg85:(dR true it.fn)≠([]:Bs):=λh=>absurd (beq_iff_eq.2 h) ae7;refine sp hT ?_;refine ss (ldO hT (gG kT1)) ?_;refine bJ (z':=((7:Nat):Int)) hh ?_;refine sp hT ?_;refine bC (t':=true) m6 ?_;refine sp2 hT ?_;refine ss (ldO hT (gG kT1)) ?_;refine bJ (z':=((7:Nat):Int)) hh ?_;refine sp hT ?_;refine bC (t':=true) m6 ?_;refine sp3 hT ?_;refine ss (ldO hT (uB kT1)) ?_;refine bD func137 (zC _) rfl rfl .nil i6 λ_=>?_;refine sp3 hT ?_;refine nn<|bX rfl (λf=>?_) (λf=>?_)
  .have y:=f;have f:=yZ f;refine sr<|sp2 hT ?_;refine nn<|cW<|cJ<|bQ (t:=164) iP ?_;have hs:stepR (c::q1::st) it.it=none:=wT a (bCf A t6);exact dF (none,0,[]) rfl (bW rfl) (bW rfl) (.c0 .nil) ⟨i7 (λr hr=>by rw[hs]at hr;cases hr),i6⟩ aa2
  have y:=f;have f:=mT f;refine fH<|dB<|sr<|sp hT ?_;refine nn<|bP<|sr<|sp hT ?_;refine ss (ldO hT (gG kT1)) ?_;refine bJ (z':=((7:Nat):Int)) hh ?_;refine nn<|iJ<|sr<|sp hT ?_;refine bC (t':=false) m6 ?_;refine sp hT ?_;refine nn<|jT rfl rfl ?_;refine sr<|sp hT ?_;refine bC (t':=false) m6 ?_;refine sp hT ?_;refine nn<|jT rfl rfl ?_;refine sr<|sp hT ?_;refine bC (t':=true) m6 ?_;refine sp hT ?_;refine nn<|cC rfl rfl ?_;refine sr<|sp hT ?_;refine ss (dJ rfl rfl rfl p7) ?_;refine sp hT ?_;refine nn<|dH<|sp hT ?_;refine sZ<|mE<|dB<|bP<|bP ?_;have u:=vr_ok (mk:=[46]) (k:=2) A ‹_› (.inr (.inr ‹_›)) (by rw[show it.it.H=7 from hh];rfl) (by rw[show it.it.H=7 from hh];rfl);have n:((dR true it.fn)++([46]:Bs))≠[]:=by first|assumption|simp
  refine dH<|sp2 hT ?_;refine nn<|jT rfl rfl ?_;refine fH<|dB<|sr<|sp3 hT ?_;refine bJ (z':=(((st.length+2):Nat):Int)) m9 ?_;refine sp hT ?_;refine bJ (z':=((((st.length+2)-2):Nat):Int)) (kQ l7 l7) ?_;refine ss (cA hT (k:=((st.length+2)-2)) (bG d7) rfl rfl rfl rfl rfl rfl rfl ab2) ?_;refine ss (fP hT (dD.knows (bG d7) (k:=((st.length+2)-2)) (x:=q1) rev2G.2 0) rfl rfl rfl rfl rfl) ?_;refine j2 func138 (bYf q1 l7 l7 l7) i6 λ_=>?_;have O:=brk_len q1;refine j1 nE λb88=>?_;refine sto hT .head ?_;refine nn<|sr<|sp hT ?_;refine ss (ldO hT (gG .head)) ?_;refine ss (dJ rfl rfl rfl p7) ?_;refine sp hT ?_;refine ss (dJ rfl rfl rfl p7) ?_;refine ss (dJ rfl rfl rfl p7) ?_;refine sp hT ?_;refine ss (ldO hT (gG kT1)) ?_;refine ss (dJ rfl rfl rfl p7) ?_;refine sp hT ?_;refine ss (ldO hT (uB .head)) ?_;refine sp2 hT ?_;refine bJ (z':=((((brkR q1).D+2):Nat):Int)) (kQ l7 l7) ?_;refine sp hT ?_;refine ss (ldO hT (uB kT1)) ?_;refine sp hT ?_;refine bJ (z':=(((((brkR q1).D+2)+c.D):Nat):Int)) (kQ l7 l7) ?_;refine sp hT ?_;refine ss (ldO hT (bFb .head)) ?_;refine sp hT ?_;refine ss (ldO hT (bFb kT1)) ?_;refine sp hT ?_;refine bJ (z':=(((max (brkR q1).J c.J):Nat):Int)) (maxN _ _) ?_;refine ss (j3 (qJ _ _ _)) ?_;refine j1 nE λb89=>?_;refine sto hT .head ?_;refine nn<|bP<|bB (iP.sl (.slice B st.reverse.length e) st.reverse) (rcut2 d7) ?_;refine kZ _ _ (.fl 1 (.fl 2 (.fl 3 (.fl 4 (.fl 5 (.fl 7 (.two 0 8 (.two 6 8 (.op 8 (.op 9 (.fl 10 (.fl 11 .nil)))) (.op 6 (.op 9 (.fl 10 (.fl 11 .nil))))) (.op 0 (.op 6 (.op 9 (.fl 10 (.fl 11 .nil)))))))))))) cN o0 (.c0 (.c0 (.c0 (.c0 .nil)))) bA.self ?_;refine pvT hT ?_;refine pvT hT ?_;refine pvT hT ?_;refine bJ (z':=(((st.length+2):Nat):Int)) m9 ?_;refine pvT hT ?_;refine bJ (z':=((((st.length+2)-2):Nat):Int)) (kQ l7 l7) ?_;refine sqT rfl (iY hT (k:=st.reverse.length) rfl rfl rfl rfl rfl m9 q9) ?_;refine sqT rfl (ldN hT (gG .head)) ?_;refine gT (o:=_) (o':=_) rfl rfl ?_ ?_
  .refine kR rfl rfl rfl rfl λb90=>?_;refine cZ (.c1 (.c1 (.c1 (.c1 .nil)))) (bA.drop 0) ?_;refine gT (o:=_) (o':=_) rfl rfl ?_ ?_
   .refine dN .head (bG d7) rfl rfl rfl rfl rfl rfl rfl n0 λA91 c92=>?_;refine cZ (.c1 (.c1 (.c1 (.c1 .nil)))) (bA.drop 0) ?_;refine iM (o:=_) rfl ?_;refine hJ (m:=(⟨(((((brkR q1).s++([32]:Bs))++((dR true it.fn)++([46]:Bs)))++([32]:Bs))++c.s),false,(((brkR q1).D+2)+c.D),(max (brkR q1).J c.J)⟩:Part)) rfl rfl rfl rfl rfl λb93=>?_;refine cZ (.c2 (.c2 (.c2 (.c2 .nil)))) (bA.drop 0) ?_;refine iM (o:=_) rfl ?_;refine dN kT1 (bU .head rfl) rfl rfl rfl rfl rfl rfl rfl n0 λA94 c95=>?_;refine cZ (.c2 (.c2 (.c2 (.c2 .nil)))) (bA.drop 0) ?_;refine pvT hT ?_;refine pvT hT ?_;refine mW<|dB<|cW ?_;have hs:=bLr (p:=c) (q:=q1) (r:=st) (x:=it.it) r8 r8 (iB l7) ‹_› u n q7;exact dF (_,_,(([]++st.reverse)++[(⟨(((((brkR q1).s++([32]:Bs))++((dR true it.fn)++([46]:Bs)))++([32]:Bs))++c.s),false,(((brkR q1).D+2)+c.D),(max (brkR q1).J c.J)⟩:Part)])) rfl (bW rfl) (bW rfl) (.c0 .nil) ⟨i7 (λr hr=>by rw[hs]at hr;cases hr;first|(simp;done)|(simp;rfl)),i6⟩ aa2
   refine hJ (m:=(⟨(((((brkR q1).s++([32]:Bs))++((dR true it.fn)++([46]:Bs)))++([32]:Bs))++c.s),false,(((brkR q1).D+2)+c.D),(max (brkR q1).J c.J)⟩:Part)) rfl rfl rfl rfl rfl λb96=>?_;refine cZ (.c2 (.c2 (.c2 (.c2 .nil)))) (bA.drop 0) ?_;refine iM (o:=_) rfl ?_;refine dN kT1 (bG d7) rfl rfl rfl rfl rfl rfl rfl n0 λA97 Z=>?_;refine cZ (.c2 (.c2 (.c2 (.c2 .nil)))) (bA.drop 0) ?_;refine iM (o:=_) rfl ?_;refine dN .head (bU kT1 rfl) rfl rfl rfl rfl rfl rfl rfl n0 λA99 R=>?_;refine cZ (.c2 (.c2 (.c2 (.c2 .nil)))) (bA.drop 0) ?_;refine pvT hT ?_;refine pvT hT ?_;refine mW<|dB<|cW ?_;have hs:=bLr (p:=c) (q:=q1) (r:=st) (x:=it.it) r8 r8 (iB l7) ‹_› u n q7;exact dF (_,_,(([]++st.reverse)++[(⟨(((((brkR q1).s++([32]:Bs))++((dR true it.fn)++([46]:Bs)))++([32]:Bs))++c.s),false,(((brkR q1).D+2)+c.D),(max (brkR q1).J c.J)⟩:Part)])) rfl (bW rfl) (bW rfl) (.c0 .nil) ⟨i7 (λr hr=>by rw[hs]at hr;cases hr;first|(simp;done)|(simp;rfl)),i6⟩ aa2
  refine hJ (m:=(⟨(((((brkR q1).s++([32]:Bs))++((dR true it.fn)++([46]:Bs)))++([32]:Bs))++c.s),false,(((brkR q1).D+2)+c.D),(max (brkR q1).J c.J)⟩:Part)) rfl rfl rfl rfl rfl λV=>?_;refine cZ (.c1 (.c1 (.c1 (.c1 .nil)))) (bA.drop 0) ?_;refine iM (o:=_) rfl ?_;refine kR rfl rfl rfl rfl λU=>?_;refine cZ (.c2 (.c2 (.c2 (.c2 .nil)))) (bA.drop 0) ?_;refine iM (o:=_) rfl ?_;refine dN .head (bG d7) rfl rfl rfl rfl rfl rfl rfl n0 λX Q=>?_;refine cZ (.c2 (.c2 (.c2 (.c2 .nil)))) (bA.drop 0) ?_;refine iM (o:=_) rfl ?_;refine dN .head (bU kT1 rfl) rfl rfl rfl rfl rfl rfl rfl n0 λW P=>?_;refine cZ (.c2 (.c2 (.c2 (.c2 .nil)))) (bA.drop 0) ?_;refine pvT hT ?_;refine pvT hT ?_;refine mW<|dB<|cW ?_;have hs:=bLr (p:=c) (q:=q1) (r:=st) (x:=it.it) r8 r8 (iB l7) ‹_› u n q7;exact dF (_,_,(([]++st.reverse)++[(⟨(((((brkR q1).s++([32]:Bs))++((dR true it.fn)++([46]:Bs)))++([32]:Bs))++c.s),false,(((brkR q1).D+2)+c.D),(max (brkR q1).J c.J)⟩:Part)])) rfl (bW rfl) (bW rfl) (.c0 .nil) ⟨i7 (λr hr=>by rw[hs]at hr;cases hr;first|(simp;done)|(simp;rfl)),i6⟩ aa2
 have Y:it.H<3\/7<it.H:=hh;refine dH<|sp hT ?_;refine ss (ldO hT (gG .head)) ?_;refine sp2 hT ?_;refine cG (λE=>?_) (λE=>?_)
 .have E:=eq_of_beq E;refine sk3 ?_;refine sp2 hT ?_;refine nn<|bP<|sr<|sp hT ?_;refine ss (ldO hT (gG .head)) ?_;refine sp2 hT ?_;refine cG (λw=>?_) (λw=>?_)
  .have w:=of_decide_eq_true w;refine sk3 ?_;refine sp2 hT ?_;refine sk4 ?_;refine sp2 hT ?_;refine sk3 ?_;refine sp2 hT ?_;refine sk3 ?_;refine sp2 hT ?_;refine sk4 ?_;refine sk2 ?_;refine sp hT ?_;refine nn<|cC rfl rfl ?_;refine sr<|sp2 hT ?_;refine nn<|cW<|cJ<|bQ (t:=164) iP ?_;have hs:stepR st it.it=none:=by first|exact mS a m7|exact iF a q7 l7|exact iH a l7
   exact dF (none,0,[]) rfl (bW rfl) (bW rfl) (.c0 .nil) ⟨i7 (λr hr=>by rw[hs]at hr;cases hr),i6⟩ aa2
  have w:=aD.1 (of_decide_eq_false w);refine sp hT ?_;refine ss (ldO hT (gG .head)) ?_;refine sp3 hT ?_;refine cG (λv=>?_) (λv=>?_)
  .have v:=of_decide_eq_true v;refine sk4 ?_;refine sp2 hT ?_;refine sk3 ?_;refine sp2 hT ?_;refine sk3 ?_;refine sp2 hT ?_;refine sk4 ?_;refine sk2 ?_;refine sp hT ?_;refine nn<|cC rfl rfl ?_;refine sr<|sp2 hT ?_;refine nn<|cW<|cJ<|bQ (t:=164) iP ?_;have hs:stepR st it.it=none:=by first|exact mS a m7|exact iF a q7 l7|exact iH a l7
   exact dF (none,0,[]) rfl (bW rfl) (bW rfl) (.c0 .nil) ⟨i7 (λr hr=>by rw[hs]at hr;cases hr),i6⟩ aa2
  have v:=aD.1 (of_decide_eq_false v);omega
 have E:=beq_eq_false_iff_ne.1 E;refine sp hT ?_;refine ss (ldO hT (gG .head)) ?_;refine sp3 hT ?_;refine nn<|bP<|sr<|sp hT ?_;refine ss (ldO hT (gG .head)) ?_;refine sp2 hT ?_;refine cG (λw=>?_) (λw=>?_)
 .have w:=of_decide_eq_true w;refine sk3 ?_;refine sp2 hT ?_;refine sk4 ?_;refine sp2 hT ?_;refine sk3 ?_;refine sp2 hT ?_;refine sk3 ?_;refine sp2 hT ?_;refine sk4 ?_;refine sk2 ?_;refine sp hT ?_;refine nn<|cC rfl rfl ?_;refine sr<|sp2 hT ?_;refine nn<|cW<|cJ<|bQ (t:=164) iP ?_;have hs:stepR st it.it=none:=by first|exact mS a m7|exact iF a q7 l7|exact iH a l7
  exact dF (none,0,[]) rfl (bW rfl) (bW rfl) (.c0 .nil) ⟨i7 (λr hr=>by rw[hs]at hr;cases hr),i6⟩ aa2
 have w:=aD.1 (of_decide_eq_false w);refine sp hT ?_;refine ss (ldO hT (gG .head)) ?_;refine sp3 hT ?_;refine cG (λv=>?_) (λv=>?_)
 .have v:=of_decide_eq_true v;refine sk4 ?_;refine sp2 hT ?_;refine sk3 ?_;refine sp2 hT ?_;refine sk3 ?_;refine sp2 hT ?_;refine sk4 ?_;refine sk2 ?_;refine sp hT ?_;refine nn<|cC rfl rfl ?_;refine sr<|sp2 hT ?_;refine nn<|cW<|cJ<|bQ (t:=164) iP ?_;have hs:stepR st it.it=none:=by first|exact mS a m7|exact iF a q7 l7|exact iH a l7
  exact dF (none,0,[]) rfl (bW rfl) (bW rfl) (.c0 .nil) ⟨i7 (λr hr=>by rw[hs]at hr;cases hr),i6⟩ aa2
 have v:=aD.1 (of_decide_eq_false v);omega
