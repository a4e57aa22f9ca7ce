/- Texts of one proof, one behind the other: GmO, GnI, GnB. -/
import Derived.Test.YtnfiadlonjediaaGreatDoorM7
import Derived.Test.YtnfiadlonjediaaGreatDoorM17
import Derived.Test.YtnfiadlonjediaaGreatDoorM18
import Derived.Test.YtnfiadlonjediaaGreatDoorM13
import Derived.Test.YtnfiadlonjediaaGreatDoorM15
import Derived.Test.YtnfiadlonjediaaGreatDoorM9
import Derived.Test.YtnfiadlonjediaaGreatDoorM12
set_option maxRecDepth 100000
namespace Go.Proofs.YtnfiadlonjediaaGreatDoor
open Go.RowKit Go.Proofs.Tryz
def arrL (l:List rJ):List Arr:=l.map rJ.arr
theorem gS{l:List rJ}{i:Nat}{x:rJ}(h:l[i]?=some x):(arrL l)[i]?=some x.arr:=by
 unfold arrL;rw[List.getElem?_map,h];rfl
theorem rV(l:List rJ):(arrL l).length=l.length:=List.length_map _
def bKu (at_ mem:Int)(a:Arr):Bool:=uQ a&&decide (0<=at_/\at_<=mem/\(a.data.length:Nat)<=mem-at_)
def fitsL (at_:List Int)(mem:Int)(ins:List Arr):List gQ->Nat->Bool
 |[],_=>true
 |b::r,k=>(decide (b.input<0) || bKu (at_.getD k 0) mem (ins.getD b.input.toNat default))&&fitsL at_ mem ins r (k+1)
def mZ (m:List Int)(q:Nat)(d:List Int):List Int:=m.take q++d++m.drop (q+d.length)
def layL (at_:List Int)(ins:List Arr):List gQ->Nat->List Int->List Int
 |[],_,m=>m
 |b::r,k,m=>layL at_ ins r (k+1) (if b.input<0 then m else mZ m (at_.getD k 0).toNat (ins.getD b.input.toNat default).data)
def gD (c:dE)(at_:List Int)(mem:Int)(ins:List Arr):List Int×Int:=
 if cZ c=false then ([],100)else if (at_.length:Int)≠(c.bufs.length:Nat)\/mem<0\/2097152<mem then ([],160)else if ((ins.length:Nat):Int)≠rnMost c.bufs 0 then ([],120)
 else if fitsL at_ mem ins c.bufs 0=false then ([],120)else (layL at_ ins c.bufs 0 (List.replicate mem.toNat 0),0)
section
variable {c : dE} {at_ : List Int} {mem : Int} {ins : List Arr} {l : List gQ} {i : Nat} {u : gQ} {a : Arr} {FT : Bool} {M R : List Int} {z : Int}
theorem lq1(h:cZ c=false):gD c at_ mem ins=([],100):=if_pos h
theorem lq2(h:cZ c=true)(h2:(at_.length:Int)≠(c.bufs.length:Nat)\/mem<0\/2097152<mem):gD c at_ mem ins=([],160):=by
 unfold gD;rw[if_neg aa9,if_pos h2]
theorem lq3(h:cZ c=true)(h2: ¬((at_.length:Int)≠(c.bufs.length:Nat)\/mem<0\/2097152<mem))(h3:((ins.length:Nat):Int)≠rnMost c.bufs 0):gD c at_ mem ins=([],120):=by
 unfold gD;rw[if_neg aa9,if_neg h2,if_pos h3]
theorem lq4(h:cZ c=true)(h2: ¬((at_.length:Int)≠(c.bufs.length:Nat)\/mem<0\/2097152<mem))(h3:((ins.length:Nat):Int)=rnMost c.bufs 0)(h4:fitsL at_ mem ins c.bufs 0=false):gD c at_ mem ins=([],120):=by
 unfold gD;rw[if_neg aa9,if_neg h2,if_neg (λe=>e h3),if_pos h4]
theorem lq0(h:cZ c=true)(h2: ¬((at_.length:Int)≠(c.bufs.length:Nat)\/mem<0\/2097152<mem))(h3:((ins.length:Nat):Int)=rnMost c.bufs 0)(h4:fitsL at_ mem ins c.bufs 0=true):gD c at_ mem ins=(layL at_ ins c.bufs 0 (List.replicate mem.toNat 0),0):=by
 unfold gD;rw[if_neg aa9,if_neg h2,if_neg (λe=>e h3),if_neg (by rw[h4];decide)]
theorem most_geG: ∀{l:List gQ} {n:Int},n<=rnMost l n
 |[],n=>Int.le_refl _
 |u::l,n=>by
  have:=most_geG (l:=l) (n:=max n (u.input+1));show n<=rnMost l (max n (u.input+1));omega
theorem bCb{u:gQ}: ∀{l:List gQ} {n:Int},u∈l->u.input<rnMost l n
 |[],_,h=>by cases h
 |v::l,n,h=>by
  show u.input<rnMost l (max n (v.input+1))
  rcases List.mem_cons.1 h with rfl|h
  .have:=most_geG (l:=l) (n:=max n (u.input+1));omega
  .exact bCb h
theorem most_atG{n R:Int}(h:R=rnMost (l.drop i) n)(hu:l[i]?=some u):R=rnMost (l.drop (i+1)) (max n (u.input+1)):=by
 obtain⟨hlt,e⟩:=List.getElem?_eq_some_iff.1 hu;rw[h,<-List.getElem_cons_drop hlt,e];rfl
theorem bPl{n R:Int}(h:R=rnMost (l.drop i) n)(hi:l.length<=i):R=n:=by
 rw[h,List.drop_of_length_le hi];rfl
theorem xS(h:FT=fitsL at_ mem ins (l.drop i) i)(hu:l[i]?=some u):FT=((decide (u.input<0) || bKu (at_.getD i 0) mem (ins.getD u.input.toNat default))&&fitsL at_ mem ins (l.drop (i+1)) (i+1)):=by
 obtain⟨hlt,e⟩:=List.getElem?_eq_some_iff.1 hu;rw[h,<-List.getElem_cons_drop hlt,e];rfl
theorem bQm(h:FT=fitsL at_ mem ins (l.drop i) i)(hu:l[i]?=some u)(hi:u.input<0):FT=fitsL at_ mem ins (l.drop (i+1)) (i+1):=by
 rw[xS h hu,decide_eq_true hi,Bool.true_or,Bool.true_and]
theorem getA(ha:ins[u.input.toNat]?=some a):ins.getD u.input.toNat default=a:=by rw[List.getD_eq_getElem?_getD,ha];rfl
theorem getZ(hz:at_[i]?=some z):at_.getD i 0=z:=by rw[List.getD_eq_getElem?_getD,hz];rfl
theorem fits_yes(h:FT=fitsL at_ mem ins (l.drop i) i)(hu:l[i]?=some u)(ha:ins[u.input.toNat]?=some a)(hz:at_[i]?=some z)(h1:uQ a=true)(h2:0<=z/\z<=mem/\(a.data.length:Nat)<=mem-z):FT=fitsL at_ mem ins (l.drop (i+1)) (i+1):=by
 rw[xS h hu,getA ha,getZ hz];unfold bKu;rw[h1,decide_eq_true h2,Bool.true_and,Bool.or_true,Bool.true_and]
theorem qB(h:FT=fitsL at_ mem ins (l.drop i) i)(hu:l[i]?=some u)(hi: ¬u.input<0)(ha:ins[u.input.toNat]?=some a)(h1:uQ a=false):FT=false:=by
 rw[xS h hu,getA ha,decide_eq_false hi];unfold bKu;rw[h1];rfl
theorem qA(h:FT=fitsL at_ mem ins (l.drop i) i)(hu:l[i]?=some u)(hi: ¬u.input<0)(ha:ins[u.input.toNat]?=some a)(hz:at_[i]?=some z)(h2: ¬(0<=z/\z<=mem/\(a.data.length:Nat)<=mem-z)):FT=false:=by
 rw[xS h hu,getA ha,getZ hz,decide_eq_false hi];unfold bKu;rw[decide_eq_false h2,Bool.and_false];rfl
theorem fits_end(h:FT=fitsL at_ mem ins (l.drop i) i)(hi:l.length<=i):FT=true:=by
 rw[h,List.drop_of_length_le hi];rfl
theorem fits_at: ∀{l:List gQ} {k:Nat} {i:Nat},fitsL at_ mem ins l k=true->l[i]?=some u-> ¬u.input<0->bKu (at_.getD (k+i) 0) mem (ins.getD u.input.toNat default)=true
 |[],_,_,_,h,_=>by cases h
 |b::r,k,i,h,hu,hi=>by
  rw[fitsL,Bool.and_eq_true]at h
  cases i with
  |zero=>
   cases hu;have h1:=h.1;rw[decide_eq_false hi,Bool.false_or]at h1;exact h1
  |succ i=>
   have:=fits_at h.2 (i:=i) hu hi
   rwa[show k+1+i=k+(i+1) by omega]at this
theorem fits_get(h:fitsL at_ mem ins l 0=true)(hu:l[i]?=some u)(hi: ¬u.input<0)(ha:ins[u.input.toNat]?=some a)(hz:at_[i]?=some z):0<=z/\z<=mem/\(a.data.length:Nat)<=mem-z:=by
 have h1:=fits_at h hu hi;rw[Nat.zero_add,getA ha,getZ hz]at h1;unfold bKu at h1;rw[Bool.and_eq_true]at h1;exact of_decide_eq_true h1.2
theorem lay_step(h:R=layL at_ ins (l.drop i) i M)(hu:l[i]?=some u):R=layL at_ ins (l.drop (i+1)) (i+1) (if u.input<0 then M else mZ M (at_.getD i 0).toNat (ins.getD u.input.toNat default).data):=by
 obtain⟨hlt,e⟩:=List.getElem?_eq_some_iff.1 hu;rw[h,<-List.getElem_cons_drop hlt,e];rfl
theorem lay_skip(h:R=layL at_ ins (l.drop i) i M)(hu:l[i]?=some u)(hi:u.input<0):R=layL at_ ins (l.drop (i+1)) (i+1) M:=by rw[lay_step h hu,if_pos hi]
theorem lay_one{q:Nat}{d:List Int}(h:R=layL at_ ins (l.drop i) i M)(hu:l[i]?=some u)(hi: ¬u.input<0)(ha:ins[u.input.toNat]?=some a)(hz:at_[i]?=some z)(hq:z.toNat=q)(hd:a.data=d):R=layL at_ ins (l.drop (i+1)) (i+1) (mZ M q d):=by rw[lay_step h hu,if_neg hi,getA ha,getZ hz,hq,hd]
theorem lay_end(h:R=layL at_ ins (l.drop i) i M)(hi:l.length<=i):R=M:=by
 rw[h,List.drop_of_length_le hi];rfl
theorem yF{q:Nat}{d:List Int}(h:q+d.length<=M.length):(mZ M q d).length=M.length:=by
 unfold mZ;simp;omega
theorem paste_0{q:Nat}:mZ M q []=M:=by
 unfold mZ;rw[List.append_nil,List.length_nil,Nat.add_zero,List.take_append_drop]
theorem paste_set{q k:Nat}{d:List Int}{y:Int}(h:q+d.length<=M.length)(hk:d[k]?=some y):(mZ M q (d.take k)).set (q+k) y=mZ M q (d.take (k+1)):=by
 obtain⟨hlt,e⟩:=List.getElem?_eq_some_iff.1 hk;have hl:(d.take k).length=k:=by simp;omega
 have hm:(M.take q).length=q:=by simp;omega
 unfold mZ;have ed:M.drop (q+k)=M[q+k]::M.drop (q+(k+1)):=(List.getElem_cons_drop k7).symm;have hl1:(d.take (k+1)).length=k+1:=by simp;omega
 rw[hl,hl1,ed,List.set_append_right _ _ o7,List.take_add_one,hk];have:q+k-(M.take q++d.take k).length=0:=by simp;omega
 rw[this];simp
end
theorem maxIG{a b:Int}:(if b>a then b else a)=max a b:=by
 split<;>omega
section
variable {α : Type} {E : Flat α} {β : dC} {H : List bD} {F : List bC}
theorem at_copyF{P:Program}{n:Nat}{Γ:Env}{Q:Exit->Act->World->Prop}{ops:Array Oper}{rest:List Oper}{o:Oper}{d:Nat}{x y:Operand}{t e t':TypeId}{g c m q s:Nat}{A:Option Addr}{xs ys:List α}{H':List bD}(hr:dL β H F E A ys)(hw:want ops Γ o=some true)
  (ho:o.op= .call {callee:= .builtin .copy,args:= #[x,y],argTypes:= #[t,t]}) (hd:o.dst=some d) (hn:Nat.blt d n=true) (hu:P.underlying t=some (.slice e)) (hs:(P.info? e).map (·.size)=some E.size)
  (hx:Γ.ev x=some (.slice (cutA (some ⟨g,0,none⟩) q E.size m) (m-q) (m-q))) (hm:xs.length=m) (hy:Γ.ev y=some (.slice A s c)) (hl:s=ys.length) (hq:q+ys.length<=m) (hH:bW H (E.row (.slice (some ⟨g,0,none⟩) m m) t' xs) H')
  (k:At β n ((d,.int .i64 (ys.length:Nat))::Γ) (E.row (.slice (some ⟨g,0,none⟩) m m) t' (xs.take q++ys++xs.drop (q+ys.length))::H') F (wpList P ops Q rest)):At β n Γ H F (wpList P ops Q (o::rest)):=by
 subst hl
 rcases Nat.lt_or_ge q m with h|h
 .rw[cutA_in h rfl]at hx;exact bCw hr hw ho hd hn hu hs hx rfl hm hy (Nat.min_eq_left k7).symm hq hH k
 .have h0:ys.length=0:=k7
  have he:ys=[]:=List.length_eq_zero_iff.1 h0;unfold cutA at hx;rw[if_pos k7]at hx;refine bCw (q:=0) hr hw ho hd hn hu hs hx (by rw[Nat.zero_mul]) hm hy (by rw[h0];exact(Nat.zero_min _).symm) k7 hH ?_;have ek:([]:List α).take 0=[]:=rfl;rw[he]at k⊢;rw[List.append_nil,List.length_nil,Nat.add_zero,List.take_append_drop]at k
  simpa using k
end
theorem madeI64G(m:Nat):(madeCells (Value.int .i64 0).cells (m*cF.size)).toList=cF.all (List.replicate m 0):=by
 have e: ∀m,cF.all (List.replicate m 0)=List.replicate m (.int .i64 0):=λm=>by
  induction m with
  |zero=>rfl
  |succ m ih=>rw[List.replicate_succ,List.replicate_succ,<-ih];rfl
 rw[e];unfold madeCells;apply List.ext_getElem
 .simp[cF]
 .intro i h1 h2;simp[Value.cells,Nat.mod_one]
theorem bGd{β:dC}{n:Nat}{Γ:Env}{H:List bD}{F:List bC}{Q:Exit->Act->World->Prop}{ops:Array Oper}{rest:List Oper}{o:Oper}{d m:Nat}{x y:Operand}(hw:want ops Γ o=some true)(ho:o.op= .makeSlice 27 x y)(hd:o.dst=some d)(hn:Nat.blt d n=true)
  (hx:Γ.ev x=some (.int .i64 (m:Nat))) (hy:Γ.ev y=some (.int .i64 (m:Nat))) (hm:m<=2097152)
  (k: ∀b,At β n ((d,.slice (some ⟨b,0,none⟩) m m)::Γ) (cF.row (.slice (some ⟨b,0,none⟩) m m) 2 (List.replicate m 0)::H) F (wpList prog ops Q rest)):At β n Γ H F (wpList prog ops Q (o::rest)):=by
 obtain⟨i,hi,hz,hs,hb⟩:=bDy;exact yG (E:=cF) hw ho hd hn hx hy underlying27 hi hz hs v7 t7 (madeI64G m) m9 k
def lresL (at_:List Int)(mem:Int)(ins:List Arr)(l:List gQ)(i:Nat)(M:List Int):List Int×Int:=if fitsL at_ mem ins l i=false then ([],120)else (layL at_ ins l i M,0)
section
variable {c : dE} {at_ : List Int} {mem : Int} {ins : List Arr} {l : List gQ} {i : Nat} {u : gQ} {a : Arr} {M : List Int} {z : Int} {RR : List Int × Int}
theorem lqR(h:cZ c=true)(h2: ¬((at_.length:Int)≠(c.bufs.length:Nat)\/mem<0\/2097152<mem))(h3:((ins.length:Nat):Int)=rnMost c.bufs 0):gD c at_ mem ins=lresL at_ mem ins c.bufs 0 (List.replicate mem.toNat 0):=by
 unfold gD lresL;rw[if_neg aa9,if_neg h2,if_neg (λe=>e h3)]
theorem bRm{M':List Int}(h:RR=lresL at_ mem ins (l.drop i) i M)(hf:fitsL at_ mem ins (l.drop i) i=fitsL at_ mem ins (l.drop (i+1)) (i+1))(hl:layL at_ ins (l.drop i) i M=layL at_ ins (l.drop (i+1)) (i+1) M'):RR=lresL at_ mem ins (l.drop (i+1)) (i+1) M':=by
 rw[h];unfold lresL;rw[hf,hl]
theorem bBl(h:RR=lresL at_ mem ins (l.drop i) i M)(hf:fitsL at_ mem ins (l.drop i) i=false):RR=([],120):=by
 rw[h];unfold lresL;rw[if_pos hf]
theorem lres_end(h:RR=lresL at_ mem ins (l.drop i) i M)(hi:l.length<=i):RR=(M,0):=by
 rw[h,List.drop_of_length_le hi];rfl
end
theorem wD:(prog.info? 75).bind (·.zero)=some (.agg #[.slice none 0 0,.slice none 0 0]):=k8
set_option maxHeartbeats 1000000 in
theorem loadF_spec(c:gF)(m:bQw)(IA:Option Addr)(ic:Nat)(ins:List rJ)(hal0:m.at_.list.length<=140737488355328):cE prog 11 [.agg #[.int .i64 c.vars,.slice c.bufs.addr c.bufs.list.length c.bufs.cap,.slice c.steps.addr c.steps.list.length c.steps.cap,.slice c.outs.addr c.outs.list.length c.outs.cap],.agg #[.slice m.code.addr m.code.list.length m.code.cap,.int .i64 m.mem,.slice m.at_.addr m.at_.list.length m.at_.cap],.slice IA ins.length ic] [] [nM c,cF.sl (.slice m.at_.addr m.at_.list.length m.at_.cap) m.at_.list,arrE.sl (.slice IA ins.length ic) ins,bC.each ins bLm] (λ(x:Option Addr×Nat)=> .tuple #[.slice x.1 (gD c.c m.at_.list m.mem (arrL ins)).1.length x.2,.int .i64 (gD c.c m.at_.list m.mem (arrL ins)).2]) (λ(x:Option Addr×Nat)=>[cF.row (.slice x.1 (gD c.c m.at_.list m.mem (arrL ins)).1.length x.2) 2 (gD c.c m.at_.list m.mem (arrL ins)).1]) (λ_=>[]):=by
 have hT:=cT;refine j2 func11 ntmps11 ?_;intro β hM;refine g2 ?_;refine j0 λb1=>?_;refine j0 λb2=>?_;refine g8 ?_;refine f9 func33 (bAo c) .nil ⟨d7,e8⟩ λ_=>?_;refine g3 ?_;refine yQ (λhc20=>?_) λhc20=>?_
 .refine g8 ?_;have hG:(gD c.c m.at_.list m.mem (arrL ins))=_:=lq1 ab1;rw[hG];refine bZ (t:=2) cF ?_;exact rs2 (none,0) trivial
 refine g13 ?_;refine k_ne (λhg28=>?_) λhg28=>?_
 .refine g20 ?_;have hG:(gD c.c m.at_.list m.mem (arrL ins))=_:=lq2 ab1 o8;rw[hG];refine bZ (t:=2) cF ?_;exact rs2 (none,0) trivial
 refine g5 ?_;refine lG (λhg33=>?_) λhg33=>?_
 .refine g15 ?_;have hG:(gD c.c m.at_.list m.mem (arrL ins))=_:=lq2 ab1 o8;rw[hG];refine bZ (t:=2) cF ?_;exact rs2 (none,0) trivial
 refine g6 ?_;refine dH (λhc37=>?_) λhc37=>?_
 .refine g8 ?_;have hG:(gD c.c m.at_.list m.mem (arrL ins))=_:=lq2 ab1 o8;rw[hG];refine bZ (t:=2) cF ?_;exact rs2 (none,0) trivial
 refine g3 ?_;have hrc:cZ c.c=true:=by simpa using hc20
 obtain⟨⟨_,_,hnb,_⟩,hbb,_⟩:=gJ hrc;rw[show c.c.bufs.length=c.bufs.list.length from bY _]at hnb;have hI: ∀u∈c.bufs.list,-1<=u.input/\u.input<64:=λu hu=>bIj hbb u.c (List.mem_map.2 ⟨u,hu,rfl⟩);have hcb:c.c.bufs.length=c.bufs.list.length:=bY _;have hP: ¬(((m.at_.list.length:Nat):Int)≠(c.c.bufs.length:Nat)\/m.mem<0\/2097152<m.mem):=k7
 obtain⟨K,hK⟩: ∃K,rnMost (bufsL c.bufs.list) 0=K:=⟨_,rfl⟩
 refine bK (vE.sl (.slice c.bufs.addr c.bufs.list.length c.bufs.cap) c.bufs.list) (mO (iS d7)) ?_;refine g14 ?_;refine bU (ι:=Nat×Int) [(2,_),(3,_),(4,_),(39,_),(40,_)] ⟨rfl,rfl,rfl,rfl,rfl,e8⟩ (λ⟨i,z⟩=>[(8,.int .i64 z),(41,.int .i64 (i:Nat))]) (λ_=>[]) (λ⟨i,z⟩=>[bC.pure (i<=c.bufs.list.length/\0<=z/\z<=64/\K=rnMost ((bufsL c.bufs.list).drop i) z)]) (λ⟨i,z⟩=>c.bufs.list.length-i) (0,0) ⟨rfl,rfl,e8⟩ .nil ⟨e9 (⟨k7,k7,k7,hK.symm⟩),e8⟩ ?_;rintro⟨i,z⟩;dsimp only;refine bJ d7 λhinv7=>?_;refine g6 ?_;refine dH (λhc42=>?_) λhc42=>?_
 .refine g6 ?_;obtain⟨x3,hx4⟩:=gx c.bufs.list i;refine ss (ixs i) ?_;refine ss (jQ hx4 0) ?_;refine i7 wC λb5=>?_;refine g3 ?_;have hib:=hI x3 (f5 hx4);refine g5 ?_;refine bN (qI rfl k7 k7) ?_;refine one ?_;refine bN (z':=max z (x3.input+1)) maxIG ?_;refine g6 ?_;refine inc (i+1) ?_;refine g3 ?_;exact bk2 (i+1,max z (x3.input+1)) ⟨e9 (⟨by dsimp only;omega,by dsimp only;omega,by dsimp only;omega,most_atG hinv7.2.2.2 (bT hx4)⟩),e8⟩
 refine g7 ?_;have hke:=bPl hinv7.2.2.2 v8;refine g7 ?_;refine bNw (λhc54=>?_) λhc54=>?_
 .refine g8 ?_;have hG:(gD c.c m.at_.list m.mem (arrL ins))=_:=lq3 hrc hP w6;rw[hG];refine bZ (t:=2) cF ?_;exact rs2 (none,0) trivial
 refine g4 ?_;have hml:((arrL ins).length:Int)=rnMost c.c.bufs 0:=by rw[rV];show _=rnMost (bufsL c.bufs.list) 0;omega
 obtain⟨FT,hFT⟩: ∃FT,fitsL m.at_.list m.mem (arrL ins) (bufsL c.bufs.list) 0=FT:=⟨_,rfl⟩
 have hal:m.at_.list.length=c.bufs.list.length:=k7
 refine g8 ?_;refine bU (ι:=Nat) [(2,_),(3,_),(4,_),(56,_),(57,_)] ⟨rfl,rfl,rfl,rfl,rfl,e8⟩ (λi=>[(58,.int .i64 (i:Nat))]) (λ_=>[]) (λi=>[bC.pure (i<=c.bufs.list.length/\FT=fitsL m.at_.list m.mem (arrL ins) ((bufsL c.bufs.list).drop i) i)]) (λi=>c.bufs.list.length-i) 0 ⟨rfl,e8⟩ .nil ⟨e9 (⟨k7,hFT.symm⟩),e8⟩ ?_;rintro i;refine bJ d7 λhinv14=>?_;refine g6 ?_;refine dH (λhc59=>?_) λhc59=>?_
 .refine g5 ?_;obtain⟨u,hu⟩:=gx c.bufs.list i;have hib:=hI u (f5 hu);refine g2 ?_;refine ss (ixs i) ?_;refine ss (jQ hu 0) ?_;refine i7 wC λb6=>?_;refine g12 ?_;refine dH (λhc65=>?_) λhc65=>?_
  .refine g6 ?_;refine inc (i+1) ?_;refine g3 ?_;exact bk2 (i+1) ⟨e9 (⟨k7,bQm hinv14.2 (bT hu) hc65⟩),e8⟩
  refine g3 ?_;have hmg:=bCb (n:=0) (f5 (bT hu))
  replace hmg:u.input<rnMost c.c.bufs 0:=hmg
  rw[<-hml,rV]at hmg;obtain⟨x,hx⟩:=gx ins u.input.toNat;obtain⟨z,hz⟩:=gx m.at_.list i;refine bK (bLm x) (Has.each (Has.of mT6) (f5 hx))<|bJ (arrF_sz d7) λhaz=>bK (cF.sl (.slice x.sides.addr x.sides.list.length x.sides.cap) x.sides.list) (arrF_s d7)<|bK (cF.sl (.slice x.data.addr x.data.list.length x.data.cap) x.data.list) (arrF_d d8) ?_;refine dS _ _ [(true,0),(true,1),(true,2),(true,3),(true,4),(true,5),(true,6),(true,7),(true,8),(true,9),(false,10),(false,11),(true,12)] dW l8 (.c0 (.c0 (.c0 .nil))) bA.self ?_;refine g3 ?_;refine stM rfl (bG hT (k:=u.input.toNat) (bR (Has.of mT8)) rfl rfl rfl rfl rfl rfl k7 ((List.getElem?_eq_some_iff.1 hx).1)) ?_;refine stM rfl (jQ hx 0) ?_;refine g3 ?_;refine stM rfl (ixs i) ?_;refine stM rfl (fJ hz 0) ?_;refine one ?_;refine i7 wD λb7=>?_;refine g10 ?_;refine bF func34 (rightAr_spec x k7) rfl rfl .nil ⟨d8,e8⟩ λ_=>?_;refine g2 ?_;refine bKt (λhg79=>?_) λhg79=>?_
  .refine g34 ?_;have hG:(gD c.c m.at_.list m.mem (arrL ins))=_:=lq4 hrc hP hml (hFT.trans m8);rw[hG];refine bZ (t:=2) cF ?_;exact rs2 (none,0) trivial
  refine g4 ?_;refine lG (λhg83=>?_) λhg83=>?_
  .refine g30 ?_;have hG:(gD c.c m.at_.list m.mem (arrL ins))=_:=lq4 hrc hP hml (hFT.trans m8);rw[hG];refine bZ (t:=2) cF ?_;exact rs2 (none,0) trivial
  refine g6 ?_;refine lG (λhg89=>?_) λhg89=>?_
  .refine g24 ?_;have hG:(gD c.c m.at_.list m.mem (arrL ins))=_:=lq4 hrc hP hml (hFT.trans m8);rw[hG];refine bZ (t:=2) cF ?_;exact rs2 (none,0) trivial
  refine g7 ?_;refine bN (z':=m.mem-z) (qI rfl k7 k7) ?_;refine g4 ?_;refine dH (λhc98=>?_) λhc98=>?_
  .refine g12 ?_;have hG:(gD c.c m.at_.list m.mem (arrL ins))=_:=lq4 hrc hP hml (hFT.trans m8);rw[hG];refine bZ (t:=2) cF ?_;exact rs2 (none,0) trivial
  refine g5 ?_;refine inc (i+1) ?_;refine g3 ?_;exact bk2 (i+1) ⟨e9 (⟨k7,fits_yes hinv14.2 (bT hu) (gS hx) hz hg79 w8⟩),e8⟩
 refine g6 ?_;have hft:=fits_end hinv14.2 v8;have hFt:fitsL m.at_.list m.mem (arrL ins) (bufsL c.bufs.list) 0=true:=hFT.trans hft;refine g3 ?_;refine bN (z':=((m.mem.toNat:Nat):Int)) k7 ?_;refine bGd (m:=m.mem.toNat) rfl rfl rfl rfl rfl rfl k7 λmb=>?_;refine g5 ?_
 obtain⟨LL,hLL⟩: ∃LL,layL m.at_.list (arrL ins) (bufsL c.bufs.list) 0 (List.replicate m.mem.toNat 0)=LL:=⟨_,rfl⟩
 have hml0:(List.replicate m.mem.toNat (0:Int)).length=m.mem.toNat:=List.length_replicate ..;refine g8 ?_;refine bU (ι:=List Int×Nat) [(2,_),(4,_),(15,_),(104,_),(105,_)] ⟨rfl,rfl,rfl,rfl,rfl,e8⟩ (λ⟨M,i⟩=>[(106,.int .i64 (i:Nat))]) (λ⟨M,i⟩=>[cF.row (.slice (some ⟨mb,0,none⟩) m.mem.toNat m.mem.toNat) 2 M]) (λ⟨M,i⟩=>[bC.pure (i<=c.bufs.list.length/\M.length=m.mem.toNat/\LL=layL m.at_.list (arrL ins) ((bufsL c.bufs.list).drop i) i M)]) (λ⟨M,i⟩=>c.bufs.list.length-i) (List.replicate m.mem.toNat 0,0) ⟨rfl,e8⟩ (.c0 .nil) ⟨e9 (⟨k7,hml0,hLL.symm⟩),e8⟩ ?_;rintro⟨M,i⟩;dsimp only;refine bJ d7 λhinv23=>?_;refine g6 ?_;refine dH (λhc107=>?_) λhc107=>?_
 .refine g5 ?_;obtain⟨u,hu⟩:=gx c.bufs.list i;have hib:=hI u (f5 hu);refine g2 ?_;refine ss (ixs i) ?_;refine ss (jQ hu 0) ?_;refine i7 wC λb8=>?_;refine g11 ?_;refine bLl (λhc113=>?_) λhc113=>?_
  .have hmg:=bCb (n:=0) (f5 (bT hu))
   replace hmg:u.input<rnMost c.c.bufs 0:=hmg
   rw[<-hml,rV]at hmg;obtain⟨x,hx⟩:=gx ins u.input.toNat;obtain⟨z,hz⟩:=gx m.at_.list i;refine bK (bLm x) (Has.each (Has.of mT7) (f5 hx))<|bJ (arrF_sz d7) λhaz=>bK (cF.sl (.slice x.sides.addr x.sides.list.length x.sides.cap) x.sides.list) (arrF_s d7)<|bK (cF.sl (.slice x.data.addr x.data.list.length x.data.cap) x.data.list) (arrF_d d8) ?_;have hfg:0<=z/\z<=m.mem/\((x.data.list.length:Nat):Int)<=m.mem-z:=fits_get hFt (bT hu) o5 (gS hx) hz;refine dS _ _ [(true,0),(true,1),(true,2),(true,3),(true,4),(true,5),(true,6),(true,7),(true,8),(true,9),(true,10),(true,11),(true,12),(false,13)] dW l8 (.c0 (.c1 (.c1 .nil))) bA.self ?_;refine g4 ?_;refine stM rfl (ixs i) ?_;refine stM rfl (fJ hz 0) ?_;refine stM rfl (bGn hT (k:=z.toNat) rfl rfl rfl rfl rfl k7 k7) ?_;refine g3 ?_;refine stM rfl (bG hT (k:=u.input.toNat) (bR (Has.of mT9)) rfl rfl rfl rfl rfl rfl k7 ((List.getElem?_eq_some_iff.1 hx).1)) ?_;refine one ?_;refine stM rfl (fJ hx 1) ?_;refine one ?_;refine at_copyF (E:=cF) (q:=z.toNat) (ys:=x.data.list) (bR d7) rfl rfl rfl rfl underlying27 k8 rfl hinv23.2.1 rfl rfl k7 kT1 ?_;refine g6 ?_;refine inc (i+1) ?_;refine g3 ?_;exact bk2 (mZ M z.toNat x.data.list,i+1) ⟨e9 (⟨by dsimp only;omega,(yF k7).trans hinv23.2.1,lay_one hinv23.2.2 (bT hu) o5 (gS hx) hz rfl rfl⟩),e8⟩
  refine g5 ?_;refine inc (i+1) ?_;refine g3 ?_;exact bk2 (M,i+1) ⟨e9 (⟨by dsimp only;omega,hinv23.2.1,lay_skip hinv23.2.2 (bT hu) (by show u.input<0;omega)⟩),e8⟩
 refine g13 ?_;have hLe:=lay_end hinv23.2.2 v8;have hG:(gD c.c m.at_.list m.mem (arrL ins))=(M,0):=(lq0 hrc hP hml hFt).trans (by rw[<-hLe,<-hLL];rfl);rw[hG];rw[show(Value.slice (some ⟨mb,0,none⟩) m.mem.toNat m.mem.toNat)= .slice (some ⟨mb,0,none⟩) M.length m.mem.toNat by rw[hinv23.2.1]];exact rs2 (some ⟨mb,0,none⟩,m.mem.toNat) trivial
set_option maxHeartbeats 1000000 in
theorem load19_spec(c:gF)(m:bQw)(IA:Option Addr)(ic:Nat)(ins:List rJ)(hal0:m.at_.list.length<=140737488355328):cE prog 12 [.agg #[.int .i64 c.vars,.slice c.bufs.addr c.bufs.list.length c.bufs.cap,.slice c.steps.addr c.steps.list.length c.steps.cap,.slice c.outs.addr c.outs.list.length c.outs.cap],.agg #[.slice m.code.addr m.code.list.length m.code.cap,.int .i64 m.mem,.slice m.at_.addr m.at_.list.length m.at_.cap],.slice IA ins.length ic] [] [nM c,cF.sl (.slice m.at_.addr m.at_.list.length m.at_.cap) m.at_.list,arrE.sl (.slice IA ins.length ic) ins,bC.each ins bLm] (λ(x:Option Addr×Nat)=> .tuple #[.slice x.1 (gD c.c m.at_.list m.mem (arrL ins)).1.length x.2,.int .i64 (gD c.c m.at_.list m.mem (arrL ins)).2]) (λ(x:Option Addr×Nat)=>[cF.row (.slice x.1 (gD c.c m.at_.list m.mem (arrL ins)).1.length x.2) 2 (gD c.c m.at_.list m.mem (arrL ins)).1]) (λ_=>[]):=by
 have hT:=cT;refine j2 func12 ntmps12 ?_;intro β hM;refine g2 ?_;refine j0 λb1=>?_;refine j0 λb2=>?_;refine g8 ?_;refine f9 func35 (Right10_spec c) .nil ⟨d7,e8⟩ λ_=>?_;refine g3 ?_;refine yQ (λhc16=>?_) λhc16=>?_
 .refine g8 ?_;have hG:(gD c.c m.at_.list m.mem (arrL ins))=_:=lq1 w7;rw[hG];refine bZ (t:=2) cF ?_;exact rs2 (none,0) trivial
 refine g13 ?_;refine k_ne (λhg24=>?_) λhg24=>?_
 .refine g20 ?_;have hG:(gD c.c m.at_.list m.mem (arrL ins))=_:=lq2 w7 o8;rw[hG];refine bZ (t:=2) cF ?_;exact rs2 (none,0) trivial
 refine g5 ?_;refine lG (λhg29=>?_) λhg29=>?_
 .refine g15 ?_;have hG:(gD c.c m.at_.list m.mem (arrL ins))=_:=lq2 w7 o8;rw[hG];refine bZ (t:=2) cF ?_;exact rs2 (none,0) trivial
 refine g6 ?_;refine dH (λhc33=>?_) λhc33=>?_
 .refine g8 ?_;have hG:(gD c.c m.at_.list m.mem (arrL ins))=_:=lq2 w7 o8;rw[hG];refine bZ (t:=2) cF ?_;exact rs2 (none,0) trivial
 refine g3 ?_;have hrc:cZ c.c=true:=by simpa using hc16
 obtain⟨⟨_,_,hnb,_⟩,hbb,_⟩:=gJ hrc;rw[show c.c.bufs.length=c.bufs.list.length from bY _]at hnb;have hI: ∀u∈c.bufs.list,-1<=u.input/\u.input<64:=λu hu=>bIj hbb u.c (List.mem_map.2 ⟨u,hu,rfl⟩);have hcb:c.c.bufs.length=c.bufs.list.length:=bY _;have hP: ¬(((m.at_.list.length:Nat):Int)≠(c.c.bufs.length:Nat)\/m.mem<0\/2097152<m.mem):=k7
 obtain⟨K,hK⟩: ∃K,rnMost (bufsL c.bufs.list) 0=K:=⟨_,rfl⟩
 refine bK (vE.sl (.slice c.bufs.addr c.bufs.list.length c.bufs.cap) c.bufs.list) (mO (iS d7)) ?_;refine g11 ?_;refine bU (ι:=Nat×Int) [(2,_),(3,_),(4,_)] ⟨rfl,rfl,rfl,e8⟩ (λ⟨i,z⟩=>[(8,.int .i64 z),(9,.int .i64 (i:Nat))]) (λ_=>[]) (λ⟨i,z⟩=>[bC.pure (i<=c.bufs.list.length/\0<=z/\z<=64/\K=rnMost ((bufsL c.bufs.list).drop i) z)]) (λ⟨i,z⟩=>c.bufs.list.length-i) (0,0) ⟨rfl,rfl,e8⟩ .nil ⟨e9 (⟨k7,k7,k7,hK.symm⟩),e8⟩ ?_;rintro⟨i,z⟩;dsimp only;refine bJ d7 λhinv7=>?_;refine g10 ?_;refine dH (λhc38=>?_) λhc38=>?_
 .refine g9 ?_;obtain⟨x3,hx4⟩:=gx c.bufs.list i;refine ss (ixs i) ?_;refine one ?_;refine ss (fJ hx4 1) ?_;have hib:=hI x3 (f5 hx4);refine one ?_;refine bN (qI rfl k7 k7) ?_;refine one ?_;refine bN (z':=max z (x3.input+1)) maxIG ?_;refine g7 ?_;refine inc (i+1) ?_;refine g3 ?_;exact bk2 (i+1,max z (x3.input+1)) ⟨e9 (⟨by dsimp only;omega,by dsimp only;omega,by dsimp only;omega,most_atG hinv7.2.2.2 (bT hx4)⟩),e8⟩
 refine g7 ?_;have hke:=bPl hinv7.2.2.2 v8;refine g7 ?_;refine bNw (λhc53=>?_) λhc53=>?_
 .refine g8 ?_;have hG:(gD c.c m.at_.list m.mem (arrL ins))=_:=lq3 hrc hP w6;rw[hG];refine bZ (t:=2) cF ?_;exact rs2 (none,0) trivial
 refine g3 ?_;have hml:((arrL ins).length:Int)=rnMost c.c.bufs 0:=by rw[rV];show _=rnMost (bufsL c.bufs.list) 0;omega
 have hal:m.at_.list.length=c.bufs.list.length:=k7
 obtain⟨RR,hRR⟩: ∃RR,lresL m.at_.list m.mem (arrL ins) (bufsL c.bufs.list) 0 (List.replicate m.mem.toNat 0)=RR:=⟨_,rfl⟩
 have hml0:(List.replicate m.mem.toNat (0:Int)).length=m.mem.toNat:=List.length_replicate ..;have hGR:(gD c.c m.at_.list m.mem (arrL ins))=RR:=(lqR hrc hP hml).trans hRR;refine g3 ?_;refine bN (z':=((m.mem.toNat:Nat):Int)) k7 ?_;refine bGd (m:=m.mem.toNat) rfl rfl rfl rfl rfl rfl k7 λmb=>?_;refine g10 ?_;refine bU (ι:=List Int×Nat) [(2,_),(3,_),(4,_),(10,_)] ⟨rfl,rfl,rfl,rfl,e8⟩ (λ⟨M,i⟩=>[(11,.int .i64 (i:Nat))]) (λ⟨M,i⟩=>[cF.row (.slice (some ⟨mb,0,none⟩) m.mem.toNat m.mem.toNat) 2 M]) (λ⟨M,i⟩=>[bC.pure (i<=c.bufs.list.length/\M.length=m.mem.toNat/\RR=lresL m.at_.list m.mem (arrL ins) ((bufsL c.bufs.list).drop i) i M)]) (λ⟨M,i⟩=>c.bufs.list.length-i) (List.replicate m.mem.toNat 0,0) ⟨rfl,e8⟩ (.c0 .nil) ⟨e9 (⟨k7,hml0,hRR.symm⟩),e8⟩ ?_;rintro⟨M,i⟩;dsimp only;refine bJ d7 λhinv14=>?_;refine g10 ?_;refine dH (λhc61=>?_) λhc61=>?_
 .refine g5 ?_;obtain⟨u,hu⟩:=gx c.bufs.list i;have hib:=hI u (f5 hu);refine g4 ?_;refine ss (ixs i) ?_;refine one ?_;refine ss (fJ hu 1) ?_;refine g10 ?_;refine dH (λhc71=>?_) λhc71=>?_
  .refine g7 ?_;refine inc (i+1) ?_;refine g3 ?_;exact bk2 (M,i+1) ⟨e9 (⟨by dsimp only;omega,hinv14.2.1,bRm hinv14.2.2 (bQm rfl (bT hu) (by show u.input<0;omega)) (lay_skip rfl (bT hu) (by show u.input<0;omega))⟩),e8⟩
  refine g4 ?_;have hmg:=bCb (n:=0) (f5 (bT hu))
  replace hmg:u.input<rnMost c.c.bufs 0:=hmg
  rw[<-hml,rV]at hmg;obtain⟨x,hx⟩:=gx ins u.input.toNat;obtain⟨z,hz⟩:=gx m.at_.list i;refine bK (bLm x) (Has.each (Has.of mT6) (f5 hx))<|bJ (arrF_sz d7) λhaz=>bK (cF.sl (.slice x.sides.addr x.sides.list.length x.sides.cap) x.sides.list) (arrF_s d7)<|bK (cF.sl (.slice x.data.addr x.data.list.length x.data.cap) x.data.list) (arrF_d d8) ?_;refine dS _ _ [(true,0),(true,1),(true,2),(true,3),(false,4),(true,5),(true,6),(true,7),(true,8),(true,9),(true,10),(true,11),(true,12),(true,13),(true,14),(true,15),(true,16),(true,17),(true,18),(true,19),(true,20),(true,21),(true,22),(true,23),(true,24),(true,25),(true,26),(true,27),(true,28),(true,29),(true,30),(true,31),(true,32),(true,33),(true,34),(true,35),(true,36),(true,37),(true,38),(true,39),(true,40)] dW l8 (.c0 (.c0 (.c0 .nil))) bA.self ?_;refine g2 ?_;refine stM rfl (bG hT (k:=u.input.toNat) (bR (Has.of mT8)) rfl rfl rfl rfl rfl rfl k7 ((List.getElem?_eq_some_iff.1 hx).1)) ?_;refine stM rfl (jQ hx 0) ?_;refine one ?_;refine bF func36 (right6_spec x k7) rfl rfl .nil ⟨d8,e8⟩ λ_=>?_;refine g3 ?_;refine bKt (λhg78=>?_) λhg78=>?_
  .refine g40 ?_;refine g10 ?_;have hG:(gD c.c m.at_.list m.mem (arrL ins))=_:=hGR.trans (bBl hinv14.2.2 n3);rw[hG];refine bZ (t:=2) cF ?_;exact rs2 (none,0) trivial
  refine g3 ?_;refine stM rfl (ixs i) ?_;refine stM rfl (fJ hz 0) ?_;refine g3 ?_;refine lG (λhg86=>?_) λhg86=>?_
  .refine g40 ?_;refine g2 ?_;have hG:(gD c.c m.at_.list m.mem (arrL ins))=_:=hGR.trans (bBl hinv14.2.2 n3);rw[hG];refine bZ (t:=2) cF ?_;exact rs2 (none,0) trivial
  refine g3 ?_;refine stM rfl (ixs i) ?_;refine stM rfl (fJ hz 0) ?_;refine g5 ?_;refine lG (λhg96=>?_) λhg96=>?_
  .refine g32 ?_;have hG:(gD c.c m.at_.list m.mem (arrL ins))=_:=hGR.trans (bBl hinv14.2.2 n3);rw[hG];refine bZ (t:=2) cF ?_;exact rs2 (none,0) trivial
  refine g2 ?_;refine stM rfl (bG hT (k:=u.input.toNat) (bR (Has.of mT8)) rfl rfl rfl rfl rfl rfl k7 ((List.getElem?_eq_some_iff.1 hx).1)) ?_;refine one ?_;refine stM rfl (fJ hx 1) ?_;refine g6 ?_;refine stM rfl (ixs i) ?_;refine stM rfl (fJ hz 0) ?_;refine one ?_;refine bN (z':=m.mem-z) (qI rfl k7 k7) ?_;refine g4 ?_;refine dH (λhc112=>?_) λhc112=>?_
  .refine g13 ?_;have hG:(gD c.c m.at_.list m.mem (arrL ins))=_:=hGR.trans (bBl hinv14.2.2 n3);rw[hG];refine bZ (t:=2) cF ?_;exact rs2 (none,0) trivial
  refine g3 ?_;rw[show cF.row (.slice (some ⟨mb,0,none⟩) m.mem.toNat m.mem.toNat) 2 M=cF.row (.slice (some ⟨mb,0,none⟩) m.mem.toNat m.mem.toNat) 2 (mZ M z.toNat (x.data.list.take 0))from by rw[List.take_zero,paste_0]];refine g5 ?_;refine bU (ι:=Nat) [(2,_),(3,_),(4,_),(10,_),(11,_),(12,_),(79,_),(80,_),(81,_),(82,_),(83,_),(84,_),(87,_),(88,_),(89,_),(90,_),(91,_),(92,_),(93,_),(94,_),(97,_),(98,_),(99,_),(100,_),(101,_),(102,_),(103,_),(104,_),(105,_),(106,_),(107,_),(108,_),(109,_),(110,_),(111,_)] ⟨rfl,rfl,rfl,rfl,rfl,rfl,rfl,rfl,rfl,rfl,rfl,rfl,rfl,rfl,rfl,rfl,rfl,rfl,rfl,rfl,rfl,rfl,rfl,rfl,rfl,rfl,rfl,rfl,rfl,rfl,rfl,rfl,rfl,rfl,rfl,e8⟩ (λn=>[(13,.int .i64 (n:Nat))]) (λn=>[cF.row (.slice (some ⟨mb,0,none⟩) m.mem.toNat m.mem.toNat) 2 (mZ M z.toNat (x.data.list.take n))]) (λn=>[bC.pure (n<=x.data.list.length)]) (λn=>x.data.list.length-n) 0 ⟨rfl,e8⟩ (.c0 .nil) ⟨e9 (Nat.zero_le _),e8⟩ ?_;rintro n;refine bJ d7 λhinv21=>?_
  have hfz:0<=z/\z<=m.mem/\((x.data.list.length:Nat):Int)<=m.mem-z:=⟨k7,k7,k7⟩
  have hmw:m.mem<=2097152:=k7
  refine g6 ?_;refine ss (bG hT (k:=u.input.toNat) (bR (Has.of mT9)) rfl rfl rfl rfl rfl rfl k7 ((List.getElem?_eq_some_iff.1 hx).1)) ?_;refine one ?_;refine ss (fJ hx 1) ?_;refine g4 ?_;refine dH (λhc120=>?_) λhc120=>?_
  .refine g4 ?_;obtain⟨y,hd⟩:=gx x.data.list n;have hpl:=(yF (M:=M) (q:=z.toNat) (d:=x.data.list.take n) aa3).trans hinv14.2.1;refine dS _ _ [(true,0),(true,1),(true,2),(true,3),(true,4),(true,5),(true,6),(true,7),(true,8),(true,9),(true,10),(true,11),(true,12),(true,13),(true,14),(true,15),(false,16),(false,17)] dW l8 (.c1 (.c1 .nil)) bA.self ?_;refine g4 ?_;refine stM rfl (ixs i) ?_;refine stM rfl (fJ hz 0) ?_;refine g2 ?_;refine bN (z':=((z.toNat+n:Nat):Int)) (qI k7 k7 k7) ?_;refine g2 ?_;refine stM rfl (bG hT (k:=u.input.toNat) (bR (Has.of mT9)) rfl rfl rfl rfl rfl rfl k7 ((List.getElem?_eq_some_iff.1 hx).1)) ?_;refine one ?_;refine stM rfl (fJ hx 1) ?_;refine one ?_;refine stM rfl (ixs n) ?_;refine stM rfl (fJ hd 0) ?_;refine one ?_;obtain⟨x5,hx6⟩:=gx (mZ M z.toNat (x.data.list.take n)) (z.toNat+n) (by rw[hpl];omega);refine ss (bG hT (k:=(z.toNat+n)) (cM .head) rfl rfl rfl rfl rfl ((yF aa3).trans hinv14.2.1).symm rfl (by rw[hpl];omega)) ?_;refine g2 ?_;refine cN hT (k:=(z.toNat+n)) (fo:=0) (y':=y) .head rfl rfl rfl rfl rfl rfl rfl rfl rfl hx6 rfl ?_;refine g7 ?_;refine inc (n+1) ?_;refine g3 ?_;rw[paste_set k7 hd];exact bk2 (n+1) ⟨e9 k7,e8⟩
  refine g9 ?_;refine inc (i+1) ?_;refine g3 ?_;exact bk2 (mZ M z.toNat (x.data.list.take n),i+1) ⟨e9 (⟨by dsimp only;omega,(yF aa3).trans hinv14.2.1,bRm hinv14.2.2 (fits_yes rfl (bT hu) (gS hx) hz hg78 w8) (lay_one rfl (bT hu) o5 (gS hx) hz rfl (List.take_of_length_le (by show x.data.list.length<=n;omega)).symm)⟩),e8⟩
 refine g13 ?_;have hG:(gD c.c m.at_.list m.mem (arrL ins))=(M,0):=hGR.trans (lres_end hinv14.2.2 v8);rw[hG];rw[show(Value.slice (some ⟨mb,0,none⟩) m.mem.toNat m.mem.toNat)= .slice (some ⟨mb,0,none⟩) M.length m.mem.toNat by rw[hinv14.2.1]];exact rs2 (some ⟨mb,0,none⟩,m.mem.toNat) trivial
theorem bKl{α:Type}{E:Flat α}{β:dC}{n:Nat}{Γ:Env}{H:List bD}{F:List bC}{K:Act->World->Prop}{A:Option Addr}{t:TypeId}{m cap:Nat}{xs:List α}{H':List bD}(hH:bW H (E.row (.slice A m cap) t xs) H')(h:xs.length<=9223372036854775807->At β n Γ H F K):At β n Γ H F K:=λa w S f s k=>by
 have hown:w.ownsRow 0 t E.size (.slice A m cap) xs.length (E.all xs):=s.ok _ hH.mem;refine h ?_ a w S f s k;have hm:maxLen=9223372036854775807:=by simp[maxLen]
 rcases hown.2 with ⟨_,e0⟩|⟨g,cap',cur,e1,h1,h2,h3,h4,_⟩
 .omega
 .injection e1 with e1 e2 e3
  omega
theorem intsY_spec(A B:Option Addr)(ca cb:Nat)(l r:List Int)(hlr:l=r)(hl:l.length<=9223372036854775807):cE prog 13 [.slice A l.length ca,.slice B r.length cb] [] [cF.sl (.slice A l.length ca) l,cF.sl (.slice B r.length cb) r] (λ(_:Unit)=> .bool true) (λ_=>[]) (λ_=>[]):=by
 have hT:=cT;have hlen:r.length=l.length:=by rw[hlr]
 refine j2 func13 ntmps13 ?_;intro β hM;refine g13 ?_;refine bS (t':=false) (by rw[hlen];simp) ?_;refine g12 ?_;refine bU (ι:=Nat) [(0,_),(1,_)] ⟨rfl,rfl,e8⟩ (λi=>[(5,.int .i64 (i:Nat))]) (λ_=>[]) (λi=>[bC.pure (i<=l.length)]) (λi=>l.length-i) 0 ⟨rfl,e8⟩ .nil ⟨e9 (Nat.zero_le _),e8⟩ ?_;rintro i;refine bJ d7 λhinv4=>?_;refine g9 ?_;refine dH (λhc14=>?_) λhc14=>?_
 .refine g5 ?_;obtain⟨x,hx⟩:=gx l i;obtain⟨y,hy⟩:=gx r i;have hxy:x=y:=by rw[hlr,hy]at hx;injection hx with hx;exact hx.symm
  refine dS _ _ [(true,0),(true,1),(true,2),(true,3),(true,4),(true,5),(true,6),(true,7),(true,8)] dW l8 .nil bA.self ?_;refine g2 ?_;refine stM rfl (ixs i) ?_;refine stM rfl (fJ hx 0) ?_;refine g2 ?_;refine stM rfl (ixs i) ?_;refine stM rfl (fJ hy 0) ?_;refine one ?_;refine bS (t':=false) (by rw[hxy];simp) ?_;refine g9 ?_;refine inc (i+1) ?_;refine g3 ?_;exact bk2 (i+1) ⟨e9 k7,e8⟩
 refine g11 ?_;exact rs1 () trivial
set_option maxHeartbeats 1000000 in
theorem lawLd_spec(c:gF)(m:bQw)(IA:Option Addr)(ic:Nat)(ins:List rJ)(hal0:m.at_.list.length<=140737488355328):cE prog 4 [.agg #[.int .i64 c.vars,.slice c.bufs.addr c.bufs.list.length c.bufs.cap,.slice c.steps.addr c.steps.list.length c.steps.cap,.slice c.outs.addr c.outs.list.length c.outs.cap],.agg #[.slice m.code.addr m.code.list.length m.code.cap,.int .i64 m.mem,.slice m.at_.addr m.at_.list.length m.at_.cap],.slice IA ins.length ic] [] [laidF,nM c,cF.sl (.slice m.at_.addr m.at_.list.length m.at_.cap) m.at_.list,arrE.sl (.slice IA ins.length ic) ins,bC.each ins bLm] (λ(_:Unit)=> .bool true) (λ_=>[]) (λ_=>[]):=by
 have hT:=cT;refine j2 func4 ntmps4 ?_;intro β hM;refine g2 ?_;refine j0 λb1=>?_;refine j0 λb2=>?_;refine g5 ?_;refine f9 func8 shown19_spec .nil ⟨d7,e8⟩ λ_=>?_;refine g8 ?_;refine f9 func11 (loadF_spec c m IA ic ins hal0) .nil ⟨d8,d9,e6,e7,e8⟩ λy3=>?_;refine bKl .head λhlla=>?_;refine jA .head ?_;refine g12 ?_;refine f9 func12 (load19_spec c m IA ic ins hal0) .nil ⟨d9,e6,e7,(Has.of mT5),e8⟩ λy4=>?_;refine bKl .head λhllb=>?_;refine jA .head ?_;refine g14 ?_;refine bS (t':=true) (beq_iff_eq.2 rfl) ?_;refine g4 ?_;refine f9 func13 (intsY_spec _ _ _ _ _ _ rfl hlla) .nil ⟨d8,d7,e8⟩ λ_=>?_;refine g5 ?_;exact rs1 () trivial
end Go.Proofs.YtnfiadlonjediaaGreatDoor
