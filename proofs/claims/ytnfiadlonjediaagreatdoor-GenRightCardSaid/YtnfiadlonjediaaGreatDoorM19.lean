/- Texts of one proof, one behind the other: GnI, GenS, GnC. -/
import Derived.Test.YtnfiadlonjediaaGreatDoorM7
import Derived.Test.YtnfiadlonjediaaGreatDoorM18
import Derived.Test.YtnfiadlonjediaaGreatDoorM17
namespace Go.Proofs.YtnfiadlonjediaaGreatDoor
open Go.RowKit Go.Proofs.Tryz
set_option maxRecDepth 100000
theorem bKo{α:Type}{E:Flat α}{β:cZ}{n:Nat}{Γ:Env}{H:List bC}{F:List bD}{K:Act→World→Prop}{A:Option Addr}{t:TypeId}{m cap:Nat}{xs:List α}{H':List bC}(hH:bT H (E.row (.slice A m cap) t xs) H')(h:xs.length≤9223372036854775807→At β n Γ H F K):At β n Γ H F K:=fun a w S f s k=>by
 have hown:w.ownsRow 0 t E.size (.slice A m cap) xs.length (E.all xs):=s.ok _ hH.mem;refine h ?_ a w S f s k;have hm:maxLen=9223372036854775807:=by simp [maxLen]
 rcases hown.2 with ⟨_,e0⟩ | ⟨g,cap',cur,e1,h1,h2,h3,h4,_⟩
 ·omega
 ·injection e1 with e1 e2 e3
  omega
theorem rightI_imm{i:cO}{k:Int}(hl:uF i=true)(h:jY i=true):jY {i with imm:=k}=true:=by
 obtain⟨op,a,b,c,imm⟩:=i;have hl:op=7∨op=8∨op=9:=of_decide_eq_true hl
 rcases hl with rfl | rfl | rfl<;>simpa [jY,hasN,sR,zL] using h
theorem rightPc_ins{p:PcV}(h:gD p=true):jY p.ins=true∧(p.to_≠0→uF p.ins=true):=by
 unfold gD at h;split at h
 ·cases h
 ·rename_i hc;refine⟨?_,fun h0=>?_⟩
  ·cases e:jY p.ins with
   | true=>rfl
   | false=>exact absurd (.inr (.inr e)) hc
  ·rcases Bool.or_eq_true _ _▸h with h | h
   ·exact absurd (of_decide_eq_true h) h0
   ·exact(Bool.and_eq_true _ _▸h).1
theorem bDr: ∀{l:List PcV} {i:Nat} {m m':oZ},marksGo l i m= .ok m'→ ∀p∈l,gD p=true
 | [],_,_,_,_,p,hp=>by cases hp
 | q::r,i,m,m',h,p,hp=>by
  unfold marksGo at h;split at h
  ·cases h
  ·rename_i hq;split at h
   ·cases h
   ·rcases List.mem_cons.1 hp with rfl | hp
    ·simpa using hq
    ·exact bDr h p hp
theorem vQ{m:oZ}: ∀{l:List PcV} {i:Nat} {out o:List cO},placeGoL m l i out= .ok o→(∀p∈l,gD p=true)→(∀x∈out,jY x=true)→(∀x∈o,jY x=true)∧o.length=out.length+l.length
 | [],_,out,o,h,_,hx=>by
  cases h;exact⟨hx,m8⟩
 | p::r,i,out,o,h,hl,hx=>by
  have hp:=rightPc_ins (hl p (List.mem_cons_self ..));have hr: ∀q∈r,gD q=true:=fun q hq=>hl q (List.mem_cons_of_mem _ hq);unfold placeGoL at h;split at h
  ·have h1:=vQ h hr fun x hm=>by
    rcases List.mem_append.1 hm with hm | hm
    ·exact hx x hm
    ·cases List.mem_singleton.1 hm;exact hp.1
   refine⟨h1.1,?_⟩;rw [h1.2];simp;omega
  ·rename_i h0;split at h
   ·cases h
   ·have h1:=vQ h hr fun x hm=>by
     rcases List.mem_append.1 hm with hm | hm
     ·exact hx x hm
     ·cases List.mem_singleton.1 hm;exact rightI_imm (hp.2 h0) hp.1
    refine⟨h1.1,?_⟩;rw [h1.2];simp;omega
theorem link_right(l:List PcV):(∀x∈qU l,jY x=true)∧(qU l).length≤32768:=by
 have h0:(∀x∈([]:List cO),jY x=true)∧([]:List cO).length≤32768:=⟨fun x hx=>(by cases hx),Nat.zero_le _⟩
 unfold qU qY;split
 ·rename_i o ho;split at ho
  ·cases ho
  ·rename_i hl;split at ho
   ·cases ho
   ·rename_i m hm;obtain⟨h1,h2⟩:=vQ ho (bDr hm) h0.1;refine⟨h1,?_⟩;rw [h2];simp;omega
 ·exact h0
theorem bOc: ∀(l:List cE) (d:Int),0≤d→d≤256→(∀x∈l,x.ops.length≤256)→0≤deepGo l d∧deepGo l d≤256
 | [],d,h0,h1,_=>⟨h0,h1⟩
 | x::r,d,h0,h1,hl=>by
  have hx:=hl x (List.mem_cons_self ..);have hd:=bOv x.ops;unfold deepGo;exact bOc r _ k7 k7 fun y hy=>hl y (List.mem_cons_of_mem _ hy)
theorem refused0{c:cY}{ds:List Int}(h:iQ c ds=0):(dM c ds).2=0∧(gR c).2=0:=by
 unfold iQ at h;split at h
 ·rename_i h1;exact absurd h h1
 ·rename_i h1;split at h
  ·rename_i h2;exact absurd h h2
  ·rename_i h2;exact⟨Classical.not_not.1 h1,Classical.not_not.1 h2⟩
theorem genP_err(c:cY)(ds:List Int):(jH c ds).2=iQ c ds:=by
 unfold jH;split
 ·rfl
 ·rename_i hc;exact(Classical.not_not.1 hc).symm
theorem genP_ok{c:cY}{ds:List Int}(h:(jH c ds).2=0):jH c ds=(⟨qU (bGj c ds),(qV c ds).frame+deepGo c.steps 0,(qV c ds).at_⟩,0):=by
 rw [genP_err] at h;unfold jH;rw [if_neg (fun k=>k h)]
theorem map_atG{α β:Type}{f:α→β}{l:List α}{i:Nat}{x:α}(h:l[i]?=some x):(l.map f)[i]?=some (f x):=by simp [h]
set_option maxHeartbeats 1000000 in
theorem lawRt_spec(c:iD)(DA:Option Addr)(dcap:Nat)(dims:List Int)(hdl:dims.length≤140737488355328):cA prog 5 [.agg #[.int .i64 c.vars,.slice c.bufs.addr c.bufs.list.length c.bufs.cap,.slice c.steps.addr c.steps.list.length c.steps.cap,.slice c.outs.addr c.outs.list.length c.outs.cap],.slice DA dims.length dcap] [] [laidF,rG c,cX.sl (.slice DA dims.length dcap) dims] (fun(_:Unit)=> .bool true) (fun _=>[]) (fun _=>[]):=by
 have hT:=cS;refine j1 func5 ntmps5 ?_;intro β hM;refine fJ<|bR (bD.cells 0 0 [.int .i64 0,.int .i64 (-1)]) (none_of d7) ?_;refine one ?_;refine j2 fun b1=>?_;refine g5 ?_;refine f9 func8 shown19_spec .nil ⟨d8,e8⟩ fun _=>?_;refine g7 ?_;refine f9 func9 (bNh c DA dcap dims hdl) .nil ⟨d9,e6,d7,e8⟩ fun gx2=>?_;refine g3 ?_;refine i7 xL fun b3=>?_;refine g11 ?_;refine c_ne (fun hc24=>?_) fun hc24=>?_
 ·refine g8 ?_;exact rs1 () trivial
 refine g3 ?_;have hE:(jH c.c dims).2=0:=hc24;have hgo:=genP_ok hE;obtain⟨hcz,hpz⟩:=refused0 ((genP_err _ _).symm.trans hE);have hrc:=bBd hcz;have hlr:=link_right (bGj c.c dims);have hcd:(jH c.c dims).1.code=qU (bGj c.c dims):=by rw [hgo]
 have hdp:=bOc c.c.steps 0 l9 l9 fun x hx=>by obtain⟨v,hv,rfl⟩:=List.mem_map.1 hx;have:=(step_g hrc dims hv).hlo;show(opsL v.ops.list).length≤_;rw [fF];exact this
 refine bKo kT1 fun hlcode=>?_;refine iP kT1 ?_;refine bKo kT1 fun hlatr=>?_;refine iP kT1 ?_;refine g2 ?_;refine f9 func14 (bHb c) .nil ⟨e7,d9,e8⟩ fun y=>?_;refine bL e6 fun hy=>?_;have hy1:(gR c.c).1.1=polsL y.at_.list:=(congrArg Prod.fst hy).symm;have hy2:(gR c.c).1.2=y.size.list:=(congrArg Prod.snd hy).symm;obtain⟨hal,hats,hf2,hf0,hf1⟩:=bKm hrc (bEo hcz) (bNq hpz);rw [hy1] at hats;rw [hy2] at hf2 hf0 hf1;have hm:(jH c.c dims).1.mem=(bF y.size.list dims).1+deepGo c.c.steps 0:=by rw [hgo];show(bF (gR c.c).1.2 dims).1+_=_;rw [hy2]
 have hA:(jH c.c dims).1.at_=(polsL y.at_.list).map fun p=>(bF p dims).1:=by rw [hgo];show(gR c.c).1.1.map _=_;rw [hy1]
 have hAl:(jH c.c dims).1.at_.length=y.at_.list.length:=by rw [hA,List.length_map,bW]
 refine g3 ?_;refine i7 mI fun b4=>?_;refine g9 ?_;refine bL (fS d9) fun hxl35=>?_;refine bH func15 (qI y.size DA dcap dims (Nat.le_trans hxl35 l9) hdl) rfl rfl .nil ⟨d9,(Has.of mT9),e8⟩ fun _=>?_;refine g12 ?_;refine bP (t':=false) (bne_eq_false_iff_eq.2 hpz) ?_;refine g3 ?_;refine bP (t':=false) (bne_eq_false_iff_eq.2 hf2) ?_;refine g9 ?_;refine bP (t':=false) (bne_eq_false_iff_eq.2 k7) ?_;refine g6 ?_;refine bP (t':=false) (decide_eq_false (by have:=hlr.2;rw [←hcd] at this;omega)) ?_;refine g6 ?_;refine bP (t':=false) (decide_eq_false k7) ?_;refine g6 ?_;refine bM (z':=(bF y.size.list dims).1+256) (vG rfl k7 k7) ?_;refine one ?_;refine bP (t':=false) (decide_eq_false k7) ?_;refine g16 ?_;refine bZ (ι:=Nat) [(1,_),(5,_),(6,_),(8,_),(74,_)] ⟨rfl,rfl,rfl,rfl,rfl,e8⟩ (fun i=>[(75,.int .i64 (i:Nat))]) (fun _=>[]) (fun i=>[bD.pure (i≤(jH c.c dims).1.at_.length)]) (fun i=>(jH c.c dims).1.at_.length-i) 0 ⟨rfl,e8⟩ .nil ⟨e9 (Nat.zero_le _),e8⟩ ?_;rintro i;refine bL d7 fun hinv10=>?_;refine g6 ?_;refine fP (fun hc76=>?_) fun hc76=>?_
 ·refine g11 ?_;obtain⟨p,hp⟩:=gx y.at_.list i;refine bR (dP p) (Has.each d9 (f4 hp)) ?_;have hpe:=hats p.list (f4 (dB hp));have hz:(jH c.c dims).1.at_[i]?=some (bF p.list dims).1:=by rw [hA];exact map_atG (dB hp)
  refine g4 ?_;refine ss (ixs i) ?_;refine ss (jC hp 0) ?_;refine one ?_;refine bL (fS d7) fun hxl85=>?_;refine bH func15 (qI p DA dcap dims (Nat.le_trans hxl85 l9) hdl) rfl rfl .nil ⟨d7,(Has.of mT11),e8⟩ fun _=>?_;refine g11 ?_;refine bP (t':=false) (bne_eq_false_iff_eq.2 hpe.1) ?_;refine g5 ?_;refine ss (ixs i) ?_;refine ss (i6 hT (dF.knows (bV (Has.of mT6)) (k:=i) (x:=(bF p.list dims).1) hz 0)) ?_;refine one ?_;refine bP (t':=false) m8 ?_;refine g9 ?_;refine inc (i+1) ?_;refine g3 ?_;exact bk2 (i+1) ⟨e9 k7,e8⟩
 refine g15 ?_;refine bZ (ι:=Nat) [(5,_),(6,_),(102,_)] ⟨rfl,rfl,rfl,e8⟩ (fun i=>[(103,.int .i64 (i:Nat))]) (fun _=>[]) (fun i=>[bD.pure (i≤(jH c.c dims).1.code.length)]) (fun i=>(jH c.c dims).1.code.length-i) 0 ⟨rfl,e8⟩ .nil ⟨e9 (Nat.zero_le _),e8⟩ ?_;rintro i;refine bL d7 fun hinv17=>?_;refine g6 ?_;refine fP (fun hc104=>?_) fun hc104=>?_
 ·refine g11 ?_;obtain⟨q,hq⟩:=gx ((jH c.c dims).1.code) i;have hqr:jY q=true:=hlr.1 q (by rw [←hcd];exact List.mem_of_getElem? hq);refine g4 ?_;refine ss (ixs i) ?_;refine ss (lT hq 0) ?_;refine f9 func16 (wD q) .nil e8 fun _=>?_;refine bP (t':=true) hqr ?_;refine g9 ?_;refine inc (i+1) ?_;refine g3 ?_;exact bk2 (i+1) ⟨e9 k7,e8⟩
 refine g12 ?_;exact rs1 () trivial
end Go.Proofs.YtnfiadlonjediaaGreatDoor
