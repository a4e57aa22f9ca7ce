/- Texts of one proof, one behind the other: LexC, Cut, LexD, Num, Spell, Name, LineA. -/
import Derived.Test.YtbgdphbebhjpiaaGreatDoorM2
import Derived.Laws.Slices
import Derived.Lib.ItoaLen
import Derived.Lib.ReplaceLaws
namespace Go.Proofs.YtbgdphbebhjpiaaGreatDoor
open Go.RowKit
theorem number_err{e:Int}(b:UInt8)(r:Bs)(hl:(b::r).length≤65536)(h:gK b r= .error e):dH Tryz.prog 132 [.string (bs (b::r))] [] [iA] (fun _:Unit=> .tuple #[.int .i64 0,.int .i64 0,.int .i64 e]) (fun _=>[]) (fun _=>[]):=by
  have:=wN b r hl;rw [h] at this;exact this
theorem number_none(b:UInt8)(r:Bs)(hl:(b::r).length≤65536)(h:gK b r= .ok none):dH Tryz.prog 132 [.string (bs (b::r))] [] [iA] (fun _:Unit=> .tuple #[.int .i64 0,.int .i64 0,.int .i64 0]) (fun _=>[]) (fun _=>[]):=by
  have:=wN b r hl;rw [h] at this;exact this
theorem number_some{kk v:Int}{ww:Bs}{m:Nat}(b:UInt8)(r:Bs)(hl:(b::r).length≤65536)(h:gK b r= .ok (some (kk,ww,v,m))):dH Tryz.prog 132 [.string (bs (b::r))] [] [iA] (fun _:Unit=> .tuple #[.int .i64 v,.int .i64 (m:Nat),.int .i64 0]) (fun _=>[]) (fun _=>[]):=by
  have:=wN b r hl;rw [h] at this;exact this
theorem wC:(Tryz.prog.info? 104).bind (·.zero)=some (.agg #[.int .i64 0,.int .i64 0,.string (bs []),.int .i64 0]):=by kernel_rfl
theorem tB(z0:Int):Tryz.prog.built 104 [(0,.int .i64 z0)]=some #[.int .i64 z0,.int .i64 0,.string (bs []),.int .i64 0]:=by kernel_rfl
theorem oH:Tryz.prog.built 104 []=some #[.int .i64 0,.int .i64 0,.string (bs []),.int .i64 0]:=by kernel_rfl
theorem mR(z0:Int)(s2:ByteArray):Tryz.prog.built 104 [(0,.int .i64 z0),(2,.string s2)]=some #[.int .i64 z0,.int .i64 0,.string s2,.int .i64 0]:=by kernel_rfl
theorem mT(z0:Int)(z3:Int):Tryz.prog.built 104 [(0,.int .i64 z0),(3,.int .i64 z3)]=some #[.int .i64 z0,.int .i64 0,.string (bs []),.int .i64 z3]:=by kernel_rfl
set_option maxRecDepth 100000 in
theorem bIk(b:UInt8)(r:Bs)(hl:(b::r).length≤65536):dH Tryz.prog 72 [.string (bs (b::r))] [] [iA] (fun(_:Unit)=>vR (fA (b::r))) (fun _=>[]) (fun _=>[]):=by
  have hT:=fH;refine cQ Tryz.func72 rfl Tryz.ntmps72 rfl ?_;intro β hM;refine sr<|cE rfl rfl rfl rfl wC rfl fun b1=>?_;refine sp2 hT ?_;refine nn<|bA<|sr<|sp hT ?_;refine ss (oX hT (k:=0) rfl rfl rfl rfl rfl rfl) ?_;refine sp hT ?_;refine nn<|bH rfl (fun hc11=>?_) (fun hc11=>?_)
  · have hc11:b=10:=bGg (k:=10) (eq_of_beq hc11);refine sr<|ss (bY rfl rfl (tB _)) ?_;refine sto hT .head ?_;refine sp2 hT ?_;refine nn<|bG<|bC ?_;exact mF () rfl (bN hT (bL .head) rfl rfl rfl rfl) (bD rfl) (bD rfl) .nil trivial (by first | exact uP hc11 | exact tJ hc11 hc15 hc19 | exact tR hc11 hc15 hc19 | exact uI hc11 hc15 hnt he | exact uC hc11 hc15 hnt | exact uB hc11 hc15 hnt hc45 | exact uK hc11 hc15 hnt hc45)
  have hc11:b≠10:=bGl (k:=10) (beq_eq_false_iff_ne.1 hc11);refine bK<|bB<|bA<|sr<|sp hT ?_;refine ss (oX hT (k:=0) rfl rfl rfl rfl rfl rfl) ?_;refine bO Tryz.func129 (bDt _) rfl rfl .nil trivial fun _=>?_;refine nn<|bH rfl (fun hc15=>?_) (fun hc15=>?_)
  · refine sr<|sp hT ?_;refine bO Tryz.func70 (zW (b::r) (by omega) _ jG (cS Tryz.func130 rfl rfl) word_spec) rfl rfl .nil trivial fun _=>?_;refine sp hT ?_;refine nn<|bA<|sr<|sp2 hT ?_;refine nn<|bH rfl (fun hc19=>?_) (fun hc19=>?_)
    · have hc19:=of_decide_eq_true hc19;refine sr<|ss (bY rfl rfl (oH)) ?_;refine sto hT .head ?_;refine sp2 hT ?_;refine nn<|bG<|bC<|bC ?_;exact mF () rfl (bN hT (bL .head) rfl rfl rfl rfl) (bD rfl) (bD rfl) .nil trivial (by first | exact uP hc11 | exact tJ hc11 hc15 hc19 | exact tR hc11 hc15 hc19 | exact uI hc11 hc15 hnt he | exact uC hc11 hc15 hnt | exact uB hc11 hc15 hnt hc45 | exact uK hc11 hc15 hnt hc45)
    have hc19:=Int.not_lt.1 (of_decide_eq_false hc19);refine bK<|bB<|sr<|sp2 hT ?_;refine ss (xD hT (k:=(runB jG (b::r))) rfl rfl rfl rfl rfl (iU _ _)) ?_;refine ss (bY rfl rfl (mR _ _)) ?_;refine sp hT ?_;refine sto hT .head ?_;refine sp2 hT ?_;refine nn<|bG<|bC ?_;exact mF () rfl (bN hT (bL .head) rfl rfl rfl rfl) (bD rfl) (bD rfl) .nil trivial (by first | exact uP hc11 | exact tJ hc11 hc15 hc19 | exact tR hc11 hc15 hc19 | exact uI hc11 hc15 hnt he | exact uC hc11 hc15 hnt | exact uB hc11 hc15 hnt hc45 | exact uK hc11 hc15 hnt hc45)
  refine bK<|bB<|bA ?_
  rcases hnt:gK b r with e | _ | ⟨kk,ww,v,m⟩
  · have he:=bHd hnt;refine bE<|sp hT ?_;refine bO Tryz.func132 (number_err b r hl hnt) rfl rfl .nil ⟨Has.of mT0,trivial⟩ fun _=>?_;refine sp4 hT ?_;refine sp3 hT ?_;refine nn<|bA<|sr<|sp2 hT ?_;refine cH (t':=false) (by decide) ?_;refine sp4 hT ?_;refine nn<|bH rfl (fun hc37=>?_) (fun hc37=>?_)
    · have hc37:=bne_iff_ne.1 hc37;refine sr<|sp hT ?_;refine ss (bY rfl rfl (mT _ _)) ?_;refine sp2 hT ?_;refine sto hT .head ?_;refine sp2 hT ?_;refine nn<|bG<|bC ?_;exact mF () rfl (bN hT (bL .head) rfl rfl rfl rfl) (bD rfl) (bD rfl) .nil trivial (by first | exact uP hc11 | exact tJ hc11 hc15 hc19 | exact tR hc11 hc15 hc19 | exact uI hc11 hc15 hnt he | exact uC hc11 hc15 hnt | exact uB hc11 hc15 hnt hc45 | exact uK hc11 hc15 hnt hc45)
    have hc37:=bne_eq_false_iff_eq.1 hc37;omega
  · skip
    refine bE<|sp hT ?_;refine bO Tryz.func132 (number_none b r hl hnt) rfl rfl .nil ⟨Has.of mT0,trivial⟩ fun _=>?_;refine sp4 hT ?_;refine sp3 hT ?_;refine nn<|bA<|sr<|sp2 hT ?_;refine cH (t':=false) (by decide) ?_;refine sp3 hT ?_;refine cH (t':=false) (by decide) ?_;refine sp hT ?_;refine nn<|cN rfl rfl ?_;refine bK<|bB<|bA<|sr<|sp hT ?_;refine bO Tryz.func133 (sign_spec b r) rfl rfl .nil trivial fun _=>?_;refine sp hT ?_;refine nn<|sr<|sp2 hT ?_;refine nn<|bH rfl (fun hc45=>?_) (fun hc45=>?_)
    · have hc45:=eq_of_beq hc45;refine sr<|ss (bY rfl rfl (oH)) ?_;refine sto hT .head ?_;refine sp2 hT ?_;refine nn<|bG<|bC ?_;exact mF () rfl (bN hT (bL .head) rfl rfl rfl rfl) (bD rfl) (bD rfl) .nil trivial (by first | exact uP hc11 | exact tJ hc11 hc15 hc19 | exact tR hc11 hc15 hc19 | exact uI hc11 hc15 hnt he | exact uC hc11 hc15 hnt | exact uB hc11 hc15 hnt hc45 | exact uK hc11 hc15 hnt hc45)
    have hc45:=beq_eq_false_iff_ne.1 hc45;refine bK<|bB<|sr<|sp2 hT ?_;refine ss (xD hT (k:=(signP (b::r))) rfl rfl rfl rfl rfl (signP_le _)) ?_;refine ss (bY rfl rfl (mR _ _)) ?_;refine sp hT ?_;refine sto hT .head ?_;refine sp2 hT ?_;refine nn<|bG ?_;exact mF () rfl (bN hT (bL .head) rfl rfl rfl rfl) (bD rfl) (bD rfl) .nil trivial (by first | exact uP hc11 | exact tJ hc11 hc15 hc19 | exact tR hc11 hc15 hc19 | exact uI hc11 hc15 hnt he | exact uC hc11 hc15 hnt | exact uB hc11 hc15 hnt hc45 | exact uK hc11 hc15 hnt hc45)
  have hm:=bGt hnt;dsimp only at hm;refine bE<|sp hT ?_;refine bO Tryz.func132 (number_some b r hl hnt) rfl rfl .nil ⟨Has.of mT0,trivial⟩ fun _=>?_;refine sp4 hT ?_;refine sp3 hT ?_;refine nn<|bA<|sr<|sp3 hT ?_;refine cF (fun hg34=>?_) (fun hg34=>?_)
  · have hg34:=of_decide_eq_true hg34;refine sk2 ?_;refine sp hT ?_;refine nn<|cI rfl rfl ?_;refine sr<|sp hT ?_;refine ss (bY rfl rfl (mT _ _)) ?_;refine sp2 hT ?_;refine sto hT .head ?_;refine sp2 hT ?_;refine nn<|bG<|bC ?_;exact mF () rfl (bN hT (bL .head) rfl rfl rfl rfl) (bD rfl) (bD rfl) .nil trivial (by first | exact uP hc11 | exact tJ hc11 hc15 hc19 | exact tR hc11 hc15 hc19 | exact uI hc11 hc15 hnt he | exact uC hc11 hc15 hnt | exact uB hc11 hc15 hnt hc45 | exact uK hc11 hc15 hnt hc45)
  have hg34:=Int.not_lt.1 (of_decide_eq_false hg34);omega
theorem token_err{e:Int}(b:UInt8)(r:Bs)(hl:(b::r).length≤65536)(h:fA (b::r)= .error e):dH Tryz.prog 72 [.string (bs (b::r))] [] [iA] (fun _:Unit=> .tuple #[.agg #[.int .i64 (if e=32 then 2 else 0),.int .i64 0,.string (bs []),.int .i64 0],.int .i64 0,.int .i64 e]) (fun _=>[]) (fun _=>[]):=by
  have:=bIk b r hl;rw [h] at this;exact this
theorem token_ok{k v:Int}{wd:Bs}{m:Nat}(b:UInt8)(r:Bs)(hl:(b::r).length≤65536)(h:fA (b::r)= .ok (k,wd,v,m)):dH Tryz.prog 72 [.string (bs (b::r))] [] [iA] (fun _:Unit=> .tuple #[.agg #[.int .i64 k,.int .i64 0,.string (bs wd),.int .i64 v],.int .i64 (m:Nat),.int .i64 0]) (fun _=>[]) (fun _=>[]):=by
  have:=bIk b r hl;rw [h] at this;exact this
end Go.Proofs.YtbgdphbebhjpiaaGreatDoor
namespace Go.Proofs.YtbgdphbebhjpiaaGreatDoor
open Go.RowKit
section
variable {P : Program} {β : fG} {n : Nat} {Γ : Env} {H : List bW} {F : List Fact} {Q : Exit → Act → World → Prop} {K : Act → World → Prop} {T : Tab} {α : Type} {E : Flat α}
theorem bEx{t e:Nat}(hu:P.underlying t=some (.slice e)):P.elem t=e:=by simp [Program.elem,hu]
theorem bLm(hT:gA P T){t e sz:Nat}{ei:TI}(ht:T.get t=some ⟨.slice e,sz⟩)(he:T.get e=some ei){A:Option Addr}{l c k:Nat}(hk:k≤c)(kk:IntKind)(w:World):(Instr.sliceAt t (.slice A l c) none (some (.int kk (k:Nat))) none).run P w= .ok (.slice A k c) w:=by
  obtain⟨d,hu,hd⟩:=hT.any ht;cases d<;>simp [TD.of] at hd
  subst hd;have hel:=bEx hu;rw [run_sliceAt_slice w t _ _ _ _ (by rw [hel];exact hu),run_slice_h w t A l c (by rw [hel];exact hu) kk (k:Int) (by omega) (by omega),hel,hT.size he];simp only [Result.andThen_ok,sliced,Int.toNat_natCast,Nat.zero_mul,Nat.sub_zero]
  congr 2
  split
  · rfl
  · cases A<;>simp [Addr.add]
theorem run_cutFrom(hT:gA P T){t e sz:Nat}{ei:TI}(ht:T.get t=some ⟨.slice e,sz⟩)(he:T.get e=some ei){A:Option Addr}{l c k:Nat}(hk:k≤l)(kk:IntKind)(w:World):(Instr.sliceAt t (.slice A l c) (some (.int kk (k:Nat))) none none).run P w= .ok (.slice (jP A k ei.size c) (l-k) (c-k)) w:=by
  obtain⟨d,hu,hd⟩:=hT.any ht;cases d<;>simp [TD.of] at hd
  subst hd;have hel:=bEx hu;rw [run_sliceAt_slice w t _ _ _ _ (by rw [hel];exact hu),run_slice_l w t A l c (by rw [hel];exact hu) kk (k:Int) (by omega) (by omega),hel,hT.size he];simp only [Result.andThen_ok,sliced,Int.toNat_natCast,jP]
theorem jR{ops:Array Oper}{rest:List Oper}{o:Oper}(hT:gA P T){d t e sz k m cap:Nat}{ei:TI}{x i:Operand}{kk:IntKind}{z:Int}{A:Option Addr}{xs:List α}{H':List bW}(hH:dM H (E.row (.slice A m cap) e xs) H')(hw:want ops Γ o=some true)(ho:o.op= .slice t x none (some i) none)(hd:o.dst=some d)(hn:Nat.blt d n=true)
    (hx:Γ.ev x=some (.slice A m cap)) (hi:Γ.ev i=some (.int kk z)) (ht:T.get t=some ⟨.slice e,sz⟩) (he:T.get e=some ei) (hz:z=(k:Nat)) (hk:k≤xs.length)
    (K:At β n ((d,.slice A (xs.take k).length cap)::Γ) (E.row (.slice A (xs.take k).length cap) e (xs.take k)::H') F (wpList P ops Q rest)):At β n Γ H F (wpList P ops Q (o::rest)):=
  iM hw fun a w S f s hF=>by
    subst hz;have hown:w.ownsRow 0 e E.size (.slice A m cap) xs.length (E.all xs):=s.ok _ hH.mem
    have hkc:k≤cap∧(xs.take k).length=k∧w.ownsRow 0 e E.size (.slice A (xs.take k).length cap) (xs.take k).length (E.all (xs.take k)):=by
      have hl:(xs.take k).length=k:=by simp;omega
      have hall:E.all (xs.take k)=(E.all xs).take (k*E.size):=by
        have:=E.all_append (xs.take k) (xs.drop k);rw [List.take_append_drop] at this;rw [this,List.take_left' (by rw [E.all_length,hl])]
      rcases hown.2 with ⟨e1,e0⟩ | ⟨g,cap',cur,e1,h1,h2,h3,h4,h5,h6⟩
      · injection e1 with e1 e2 e3
        subst e1 e3;have:xs=[]:=List.eq_nil_of_length_eq_zero e0;subst this;have hk0:k=0:=by simpa using hk
        subst hk0;exact⟨Nat.le_refl _,hl,⟨by simp [Flat.all],.inl ⟨rfl,rfl⟩⟩⟩
      · injection e1 with e1 e2 e3
        subst e1 e3;refine⟨by omega,hl,⟨by rw [E.all_length],.inr ⟨g,cap,cur,rfl,h1,h2,by omega,h4,h5,?_⟩⟩⟩;rw [hall,hl,←h6,List.take_take]
        congr 1
        exact(Nat.min_eq_left (Nat.mul_le_mul_right _ hk)).symm
    have hr:(execOp a.eval o).run P w= .ok (.value (.slice A (xs.take k).length cap)) w:=by
      unfold execOp;simp only [ho,f.ev hx,Option.map_some,Option.map_none,f.ev hi];rw [Sem.run_bind,bLm hT ht he hkc.1,hkc.2.1];rfl
    unfold Oper.wp;rw [hr,Oper.upon_value,hd];have s2:=s.perm hH.perm;have s3:=s2.swap_row (v':= .slice A (xs.take k).length cap) (w':=w) (nL.refl _ _) (.inl (by cases A<;>rfl)) hkc.2.2;exact K _ _ S (f.put (by simpa [Nat.blt_eq] using hn) _) s3 hF
theorem iV{b:Nat}{cs:List Value}{t:TypeId}{H':List bW}(hH:dM H (.obj b (.cells cs.toArray t)) H')(h:At β n Γ H' (Fact.cells b 0 cs::F) K):At β n Γ H F K:=fun a w S f s k=>by
  have s2:=s.perm hH.perm;have hok:w.heap[b]?=some (.cells cs.toArray t):=s2.ok _ (List.mem_cons_self ..);have hsep:=List.pairwise_cons.1 s2.sep;have hown:=s2.own _ (List.mem_cons_self ..);have hmono:All F (fun x=>S x∨x=b) w:=All.mono (fun _ h=> .inl h) (fun _ _=>rfl) k;refine h a w (fun x=>S x∨x=b) f ⟨s2.kept,fun c hc=>s2.ok c (List.mem_cons_of_mem _ hc),fun c hc x hx=>?_,hsep.2,fun x hx=>?_⟩ (All.cons ?_ hmono)
  · obtain⟨h1,h2,h3⟩:=s2.own c (List.mem_cons_of_mem _ hc) x hx;refine⟨h1,h2,fun h=>?_⟩
    rcases h with h | h
    · exact h3 h
    · subst h;exact hsep.1 c hc _ rfl hx
  · rcases hx with hx | hx
    · exact s2.zone x hx
    · subst hx;obtain⟨h1,h2,_⟩:=hown _ rfl;exact⟨h1,.inr h2⟩
  · refine⟨.inr rfl,fun j u hj=>?_⟩;unfold World.cell?;rw [hok]
    simpa using hj
theorem sti_fn{o:Oper}{x:Operand}{t tt:TypeId}{ps rs:Array TypeId}{vr:Bool}(hu:P.underlying t=some (.func ps rs vr)){fn:Fn}{a b:Array Value}(ho:o.op= .binOp .neq t x (.const .nilFunc) tt)(hx:Γ.ev x=some (.func fn a b)):Sti P β n Γ H F o (.bool true):=fun c w S f s k=>by
  unfold execOp;have e:c.eval (.const .nilFunc)= .nilFunc:=rfl;have he: ∀d,(Op.equalIn (d+1) t (.func fn a b) .nilFunc).run P w= .ok false w:=fun d=>by simp [Op.equalIn,run_underlying hu]
  have hb:(binOp .neq t (.func fn a b) .nilFunc).run P w= .ok (.bool true) w:=by
    simp only [binOp];rw [Sem.run_bind,show Op.equal t (.func fn a b) .nilFunc=Op.equalIn 10000 t (.func fn a b) .nilFunc from rfl,he 9999];rfl
  have hg:(eqGuard .neq t x (.const .nilFunc) (.func fn a b) .nilFunc).run P w= .ok () w:=rfl;simp only [ho,f.ev hx,e];rw [Sem.run_bind,Sem.run_bind,hg,Result.andThen_ok,hb];rfl
theorem sti_nofn{o:Oper}{x:Operand}{t tt:TypeId}{ps rs:Array TypeId}{vr:Bool}(hu:P.underlying t=some (.func ps rs vr))(ho:o.op= .binOp .neq t x (.const .nilFunc) tt)(hx:Γ.ev x=some .nilFunc):Sti P β n Γ H F o (.bool false):=fun c w S f s k=>by
  unfold execOp;have e:c.eval (.const .nilFunc)= .nilFunc:=rfl;have he: ∀d,(Op.equalIn (d+1) t .nilFunc .nilFunc).run P w= .ok true w:=fun d=>by simp [Op.equalIn,run_underlying hu]
  have hb:(binOp .neq t .nilFunc .nilFunc).run P w= .ok (.bool false) w:=by
    simp only [binOp];rw [Sem.run_bind,show Op.equal t .nilFunc .nilFunc=Op.equalIn 10000 t .nilFunc .nilFunc from rfl,he 9999];rfl
  have hg:(eqGuard .neq t x (.const .nilFunc) .nilFunc .nilFunc).run P w= .ok () w:=rfl;simp only [ho,f.ev hx,e];rw [Sem.run_bind,Sem.run_bind,hg,Result.andThen_ok,hb];rfl
theorem Has.cons{f g:Fact}{F:List Fact}(h:Has F g):Has (f::F) g:=fun S w k=>h S w fun x hx=>k x (List.mem_cons_of_mem _ hx)
theorem Has.each_nil{α:Type}{g:α→Fact}{F:List Fact}:Has F (Fact.each [] g):=fun _ _ _ x hx=>by simp at hx
theorem Has.each_cons{α:Type}{g:α→Fact}{F:List Fact}{x:α}{l:List α}(hx:Has F (g x))(hl:Has F (Fact.each l g)):Has F (Fact.each (x::l) g):=fun S w k y hy=>by
  rcases List.mem_cons.1 hy with rfl | hy
  · exact hx S w k
  · exact hl S w k y hy
theorem Has.each_tail{α:Type}{g:α→Fact}{F:List Fact}{x:α}{l:List α}(h:Has F (Fact.each (x::l) g)):Has F (Fact.each l g):=fun S w k y hy=>h S w k y (List.mem_cons_of_mem _ hy)
theorem Has.each_snoc{α:Type}{g:α→Fact}{F:List Fact}{x:α}{l:List α}(hl:Has F (Fact.each l g))(hx:Has F (g x)):Has F (Fact.each (l++[x]) g):=fun S w k y hy=>by
  rcases List.mem_append.1 hy with hy | hy
  · exact hl S w k y hy
  · rw [List.mem_singleton.1 hy];exact hx S w k
theorem qR(hT:gA P T){o:Oper}{t e sz k l cap:Nat}{ei:TI}{x i:Operand}{kk:IntKind}{z:Int}{A:Option Addr}(ho:o.op= .slice t x none (some i) none)(hx:Γ.ev x=some (.slice A l cap))(hi:Γ.ev i=some (.int kk z))
    (ht:T.get t=some ⟨.slice e,sz⟩) (he:T.get e=some ei) (hz:z=(k:Nat)) (hk:k≤cap):Sti P β n Γ H F o (.slice A k cap):=fun a w S f s hF=>by
  subst hz;unfold execOp;simp only [ho,f.ev hx,Option.map_some,Option.map_none,f.ev hi];rw [Sem.run_bind,bLm hT ht he hk];rfl
theorem gN(hT:gA P T){o:Oper}{t e sz k l cap:Nat}{ei:TI}{x i:Operand}{kk:IntKind}{z:Int}{A:Option Addr}(ho:o.op= .slice t x (some i) none none)(hx:Γ.ev x=some (.slice A l cap))(hi:Γ.ev i=some (.int kk z))
    (ht:T.get t=some ⟨.slice e,sz⟩) (he:T.get e=some ei) (hz:z=(k:Nat)) (hk:k≤l):Sti P β n Γ H F o (.slice (jP A k ei.size cap) (l-k) (cap-k)):=fun a w S f s hF=>by
  subst hz;unfold execOp;simp only [ho,f.ev hx,Option.map_some,Option.map_none,f.ev hi];rw [Sem.run_bind,run_cutFrom hT ht he hk];rfl
theorem kG{A:Option Addr}{l c k:Nat}{xs:List α}(h:Has F (E.sl (.slice A l c) xs))(hk:k≤xs.length):Has F (E.sl (.slice A k c) (xs.take k)):=fun S w q=>by
  obtain⟨A',c',e,h⟩:=h S w q;injection e with e1 e2 e3
  subst e1 e3;refine⟨A,c,by rw [List.length_take,Nat.min_eq_left hk],fun j x hj=>?_⟩;rw [List.getElem?_take] at hj;split at hj
  · exact h j x hj
  · cases hj
theorem lS{A:Option Addr}{l c k:Nat}{xs:List α}(h:Has F (E.sl (.slice A l c) xs))(hc:l≤c)(hk:k≤xs.length):Has F (E.sl (.slice (jP A k E.size c) (l-k) (c-k)) (xs.drop k)):=fun S w q=>by
  obtain⟨A',c',e,h⟩:=h S w q;injection e with e1 e2 e3
  subst e1 e3;refine⟨jP A k E.size c,c-k,by rw [List.length_drop,e2],fun j x hj=>?_⟩;rw [List.getElem?_drop] at hj;obtain⟨b,o,cs,q1,q2,q3,q4⟩:=h _ x hj;have hlt:=(List.getElem?_eq_some_iff.1 hj).1;refine⟨b,o+k*E.size,cs,?_,q2,fun i u hi=>?_,q4⟩
  · unfold jP;rw [if_neg (by omega),q1];show some ((⟨b,o,none⟩:Addr).add (k*E.size))=_;rw [Addr.add_mid]
  · have:=q3 i u hi
    have e:o+k*E.size+j*(Enc.flat E.size E.cells).size+i=o+(k+j)*(Enc.flat E.size E.cells).size+i:=by
      show o+k*E.size+j*E.size+i=o+(k+j)*E.size+i;rw [Nat.add_mul];omega
    rw [e];exact this
theorem fC{A:Option Addr}{t:TypeId}{m cap:Nat}{xs:List α}{H':List bW}(hH:dM H (E.row (.slice A m cap) t xs) H')(h:xs.length≤cap→At β n Γ H F K):At β n Γ H F K:=fun a w S f s k=>by
  have hown:w.ownsRow 0 t E.size (.slice A m cap) xs.length (E.all xs):=s.ok _ hH.mem;refine h ?_ a w S f s k
  rcases hown.2 with ⟨_,e0⟩ | ⟨g,cap',cur,e1,h1,h2,h3,_⟩
  · omega
  · injection e1 with e1 e2 e3
    subst e3;omega
end
end Go.Proofs.YtbgdphbebhjpiaaGreatDoor
namespace Go.Proofs.YtbgdphbebhjpiaaGreatDoor
open Go.RowKit
section
variable {text : Bs} {i : Nat} {b : UInt8} {r : Bs} {out : List TokV}
theorem lex_start(h:text.length≤65536):lexGo (text.drop 0).length 0 (text.drop 0) []=lexP text:=by
  unfold lexP;rw [if_neg (by omega)];rfl
theorem lex_long(h:(65536:Int)<((text.length:Nat):Int)):lexP text=([],(0,30)):=by
  unfold lexP;rw [if_pos (by omega)]
theorem lex_end(h:text.length≤i)(hi:lexGo (text.drop i).length i (text.drop i) out=lexP text):lexP text=(out,(0,0)):=by
  rw [List.drop_of_length_le h] at hi;rw [←hi];rfl
variable (hbr : text.drop i = b :: r) (hi : lexGo (text.drop i).length i (text.drop i) out = lexP text)
include hbr hi
theorem bMu(hb:iS b=true):lexGo (text.drop (i+1)).length (i+1) (text.drop (i+1)) out=lexP text:=by
  have e:text.drop (i+1)=r:=by rw [←List.drop_drop,hbr];rfl
  rw [hbr,iR,if_pos hb] at hi;rw [e];exact hi
theorem lex_note(hb:iS b=false)(hn:(b==35)=true):lexGo (text.drop (i+runB (· !=10) (b::r))).length (i+runB (· !=10) (b::r)) (text.drop (i+runB (· !=10) (b::r))) out=lexP text:=by
  have e:text.drop (i+runB (· !=10) (b::r))=(b::r).drop (runB (· !=10) (b::r)):=by rw [←List.drop_drop,hbr]
  rw [hbr,iR,hb,if_neg (by simp),if_pos hn] at hi;rw [e];exact hi
theorem lex_tok{k v:Int}{wd:Bs}{m:Nat}(hb:iS b=false)(hn:(b==35)=false)(ht:fA (b::r)= .ok (k,wd,v,m)):lexGo (text.drop (i+m)).length (i+m) (text.drop (i+m)) (out++[⟨k,i,wd,v⟩])=lexP text:=by
  have e:text.drop (i+m)=(b::r).drop m:=by rw [←List.drop_drop,hbr]
  rw [hbr,iR,hb,if_neg (by simp),hn,if_neg (by simp),ht] at hi;rw [e];exact hi
theorem lex_err{e:Int}(hb:iS b=false)(hn:(b==35)=false)(ht:fA (b::r)= .error e):lexP text=([],((i:Int),e)):=by
  rw [hbr,iR,hb,if_neg (by simp),hn,if_neg (by simp),ht] at hi;exact hi.symm
end
theorem bAs{s:Bs}{e:Int}(h:fA s= .error e):e≠0:=by
  cases s with
  | nil=>cases h;decide
  | cons b r=>
    simp only [fA] at h;split at h
    · cases h
    · split at h
      · split at h
        · cases h;decide
        · cases h
      · split at h
        · rename_i e' he;cases h;rw [bHd he];decide
        · cases h
        · split at h
          · cases h;decide
          · cases h
theorem dO{α:Type}{E:Flat α}{F:List Fact}:Has F (E.sl (.slice none 0 0) []):=fun _ _ _=>⟨none,0,rfl,fun k x hk=>by simp at hk⟩
theorem yC:(Tryz.prog.info? 36).bind (·.zero)=some (.agg #[.int .i64 0,.int .i64 0]):=by kernel_rfl
theorem uZ(z1:Int):Tryz.prog.built 36 [(1,.int .i64 z1)]=some #[.int .i64 0,.int .i64 z1]:=by kernel_rfl
theorem tZ(z0:Int)(z1:Int):Tryz.prog.built 36 [(0,.int .i64 z0),(1,.int .i64 z1)]=some #[.int .i64 z0,.int .i64 z1]:=by kernel_rfl
theorem vU:Tryz.prog.built 36 []=some #[.int .i64 0,.int .i64 0]:=by kernel_rfl
set_option maxRecDepth 100000 in
theorem bGf(text:Bs)(hs:text.length≤140737488355328):dH Tryz.prog 37 [.string (bs text)] [] [iA] (fun(x:Option Addr×Nat)=> .tuple #[.slice x.1 (lexP text).1.length x.2,.agg #[.int .i64 (lexP text).2.1,.int .i64 (lexP text).2.2]]) (fun _=>[]) (fun(x:Option Addr×Nat)=>[lC.sl (.slice x.1 (lexP text).1.length x.2) (lexP text).1,Fact.pure ((lexP text).1.length≤x.2)]):=by
  have hT:=fH;refine cQ Tryz.func37 rfl Tryz.ntmps37 rfl ?_;intro β hM;refine sr<|sp hT ?_;refine cE rfl rfl rfl rfl yC rfl fun b1=>?_;refine nn<|at_scope ?_;refine bA<|sr<|sp2 hT ?_;refine bP (z':=((text.length:Nat):Int)) rfl ?_;refine sp hT ?_;refine nn<|bH rfl (fun hc13=>?_) (fun hc13=>?_)
  · have hc13:=of_decide_eq_true hc13;refine sr<|ss (bY rfl rfl (uZ _)) ?_;refine sp hT ?_;refine sto hT .head ?_;refine nn<|bG<|bC<|r_scope ?_;have he:=lex_long hc13;rw [he];exact bM (none,0) rfl (bD rfl) (bN hT (bL .head) rfl rfl rfl rfl) .nil ⟨dO,Has.pure (Nat.le_refl 0),trivial⟩ rfl
  have hc13:=Int.not_lt.1 (of_decide_eq_false hc13);refine bK<|bB<|sr<|sp hT ?_;refine nn<|bA<|dQ (t:=104) lC ?_;refine bE<|sp hT ?_;refine nn<|bA<|at_label ?_;refine bB<|bA<|bT<|dD (ι:=Nat×List TokV×Option Addr×Nat) [(0,_),(3,_)] ⟨rfl,rfl,trivial⟩ (fun⟨i,out,C,e⟩=>[(4,.slice C out.length e),(5,.int .i64 (i:Nat))]) (fun⟨i,out,C,e⟩=>[lC.row (.slice C out.length e) 104 out]) (fun⟨i,out,C,e⟩=>[Fact.pure (i≤text.length∧lexGo (text.drop i).length i (text.drop i) out=lexP text∧out.length≤i)]) (fun⟨i,out,C,e⟩=>text.length-i) (0,[],none,0) ⟨rfl,rfl,trivial⟩ (.cons .head .nil) ⟨Has.pure (⟨by omega,lex_start (by omega),by simp⟩),trivial⟩ ?_;rintro⟨i,out,C,e⟩;dsimp only;refine cD (Has.of mT0) fun hinv5=>?_;refine bA<|sr<|sp3 hT ?_;refine bP (z':=((text.length:Nat):Int)) rfl ?_;refine sp hT ?_;refine nn<|bH rfl (fun hc18=>?_) (fun hc18=>?_)
  · have hc18:=of_decide_eq_true hc18;refine bK<|bB<|bT<|sr<|sp2 hT ?_;refine ss (bLz hT (k:=i) rfl rfl rfl rfl rfl (by omega)) ?_
    obtain⟨b,r,hbr⟩: ∃b r,text.drop i=b::r:=⟨_,_,List.drop_eq_getElem_cons (by omega)⟩
    have hbl:(b::r).length≤65536:=by rw [←hbr];simp;omega
    have hbi:i+(b::r).length=text.length:=by rw [←hbr];simp;omega
    refine vE (congrArg (fun l:Bs=>Value.string (bs l)) hbr) ?_;refine sp hT ?_;refine nn<|bA<|sr<|sp hT ?_;refine ss (oX hT (k:=0) rfl rfl rfl rfl rfl rfl) ?_;refine sp hT ?_;refine nn<|bT<|sr<|sp3 hT ?_;refine cF (fun hg27=>?_) (fun hg27=>?_)
    · have hg27:b=32:=bGg (k:=32) (eq_of_beq hg27);refine sk2 ?_;refine sp2 hT ?_;refine nn<|cI rfl rfl ?_;refine sr<|sp2 hT ?_;refine bP (z':=(((i+1):Nat):Int)) (cL (by omega) (by omega)) ?_;refine sp hT ?_;refine nn<|cW<|bJd rfl ?_;refine cM<|cX<|bB ?_;exact cP (i+1,_,_,_) (by dsimp only;omega) ⟨rfl,rfl,trivial⟩ ⟨rfl,rfl,trivial⟩ (.cons .head (.cons .head .nil)) ⟨Has.pure (⟨by omega,bMu hbr hinv5.2.1 (by simp [iS, *]),by dsimp only;omega⟩),trivial⟩ (bF.drop 1)
    have hg27:b≠32:=bGl (k:=32) (beq_eq_false_iff_ne.1 hg27);refine sp4 hT ?_;refine nn<|bH rfl (fun hc24=>?_) (fun hc24=>?_)
    · have hc24:b=9:=bGg (k:=9) (eq_of_beq hc24);refine sr<|sp2 hT ?_;refine bP (z':=(((i+1):Nat):Int)) (cL (by omega) (by omega)) ?_;refine sp hT ?_;refine nn<|cW<|bJd rfl ?_;refine cM<|cX<|bB ?_;exact cP (i+1,_,_,_) (by dsimp only;omega) ⟨rfl,rfl,trivial⟩ ⟨rfl,rfl,trivial⟩ (.cons .head (.cons .head .nil)) ⟨Has.pure (⟨by omega,bMu hbr hinv5.2.1 (by simp [iS, *]),by dsimp only;omega⟩),trivial⟩ (bF.drop 1)
    have hc24:b≠9:=bGl (k:=9) (beq_eq_false_iff_ne.1 hc24);refine sr<|sp3 hT ?_;refine nn<|bH rfl (fun hc33=>?_) (fun hc33=>?_)
    · have hc33:b=35:=bGg (k:=35) (eq_of_beq hc33);refine bA ?_;have hnl:=iU (· !=10) (b::r);refine bE<|sp2 hT ?_;refine bO Tryz.func70 (zW (b::r) (by omega) _ (· !=10) (cS Tryz.func71 rfl rfl) line_spec) rfl rfl .nil trivial fun _=>?_;refine sp hT ?_;refine bP (z':=(((i+(runB (· !=10) (b::r))):Nat):Int)) (cL (by omega) (by omega)) ?_;refine sp hT ?_;refine nn<|cW<|bJd rfl ?_;refine cM<|cX<|bB ?_;exact cP (i+runB (· !=10) (b::r),_,_,_) (by dsimp only;have:=bAj (p:=(· !=10)) (b:=b) (r:=r) (by simp [*]);omega) ⟨rfl,rfl,trivial⟩ ⟨rfl,rfl,trivial⟩ (.cons .head (.cons .head .nil)) ⟨Has.pure (⟨by have:=iU (· !=10) (b::r);omega,lex_note hbr hinv5.2.1 (by simp [iS, *]) (by simp [*]),by dsimp only;omega⟩),trivial⟩ (bF.drop 1)
    have hc33:b≠35:=bGl (k:=35) (beq_eq_false_iff_ne.1 hc33);refine bK<|cA<|bB<|bA ?_
    rcases ht:fA (b::r) with e | ⟨k,wd,v,m⟩
    · skip
      refine bE<|sp hT ?_;refine bO Tryz.func72 (token_err b r hbl ht) rfl rfl .nil ⟨Has.of mT1,trivial⟩ fun _=>?_;refine sp4 hT ?_;refine cE rfl rfl rfl rfl wC rfl fun b2=>?_;refine sto hT .head ?_;refine sp2 hT ?_;refine nn<|bA<|sr<|sp2 hT ?_;refine nn<|bH rfl (fun hc47=>?_) (fun hc47=>?_)
      · have hc47:=bne_iff_ne.1 hc47;refine sr<|sp2 hT ?_;refine ss (bY rfl rfl (tZ _ _)) ?_;refine sp hT ?_;refine sto hT kT2 ?_;refine nn<|bG<|bC<|bI<|bC<|bI<|bC<|r_scope ?_;have he:=lex_err hbr hinv5.2.1 (by simp [iS, *]) (by simp [*]) ht;rw [he];exact bM (none,0) rfl (bD rfl) (bN hT (bL .head) rfl rfl rfl rfl) .nil ⟨dO,Has.pure (Nat.le_refl 0),trivial⟩ rfl
      have hc47:=bne_eq_false_iff_eq.1 hc47;exact absurd hc47 (bAs ht)
    have hm:=pE ht;dsimp only at hm;refine bE<|sp hT ?_;refine bO Tryz.func72 (token_ok b r hbl ht) rfl rfl .nil ⟨Has.of mT1,trivial⟩ fun _=>?_;refine sp4 hT ?_;refine cE rfl rfl rfl rfl wC rfl fun b3=>?_;refine sto hT .head ?_;refine sp2 hT ?_;refine nn<|bA<|sr<|sp2 hT ?_;refine cH (t':=false) (by decide) ?_;refine nn<|cN rfl rfl ?_;refine bK<|bB<|sr<|sp2 hT ?_;refine sto hT .head ?_;refine nn<|sr<|sp hT ?_;refine ss (ldN hT (bL .head)) ?_;refine at_one_tok (m:=⟨_,_,_,_⟩) rfl rfl rfl rfl rfl fun b4=>?_;refine at_app_tok kT2 (dF .head rfl) rfl rfl rfl rfl rfl rfl rfl (by simp only [List.length_singleton];omega) fun A5 c6=>?_;refine sp hT ?_;refine nn<|bE<|sp3 hT ?_;refine bP (z':=(((i+m):Nat):Int)) (cL (by omega) (by omega)) ?_;refine sp hT ?_;refine dU<|cA<|bB ?_;exact cP (i+m,_,_,_) (by dsimp only;omega) ⟨rfl,rfl,trivial⟩ ⟨rfl,rfl,trivial⟩ (.cons .head (.cons kT2 .nil)) ⟨Has.pure (⟨by omega,lex_tok hbr hinv5.2.1 (by simp [iS, *]) (by simp [*]) ht,by simp;omega⟩),trivial⟩ (bF.drop 1)
  have hc18:=Int.not_lt.1 (of_decide_eq_false hc18);refine cW<|cM<|cM<|cX<|bB<|sr<|sp hT ?_;refine ss (bY rfl rfl (vU)) ?_;refine sp hT ?_;refine sto hT kT1 ?_;refine nn<|bG<|r_scope ?_;have he:lexP text=(out,(0,0)):=lex_end (by omega) hinv5.2.1;rw [he];refine fC kT1 fun hcap=>?_;refine bX kT1 ?_;exact bM (C,e) rfl (bD rfl) (bN hT (bL .head) rfl rfl rfl rfl) .nil ⟨Has.of mT0,Has.pure hcap,trivial⟩ rfl
end Go.Proofs.YtbgdphbebhjpiaaGreatDoor
namespace Go.Proofs.YtbgdphbebhjpiaaGreatDoor
open Go.RowKit Go.Sort
def fS (n:Int):Bs:=(if n<0 then [95] else [])++Lib.decDigits n.natAbs
theorem wT{k:Nat}(h:k<10):dG (UInt8.ofNat (48+k))=true∧(UInt8.ofNat (48+k)).toNat=48+k:=by
  have e:(UInt8.ofNat (48+k)).toNat=48+k:=by rw [UInt8.toNat_ofNat'];omega
  refine⟨?_,e⟩;unfold dG;rw [e];simp;omega
theorem mY(u:Nat): ∀b∈Lib.decDigits u,dG b=true:=by
  induction u using Nat.strongRecOn with
  | _ u ih=>
    intro b hb;rw [Lib.decDigits] at hb;split at hb
    · rename_i h;rw [List.mem_singleton.1 hb];exact(wT h).1
    · rename_i h
      rcases List.mem_append.1 hb with hb | hb
      · exact ih (u/10) (by omega) b hb
      · rw [List.mem_singleton.1 hb];exact(wT (Nat.mod_lt _ (by omega))).1
theorem qO(u:Nat):Lib.decDigits u≠[]:=by
  rw [Lib.decDigits];split<;>simp
theorem bLq(d:UInt8): ∀(a:Bs) (acc:Nat),decV (a++[d]) acc=10*decV a acc+(d.toNat-48)
  | [],acc=>rfl
  | b::a,acc=>by
    show decV (a++[d]) _=_;rw [bLq d a];rfl
theorem bDq(u:Nat):decV (Lib.decDigits u) 0=u:=by
  induction u using Nat.strongRecOn with
  | _ u ih=>
    rw [Lib.decDigits];split
    · rename_i h;show 10*0+((UInt8.ofNat (48+u)).toNat-48)=u;rw [(wT h).2];omega
    · rename_i h;rw [bLq,ih (u/10) (by omega),(wT (Nat.mod_lt _ (by omega))).2];omega
theorem bHy{p:UInt8→Bool}: ∀s:Bs,(∀b∈s,p b=true)→runB p s=s.length
  | [],_=>rfl
  | b::s,h=>by
    rw [runB,if_pos (h b (by simp)),bHy s fun x hx=>h x (by simp [hx])];rfl
theorem kO{b:UInt8}(h:dG b=true):b≠10∧jY b=false∧b≠95∧b≠45∧b≠35∧iS b=false∧Lib.isSp b=false∧b.toNat<128:=by
  simp only [dG,Bool.and_eq_true,decide_eq_true_eq] at h;have key: ∀k:Fin 10,(UInt8.ofNat (48+k.val)≠10∧jY (UInt8.ofNat (48+k.val))=false∧UInt8.ofNat (48+k.val)≠95∧UInt8.ofNat (48+k.val)≠45∧UInt8.ofNat (48+k.val)≠35∧iS (UInt8.ofNat (48+k.val))=false∧Lib.isSp (UInt8.ofNat (48+k.val))=false∧(UInt8.ofNat (48+k.val)).toNat<128):=by decide+kernel
  have hb:b=UInt8.ofNat (48+(b.toNat-48)):=by
    rw [show 48+(b.toNat-48)=b.toNat from by omega];simp
  have:=key ⟨b.toNat-48,by omega⟩;rw [hb];exact this
theorem oV{n:Int}(h0: -9223372036854775808≤n)(h1:n≤9223372036854775807):(fS n).length≤21:=by
  have h:=Lib.nDigits_le20 n.natAbs (by omega);have:=Lib.decDigits_length n.natAbs;unfold fS;split<;>simp<;>omega
theorem numTok_spell{n:Int}(h0: -9223372036854775808≤n)(h1:n≤9223372036854775807){b:UInt8}{r:Bs}(h:fS n=b::r):gK b r= .ok (some (2,[],n,(b::r).length)):=by
  unfold fS at h;have hd:=mY n.natAbs;have hr:=bHy _ hd;have hv:=bDq n.natAbs;have hne:=qO n.natAbs;split at h
  · rename_i hn;simp only [List.singleton_append,List.cons.injEq] at h;obtain⟨rfl,rfl⟩:=h;have hk: ¬(Lib.decDigits n.natAbs).length=0:=fun e=>hne (List.eq_nil_of_length_eq_zero e)
    have hp:pP true (Lib.decDigits n.natAbs)=some n:=by
      unfold pP;rw [hv,if_pos rfl,if_pos (by omega)]
      congr 1
      omega
    rw [num_m0 rfl,hr,if_neg hk,List.take_of_length_le (Nat.le_refl _),hp];rfl
  · rename_i hn;rw [List.nil_append] at h;rw [h] at hd hr hv;have hb:=(kO (hd b (by simp))).2.2.1
    have hp:pP false (b::r)=some n:=by
      unfold pP;rw [hv];simp only [Bool.false_eq_true,if_false];rw [if_pos (by omega)]
      congr 1
      omega
    rw [num_p0 hb,hr,if_neg (by simp),List.take_of_length_le (Nat.le_refl _),hp];rfl
theorem bGb{n:Int}{b:UInt8}{r:Bs}(h:fS n=b::r):b=95∨dG b=true:=by
  unfold fS at h;split at h
  · simp only [List.singleton_append,List.cons.injEq] at h;exact .inl h.1.symm
  · rw [List.nil_append] at h;exact .inr (mY n.natAbs b (by rw [h];simp))
theorem tokenP_spell{n:Int}(h0: -9223372036854775808≤n)(h1:n≤9223372036854775807):fA (fS n)= .ok (2,[],n,(fS n).length):=by
  cases hs:fS n with
  | nil=>
    unfold fS at hs;exact absurd (List.append_eq_nil_iff.1 hs).2 (qO _)
  | cons b r=>
    have hn:=numTok_spell h0 h1 hs
    have hb:b≠10∧jY b=false:=by
      rcases bGb hs with rfl | h
      · decide
      · exact⟨(kO h).1,(kO h).2.1⟩
    simp only [fA,beq_iff_eq,hb.1,if_false,hb.2,Bool.false_eq_true,hn]
theorem lexP_spell{n:Int}(h0: -9223372036854775808≤n)(h1:n≤9223372036854775807):lexP (fS n)=([⟨2,0,[],n⟩],(0,0)):=by
  have hl:=oV h0 h1;have ht:=tokenP_spell h0 h1;unfold lexP;rw [if_neg (by omega)]
  cases hs:fS n with
  | nil=>
    unfold fS at hs;exact absurd (List.append_eq_nil_iff.1 hs).2 (qO _)
  | cons b r=>
    rw [hs] at ht
    have hb:iS b=false∧(b==35)=false:=by
      rcases bGb hs with rfl | h
      · decide
      · exact⟨(kO h).2.2.2.2.2.1,by simp [(kO h).2.2.2.2.1]⟩
    rw [iR,hb.1,if_neg (by simp),hb.2,if_neg (by simp),ht];simp only [List.drop_length];rfl
theorem wM(n:Int): ∀b∈fS n,b.toNat<128∧Lib.isSp b=false∧b≠35:=fun b hb=>by
  unfold fS at hb
  rcases List.mem_append.1 hb with hb | hb
  · split at hb
    · rw [List.mem_singleton.1 hb];decide
    · simp at hb
  · have:=kO (mY _ b hb);exact⟨this.2.2.2.2.2.2.2,this.2.2.2.2.2.2.1,this.2.2.2.2.1⟩
theorem vN{p:UInt8→Bool}: ∀l:Bs,(∀b∈l,p b=false)→l.dropWhile p=l
  | [],_=>rfl
  | b::l,h=>by rw [List.dropWhile_cons_of_neg (by simp [h b (by simp)])]
theorem trim_spell(n:Int):Lib.trimSpace (fS n)=fS n:=by
  have h:=wM n;unfold Lib.trimSpace;rw [vN _ fun b hb=>(h b hb).2.1,vN _ fun b hb=>(h b (List.mem_reverse.1 hb)).2.1,List.reverse_reverse]
theorem hash_spell(n:Int):decide (0≤Lib.indexByte (fS n) 35)=false:=by
  rw [(qJ 35 _).1]
  cases h:(fS n).contains 35 with
  | false=>rfl
  | true=>exact absurd rfl (wM n 35 (by simpa using h)).2.2
theorem bAw(u:Nat):Lib.count (Lib.decDigits u) [45]=0:=by
  rw [Lib.count_one,List.count_eq_zero];exact fun h=>(kO (mY u _ h)).2.2.2.1 rfl
theorem replace_itoa(n:Int):Lib.replace (Lib.itoa n) [45] [95] 1=fS n:=by
  unfold Lib.replace;rw [if_neg (by decide)];unfold Lib.itoa fS;split
  · have hc:Lib.count (45::Lib.decDigits n.natAbs) [45]=1:=by rw [Lib.count_cons_eq,bAw]
    have hr:Lib.replaceNum (45::Lib.decDigits n.natAbs) [45] 1=1:=by
      unfold Lib.replaceNum;rw [hc];rfl
    have hi:Lib.index (45::Lib.decDigits n.natAbs) [45]=((0:Nat):Int):=by
      rw [Lib.index_one];rfl
    rw [hr,Lib.replaceK_hit _ _ _ _ 0 hi];rfl
  · have hr:Lib.replaceNum (Lib.decDigits n.toNat) [45] 1=0:=by
      unfold Lib.replaceNum;rw [bAw];rfl
    rw [hr];have:n.toNat=n.natAbs:=by omega
    rw [this];rfl
theorem itoa_len{n:Int}(h0: -9223372036854775808≤n)(h1:n≤9223372036854775807):(Lib.itoa n).length≤21:=Lib.itoa_length_le n h0 h1
theorem below_grow{w:World}(k:Nat)(os:Array Obj):Below w.heap.size w (grow (w.drewN k) os):=by
  refine⟨rfl,rfl,rfl,by simp [grow,World.drewN],fun i hi=>?_⟩;have:(w.drewN k).heap=w.heap:=rfl;simp only [grow,this,Array.getElem?_append,hi,if_true]
theorem bJg(n:Int)(h0: -9223372036854775808≤n)(h1:n≤9223372036854775807):dH Tryz.prog 256 [.int .i64 n,.int .i64 10] [] [iA] (fun _:Unit=> .string (bs (Lib.itoa n))) (fun _=>[]) (fun _=>[]):=
  oY fun _ w _ k=>by
    obtain⟨_,_,h7,_⟩:=k _ (.head _);refine(Tryz.strconv_FormatInt_10 n h0 h1 w h7).mono ?_;rintro e w' ⟨rfl,q,os,rfl⟩;exact⟨rfl,below_grow q os⟩
theorem replace_spec(s:Bs)(hs:s.length≤1000):dH Tryz.prog 255 [.string (bs s),.string (bs [45]),.string (bs [95]),.int .i64 1] [] [iA] (fun _:Unit=> .string (bs (Lib.replace s [45] [95] 1))) (fun _=>[]) (fun _=>[]):=
  oY fun _ w _ k=>by
    obtain⟨_,_,_,⟨m,hm⟩,_⟩:=k _ (.head _);have hc:=Lib.countB_mul_le (bs [45]) (by decide) (bs s).size (bs s) (Nat.le_refl _)
    refine(Tryz.strings_Replace (bs s) (bs [45]) (bs [95]) 1 m w (by rw [jZ];omega) hm (by decide) ?_).mono fun e w' ⟨he,hb⟩=>⟨he,hb⟩
    have e1:(bs [45]).size=1:=rfl;have e2:(bs [95]).size=1:=rfl;rw [e1] at hc;rw [e2,jZ] at*;omega
theorem bIp(s:Bs)(hs:s.length≤140737488355328)(ha: ∀b∈s,b.toNat<128):dH Tryz.prog 257 [.string (bs s)] [] [iA] (fun _:Unit=> .string (bs (Lib.trimSpace s))) (fun _=>[]) (fun _=>[]):=
  oY fun _ w _ k=>by
    obtain⟨_,h0,_⟩:=k _ (.head _);refine(Tryz.strings_TrimSpace (bs s) w (by rw [jZ];omega) (fun j b hb=>ha b (List.mem_of_getElem? hb)) h0).mono ?_;rintro e w' ⟨rfl,rfl⟩;exact⟨rfl,Joins.below_bytesWorld _ _ _ _ (Nat.le_refl _)⟩
theorem bKg(s:Bs)(c:UInt8):dH Tryz.prog 258 [.string (bs s),.string (bs [c])] [] [] (fun _:Unit=> .bool (decide (0≤Lib.indexByte s c))) (fun _=>[]) (fun _=>[]):=
  bCi fun _ w _=>Tryz.strings_Contains_one (bs s) c w
end Go.Proofs.YtbgdphbebhjpiaaGreatDoor
namespace Go.Proofs.YtbgdphbebhjpiaaGreatDoor
open Go.RowKit
theorem bIu(n:Int)(h0: -9223372036854775808≤n)(h1:n≤9223372036854775807):dH Tryz.prog 37 [.string (bs (fS n))] [] [iA] (fun x:Option Addr×Nat=> .tuple #[.slice x.1 1 x.2,.agg #[.int .i64 0,.int .i64 0]]) (fun _=>[]) (fun x=>[lC.sl (.slice x.1 1 x.2) [⟨2,0,[],n⟩],Fact.pure (1≤x.2)]):=by
  have:=bGf (fS n) (by have:=oV h0 h1;omega);rw [lexP_spell h0 h1] at this;exact this
theorem bAz(n:Int)(h0: -9223372036854775808≤n)(h1:n≤9223372036854775807):dH Tryz.prog 255 [.string (bs (Lib.itoa n)),.string (bs [45]),.string (bs [95]),.int .i64 1] [] [iA] (fun _:Unit=> .string (bs (fS n))) (fun _=>[]) (fun _=>[]):=by
  have:=replace_spec (Lib.itoa n) (by have:=itoa_len h0 h1;omega);rw [replace_itoa] at this;exact this
def gO (s:Bs):Int:=
  if s=[43] then 1 else if s=[45] then 2 else if s=[42] then 3 else if s=[37] then 4 else if s=[124] then 5 else if s=[109,105,110] then 6 else if s=[109,97,120] then 7 else if s=[61] then 8 else if s=[126] then 9
  else if s=[60] then 10 else if s=[60,61] then 11 else if s=[62,61] then 12 else if s=[62] then 13 else if s=[97,110,100] then 14 else if s=[111,114] then 15 else if s=[112,111,119] then 17 else if s=[114,104,111] then 37
  else if s=[116,97,107,101] then 38 else if s=[100,114,111,112] then 39 else if s=[99,97,116] then 40 else 0
def mM (s:Bs):Int:=
  if s=[43]∨s=[45]∨s=[42]∨s=[37]∨s=[124]∨s=[109,105,110]∨s=[109,97,120] then gO s else if s=[126] then 16 else if s=[105,111,116,97] then 32 else if s=[115,104,97,112,101] then 33 else if s=[114,97,118,101,108] then 34
  else if s=[114,101,118] then 35 else if s=[116,117,114,110] then 36 else 0
def pS (s:Bs):Bool:=mM s !=0 || gO s !=0
def gG (s:Bs)(t:Bool):Int:=if t then gO s else mM s
set_option maxRecDepth 100000 in
theorem spell_spec(n:Int)(h0: -9223372036854775808≤n)(h1:n≤9223372036854775807):dH Tryz.prog 222 [.agg #[.int .i64 2,.int .i64 0,.string (bs []),.int .i64 n]] [] [iA] (fun(_:Unit)=> .tuple #[.string (bs (fS n)),.bool true]) (fun _=>[]) (fun _=>[]):=by
  have hT:=fH;refine cQ Tryz.func222 rfl Tryz.ntmps222 rfl ?_;intro β hM;refine sr<|fL rfl rfl rfl rfl rfl rfl fun b1=>?_;refine sp2 hT ?_;refine nn<|sr<|sp hT ?_;refine ss (ldO hT (fE .head)) ?_;refine sp hT ?_;refine nn<|bA<|sr<|sp hT ?_;refine ss (ldO hT (bL .head)) ?_;refine nn<|bT<|sr<|sp hT ?_;refine cH (t':=true) (by decide) ?_;refine sp hT ?_;refine nn<|cI rfl rfl ?_;refine bE<|sp hT ?_;refine ss (ldO hT (tS .head)) ?_;refine bO Tryz.func256 (bJg n h0 h1) rfl rfl .nil ⟨Has.of mT0,trivial⟩ fun _=>?_;refine bO Tryz.func255 (bAz n h0 h1) rfl rfl .nil ⟨Has.of mT0,trivial⟩ fun _=>?_;refine sp hT ?_;refine dU<|cA<|bB<|sr<|sp hT ?_;refine bO Tryz.func37 (bIu n h0 h1) rfl rfl .nil ⟨Has.of mT0,trivial⟩ fun⟨A2,c3⟩=>?_;refine sp3 hT ?_;refine cE rfl rfl rfl rfl yC rfl fun b4=>?_;refine sp hT ?_;refine sto hT .head ?_;refine nn<|bA<|sr<|ss (ldN hT (bL .head)) ?_;refine ss (bY rfl rfl (vU)) ?_;refine ss (fD ⟨0,0⟩ ⟨0,0⟩ rfl rfl rfl) ?_;refine cH (t':=false) (rfl) ?_;refine sp4 hT ?_;refine cH (t':=false) (by decide) ?_;refine sp4 hT ?_;refine bP (z':=(((fS n).length:Nat):Int)) rfl ?_;refine sp hT ?_;refine cH (t':=false) (by have:=oV h0 h1;simp;omega) ?_;refine sp hT ?_;refine nn<|cN rfl rfl ?_;refine bK<|bB<|sr<|sp hT ?_;refine sto hT kT1 ?_;refine nn<|bA<|bA<|cU _ _ [(true,0),(true,1),(true,2),(true,3),(true,4),(true,5),(true,6),(true,8),(false,7),(true,9),(true,10),(true,11),(true,12),(true,13),(true,14),(true,15),(true,16),(true,17),(false,18),(true,19)] cY (by decide+kernel) (.cons .head (.cons .head .nil)) bF.self ?_;refine puM hT ?_;refine stM rfl (bS hT (k:=0) (bJ (Has.of mT0)) rfl rfl rfl rfl rfl rfl rfl (by simp)) ?_;refine stM rfl (dP hT (cR.knows (bJ (Has.of mT0)) (k:=0) (x:=(⟨2,0,[],n⟩:TokV)) rfl 0) rfl rfl rfl rfl rfl) ?_;refine stM rfl (ldN hT (bL .head)) ?_;refine stM rfl (sti_neq_tok (⟨2,0,[],n⟩:TokV) ⟨2,0,([]:Bs),n⟩ rfl rfl rfl) ?_;refine cH (t':=false) (by simp [tokEq]) ?_;refine puM hT ?_;refine puM hT ?_;refine puM hT ?_;refine cC (o:=_) rfl ?_;refine bO Tryz.func257 (bIp (fS n) (by have:=oV h0 h1;omega) (fun b hb=>(wM n b hb).1)) rfl rfl .nil ⟨Has.of mT2,trivial⟩ fun _=>?_;refine cB (.cons .head (.cons .head .nil)) (bF.drop 0) ?_;refine puM hT ?_;refine cH (t':=false) (by rw [trim_spell];simp) ?_;refine puM hT ?_;refine cG rfl rfl rfl rfl ?_;refine cG rfl rfl rfl rfl ?_;refine cG rfl rfl rfl rfl ?_;refine puM hT ?_;refine puM hT ?_;refine puM hT ?_;refine puM hT ?_;refine cC (o:=_) rfl ?_;refine bO Tryz.func258 (bKg _ 35) rfl rfl .nil trivial fun _=>?_;refine cB (.cons .head (.cons .head .nil)) (bF.drop 0) ?_;refine cH (t':=false) (hash_spell n) ?_;refine puM hT ?_;refine cK<|bB<|cN rfl rfl ?_;refine bK<|bB<|sr<|sp3 hT ?_;refine nn<|bG ?_;exact bM () rfl (bD rfl) (bD rfl) .nil trivial (rfl)
set_option maxRecDepth 100000 in
theorem zZ(n:Int)(h0: -9223372036854775808≤n)(h1:n≤9223372036854775807):dH Tryz.prog 167 [.int .i64 n] [] [iA] (fun(_:Unit)=> .string (bs (fS n))) (fun _=>[]) (fun _=>[]):=by
  have hT:=fH;refine cQ Tryz.func167 rfl Tryz.ntmps167 rfl ?_;intro β hM;refine sr<|sp hT ?_;refine nn<|sr<|sp hT ?_;refine ss (bY rfl rfl (mT _ _)) ?_;refine bO Tryz.func222 (spell_spec n h0 h1) rfl rfl .nil ⟨Has.of mT0,trivial⟩ fun _=>?_;refine sp4 hT ?_;refine sp hT ?_;refine nn<|sr<|sp2 hT ?_;refine nn<|bG ?_;exact bR () rfl (bD rfl) .nil trivial (rfl)
set_option maxRecDepth 100000 in
theorem iZ(s:Bs):dH Tryz.prog 200 [.string (bs s)] [] [] (fun(_:Unit)=> .int .u8 (gO s)) (fun _=>[]) (fun _=>[]):=by
  have hT:=fH;refine cQ Tryz.func200 rfl Tryz.ntmps200 rfl ?_;intro β hM;refine sr<|sp hT ?_;refine nn<|bA<|sr<|sp hT ?_;refine nn<|bT<|sr<|sp2 hT ?_;refine nn<|bH rfl (fun hc4=>?_) (fun hc4=>?_)
  · have hc4:s=([43]:Bs):=eq_of_beq hc4;refine sr<|sp hT ?_;refine nn<|bG<|bI<|bC ?_;exact bR () rfl (bD rfl) .nil trivial (by simp [gO, *])
  have hc4:s≠([43]:Bs):=fun h=>absurd (beq_iff_eq.2 h) (by rw [show(s==([43]:Bs))=false from hc4];simp);refine sr<|sp2 hT ?_;refine nn<|bH rfl (fun hc6=>?_) (fun hc6=>?_)
  · have hc6:s=([45]:Bs):=eq_of_beq hc6;refine sr<|sp hT ?_;refine nn<|bG<|bI<|bC ?_;exact bR () rfl (bD rfl) .nil trivial (by simp [gO, *])
  have hc6:s≠([45]:Bs):=fun h=>absurd (beq_iff_eq.2 h) (by rw [show(s==([45]:Bs))=false from hc6];simp);refine sr<|sp2 hT ?_;refine nn<|bH rfl (fun hc8=>?_) (fun hc8=>?_)
  · have hc8:s=([42]:Bs):=eq_of_beq hc8;refine sr<|sp hT ?_;refine nn<|bG<|bI<|bC ?_;exact bR () rfl (bD rfl) .nil trivial (by simp [gO, *])
  have hc8:s≠([42]:Bs):=fun h=>absurd (beq_iff_eq.2 h) (by rw [show(s==([42]:Bs))=false from hc8];simp);refine sr<|sp2 hT ?_;refine nn<|bH rfl (fun hc10=>?_) (fun hc10=>?_)
  · have hc10:s=([37]:Bs):=eq_of_beq hc10;refine sr<|sp hT ?_;refine nn<|bG<|bI<|bC ?_;exact bR () rfl (bD rfl) .nil trivial (by simp [gO, *])
  have hc10:s≠([37]:Bs):=fun h=>absurd (beq_iff_eq.2 h) (by rw [show(s==([37]:Bs))=false from hc10];simp);refine sr<|sp2 hT ?_;refine nn<|bH rfl (fun hc12=>?_) (fun hc12=>?_)
  · have hc12:s=([124]:Bs):=eq_of_beq hc12;refine sr<|sp hT ?_;refine nn<|bG<|bI<|bC ?_;exact bR () rfl (bD rfl) .nil trivial (by simp [gO, *])
  have hc12:s≠([124]:Bs):=fun h=>absurd (beq_iff_eq.2 h) (by rw [show(s==([124]:Bs))=false from hc12];simp);refine sr<|sp2 hT ?_;refine nn<|bH rfl (fun hc14=>?_) (fun hc14=>?_)
  · have hc14:s=([109,105,110]:Bs):=eq_of_beq hc14;refine sr<|sp hT ?_;refine nn<|bG<|bI<|bC ?_;exact bR () rfl (bD rfl) .nil trivial (by simp [gO, *])
  have hc14:s≠([109,105,110]:Bs):=fun h=>absurd (beq_iff_eq.2 h) (by rw [show(s==([109,105,110]:Bs))=false from hc14];simp);refine sr<|sp2 hT ?_;refine nn<|bH rfl (fun hc16=>?_) (fun hc16=>?_)
  · have hc16:s=([109,97,120]:Bs):=eq_of_beq hc16;refine sr<|sp hT ?_;refine nn<|bG<|bI<|bC ?_;exact bR () rfl (bD rfl) .nil trivial (by simp [gO, *])
  have hc16:s≠([109,97,120]:Bs):=fun h=>absurd (beq_iff_eq.2 h) (by rw [show(s==([109,97,120]:Bs))=false from hc16];simp);refine sr<|sp2 hT ?_;refine nn<|bH rfl (fun hc18=>?_) (fun hc18=>?_)
  · have hc18:s=([61]:Bs):=eq_of_beq hc18;refine sr<|sp hT ?_;refine nn<|bG<|bI<|bC ?_;exact bR () rfl (bD rfl) .nil trivial (by simp [gO, *])
  have hc18:s≠([61]:Bs):=fun h=>absurd (beq_iff_eq.2 h) (by rw [show(s==([61]:Bs))=false from hc18];simp);refine sr<|sp2 hT ?_;refine nn<|bH rfl (fun hc20=>?_) (fun hc20=>?_)
  · have hc20:s=([126]:Bs):=eq_of_beq hc20;refine sr<|sp hT ?_;refine nn<|bG<|bI<|bC ?_;exact bR () rfl (bD rfl) .nil trivial (by simp [gO, *])
  have hc20:s≠([126]:Bs):=fun h=>absurd (beq_iff_eq.2 h) (by rw [show(s==([126]:Bs))=false from hc20];simp);refine sr<|sp2 hT ?_;refine nn<|bH rfl (fun hc22=>?_) (fun hc22=>?_)
  · have hc22:s=([60]:Bs):=eq_of_beq hc22;refine sr<|sp hT ?_;refine nn<|bG<|bI<|bC ?_;exact bR () rfl (bD rfl) .nil trivial (by simp [gO, *])
  have hc22:s≠([60]:Bs):=fun h=>absurd (beq_iff_eq.2 h) (by rw [show(s==([60]:Bs))=false from hc22];simp);refine sr<|sp2 hT ?_;refine nn<|bH rfl (fun hc24=>?_) (fun hc24=>?_)
  · have hc24:s=([60,61]:Bs):=eq_of_beq hc24;refine sr<|sp hT ?_;refine nn<|bG<|bI<|bC ?_;exact bR () rfl (bD rfl) .nil trivial (by simp [gO, *])
  have hc24:s≠([60,61]:Bs):=fun h=>absurd (beq_iff_eq.2 h) (by rw [show(s==([60,61]:Bs))=false from hc24];simp);refine sr<|sp2 hT ?_;refine nn<|bH rfl (fun hc26=>?_) (fun hc26=>?_)
  · have hc26:s=([62,61]:Bs):=eq_of_beq hc26;refine sr<|sp hT ?_;refine nn<|bG<|bI<|bC ?_;exact bR () rfl (bD rfl) .nil trivial (by simp [gO, *])
  have hc26:s≠([62,61]:Bs):=fun h=>absurd (beq_iff_eq.2 h) (by rw [show(s==([62,61]:Bs))=false from hc26];simp);refine sr<|sp2 hT ?_;refine nn<|bH rfl (fun hc28=>?_) (fun hc28=>?_)
  · have hc28:s=([62]:Bs):=eq_of_beq hc28;refine sr<|sp hT ?_;refine nn<|bG<|bI<|bC ?_;exact bR () rfl (bD rfl) .nil trivial (by simp [gO, *])
  have hc28:s≠([62]:Bs):=fun h=>absurd (beq_iff_eq.2 h) (by rw [show(s==([62]:Bs))=false from hc28];simp);refine sr<|sp2 hT ?_;refine nn<|bH rfl (fun hc30=>?_) (fun hc30=>?_)
  · have hc30:s=([97,110,100]:Bs):=eq_of_beq hc30;refine sr<|sp hT ?_;refine nn<|bG<|bI<|bC ?_;exact bR () rfl (bD rfl) .nil trivial (by simp [gO, *])
  have hc30:s≠([97,110,100]:Bs):=fun h=>absurd (beq_iff_eq.2 h) (by rw [show(s==([97,110,100]:Bs))=false from hc30];simp);refine sr<|sp2 hT ?_;refine nn<|bH rfl (fun hc32=>?_) (fun hc32=>?_)
  · have hc32:s=([111,114]:Bs):=eq_of_beq hc32;refine sr<|sp hT ?_;refine nn<|bG<|bI<|bC ?_;exact bR () rfl (bD rfl) .nil trivial (by simp [gO, *])
  have hc32:s≠([111,114]:Bs):=fun h=>absurd (beq_iff_eq.2 h) (by rw [show(s==([111,114]:Bs))=false from hc32];simp);refine sr<|sp2 hT ?_;refine nn<|bH rfl (fun hc34=>?_) (fun hc34=>?_)
  · have hc34:s=([112,111,119]:Bs):=eq_of_beq hc34;refine sr<|sp hT ?_;refine nn<|bG<|bI<|bC ?_;exact bR () rfl (bD rfl) .nil trivial (by simp [gO, *])
  have hc34:s≠([112,111,119]:Bs):=fun h=>absurd (beq_iff_eq.2 h) (by rw [show(s==([112,111,119]:Bs))=false from hc34];simp);refine sr<|sp2 hT ?_;refine nn<|bH rfl (fun hc36=>?_) (fun hc36=>?_)
  · have hc36:s=([114,104,111]:Bs):=eq_of_beq hc36;refine sr<|sp hT ?_;refine nn<|bG<|bI<|bC ?_;exact bR () rfl (bD rfl) .nil trivial (by simp [gO, *])
  have hc36:s≠([114,104,111]:Bs):=fun h=>absurd (beq_iff_eq.2 h) (by rw [show(s==([114,104,111]:Bs))=false from hc36];simp);refine sr<|sp2 hT ?_;refine nn<|bH rfl (fun hc38=>?_) (fun hc38=>?_)
  · have hc38:s=([116,97,107,101]:Bs):=eq_of_beq hc38;refine sr<|sp hT ?_;refine nn<|bG<|bI<|bC ?_;exact bR () rfl (bD rfl) .nil trivial (by simp [gO, *])
  have hc38:s≠([116,97,107,101]:Bs):=fun h=>absurd (beq_iff_eq.2 h) (by rw [show(s==([116,97,107,101]:Bs))=false from hc38];simp);refine sr<|sp2 hT ?_;refine nn<|bH rfl (fun hc40=>?_) (fun hc40=>?_)
  · have hc40:s=([100,114,111,112]:Bs):=eq_of_beq hc40;refine sr<|sp hT ?_;refine nn<|bG<|bI<|bC ?_;exact bR () rfl (bD rfl) .nil trivial (by simp [gO, *])
  have hc40:s≠([100,114,111,112]:Bs):=fun h=>absurd (beq_iff_eq.2 h) (by rw [show(s==([100,114,111,112]:Bs))=false from hc40];simp);refine sr<|sp2 hT ?_;refine nn<|bH rfl (fun hc42=>?_) (fun hc42=>?_)
  · have hc42:s=([99,97,116]:Bs):=eq_of_beq hc42;refine sr<|sp hT ?_;refine nn<|bG<|bI<|bC ?_;exact bR () rfl (bD rfl) .nil trivial (by simp [gO, *])
  have hc42:s≠([99,97,116]:Bs):=fun h=>absurd (beq_iff_eq.2 h) (by rw [show(s==([99,97,116]:Bs))=false from hc42];simp);refine bK<|cA<|bB<|sr<|sp hT ?_;refine nn<|bG ?_;exact bR () rfl (bD rfl) .nil trivial (by simp [gO, *])
set_option maxRecDepth 100000 in
theorem one_spec(s:Bs):dH Tryz.prog 199 [.string (bs s)] [] [] (fun(_:Unit)=> .int .u8 (mM s)) (fun _=>[]) (fun _=>[]):=by
  have hT:=fH;refine cQ Tryz.func199 rfl Tryz.ntmps199 rfl ?_;intro β hM;refine sr<|sp hT ?_;refine nn<|bA<|sr<|sp hT ?_;refine nn<|bT<|bA<|sr<|sp2 hT ?_;refine nn<|bH rfl (fun hc4=>?_) (fun hc4=>?_)
  · have hc4_r:=hc4;have hc4:s=([43]:Bs):=eq_of_beq hc4;refine bK<|bB<|cI rfl hc4_r ?_;refine sr<|sp hT ?_;refine bO Tryz.func200 (iZ s) rfl rfl .nil trivial fun _=>?_;refine sp hT ?_;refine nn<|bG<|bI<|bC ?_;exact bR () rfl (bD rfl) .nil trivial (by first | (simp [mM, *];done) | simp [mM,gO, *])
  have hc4_r:=hc4;have hc4:s≠([43]:Bs):=fun h=>absurd (beq_iff_eq.2 h) (by rw [show(s==([43]:Bs))=false from hc4];simp);refine sr<|sp2 hT ?_;refine nn<|bH rfl (fun hc4_1=>?_) (fun hc4_1=>?_)
  · have hc4_1_r:=hc4_1;have hc4_1:s=([45]:Bs):=eq_of_beq hc4_1;refine bK<|bB<|cI rfl hc4_1_r ?_;refine sr<|sp hT ?_;refine bO Tryz.func200 (iZ s) rfl rfl .nil trivial fun _=>?_;refine sp hT ?_;refine nn<|bG<|bI<|bC ?_;exact bR () rfl (bD rfl) .nil trivial (by first | (simp [mM, *];done) | simp [mM,gO, *])
  have hc4_1_r:=hc4_1;have hc4_1:s≠([45]:Bs):=fun h=>absurd (beq_iff_eq.2 h) (by rw [show(s==([45]:Bs))=false from hc4_1];simp);refine sr<|sp2 hT ?_;refine nn<|bH rfl (fun hc4_2=>?_) (fun hc4_2=>?_)
  · have hc4_2_r:=hc4_2;have hc4_2:s=([42]:Bs):=eq_of_beq hc4_2;refine bK<|bB<|cI rfl hc4_2_r ?_;refine sr<|sp hT ?_;refine bO Tryz.func200 (iZ s) rfl rfl .nil trivial fun _=>?_;refine sp hT ?_;refine nn<|bG<|bI<|bC ?_;exact bR () rfl (bD rfl) .nil trivial (by first | (simp [mM, *];done) | simp [mM,gO, *])
  have hc4_2_r:=hc4_2;have hc4_2:s≠([42]:Bs):=fun h=>absurd (beq_iff_eq.2 h) (by rw [show(s==([42]:Bs))=false from hc4_2];simp);refine sr<|sp2 hT ?_;refine nn<|bH rfl (fun hc4_3=>?_) (fun hc4_3=>?_)
  · have hc4_3_r:=hc4_3;have hc4_3:s=([37]:Bs):=eq_of_beq hc4_3;refine bK<|bB<|cI rfl hc4_3_r ?_;refine sr<|sp hT ?_;refine bO Tryz.func200 (iZ s) rfl rfl .nil trivial fun _=>?_;refine sp hT ?_;refine nn<|bG<|bI<|bC ?_;exact bR () rfl (bD rfl) .nil trivial (by first | (simp [mM, *];done) | simp [mM,gO, *])
  have hc4_3_r:=hc4_3;have hc4_3:s≠([37]:Bs):=fun h=>absurd (beq_iff_eq.2 h) (by rw [show(s==([37]:Bs))=false from hc4_3];simp);refine sr<|sp2 hT ?_;refine nn<|bH rfl (fun hc4_4=>?_) (fun hc4_4=>?_)
  · have hc4_4_r:=hc4_4;have hc4_4:s=([124]:Bs):=eq_of_beq hc4_4;refine bK<|bB<|cI rfl hc4_4_r ?_;refine sr<|sp hT ?_;refine bO Tryz.func200 (iZ s) rfl rfl .nil trivial fun _=>?_;refine sp hT ?_;refine nn<|bG<|bI<|bC ?_;exact bR () rfl (bD rfl) .nil trivial (by first | (simp [mM, *];done) | simp [mM,gO, *])
  have hc4_4_r:=hc4_4;have hc4_4:s≠([124]:Bs):=fun h=>absurd (beq_iff_eq.2 h) (by rw [show(s==([124]:Bs))=false from hc4_4];simp);refine sr<|sp2 hT ?_;refine nn<|bH rfl (fun hc4_5=>?_) (fun hc4_5=>?_)
  · have hc4_5_r:=hc4_5;have hc4_5:s=([109,105,110]:Bs):=eq_of_beq hc4_5;refine bK<|bB<|cI rfl hc4_5_r ?_;refine sr<|sp hT ?_;refine bO Tryz.func200 (iZ s) rfl rfl .nil trivial fun _=>?_;refine sp hT ?_;refine nn<|bG<|bI<|bC ?_;exact bR () rfl (bD rfl) .nil trivial (by first | (simp [mM, *];done) | simp [mM,gO, *])
  have hc4_5_r:=hc4_5;have hc4_5:s≠([109,105,110]:Bs):=fun h=>absurd (beq_iff_eq.2 h) (by rw [show(s==([109,105,110]:Bs))=false from hc4_5];simp);refine bE<|sp2 hT ?_;refine nn<|bH rfl (fun hc4_6=>?_) (fun hc4_6=>?_)
  · have hc4_6_r:=hc4_6;have hc4_6:s=([109,97,120]:Bs):=eq_of_beq hc4_6;refine sr<|sp hT ?_;refine bO Tryz.func200 (iZ s) rfl rfl .nil trivial fun _=>?_;refine sp hT ?_;refine nn<|bG<|bI<|bC ?_;exact bR () rfl (bD rfl) .nil trivial (by first | (simp [mM, *];done) | simp [mM,gO, *])
  have hc4_6_r:=hc4_6;have hc4_6:s≠([109,97,120]:Bs):=fun h=>absurd (beq_iff_eq.2 h) (by rw [show(s==([109,97,120]:Bs))=false from hc4_6];simp);refine sr<|sp2 hT ?_;refine nn<|bH rfl (fun hc14=>?_) (fun hc14=>?_)
  · have hc14_r:=hc14;have hc14:s=([126]:Bs):=eq_of_beq hc14;refine sr<|sp hT ?_;refine nn<|bG<|bI<|bC ?_;exact bR () rfl (bD rfl) .nil trivial (by first | (simp [mM, *];done) | simp [mM,gO, *])
  have hc14_r:=hc14;have hc14:s≠([126]:Bs):=fun h=>absurd (beq_iff_eq.2 h) (by rw [show(s==([126]:Bs))=false from hc14];simp);refine sr<|sp2 hT ?_;refine nn<|bH rfl (fun hc16=>?_) (fun hc16=>?_)
  · have hc16_r:=hc16;have hc16:s=([105,111,116,97]:Bs):=eq_of_beq hc16;refine sr<|sp hT ?_;refine nn<|bG<|bI<|bC ?_;exact bR () rfl (bD rfl) .nil trivial (by first | (simp [mM, *];done) | simp [mM,gO, *])
  have hc16_r:=hc16;have hc16:s≠([105,111,116,97]:Bs):=fun h=>absurd (beq_iff_eq.2 h) (by rw [show(s==([105,111,116,97]:Bs))=false from hc16];simp);refine sr<|sp2 hT ?_;refine nn<|bH rfl (fun hc18=>?_) (fun hc18=>?_)
  · have hc18_r:=hc18;have hc18:s=([115,104,97,112,101]:Bs):=eq_of_beq hc18;refine sr<|sp hT ?_;refine nn<|bG<|bI<|bC ?_;exact bR () rfl (bD rfl) .nil trivial (by first | (simp [mM, *];done) | simp [mM,gO, *])
  have hc18_r:=hc18;have hc18:s≠([115,104,97,112,101]:Bs):=fun h=>absurd (beq_iff_eq.2 h) (by rw [show(s==([115,104,97,112,101]:Bs))=false from hc18];simp);refine sr<|sp2 hT ?_;refine nn<|bH rfl (fun hc20=>?_) (fun hc20=>?_)
  · have hc20_r:=hc20;have hc20:s=([114,97,118,101,108]:Bs):=eq_of_beq hc20;refine sr<|sp hT ?_;refine nn<|bG<|bI<|bC ?_;exact bR () rfl (bD rfl) .nil trivial (by first | (simp [mM, *];done) | simp [mM,gO, *])
  have hc20_r:=hc20;have hc20:s≠([114,97,118,101,108]:Bs):=fun h=>absurd (beq_iff_eq.2 h) (by rw [show(s==([114,97,118,101,108]:Bs))=false from hc20];simp);refine sr<|sp2 hT ?_;refine nn<|bH rfl (fun hc22=>?_) (fun hc22=>?_)
  · have hc22_r:=hc22;have hc22:s=([114,101,118]:Bs):=eq_of_beq hc22;refine sr<|sp hT ?_;refine nn<|bG<|bI<|bC ?_;exact bR () rfl (bD rfl) .nil trivial (by first | (simp [mM, *];done) | simp [mM,gO, *])
  have hc22_r:=hc22;have hc22:s≠([114,101,118]:Bs):=fun h=>absurd (beq_iff_eq.2 h) (by rw [show(s==([114,101,118]:Bs))=false from hc22];simp);refine sr<|sp2 hT ?_;refine nn<|bH rfl (fun hc24=>?_) (fun hc24=>?_)
  · have hc24_r:=hc24;have hc24:s=([116,117,114,110]:Bs):=eq_of_beq hc24;refine sr<|sp hT ?_;refine nn<|bG<|bI<|bC ?_;exact bR () rfl (bD rfl) .nil trivial (by first | (simp [mM, *];done) | simp [mM,gO, *])
  have hc24_r:=hc24;have hc24:s≠([116,117,114,110]:Bs):=fun h=>absurd (beq_iff_eq.2 h) (by rw [show(s==([116,117,114,110]:Bs))=false from hc24];simp);refine bK<|cA<|bB<|sr<|sp hT ?_;refine nn<|bG ?_;exact bR () rfl (bD rfl) .nil trivial (by first | (simp [mM, *];done) | simp [mM,gO, *])
set_option maxRecDepth 100000 in
theorem nS(s:Bs):dH Tryz.prog 135 [.string (bs s)] [] [] (fun(_:Unit)=> .bool (pS s)) (fun _=>[]) (fun _=>[]):=by
  have hT:=fH;refine cQ Tryz.func135 rfl Tryz.ntmps135 rfl ?_;intro β hM;refine sr<|sp hT ?_;refine nn<|sr<|sp hT ?_;refine bO Tryz.func199 (one_spec s) rfl rfl .nil trivial fun _=>?_;refine sp2 hT ?_;refine cF (fun hg6=>?_) (fun hg6=>?_)
  · have hg6:=bne_iff_ne.1 hg6;refine sk3 ?_;refine sp2 hT ?_;refine nn<|bG ?_;exact bR () rfl (bD rfl) .nil trivial (by simp [pS, *])
  have hg6:=bne_eq_false_iff_eq.1 hg6;refine sp hT ?_;refine bO Tryz.func200 (iZ s) rfl rfl .nil trivial fun _=>?_;refine sp3 hT ?_;refine nn<|bG ?_;exact bR () rfl (bD rfl) .nil trivial (by simp [pS, *])
set_option maxRecDepth 100000 in
theorem bCc(s:Bs)(t:Bool):dH Tryz.prog 166 [.string (bs s),.bool t] [] [] (fun(_:Unit)=> .tuple #[.int .u8 (gG s t),.bool (gG s t !=0)]) (fun _=>[]) (fun _=>[]):=by
  have hT:=fH;refine cQ Tryz.func166 rfl Tryz.ntmps166 rfl ?_;intro β hM;refine sr<|sp2 hT ?_;refine nn<|sr<|sp hT ?_;refine bO Tryz.func199 (one_spec s) rfl rfl .nil trivial fun _=>?_;refine sp hT ?_;refine nn<|bA<|sr<|sp hT ?_;refine nn<|bH rfl (fun hc9=>?_) (fun hc9=>?_)
  · refine bE<|sp hT ?_;refine bO Tryz.func200 (iZ s) rfl rfl .nil trivial fun _=>?_;refine sp hT ?_;refine nn<|sr<|sp4 hT ?_;refine sp hT ?_;refine nn<|bG ?_;exact bM () rfl (bD rfl) (bD rfl) .nil trivial (by simp [gG, *])
  refine bK<|bB<|sr<|sp4 hT ?_;refine sp hT ?_;refine nn<|bG ?_;exact bM () rfl (bD rfl) (bD rfl) .nil trivial (by simp [gG, *])
end Go.Proofs.YtbgdphbebhjpiaaGreatDoor
namespace Go.Proofs.YtbgdphbebhjpiaaGreatDoor
open Go.RowKit
def bBf (s:Bs):Bool:=mW ⟨(lexP s).2.1,(lexP s).2.2⟩ ⟨0,0⟩&&match (lexP s).1 with
  | [t]=>t.kind==1&&t.word==s
  | _=>false
def dW (s:Bs):Bool:= !(pS s)&&(!(s==[105,110])&&(!(s==[111,117,116])&&bBf s))
section
variable {s : Bs}
theorem yK(h:pS s=true):Value.bool false= .bool (dW s):=by simp [dW,h]
theorem yS(h:s=[105,110]):Value.bool false= .bool (dW s):=by simp [dW,h]
theorem xY(h:s=[111,117,116]):Value.bool false= .bool (dW s):=by simp [dW,h]
theorem xQ(h:mW ⟨(lexP s).2.1,(lexP s).2.2⟩ ⟨0,0⟩=false):Value.bool false= .bool (dW s):=by simp [dW,bBf,h]
theorem yU(h:(((lexP s).1.length:Nat):Int)≠1):Value.bool false= .bool (dW s):=by
  unfold dW bBf;split
  · rename_i t ht;rw [ht] at h;simp at h
  · simp
theorem list_one{α:Type}{l:List α}{x:α}(h:((l.length:Nat):Int)=1)(hx:l[0]?=some x):l=[x]:=by
  match l,h with
  | [a],_=>simp at hx;rw [hx]
  | [],h=>simp at h
  | _::_::_,h=>simp at h;omega
variable (h0 : pS s = false) (h1 : s ≠ [105, 110]) (h2 : s ≠ [111, 117, 116]) (hf : mW ⟨(lexP s).2.1, (lexP s).2.2⟩ ⟨0, 0⟩ = true) (hl : (((lexP s).1.length : Nat) : Int) = 1) {x : TokV} (hx : (lexP s).1[0]? = some x)
include h0 h1 h2 hf hl hx
theorem name_at:dW s=(x.kind==1&&x.word==s):=by
  unfold dW bBf;rw [list_one hl hx,h0,hf,beq_eq_false_iff_ne.2 h1,beq_eq_false_iff_ne.2 h2];simp
theorem yO(hk:x.kind≠1):Value.bool false= .bool (dW s):=by
  rw [name_at h0 h1 h2 hf hl hx];simp [hk]
theorem xS(hk:x.kind=1):Value.bool (x.word==s)= .bool (dW s):=by
  rw [name_at h0 h1 h2 hf hl hx];simp [hk]
end
set_option maxRecDepth 100000 in
theorem mD(s:Bs)(hs:s.length≤140737488355328):dH Tryz.prog 76 [.string (bs s)] [] [iA] (fun(_:Unit)=> .bool (dW s)) (fun _=>[]) (fun _=>[]):=by
  have hT:=fH;refine cQ Tryz.func76 rfl Tryz.ntmps76 rfl ?_;intro β hM;refine sr<|sp hT ?_;refine nn<|bA<|sr<|sp hT ?_;refine bO Tryz.func135 (nS s) rfl rfl .nil trivial fun _=>?_;refine sp hT ?_;refine cF (fun hg7=>?_) (fun hg7=>?_)
  · refine sk2 ?_;refine sp2 hT ?_;refine sk2 ?_;refine sp hT ?_;refine nn<|cI rfl rfl ?_;refine sr<|sp hT ?_;refine nn<|bG<|bC ?_;exact bR () rfl (bD rfl) .nil trivial (by first | exact yK hg7 | exact yS hg11 | exact xY hc14 | exact xQ hg23 | exact yU hg28 | exact yO hg7 hg11 hc14 hg23 hg28 ‹(lexP s).1[0]?=some _› hg35 | exact xS hg7 hg11 hc14 hg23 hg28 ‹(lexP s).1[0]?=some _› hg35)
  refine sp4 hT ?_;refine cF (fun hg11=>?_) (fun hg11=>?_)
  · have hg11:s=([105,110]:Bs):=eq_of_beq hg11;refine sk2 ?_;refine sp hT ?_;refine nn<|cI rfl rfl ?_;refine sr<|sp hT ?_;refine nn<|bG<|bC ?_;exact bR () rfl (bD rfl) .nil trivial (by first | exact yK hg7 | exact yS hg11 | exact xY hc14 | exact xQ hg23 | exact yU hg28 | exact yO hg7 hg11 hc14 hg23 hg28 ‹(lexP s).1[0]?=some _› hg35 | exact xS hg7 hg11 hc14 hg23 hg28 ‹(lexP s).1[0]?=some _› hg35)
  have hg11:s≠([105,110]:Bs):=fun h=>absurd (beq_iff_eq.2 h) (by rw [show(s==([105,110]:Bs))=false from hg11];simp);refine sp3 hT ?_;refine nn<|bH rfl (fun hc14=>?_) (fun hc14=>?_)
  · have hc14:s=([111,117,116]:Bs):=eq_of_beq hc14;refine sr<|sp hT ?_;refine nn<|bG<|bC ?_;exact bR () rfl (bD rfl) .nil trivial (by first | exact yK hg7 | exact yS hg11 | exact xY hc14 | exact xQ hg23 | exact yU hg28 | exact yO hg7 hg11 hc14 hg23 hg28 ‹(lexP s).1[0]?=some _› hg35 | exact xS hg7 hg11 hc14 hg23 hg28 ‹(lexP s).1[0]?=some _› hg35)
  have hc14:s≠([111,117,116]:Bs):=fun h=>absurd (beq_iff_eq.2 h) (by rw [show(s==([111,117,116]:Bs))=false from hc14];simp);refine bK<|bB<|sr<|sp hT ?_;refine bO Tryz.func37 (bGf s (by omega)) rfl rfl .nil ⟨Has.of mT0,trivial⟩ fun⟨A1,c2⟩=>?_;refine sp3 hT ?_;refine cE rfl rfl rfl rfl yC rfl fun b3=>?_;refine sp hT ?_;refine sto hT .head ?_;refine nn<|sr<|ss (ldN hT (bL .head)) ?_;refine ss (bY rfl rfl (vU)) ?_;refine ss (bEc ⟨(lexP s).2.1,(lexP s).2.2⟩ ⟨0,0⟩ rfl rfl rfl) ?_;refine sp hT ?_;refine cF (fun hg23=>?_) (fun hg23=>?_)
  · refine sp4 hT ?_;refine sp hT ?_;refine cF (fun hg28=>?_) (fun hg28=>?_)
    · have hg28:=eq_of_beq hg28;refine sp hT ?_
      obtain⟨x4,hx5⟩: ∃x,(lexP s).1[0]?=some x:=⟨_,List.getElem?_eq_getElem (by omega)⟩
      refine ss (bS hT (k:=0) (bJ (Has.of mT0)) rfl rfl rfl rfl rfl rfl rfl (by omega)) ?_;refine sp hT ?_;refine ss (bZ hT (cR.knows (bJ (Has.of mT0)) (k:=0) (x:=x4) hx5 0) rfl rfl rfl rfl rfl) ?_;refine sp3 hT ?_;refine cF (fun hg35=>?_) (fun hg35=>?_)
      · have hg35:=eq_of_beq hg35;refine sp hT ?_;refine ss (bS hT (k:=0) (bJ (Has.of mT0)) rfl rfl rfl rfl rfl rfl rfl (by omega)) ?_;refine sp hT ?_;refine ss (bZ hT (cR.knows (bJ (Has.of mT0)) (k:=0) (x:=x4) hx5 2) rfl rfl rfl rfl rfl) ?_;refine sp4 hT ?_;refine nn<|bG ?_;exact bR () rfl (bD rfl) .nil trivial (by first | exact yK hg7 | exact yS hg11 | exact xY hc14 | exact xQ hg23 | exact yU hg28 | exact yO hg7 hg11 hc14 hg23 hg28 ‹(lexP s).1[0]?=some _› hg35 | exact xS hg7 hg11 hc14 hg23 hg28 ‹(lexP s).1[0]?=some _› hg35)
      have hg35:=beq_eq_false_iff_ne.1 hg35;refine sk4 ?_;refine sk2 ?_;refine sp2 hT ?_;refine nn<|bG ?_;exact bR () rfl (bD rfl) .nil trivial (by first | exact yK hg7 | exact yS hg11 | exact xY hc14 | exact xQ hg23 | exact yU hg28 | exact yO hg7 hg11 hc14 hg23 hg28 ‹(lexP s).1[0]?=some _› hg35 | exact xS hg7 hg11 hc14 hg23 hg28 ‹(lexP s).1[0]?=some _› hg35)
    have hg28:=beq_eq_false_iff_ne.1 hg28;refine sk4 ?_;refine sk ?_;refine sp2 hT ?_;refine sk4 ?_;refine sk2 ?_;refine sp2 hT ?_;refine nn<|bG ?_;exact bR () rfl (bD rfl) .nil trivial (by first | exact yK hg7 | exact yS hg11 | exact xY hc14 | exact xQ hg23 | exact yU hg28 | exact yO hg7 hg11 hc14 hg23 hg28 ‹(lexP s).1[0]?=some _› hg35 | exact xS hg7 hg11 hc14 hg23 hg28 ‹(lexP s).1[0]?=some _› hg35)
  refine sk3 ?_;refine sp2 hT ?_;refine sk4 ?_;refine sk ?_;refine sp2 hT ?_;refine sk4 ?_;refine sk2 ?_;refine sp2 hT ?_;refine nn<|bG ?_;exact bR () rfl (bD rfl) .nil trivial (by first | exact yK hg7 | exact yS hg11 | exact xY hc14 | exact xQ hg23 | exact yU hg28 | exact yO hg7 hg11 hc14 hg23 hg28 ‹(lexP s).1[0]?=some _› hg35 | exact xS hg7 hg11 hc14 hg23 hg28 ‹(lexP s).1[0]?=some _› hg35)
end Go.Proofs.YtbgdphbebhjpiaaGreatDoor
namespace Go.Proofs.YtbgdphbebhjpiaaGreatDoor
open Go.RowKit
def atP (toks:List TokV)(k:Nat)(e:Int):Int:=match toks[k]? with
  | some t=>t.at_
  | none=>e
def bQ (toks:List TokV)(k:Nat):TokV:=match toks[k]? with
  | some t=>t
  | none=>⟨4,0,[],0⟩
def tokV (t:TokV):Value:= .agg #[.int .i64 t.kind,.int .i64 t.at_,.string (bs t.word),.int .i64 t.n]
section
variable {toks : List TokV} {k : Nat} {e : Int}
theorem zB{t:TokV}(h:toks[k]?=some t):atP toks k e=t.at_:=by unfold atP;rw [h]
theorem bJo(h:toks.length≤k):atP toks k e=e:=by unfold atP;rw [List.getElem?_eq_none h]
theorem qX{t:TokV}(h:toks[k]?=some t):bQ toks k=t:=by unfold bQ;rw [h]
theorem xV(h:toks.length≤k):bQ toks k=⟨4,0,[],0⟩:=by unfold bQ;rw [List.getElem?_eq_none h]
end
structure Phr where
  how:Int
  at_:Int
  fn:Int
  flt:Flt
  next:Nat
def bU (toks:List TokV)(k:Nat)(e:Int)(left:Bool):Phr:=
  if (bQ toks (k+1)).kind=3∧((bQ toks (k+1)).word=[47]∨(bQ toks (k+1)).word=[92]∨(bQ toks (k+1)).word=[46]) then
    if 17<gO (bQ toks k).word∨((bQ toks (k+1)).word==[46])≠left then ⟨if left then 4 else 3,(bQ toks k).at_,gO (bQ toks k).word,(atP toks k e,43),k+1+1⟩
    else ⟨if (bQ toks (k+1)).word=[47] then 5 else if (bQ toks (k+1)).word=[92] then 6 else 7,(bQ toks k).at_,gO (bQ toks k).word,if gO (bQ toks k).word=0 then (atP toks k e,43) else (0,0),k+1+1⟩
  else ⟨if left then 4 else 3,(bQ toks k).at_,gG (bQ toks k).word left,if gG (bQ toks k).word left=0 then (atP toks k e,43) else (0,0),k+1⟩
def phrV (p:Phr):Value:= .tuple #[.agg #[.int .i64 p.how,.int .i64 p.at_,.int .u8 p.fn,.string (bs []),.slice none 0 0],.agg #[.int .i64 p.flt.1,.int .i64 p.flt.2]]
theorem lZ:(Tryz.prog.info? 52).bind (·.zero)=some (.agg #[.int .i64 0,.int .i64 0,.int .u8 0,.string (bs []),.slice none 0 0]):=by kernel_rfl
theorem qA(z0:Int)(z1:Int):Tryz.prog.built 52 [(0,.int .i64 z0),(1,.int .i64 z1)]=some #[.int .i64 z0,.int .i64 z1,.int .u8 0,.string (bs []),.slice none 0 0]:=by kernel_rfl
set_option maxRecDepth 100000 in
theorem at_spec(bl:Nat)(A:Option Addr)(c:Nat)(toks:List TokV)(k:Nat)(e:Int):dH Tryz.prog 134 [.pointer (some ⟨bl,0,none⟩)] [.obj bl (.cells [.slice A toks.length c,.int .i64 (k:Nat),.int .i64 e].toArray 102)] [lC.sl (.slice A toks.length c) toks] (fun(_:Unit)=> .int .i64 (atP toks k e)) (fun(_:Unit)=>[.obj bl (.cells [.slice A toks.length c,.int .i64 (k:Nat),.int .i64 e].toArray 102)]) (fun _=>[]):=by
  have hT:=fH;refine cQ Tryz.func134 rfl Tryz.ntmps134 rfl ?_;intro β hM;refine sr<|sp hT ?_;refine nn<|bA<|bA<|cU _ _ [(true,0),(true,1),(true,2),(true,3),(true,4),(true,5),(true,6),(true,7),(true,8),(true,9)] cY (by decide+kernel) (.cons .head .nil) bF.self ?_;refine puM hT ?_;refine puM hT ?_;refine puM hT ?_;refine stM rfl (ldO hT (dB .head)) ?_;refine puM hT ?_;refine puM hT ?_;refine puM hT ?_;refine stM rfl (ldO hT (bL .head)) ?_;refine puM hT ?_;refine puM hT ?_;refine cK<|bB<|bH rfl (fun hc12=>?_) (fun hc12=>?_)
  · have hc12:=of_decide_eq_true hc12;refine bA<|cU _ _ [(true,0),(true,1),(true,2),(true,3),(true,4),(true,5),(true,6),(true,7),(true,8),(true,9),(true,10),(true,11)] cY (by decide+kernel) (.cons .head .nil) bF.self ?_;refine puM hT ?_;refine puM hT ?_;refine puM hT ?_;refine stM rfl (ldO hT (bL .head)) ?_;refine puM hT ?_;refine puM hT ?_;refine puM hT ?_;refine stM rfl (ldO hT (dB .head)) ?_
    obtain⟨x1,hx2⟩: ∃x,toks[k]?=some x:=⟨_,List.getElem?_eq_getElem (by omega)⟩
    refine stM rfl (bS hT (k:=k) (bJ (Has.of mT0)) rfl rfl rfl rfl rfl rfl rfl (by omega)) ?_;refine puM hT ?_;refine stM rfl (bZ hT (cR.knows (bJ (Has.of mT0)) (k:=k) (x:=x1) hx2 1) rfl rfl rfl rfl rfl) ?_;refine puM hT ?_;refine cK<|bB<|bG<|bC ?_;exact bR () rfl (bD rfl) (.cons .head .nil) trivial (by rw [zB hx2])
  have hc12:=Int.not_lt.1 (of_decide_eq_false hc12);refine bK<|bB<|sr<|sp3 hT ?_;refine ss (ldO hT (fE .head)) ?_;refine sp hT ?_;refine nn<|bG ?_;exact bR () rfl (bD rfl) (.cons .head .nil) trivial (by rw [bJo (by omega)])
set_option maxRecDepth 100000 in
theorem iD(bl:Nat)(A:Option Addr)(c:Nat)(toks:List TokV)(k:Nat)(e:Int):dH Tryz.prog 73 [.pointer (some ⟨bl,0,none⟩)] [.obj bl (.cells [.slice A toks.length c,.int .i64 (k:Nat),.int .i64 e].toArray 102)] [lC.sl (.slice A toks.length c) toks] (fun(_:Unit)=>tokV (bQ toks k)) (fun(_:Unit)=>[.obj bl (.cells [.slice A toks.length c,.int .i64 (k:Nat),.int .i64 e].toArray 102)]) (fun _=>[]):=by
  have hT:=fH;refine cQ Tryz.func73 rfl Tryz.ntmps73 rfl ?_;intro β hM;refine sr<|cE rfl rfl rfl rfl wC rfl fun b1=>?_;refine nn<|bA<|bA<|cU _ _ [(true,0),(true,1),(true,2),(true,3),(true,4),(true,5),(true,6),(true,7),(true,8),(true,9)] cY (by decide+kernel) (.cons .head (.cons .head .nil)) bF.self ?_;refine puM hT ?_;refine puM hT ?_;refine puM hT ?_;refine stM rfl (ldO hT (dB kT1)) ?_;refine puM hT ?_;refine puM hT ?_;refine puM hT ?_;refine stM rfl (ldO hT (bL kT1)) ?_;refine puM hT ?_;refine puM hT ?_;refine cK<|bB<|bH rfl (fun hc12=>?_) (fun hc12=>?_)
  · have hc12:=of_decide_eq_true hc12;refine bA<|cU _ _ [(true,0),(true,1),(true,2),(true,3),(true,4),(true,5),(true,6),(true,7),(true,8),(true,9),(false,10)] cY (by decide+kernel) (.cons kT1 .nil) bF.self ?_;refine puM hT ?_;refine puM hT ?_;refine puM hT ?_;refine stM rfl (ldO hT (bL .head)) ?_;refine puM hT ?_;refine puM hT ?_;refine puM hT ?_;refine stM rfl (ldO hT (dB .head)) ?_
    obtain⟨x2,hx3⟩: ∃x,toks[k]?=some x:=⟨_,List.getElem?_eq_getElem (by omega)⟩
    refine stM rfl (bS hT (k:=k) (bJ (Has.of mT0)) rfl rfl rfl rfl rfl rfl rfl (by omega)) ?_;refine stM rfl (dP hT (cR.knows (bJ (Has.of mT0)) (k:=k) (x:=x2) hx3 0) rfl rfl rfl rfl rfl) ?_;refine cC (o:=_) rfl ?_;refine sto hT .head ?_;refine cB (.cons kT1 .nil) ⟨Has.of mT0,trivial⟩ ?_;refine cK<|bB<|bG<|bC ?_;exact bR () rfl (bN hT (bL .head) rfl rfl rfl rfl) (.cons kT1 .nil) trivial (by rw [qX hx3];rfl)
  have hc12:=Int.not_lt.1 (of_decide_eq_false hc12);refine bK<|bB<|sr<|ss (bY rfl rfl (tB _)) ?_;refine sto hT .head ?_;refine nn<|bG ?_;exact bR () rfl (bN hT (bL .head) rfl rfl rfl rfl) (.cons kT1 .nil) trivial (by rw [xV (by omega)];rfl)
set_option maxRecDepth 100000 in
theorem cV(bl:Nat)(A:Option Addr)(c:Nat)(toks:List TokV)(k:Nat)(e:Int)(z:Int):dH Tryz.prog 74 [.pointer (some ⟨bl,0,none⟩),.int .i64 z] [.obj bl (.cells [.slice A toks.length c,.int .i64 (k:Nat),.int .i64 e].toArray 102)] [lC.sl (.slice A toks.length c) toks] (fun(_:Unit)=> .agg #[.int .i64 (atP toks k e),.int .i64 z]) (fun(_:Unit)=>[.obj bl (.cells [.slice A toks.length c,.int .i64 (k:Nat),.int .i64 e].toArray 102)]) (fun _=>[]):=by
  have hT:=fH;refine cQ Tryz.func74 rfl Tryz.ntmps74 rfl ?_;intro β hM;refine sr<|cE rfl rfl rfl rfl yC rfl fun b1=>?_;refine nn<|sr<|sp hT ?_;refine bO Tryz.func134 (at_spec bl A c toks (k) e) rfl rfl (.cons kT1 .nil) ⟨Has.of mT0,trivial⟩ fun _=>?_;refine sp hT ?_;refine ss (bY rfl rfl (tZ _ _)) ?_;refine sto hT kT1 ?_;refine nn<|bG ?_;exact bR () rfl (bN hT (bL .head) rfl rfl rfl rfl) (.cons kT1 .nil) trivial (rfl)
set_option maxRecDepth 100000 in
theorem phraseT_spec(bl:Nat)(A:Option Addr)(c:Nat)(toks:List TokV)(k:Nat)(e:Int)(hk:k≤1000000):dH Tryz.prog 138 [.pointer (some ⟨bl,0,none⟩),.bool true] [.obj bl (.cells [.slice A toks.length c,.int .i64 (k:Nat),.int .i64 e].toArray 102)] [lC.sl (.slice A toks.length c) toks] (fun(_:Unit)=>phrV (bU toks k e true)) (fun(_:Unit)=>[.obj bl (.cells [.slice A toks.length c,.int .i64 ((bU toks k e true).next:Nat),.int .i64 e].toArray 102)]) (fun _=>[]):=by
  have hT:=fH;refine cQ Tryz.func138 rfl Tryz.ntmps138 rfl ?_;intro β hM;refine sr<|cE rfl rfl rfl rfl lZ rfl fun b1=>?_;refine cE rfl rfl rfl rfl yC rfl fun b2=>?_;refine nn<|sr<|sp hT ?_;refine bO Tryz.func73 (iD bl A c toks (k) e) rfl rfl (.cons kT2 .nil) ⟨Has.of mT0,trivial⟩ fun _=>?_;refine cE rfl rfl rfl rfl wC rfl fun b3=>?_;refine sto hT .head ?_;refine nn<|sr<|sp hT ?_;refine bO Tryz.func74 (cV bl A c toks (k) e _) rfl rfl (.cons kT1 .nil) ⟨Has.of mT0,trivial⟩ fun _=>?_;refine cE rfl rfl rfl rfl yC rfl fun b4=>?_;refine sto hT .head ?_;refine nn<|sr<|sp3 hT ?_;refine ss (ldO hT (dB kT1)) ?_;refine sp hT ?_;refine bP (z':=(((k+1):Nat):Int)) (cL (by omega) (by omega)) ?_;refine sp2 hT ?_;refine sto hT kT1 ?_;refine nn<|sr<|sp hT ?_;refine ss (ldO hT (dB kT2)) ?_;refine ss (bY rfl rfl (qA _ _)) ?_;refine cE rfl rfl rfl rfl lZ rfl fun b5=>?_;refine sto hT .head ?_;refine nn<|bA<|sr<|sp hT ?_;refine nn<|cI rfl rfl ?_;refine bE<|sp hT ?_;refine sto hT .head ?_;refine nn<|sr<|sp hT ?_;refine ss (ldO hT (fE kT3)) ?_;refine sp hT ?_;refine bO Tryz.func166 (bCc _ true) rfl rfl .nil trivial fun _=>?_;refine sp4 hT ?_;refine sto hT .head ?_;refine nn<|bA<|sr<|sp hT ?_;refine bO Tryz.func73 (iD bl A c toks ((k+1)) e) rfl rfl (.cons kT1 .nil) ⟨Has.of mT0,trivial⟩ fun _=>?_;refine cE rfl rfl rfl rfl wC rfl fun b6=>?_;refine sto hT .head ?_;refine nn<|sr<|sp hT ?_;refine ss (ldO hT (bL .head)) ?_;refine sp2 hT ?_;refine cF (fun hg39=>?_) (fun hg39=>?_)
  · have hg39:=eq_of_beq hg39;refine sp hT ?_;refine ss (ldO hT (fE .head)) ?_;refine sp2 hT ?_;refine cF (fun hg43=>?_) (fun hg43=>?_)
    · have hg43:(bQ toks ((k+1))).word=([47]:Bs):=eq_of_beq hg43;refine sk3 ?_;refine sp2 hT ?_;refine sk3 ?_;refine sp2 hT ?_;refine nn<|cI rfl rfl ?_;refine sr<|sp3 hT ?_;refine ss (ldO hT (dB kT1)) ?_;refine sp hT ?_;refine bP (z':=((((k+1)+1):Nat):Int)) (cL (by omega) (by omega)) ?_;refine sp2 hT ?_;refine sto hT kT1 ?_;refine nn<|sr<|sp hT ?_;refine ss (ldO hT (fE kT4)) ?_;refine bO Tryz.func200 (iZ _) rfl rfl .nil trivial fun _=>?_;refine sp hT ?_;refine sto hT kT2 ?_;refine nn<|bA<|sr<|sp hT ?_;refine ss (ldO hT (fE .head)) ?_;refine sp2 hT ?_;refine cF (fun hg68=>?_) (fun hg68=>?_)
      · have hg68:=of_decide_eq_true hg68;refine sk4 ?_;refine sk ?_;refine sp hT ?_;refine nn<|cI rfl rfl ?_;refine bA<|cU _ _ [(true,0),(true,1),(false,2),(false,3)] cY (by decide+kernel) (.cons .head (.cons .head (.cons .head (.cons .head (.cons .head .nil))))) bF.self ?_;refine stM rfl (ldN hT (bL .head)) ?_;refine stM rfl (ldN hT (bL kT3)) ?_;refine cC (o:=_) rfl ?_;refine sto hT kT6 ?_;refine cB (.cons kT1 (.cons kT1 (.cons kT1 (.cons kT1 (.cons kT1 .nil))))) ⟨Has.of mT0,trivial⟩ ?_;refine cC (o:=_) rfl ?_;refine sto hT kT6 ?_;refine cB (.cons kT2 (.cons kT2 (.cons kT2 (.cons kT2 (.cons kT2 .nil))))) ⟨Has.of mT0,trivial⟩ ?_;refine cK<|bB<|bG<|bC<|bC ?_;have hph:bU toks k e true=⟨4,(bQ toks (k)).at_,(gO (bQ toks k).word),((atP toks (k) e),43),((k+1)+1)⟩:=by first | (simp [bU, *];done) | simp_all [bU]
        rw [hph];exact bM () rfl (bN hT (bL kT1) rfl rfl rfl rfl) (bN hT (bL .head) rfl rfl rfl rfl) (.cons kT3 .nil) trivial (rfl)
      have hg68:=Int.not_lt.1 (of_decide_eq_false hg68);refine sp hT ?_;refine ss (ldO hT (fE kT2)) ?_;refine sp hT ?_;refine cH (t':=false) ((by show((bQ toks ((k+1))).word==([46]:Bs))=_;rw [hg43];rfl)) ?_;refine sp2 hT ?_;refine cH (t':=true) rfl ?_;refine sp hT ?_;refine nn<|cI rfl rfl ?_;refine bA<|cU _ _ [(true,0),(true,1),(false,2),(false,3)] cY (by decide+kernel) (.cons .head (.cons .head (.cons .head (.cons .head (.cons .head .nil))))) bF.self ?_;refine stM rfl (ldN hT (bL .head)) ?_;refine stM rfl (ldN hT (bL kT3)) ?_;refine cC (o:=_) rfl ?_;refine sto hT kT6 ?_;refine cB (.cons kT1 (.cons kT1 (.cons kT1 (.cons kT1 (.cons kT1 .nil))))) ⟨Has.of mT0,trivial⟩ ?_;refine cC (o:=_) rfl ?_;refine sto hT kT6 ?_;refine cB (.cons kT2 (.cons kT2 (.cons kT2 (.cons kT2 (.cons kT2 .nil))))) ⟨Has.of mT0,trivial⟩ ?_;refine cK<|bB<|bG<|bC<|bC ?_;have hph:bU toks k e true=⟨4,(bQ toks (k)).at_,(gO (bQ toks k).word),((atP toks (k) e),43),((k+1)+1)⟩:=by first | (simp [bU, *];done) | simp_all [bU]
      rw [hph];exact bM () rfl (bN hT (bL kT1) rfl rfl rfl rfl) (bN hT (bL .head) rfl rfl rfl rfl) (.cons kT3 .nil) trivial (rfl)
    have hg43:(bQ toks ((k+1))).word≠([47]:Bs):=fun h=>absurd (beq_iff_eq.2 h) (by rw [show((bQ toks ((k+1))).word==([47]:Bs))=false from hg43];simp);refine sp hT ?_;refine ss (ldO hT (fE .head)) ?_;refine sp3 hT ?_;refine cF (fun hg48=>?_) (fun hg48=>?_)
    · have hg48:(bQ toks ((k+1))).word=([92]:Bs):=eq_of_beq hg48;refine sk3 ?_;refine sp2 hT ?_;refine nn<|cI rfl rfl ?_;refine sr<|sp3 hT ?_;refine ss (ldO hT (dB kT1)) ?_;refine sp hT ?_;refine bP (z':=((((k+1)+1):Nat):Int)) (cL (by omega) (by omega)) ?_;refine sp2 hT ?_;refine sto hT kT1 ?_;refine nn<|sr<|sp hT ?_;refine ss (ldO hT (fE kT4)) ?_;refine bO Tryz.func200 (iZ _) rfl rfl .nil trivial fun _=>?_;refine sp hT ?_;refine sto hT kT2 ?_;refine nn<|bA<|sr<|sp hT ?_;refine ss (ldO hT (fE .head)) ?_;refine sp2 hT ?_;refine cF (fun hg68=>?_) (fun hg68=>?_)
      · have hg68:=of_decide_eq_true hg68;refine sk4 ?_;refine sk ?_;refine sp hT ?_;refine nn<|cI rfl rfl ?_;refine bA<|cU _ _ [(true,0),(true,1),(false,2),(false,3)] cY (by decide+kernel) (.cons .head (.cons .head (.cons .head (.cons .head (.cons .head .nil))))) bF.self ?_;refine stM rfl (ldN hT (bL .head)) ?_;refine stM rfl (ldN hT (bL kT3)) ?_;refine cC (o:=_) rfl ?_;refine sto hT kT6 ?_;refine cB (.cons kT1 (.cons kT1 (.cons kT1 (.cons kT1 (.cons kT1 .nil))))) ⟨Has.of mT0,trivial⟩ ?_;refine cC (o:=_) rfl ?_;refine sto hT kT6 ?_;refine cB (.cons kT2 (.cons kT2 (.cons kT2 (.cons kT2 (.cons kT2 .nil))))) ⟨Has.of mT0,trivial⟩ ?_;refine cK<|bB<|bG<|bC<|bC ?_;have hph:bU toks k e true=⟨4,(bQ toks (k)).at_,(gO (bQ toks k).word),((atP toks (k) e),43),((k+1)+1)⟩:=by first | (simp [bU, *];done) | simp_all [bU]
        rw [hph];exact bM () rfl (bN hT (bL kT1) rfl rfl rfl rfl) (bN hT (bL .head) rfl rfl rfl rfl) (.cons kT3 .nil) trivial (rfl)
      have hg68:=Int.not_lt.1 (of_decide_eq_false hg68);refine sp hT ?_;refine ss (ldO hT (fE kT2)) ?_;refine sp hT ?_;refine cH (t':=false) ((by show((bQ toks ((k+1))).word==([46]:Bs))=_;rw [hg48];rfl)) ?_;refine sp2 hT ?_;refine cH (t':=true) rfl ?_;refine sp hT ?_;refine nn<|cI rfl rfl ?_;refine bA<|cU _ _ [(true,0),(true,1),(false,2),(false,3)] cY (by decide+kernel) (.cons .head (.cons .head (.cons .head (.cons .head (.cons .head .nil))))) bF.self ?_;refine stM rfl (ldN hT (bL .head)) ?_;refine stM rfl (ldN hT (bL kT3)) ?_;refine cC (o:=_) rfl ?_;refine sto hT kT6 ?_;refine cB (.cons kT1 (.cons kT1 (.cons kT1 (.cons kT1 (.cons kT1 .nil))))) ⟨Has.of mT0,trivial⟩ ?_;refine cC (o:=_) rfl ?_;refine sto hT kT6 ?_;refine cB (.cons kT2 (.cons kT2 (.cons kT2 (.cons kT2 (.cons kT2 .nil))))) ⟨Has.of mT0,trivial⟩ ?_;refine cK<|bB<|bG<|bC<|bC ?_;have hph:bU toks k e true=⟨4,(bQ toks (k)).at_,(gO (bQ toks k).word),((atP toks (k) e),43),((k+1)+1)⟩:=by first | (simp [bU, *];done) | simp_all [bU]
      rw [hph];exact bM () rfl (bN hT (bL kT1) rfl rfl rfl rfl) (bN hT (bL .head) rfl rfl rfl rfl) (.cons kT3 .nil) trivial (rfl)
    have hg48:(bQ toks ((k+1))).word≠([92]:Bs):=fun h=>absurd (beq_iff_eq.2 h) (by rw [show((bQ toks ((k+1))).word==([92]:Bs))=false from hg48];simp);refine sp hT ?_;refine ss (ldO hT (fE .head)) ?_;refine sp3 hT ?_;refine nn<|bH rfl (fun hc53=>?_) (fun hc53=>?_)
    · have hc53:(bQ toks ((k+1))).word=([46]:Bs):=eq_of_beq hc53;refine sr<|sp3 hT ?_;refine ss (ldO hT (dB kT1)) ?_;refine sp hT ?_;refine bP (z':=((((k+1)+1):Nat):Int)) (cL (by omega) (by omega)) ?_;refine sp2 hT ?_;refine sto hT kT1 ?_;refine nn<|sr<|sp hT ?_;refine ss (ldO hT (fE kT4)) ?_;refine bO Tryz.func200 (iZ _) rfl rfl .nil trivial fun _=>?_;refine sp hT ?_;refine sto hT kT2 ?_;refine nn<|bA<|sr<|sp hT ?_;refine ss (ldO hT (fE .head)) ?_;refine sp2 hT ?_;refine cF (fun hg68=>?_) (fun hg68=>?_)
      · have hg68:=of_decide_eq_true hg68;refine sk4 ?_;refine sk ?_;refine sp hT ?_;refine nn<|cI rfl rfl ?_;refine bA<|cU _ _ [(true,0),(true,1),(false,2),(false,3)] cY (by decide+kernel) (.cons .head (.cons .head (.cons .head (.cons .head (.cons .head .nil))))) bF.self ?_;refine stM rfl (ldN hT (bL .head)) ?_;refine stM rfl (ldN hT (bL kT3)) ?_;refine cC (o:=_) rfl ?_;refine sto hT kT6 ?_;refine cB (.cons kT1 (.cons kT1 (.cons kT1 (.cons kT1 (.cons kT1 .nil))))) ⟨Has.of mT0,trivial⟩ ?_;refine cC (o:=_) rfl ?_;refine sto hT kT6 ?_;refine cB (.cons kT2 (.cons kT2 (.cons kT2 (.cons kT2 (.cons kT2 .nil))))) ⟨Has.of mT0,trivial⟩ ?_;refine cK<|bB<|bG<|bC<|bC ?_;have hph:bU toks k e true=⟨4,(bQ toks (k)).at_,(gO (bQ toks k).word),((atP toks (k) e),43),((k+1)+1)⟩:=by first | (simp [bU, *];done) | simp_all [bU]
        rw [hph];exact bM () rfl (bN hT (bL kT1) rfl rfl rfl rfl) (bN hT (bL .head) rfl rfl rfl rfl) (.cons kT3 .nil) trivial (rfl)
      have hg68:=Int.not_lt.1 (of_decide_eq_false hg68);refine sp hT ?_;refine ss (ldO hT (fE kT2)) ?_;refine sp hT ?_;refine cH (t':=true) ((by show((bQ toks ((k+1))).word==([46]:Bs))=_;rw [hc53];rfl)) ?_;refine sp2 hT ?_;refine cH (t':=false) rfl ?_;refine sp hT ?_;refine nn<|cN rfl rfl ?_;refine bK<|bB<|sr<|sp hT ?_;refine ss (ldO hT (fE kT2)) ?_;refine nn<|bT<|sr<|sp hT ?_;refine cH (t':=false) ((by show((bQ toks ((k+1))).word==([47]:Bs))=_;rw [hc53];rfl)) ?_;refine sp hT ?_;refine nn<|cN rfl rfl ?_;refine sr<|sp hT ?_;refine cH (t':=false) ((by show((bQ toks ((k+1))).word==([92]:Bs))=_;rw [hc53];rfl)) ?_;refine sp hT ?_;refine nn<|cN rfl rfl ?_;refine bE<|sp hT ?_;refine sto hT .head ?_;refine dU<|cA<|bB<|bA<|sr<|sp hT ?_;refine ss (ldO hT (fE .head)) ?_;refine sp hT ?_;refine nn<|bH rfl (fun hc88=>?_) (fun hc88=>?_)
      · have hc88:=eq_of_beq hc88;refine bA<|cU _ _ [(true,0),(true,1),(false,2),(false,3)] cY (by decide+kernel) (.cons .head (.cons .head (.cons .head (.cons .head (.cons .head .nil))))) bF.self ?_;refine stM rfl (ldN hT (bL .head)) ?_;refine stM rfl (ldN hT (bL kT3)) ?_;refine cC (o:=_) rfl ?_;refine sto hT kT6 ?_;refine cB (.cons kT1 (.cons kT1 (.cons kT1 (.cons kT1 (.cons kT1 .nil))))) ⟨Has.of mT0,trivial⟩ ?_;refine cC (o:=_) rfl ?_;refine sto hT kT6 ?_;refine cB (.cons kT2 (.cons kT2 (.cons kT2 (.cons kT2 (.cons kT2 .nil))))) ⟨Has.of mT0,trivial⟩ ?_;refine cK<|bB<|bG<|bC ?_;have hph:bU toks k e true=⟨7,(bQ toks (k)).at_,(gO (bQ toks k).word),((atP toks (k) e),43),((k+1)+1)⟩:=by first | (simp [bU, *];done) | simp_all [bU]
        rw [hph];exact bM () rfl (bN hT (bL kT1) rfl rfl rfl rfl) (bN hT (bL .head) rfl rfl rfl rfl) (.cons kT3 .nil) trivial (rfl)
      have hc88:=beq_eq_false_iff_ne.1 hc88;refine bK<|bB<|sr<|ss (ldN hT (bL .head)) ?_;refine ss (bY rfl rfl (vU)) ?_;refine sto hT kT6 ?_;refine sto hT kT6 ?_;refine nn<|bG ?_;have hph:bU toks k e true=⟨7,(bQ toks (k)).at_,(gO (bQ toks k).word),(0,0),((k+1)+1)⟩:=by first | (simp [bU, *];done) | simp_all [bU]
      rw [hph];exact bM () rfl (bN hT (bL kT1) rfl rfl rfl rfl) (bN hT (bL .head) rfl rfl rfl rfl) (.cons kT3 .nil) trivial (rfl)
    have hc53:(bQ toks ((k+1))).word≠([46]:Bs):=fun h=>absurd (beq_iff_eq.2 h) (by rw [show((bQ toks ((k+1))).word==([46]:Bs))=false from hc53];simp);refine bK<|bB<|bA<|sr<|sp hT ?_;refine ss (ldO hT (fE kT2)) ?_;refine sp hT ?_;refine nn<|bH rfl (fun hc88=>?_) (fun hc88=>?_)
    · have hc88:=eq_of_beq hc88;refine bA<|cU _ _ [(true,0),(true,1),(false,2),(false,3)] cY (by decide+kernel) (.cons .head (.cons .head (.cons .head (.cons .head (.cons .head .nil))))) bF.self ?_;refine stM rfl (ldN hT (bL kT2)) ?_;refine stM rfl (ldN hT (bL kT3)) ?_;refine cC (o:=_) rfl ?_;refine sto hT kT6 ?_;refine cB (.cons kT1 (.cons kT1 (.cons kT1 (.cons kT1 (.cons kT1 .nil))))) ⟨Has.of mT0,trivial⟩ ?_;refine cC (o:=_) rfl ?_;refine sto hT kT6 ?_;refine cB (.cons kT2 (.cons kT2 (.cons kT2 (.cons kT2 (.cons kT2 .nil))))) ⟨Has.of mT0,trivial⟩ ?_;refine cK<|bB<|bG<|bC ?_;have hph:bU toks k e true=⟨4,(bQ toks (k)).at_,(gG (bQ toks k).word true),((atP toks (k) e),43),(k+1)⟩:=by first | (simp [bU, *];done) | simp_all [bU]
      rw [hph];exact bM () rfl (bN hT (bL kT1) rfl rfl rfl rfl) (bN hT (bL .head) rfl rfl rfl rfl) (.cons kT3 .nil) trivial (rfl)
    have hc88:=beq_eq_false_iff_ne.1 hc88;refine bK<|bB<|sr<|ss (ldN hT (bL kT2)) ?_;refine ss (bY rfl rfl (vU)) ?_;refine sto hT kT6 ?_;refine sto hT kT6 ?_;refine nn<|bG ?_;have hph:bU toks k e true=⟨4,(bQ toks (k)).at_,(gG (bQ toks k).word true),(0,0),(k+1)⟩:=by first | (simp [bU, *];done) | simp_all [bU]
    rw [hph];exact bM () rfl (bN hT (bL kT1) rfl rfl rfl rfl) (bN hT (bL .head) rfl rfl rfl rfl) (.cons kT3 .nil) trivial (rfl)
  have hg39:=beq_eq_false_iff_ne.1 hg39;refine sk4 ?_;refine sk4 ?_;refine sk4 ?_;refine sk ?_;refine sp hT ?_;refine nn<|cN rfl rfl ?_;refine bK<|bB<|bA<|sr<|sp hT ?_;refine ss (ldO hT (fE kT2)) ?_;refine sp hT ?_;refine nn<|bH rfl (fun hc88=>?_) (fun hc88=>?_)
  · have hc88:=eq_of_beq hc88;refine bA<|cU _ _ [(true,0),(true,1),(false,2),(false,3)] cY (by decide+kernel) (.cons .head (.cons .head (.cons .head (.cons .head (.cons .head .nil))))) bF.self ?_;refine stM rfl (ldN hT (bL kT2)) ?_;refine stM rfl (ldN hT (bL kT3)) ?_;refine cC (o:=_) rfl ?_;refine sto hT kT6 ?_;refine cB (.cons kT1 (.cons kT1 (.cons kT1 (.cons kT1 (.cons kT1 .nil))))) ⟨Has.of mT0,trivial⟩ ?_;refine cC (o:=_) rfl ?_;refine sto hT kT6 ?_;refine cB (.cons kT2 (.cons kT2 (.cons kT2 (.cons kT2 (.cons kT2 .nil))))) ⟨Has.of mT0,trivial⟩ ?_;refine cK<|bB<|bG<|bC ?_;have hph:bU toks k e true=⟨4,(bQ toks (k)).at_,(gG (bQ toks k).word true),((atP toks (k) e),43),(k+1)⟩:=by first | (simp [bU, *];done) | simp_all [bU]
    rw [hph];exact bM () rfl (bN hT (bL kT1) rfl rfl rfl rfl) (bN hT (bL .head) rfl rfl rfl rfl) (.cons kT3 .nil) trivial (rfl)
  have hc88:=beq_eq_false_iff_ne.1 hc88;refine bK<|bB<|sr<|ss (ldN hT (bL kT2)) ?_;refine ss (bY rfl rfl (vU)) ?_;refine sto hT kT6 ?_;refine sto hT kT6 ?_;refine nn<|bG ?_;have hph:bU toks k e true=⟨4,(bQ toks (k)).at_,(gG (bQ toks k).word true),(0,0),(k+1)⟩:=by first | (simp [bU, *];done) | simp_all [bU]
  rw [hph];exact bM () rfl (bN hT (bL kT1) rfl rfl rfl rfl) (bN hT (bL .head) rfl rfl rfl rfl) (.cons kT3 .nil) trivial (rfl)
set_option maxRecDepth 100000 in
theorem phraseF_spec(bl:Nat)(A:Option Addr)(c:Nat)(toks:List TokV)(k:Nat)(e:Int)(hk:k≤1000000):dH Tryz.prog 138 [.pointer (some ⟨bl,0,none⟩),.bool false] [.obj bl (.cells [.slice A toks.length c,.int .i64 (k:Nat),.int .i64 e].toArray 102)] [lC.sl (.slice A toks.length c) toks] (fun(_:Unit)=>phrV (bU toks k e false)) (fun(_:Unit)=>[.obj bl (.cells [.slice A toks.length c,.int .i64 ((bU toks k e false).next:Nat),.int .i64 e].toArray 102)]) (fun _=>[]):=by
  have hT:=fH;refine cQ Tryz.func138 rfl Tryz.ntmps138 rfl ?_;intro β hM;refine sr<|cE rfl rfl rfl rfl lZ rfl fun b1=>?_;refine cE rfl rfl rfl rfl yC rfl fun b2=>?_;refine nn<|sr<|sp hT ?_;refine bO Tryz.func73 (iD bl A c toks (k) e) rfl rfl (.cons kT2 .nil) ⟨Has.of mT0,trivial⟩ fun _=>?_;refine cE rfl rfl rfl rfl wC rfl fun b3=>?_;refine sto hT .head ?_;refine nn<|sr<|sp hT ?_;refine bO Tryz.func74 (cV bl A c toks (k) e _) rfl rfl (.cons kT1 .nil) ⟨Has.of mT0,trivial⟩ fun _=>?_;refine cE rfl rfl rfl rfl yC rfl fun b4=>?_;refine sto hT .head ?_;refine nn<|sr<|sp3 hT ?_;refine ss (ldO hT (dB kT1)) ?_;refine sp hT ?_;refine bP (z':=(((k+1):Nat):Int)) (cL (by omega) (by omega)) ?_;refine sp2 hT ?_;refine sto hT kT1 ?_;refine nn<|sr<|sp hT ?_;refine ss (ldO hT (dB kT2)) ?_;refine ss (bY rfl rfl (qA _ _)) ?_;refine cE rfl rfl rfl rfl lZ rfl fun b5=>?_;refine sto hT .head ?_;refine nn<|bA<|sr<|sp hT ?_;refine nn<|cN rfl rfl ?_;refine bK<|bB<|sr<|sp hT ?_;refine ss (ldO hT (fE kT3)) ?_;refine sp hT ?_;refine bO Tryz.func166 (bCc _ false) rfl rfl .nil trivial fun _=>?_;refine sp4 hT ?_;refine sto hT .head ?_;refine nn<|bA<|sr<|sp hT ?_;refine bO Tryz.func73 (iD bl A c toks ((k+1)) e) rfl rfl (.cons kT1 .nil) ⟨Has.of mT0,trivial⟩ fun _=>?_;refine cE rfl rfl rfl rfl wC rfl fun b6=>?_;refine sto hT .head ?_;refine nn<|sr<|sp hT ?_;refine ss (ldO hT (bL .head)) ?_;refine sp2 hT ?_;refine cF (fun hg39=>?_) (fun hg39=>?_)
  · have hg39:=eq_of_beq hg39;refine sp hT ?_;refine ss (ldO hT (fE .head)) ?_;refine sp2 hT ?_;refine cF (fun hg43=>?_) (fun hg43=>?_)
    · have hg43:(bQ toks ((k+1))).word=([47]:Bs):=eq_of_beq hg43;refine sk3 ?_;refine sp2 hT ?_;refine sk3 ?_;refine sp2 hT ?_;refine nn<|cI rfl rfl ?_;refine sr<|sp3 hT ?_;refine ss (ldO hT (dB kT1)) ?_;refine sp hT ?_;refine bP (z':=((((k+1)+1):Nat):Int)) (cL (by omega) (by omega)) ?_;refine sp2 hT ?_;refine sto hT kT1 ?_;refine nn<|sr<|sp hT ?_;refine ss (ldO hT (fE kT4)) ?_;refine bO Tryz.func200 (iZ _) rfl rfl .nil trivial fun _=>?_;refine sp hT ?_;refine sto hT kT2 ?_;refine nn<|bA<|sr<|sp hT ?_;refine ss (ldO hT (fE .head)) ?_;refine sp2 hT ?_;refine cF (fun hg68=>?_) (fun hg68=>?_)
      · have hg68:=of_decide_eq_true hg68;refine sk4 ?_;refine sk ?_;refine sp hT ?_;refine nn<|cI rfl rfl ?_;refine bA<|cU _ _ [(true,0),(true,1),(false,2),(false,3)] cY (by decide+kernel) (.cons .head (.cons .head (.cons .head (.cons .head (.cons .head .nil))))) bF.self ?_;refine stM rfl (ldN hT (bL .head)) ?_;refine stM rfl (ldN hT (bL kT3)) ?_;refine cC (o:=_) rfl ?_;refine sto hT kT6 ?_;refine cB (.cons kT1 (.cons kT1 (.cons kT1 (.cons kT1 (.cons kT1 .nil))))) ⟨Has.of mT0,trivial⟩ ?_;refine cC (o:=_) rfl ?_;refine sto hT kT6 ?_;refine cB (.cons kT2 (.cons kT2 (.cons kT2 (.cons kT2 (.cons kT2 .nil))))) ⟨Has.of mT0,trivial⟩ ?_;refine cK<|bB<|bG<|bC<|bC ?_;have hph:bU toks k e false=⟨3,(bQ toks (k)).at_,(gO (bQ toks k).word),((atP toks (k) e),43),((k+1)+1)⟩:=by first | (simp [bU, *];done) | simp_all [bU]
        rw [hph];exact bM () rfl (bN hT (bL kT1) rfl rfl rfl rfl) (bN hT (bL .head) rfl rfl rfl rfl) (.cons kT3 .nil) trivial (rfl)
      have hg68:=Int.not_lt.1 (of_decide_eq_false hg68);refine sp hT ?_;refine ss (ldO hT (fE kT2)) ?_;refine sp hT ?_;refine cH (t':=false) ((by show((bQ toks ((k+1))).word==([46]:Bs))=_;rw [hg43];rfl)) ?_;refine sp2 hT ?_;refine cH (t':=false) rfl ?_;refine sp hT ?_;refine nn<|cN rfl rfl ?_;refine bK<|bB<|sr<|sp hT ?_;refine ss (ldO hT (fE kT2)) ?_;refine nn<|bT<|sr<|sp hT ?_;refine cH (t':=true) ((by show((bQ toks ((k+1))).word==([47]:Bs))=_;rw [hg43];rfl)) ?_;refine sp hT ?_;refine nn<|cI rfl rfl ?_;refine bE<|sp hT ?_;refine sto hT .head ?_;refine dU<|cA<|bB<|bA<|sr<|sp hT ?_;refine ss (ldO hT (fE .head)) ?_;refine sp hT ?_;refine nn<|bH rfl (fun hc88=>?_) (fun hc88=>?_)
      · have hc88:=eq_of_beq hc88;refine bA<|cU _ _ [(true,0),(true,1),(false,2),(false,3)] cY (by decide+kernel) (.cons .head (.cons .head (.cons .head (.cons .head (.cons .head .nil))))) bF.self ?_;refine stM rfl (ldN hT (bL .head)) ?_;refine stM rfl (ldN hT (bL kT3)) ?_;refine cC (o:=_) rfl ?_;refine sto hT kT6 ?_;refine cB (.cons kT1 (.cons kT1 (.cons kT1 (.cons kT1 (.cons kT1 .nil))))) ⟨Has.of mT0,trivial⟩ ?_;refine cC (o:=_) rfl ?_;refine sto hT kT6 ?_;refine cB (.cons kT2 (.cons kT2 (.cons kT2 (.cons kT2 (.cons kT2 .nil))))) ⟨Has.of mT0,trivial⟩ ?_;refine cK<|bB<|bG<|bC ?_;have hph:bU toks k e false=⟨5,(bQ toks (k)).at_,(gO (bQ toks k).word),((atP toks (k) e),43),((k+1)+1)⟩:=by first | (simp [bU, *];done) | simp_all [bU]
        rw [hph];exact bM () rfl (bN hT (bL kT1) rfl rfl rfl rfl) (bN hT (bL .head) rfl rfl rfl rfl) (.cons kT3 .nil) trivial (rfl)
      have hc88:=beq_eq_false_iff_ne.1 hc88;refine bK<|bB<|sr<|ss (ldN hT (bL .head)) ?_;refine ss (bY rfl rfl (vU)) ?_;refine sto hT kT6 ?_;refine sto hT kT6 ?_;refine nn<|bG ?_;have hph:bU toks k e false=⟨5,(bQ toks (k)).at_,(gO (bQ toks k).word),(0,0),((k+1)+1)⟩:=by first | (simp [bU, *];done) | simp_all [bU]
      rw [hph];exact bM () rfl (bN hT (bL kT1) rfl rfl rfl rfl) (bN hT (bL .head) rfl rfl rfl rfl) (.cons kT3 .nil) trivial (rfl)
    have hg43:(bQ toks ((k+1))).word≠([47]:Bs):=fun h=>absurd (beq_iff_eq.2 h) (by rw [show((bQ toks ((k+1))).word==([47]:Bs))=false from hg43];simp);refine sp hT ?_;refine ss (ldO hT (fE .head)) ?_;refine sp3 hT ?_;refine cF (fun hg48=>?_) (fun hg48=>?_)
    · have hg48:(bQ toks ((k+1))).word=([92]:Bs):=eq_of_beq hg48;refine sk3 ?_;refine sp2 hT ?_;refine nn<|cI rfl rfl ?_;refine sr<|sp3 hT ?_;refine ss (ldO hT (dB kT1)) ?_;refine sp hT ?_;refine bP (z':=((((k+1)+1):Nat):Int)) (cL (by omega) (by omega)) ?_;refine sp2 hT ?_;refine sto hT kT1 ?_;refine nn<|sr<|sp hT ?_;refine ss (ldO hT (fE kT4)) ?_;refine bO Tryz.func200 (iZ _) rfl rfl .nil trivial fun _=>?_;refine sp hT ?_;refine sto hT kT2 ?_;refine nn<|bA<|sr<|sp hT ?_;refine ss (ldO hT (fE .head)) ?_;refine sp2 hT ?_;refine cF (fun hg68=>?_) (fun hg68=>?_)
      · have hg68:=of_decide_eq_true hg68;refine sk4 ?_;refine sk ?_;refine sp hT ?_;refine nn<|cI rfl rfl ?_;refine bA<|cU _ _ [(true,0),(true,1),(false,2),(false,3)] cY (by decide+kernel) (.cons .head (.cons .head (.cons .head (.cons .head (.cons .head .nil))))) bF.self ?_;refine stM rfl (ldN hT (bL .head)) ?_;refine stM rfl (ldN hT (bL kT3)) ?_;refine cC (o:=_) rfl ?_;refine sto hT kT6 ?_;refine cB (.cons kT1 (.cons kT1 (.cons kT1 (.cons kT1 (.cons kT1 .nil))))) ⟨Has.of mT0,trivial⟩ ?_;refine cC (o:=_) rfl ?_;refine sto hT kT6 ?_;refine cB (.cons kT2 (.cons kT2 (.cons kT2 (.cons kT2 (.cons kT2 .nil))))) ⟨Has.of mT0,trivial⟩ ?_;refine cK<|bB<|bG<|bC<|bC ?_;have hph:bU toks k e false=⟨3,(bQ toks (k)).at_,(gO (bQ toks k).word),((atP toks (k) e),43),((k+1)+1)⟩:=by first | (simp [bU, *];done) | simp_all [bU]
        rw [hph];exact bM () rfl (bN hT (bL kT1) rfl rfl rfl rfl) (bN hT (bL .head) rfl rfl rfl rfl) (.cons kT3 .nil) trivial (rfl)
      have hg68:=Int.not_lt.1 (of_decide_eq_false hg68);refine sp hT ?_;refine ss (ldO hT (fE kT2)) ?_;refine sp hT ?_;refine cH (t':=false) ((by show((bQ toks ((k+1))).word==([46]:Bs))=_;rw [hg48];rfl)) ?_;refine sp2 hT ?_;refine cH (t':=false) rfl ?_;refine sp hT ?_;refine nn<|cN rfl rfl ?_;refine bK<|bB<|sr<|sp hT ?_;refine ss (ldO hT (fE kT2)) ?_;refine nn<|bT<|sr<|sp hT ?_;refine cH (t':=false) ((by show((bQ toks ((k+1))).word==([47]:Bs))=_;rw [hg48];rfl)) ?_;refine sp hT ?_;refine nn<|cN rfl rfl ?_;refine sr<|sp hT ?_;refine cH (t':=true) ((by show((bQ toks ((k+1))).word==([92]:Bs))=_;rw [hg48];rfl)) ?_;refine sp hT ?_;refine nn<|cI rfl rfl ?_;refine bE<|sp hT ?_;refine sto hT .head ?_;refine dU<|cA<|bB<|bA<|sr<|sp hT ?_;refine ss (ldO hT (fE .head)) ?_;refine sp hT ?_;refine nn<|bH rfl (fun hc88=>?_) (fun hc88=>?_)
      · have hc88:=eq_of_beq hc88;refine bA<|cU _ _ [(true,0),(true,1),(false,2),(false,3)] cY (by decide+kernel) (.cons .head (.cons .head (.cons .head (.cons .head (.cons .head .nil))))) bF.self ?_;refine stM rfl (ldN hT (bL .head)) ?_;refine stM rfl (ldN hT (bL kT3)) ?_;refine cC (o:=_) rfl ?_;refine sto hT kT6 ?_;refine cB (.cons kT1 (.cons kT1 (.cons kT1 (.cons kT1 (.cons kT1 .nil))))) ⟨Has.of mT0,trivial⟩ ?_;refine cC (o:=_) rfl ?_;refine sto hT kT6 ?_;refine cB (.cons kT2 (.cons kT2 (.cons kT2 (.cons kT2 (.cons kT2 .nil))))) ⟨Has.of mT0,trivial⟩ ?_;refine cK<|bB<|bG<|bC ?_;have hph:bU toks k e false=⟨6,(bQ toks (k)).at_,(gO (bQ toks k).word),((atP toks (k) e),43),((k+1)+1)⟩:=by first | (simp [bU, *];done) | simp_all [bU]
        rw [hph];exact bM () rfl (bN hT (bL kT1) rfl rfl rfl rfl) (bN hT (bL .head) rfl rfl rfl rfl) (.cons kT3 .nil) trivial (rfl)
      have hc88:=beq_eq_false_iff_ne.1 hc88;refine bK<|bB<|sr<|ss (ldN hT (bL .head)) ?_;refine ss (bY rfl rfl (vU)) ?_;refine sto hT kT6 ?_;refine sto hT kT6 ?_;refine nn<|bG ?_;have hph:bU toks k e false=⟨6,(bQ toks (k)).at_,(gO (bQ toks k).word),(0,0),((k+1)+1)⟩:=by first | (simp [bU, *];done) | simp_all [bU]
      rw [hph];exact bM () rfl (bN hT (bL kT1) rfl rfl rfl rfl) (bN hT (bL .head) rfl rfl rfl rfl) (.cons kT3 .nil) trivial (rfl)
    have hg48:(bQ toks ((k+1))).word≠([92]:Bs):=fun h=>absurd (beq_iff_eq.2 h) (by rw [show((bQ toks ((k+1))).word==([92]:Bs))=false from hg48];simp);refine sp hT ?_;refine ss (ldO hT (fE .head)) ?_;refine sp3 hT ?_;refine nn<|bH rfl (fun hc53=>?_) (fun hc53=>?_)
    · have hc53:(bQ toks ((k+1))).word=([46]:Bs):=eq_of_beq hc53;refine sr<|sp3 hT ?_;refine ss (ldO hT (dB kT1)) ?_;refine sp hT ?_;refine bP (z':=((((k+1)+1):Nat):Int)) (cL (by omega) (by omega)) ?_;refine sp2 hT ?_;refine sto hT kT1 ?_;refine nn<|sr<|sp hT ?_;refine ss (ldO hT (fE kT4)) ?_;refine bO Tryz.func200 (iZ _) rfl rfl .nil trivial fun _=>?_;refine sp hT ?_;refine sto hT kT2 ?_;refine nn<|bA<|sr<|sp hT ?_;refine ss (ldO hT (fE .head)) ?_;refine sp2 hT ?_;refine cF (fun hg68=>?_) (fun hg68=>?_)
      · have hg68:=of_decide_eq_true hg68;refine sk4 ?_;refine sk ?_;refine sp hT ?_;refine nn<|cI rfl rfl ?_;refine bA<|cU _ _ [(true,0),(true,1),(false,2),(false,3)] cY (by decide+kernel) (.cons .head (.cons .head (.cons .head (.cons .head (.cons .head .nil))))) bF.self ?_;refine stM rfl (ldN hT (bL .head)) ?_;refine stM rfl (ldN hT (bL kT3)) ?_;refine cC (o:=_) rfl ?_;refine sto hT kT6 ?_;refine cB (.cons kT1 (.cons kT1 (.cons kT1 (.cons kT1 (.cons kT1 .nil))))) ⟨Has.of mT0,trivial⟩ ?_;refine cC (o:=_) rfl ?_;refine sto hT kT6 ?_;refine cB (.cons kT2 (.cons kT2 (.cons kT2 (.cons kT2 (.cons kT2 .nil))))) ⟨Has.of mT0,trivial⟩ ?_;refine cK<|bB<|bG<|bC<|bC ?_;have hph:bU toks k e false=⟨3,(bQ toks (k)).at_,(gO (bQ toks k).word),((atP toks (k) e),43),((k+1)+1)⟩:=by first | (simp [bU, *];done) | simp_all [bU]
        rw [hph];exact bM () rfl (bN hT (bL kT1) rfl rfl rfl rfl) (bN hT (bL .head) rfl rfl rfl rfl) (.cons kT3 .nil) trivial (rfl)
      have hg68:=Int.not_lt.1 (of_decide_eq_false hg68);refine sp hT ?_;refine ss (ldO hT (fE kT2)) ?_;refine sp hT ?_;refine cH (t':=true) ((by show((bQ toks ((k+1))).word==([46]:Bs))=_;rw [hc53];rfl)) ?_;refine sp2 hT ?_;refine cH (t':=true) rfl ?_;refine sp hT ?_;refine nn<|cI rfl rfl ?_;refine bA<|cU _ _ [(true,0),(true,1),(false,2),(false,3)] cY (by decide+kernel) (.cons .head (.cons .head (.cons .head (.cons .head (.cons .head .nil))))) bF.self ?_;refine stM rfl (ldN hT (bL .head)) ?_;refine stM rfl (ldN hT (bL kT3)) ?_;refine cC (o:=_) rfl ?_;refine sto hT kT6 ?_;refine cB (.cons kT1 (.cons kT1 (.cons kT1 (.cons kT1 (.cons kT1 .nil))))) ⟨Has.of mT0,trivial⟩ ?_;refine cC (o:=_) rfl ?_;refine sto hT kT6 ?_;refine cB (.cons kT2 (.cons kT2 (.cons kT2 (.cons kT2 (.cons kT2 .nil))))) ⟨Has.of mT0,trivial⟩ ?_;refine cK<|bB<|bG<|bC<|bC ?_;have hph:bU toks k e false=⟨3,(bQ toks (k)).at_,(gO (bQ toks k).word),((atP toks (k) e),43),((k+1)+1)⟩:=by first | (simp [bU, *];done) | simp_all [bU]
      rw [hph];exact bM () rfl (bN hT (bL kT1) rfl rfl rfl rfl) (bN hT (bL .head) rfl rfl rfl rfl) (.cons kT3 .nil) trivial (rfl)
    have hc53:(bQ toks ((k+1))).word≠([46]:Bs):=fun h=>absurd (beq_iff_eq.2 h) (by rw [show((bQ toks ((k+1))).word==([46]:Bs))=false from hc53];simp);refine bK<|bB<|bA<|sr<|sp hT ?_;refine ss (ldO hT (fE kT2)) ?_;refine sp hT ?_;refine nn<|bH rfl (fun hc88=>?_) (fun hc88=>?_)
    · have hc88:=eq_of_beq hc88;refine bA<|cU _ _ [(true,0),(true,1),(false,2),(false,3)] cY (by decide+kernel) (.cons .head (.cons .head (.cons .head (.cons .head (.cons .head .nil))))) bF.self ?_;refine stM rfl (ldN hT (bL kT2)) ?_;refine stM rfl (ldN hT (bL kT3)) ?_;refine cC (o:=_) rfl ?_;refine sto hT kT6 ?_;refine cB (.cons kT1 (.cons kT1 (.cons kT1 (.cons kT1 (.cons kT1 .nil))))) ⟨Has.of mT0,trivial⟩ ?_;refine cC (o:=_) rfl ?_;refine sto hT kT6 ?_;refine cB (.cons kT2 (.cons kT2 (.cons kT2 (.cons kT2 (.cons kT2 .nil))))) ⟨Has.of mT0,trivial⟩ ?_;refine cK<|bB<|bG<|bC ?_;have hph:bU toks k e false=⟨3,(bQ toks (k)).at_,(gG (bQ toks k).word false),((atP toks (k) e),43),(k+1)⟩:=by first | (simp [bU, *];done) | simp_all [bU]
      rw [hph];exact bM () rfl (bN hT (bL kT1) rfl rfl rfl rfl) (bN hT (bL .head) rfl rfl rfl rfl) (.cons kT3 .nil) trivial (rfl)
    have hc88:=beq_eq_false_iff_ne.1 hc88;refine bK<|bB<|sr<|ss (ldN hT (bL kT2)) ?_;refine ss (bY rfl rfl (vU)) ?_;refine sto hT kT6 ?_;refine sto hT kT6 ?_;refine nn<|bG ?_;have hph:bU toks k e false=⟨3,(bQ toks (k)).at_,(gG (bQ toks k).word false),(0,0),(k+1)⟩:=by first | (simp [bU, *];done) | simp_all [bU]
    rw [hph];exact bM () rfl (bN hT (bL kT1) rfl rfl rfl rfl) (bN hT (bL .head) rfl rfl rfl rfl) (.cons kT3 .nil) trivial (rfl)
  have hg39:=beq_eq_false_iff_ne.1 hg39;refine sk4 ?_;refine sk4 ?_;refine sk4 ?_;refine sk ?_;refine sp hT ?_;refine nn<|cN rfl rfl ?_;refine bK<|bB<|bA<|sr<|sp hT ?_;refine ss (ldO hT (fE kT2)) ?_;refine sp hT ?_;refine nn<|bH rfl (fun hc88=>?_) (fun hc88=>?_)
  · have hc88:=eq_of_beq hc88;refine bA<|cU _ _ [(true,0),(true,1),(false,2),(false,3)] cY (by decide+kernel) (.cons .head (.cons .head (.cons .head (.cons .head (.cons .head .nil))))) bF.self ?_;refine stM rfl (ldN hT (bL kT2)) ?_;refine stM rfl (ldN hT (bL kT3)) ?_;refine cC (o:=_) rfl ?_;refine sto hT kT6 ?_;refine cB (.cons kT1 (.cons kT1 (.cons kT1 (.cons kT1 (.cons kT1 .nil))))) ⟨Has.of mT0,trivial⟩ ?_;refine cC (o:=_) rfl ?_;refine sto hT kT6 ?_;refine cB (.cons kT2 (.cons kT2 (.cons kT2 (.cons kT2 (.cons kT2 .nil))))) ⟨Has.of mT0,trivial⟩ ?_;refine cK<|bB<|bG<|bC ?_;have hph:bU toks k e false=⟨3,(bQ toks (k)).at_,(gG (bQ toks k).word false),((atP toks (k) e),43),(k+1)⟩:=by first | (simp [bU, *];done) | simp_all [bU]
    rw [hph];exact bM () rfl (bN hT (bL kT1) rfl rfl rfl rfl) (bN hT (bL .head) rfl rfl rfl rfl) (.cons kT3 .nil) trivial (rfl)
  have hc88:=beq_eq_false_iff_ne.1 hc88;refine bK<|bB<|sr<|ss (ldN hT (bL kT2)) ?_;refine ss (bY rfl rfl (vU)) ?_;refine sto hT kT6 ?_;refine sto hT kT6 ?_;refine nn<|bG ?_;have hph:bU toks k e false=⟨3,(bQ toks (k)).at_,(gG (bQ toks k).word false),(0,0),(k+1)⟩:=by first | (simp [bU, *];done) | simp_all [bU]
  rw [hph];exact bM () rfl (bN hT (bL kT1) rfl rfl rfl rfl) (bN hT (bL .head) rfl rfl rfl rfl) (.cons kT3 .nil) trivial (rfl)
end Go.Proofs.YtbgdphbebhjpiaaGreatDoor
