/- Texts of one proof, one behind the other: SortK, PlanA, CopyE. -/
import Derived.Test.YtnfiadlonjediaaGreatDoorM8
import Derived.Test.YtnfiadlonjediaaGreatDoorM7
import Derived.Test.YtnfiadlonjediaaGreatDoorShelfK
import Derived.Test.YtnfiadlonjediaaGreatDoorM6
import Derived.Test.YtnfiadlonjediaaGreatDoorM4
import Derived.Laws.IdiomCopy
set_option maxRecDepth 100000
namespace Go.Proofs.YtnfiadlonjediaaGreatDoor
section
open Go.RowKit Go.Sort Go.Proofs.Tryz
section
variable {g off cap : Nat} {xs ys : List Int} {w w' : World}
theorem ints_all(xs:List Int):cF.all xs=xs.map (Value.int .i64):=by
 induction xs with
 |nil=>rfl
 |cons x r ih=>
  rw[List.map_cons,<-ih];rfl
theorem yV(h:Holds (Value.int .i64) w g off xs.toArray):(cF.held (.slice (some ⟨g,off,none⟩) xs.length cap) xs).ok w:=by
 cases xs with
 |nil=>exact⟨_,_,rfl,.inl rfl⟩
 |cons x r=>
  obtain⟨h0,_⟩:=h 0 m9;unfold World.cell? at h0
  cases hh:w.heap[g]? with
  |none=>simp[hh]at h0
  |some o=>
   cases o with
   |cells cs t fz=>
    refine⟨_,_,rfl,.inr ⟨g,off,cs,t,fz,rfl,hh,λj u hj=>?_⟩⟩;rw[ints_all,List.getElem?_map]at hj
    cases hx:(x::r)[j]? with
    |none=>rw[hx]at hj;cases hj
    |some z=>
     rw[hx]at hj;cases hj;have hlt:=(List.getElem?_eq_some_iff.1 hx).1;obtain⟨h1,h2⟩:=h j q7
     have hz:(x::r).toArray[j]! =z:=by
      rw[getElem!_pos _ j q7]
      simpa using (List.getElem?_eq_some_iff.1 hx).2
     rw[hz]at h1;refine⟨?_,?_⟩
     .unfold World.cell? at h1;simp only[hh]at h1
      simpa using h1
     .unfold World.frozen? at h2;simp only[hh]at h2;exact h2
   |_=>simp[hh]at h0
theorem yY(h:(cF.held (.slice (some ⟨g,off,none⟩) xs.length cap) xs).ok w):Holds (Value.int .i64) w g off xs.toArray:=λj hj=>by
 have hlt:j<xs.length:=by simpa using hj
 obtain⟨g',off',cap',cs,t,fz,e,_,hh,hc⟩:=rE h hlt;injection e with e
 injection e with e
 injection e with e1 e2
 subst e1 e2
 have hz:xs.toArray[j]! =xs[j]:=by
  rw[getElem!_pos _ j q7];simp
 obtain⟨h1,h2⟩:=hc j (.int .i64 xs[j]) (by rw[ints_all,List.getElem?_map,List.getElem?_eq_getElem hlt];rfl);rw[hz];refine⟨?_,?_⟩
 .unfold World.cell?;simp only[hh]
  simpa using h1
 .unfold World.frozen?;simp only[hh];exact h2
theorem kept_put(d:Array Int)(n:Nat)(os:Array Obj):nP (λb=>b=g) w (grow (putRow (Value.int .i64) (Sort.ahead w n) g off d) os) where
 os:=rfl
 tape:=rfl
 output:=rfl
 size:=by
  show w.heap.size<=((w.heap.modify g _)++os).size;simp
 block:=λb hb hne=>by
  show((w.heap.modify g _)++os)[b]?=_;rw[Array.getElem?_append_left (by simpa using hb),Array.getElem?_modify,if_neg (Ne.symm hne)]
theorem holds_pre(h:Holds (Value.int .i64) w g off (xs++ys).toArray):Holds (Value.int .i64) w g off xs.toArray:=λj hj=>by
 have hlt:j<xs.length:=by simpa using hj
 have:=h j o7
 have e:(xs++ys).toArray[j]! =xs.toArray[j]!:=by
  rw[getElem!_pos _ j o7,getElem!_pos _ j q7];simp[List.getElem_append_left hlt]
 rwa[e]at this
end
def leB (x y:Int):Bool:=decide (x<=y)
def wU (l:List Int):List Int:=l.mergeSort leB
theorem yL(l:List Int):(wU l).length=l.length:=List.length_mergeSort l
theorem held_blk{A:Option Addr}{cap n:Nat}{x:Int}{r xs:List Int}(h:xs.length=(x::r).length):(cF.held (.slice A n cap) xs).blk=(cF.held (.slice A n cap) (x::r)).blk:=by
 cases xs with
 |nil=>cases h
 |cons y s=>rfl
theorem sort_spec(A:Option Addr)(cap:Nat)(xs:List Int)(hl:xs.length<=140737488355328):cE prog 161 [.slice A xs.length cap] [cF.held (.slice A xs.length cap) xs] [] (λ_:Unit=> .tuple #[]) (λ_=>[cF.held (.slice A xs.length cap) (wU xs)]) (λ_=>[]):=λS w s k=>by
 cases hx:xs with
 |nil=>
  refine(Tryz.slices_Sort_int_none A cap w).mono ?_;rintro e w' ⟨rfl,rfl⟩;subst hx;rw[show wU ([]:List Int)=[] by simp[wU]];exact⟨(),S,rfl,s,λg hg=>by simp at hg⟩
 |cons x r=>
  have hok:=s.ok _ (List.mem_cons_self ..);have h1:0<xs.length:=by rw[hx];simp
  obtain⟨g,off,cap',cs,t,fz,e,hblk,hh,hc⟩:=rE hok h1;injection e with e1 e2 e3
  subst e1 e3;have hH:=yY hok;have hg:g<w.heap.size:=(s.own _ (List.mem_cons_self ..) g hblk).1;rw[<-hx];refine(Tryz.slices_Sort_int g off cap xs w hH hg k7).mono ?_;rintro e w' ⟨rfl,n,os,rfl⟩;have hH':=holds_grow (Value.int .i64) _ os g off _ (by show g<(w.heap.modify g _).size;simpa using hg) (holds_putRow (Value.int .i64) (Sort.ahead w n) g off xs.toArray (xs.mergeSort λx y=>decide (x<=y)).toArray (holds_ahead _ w n g off _ hH) m9);have hlen:(wU xs).length=xs.length:=yL xs
  have hb':(cF.held (.slice (some ⟨g,off,none⟩) xs.length cap) (wU xs)).blk=some g:=by
   rw[<-hblk];subst hx;exact held_blk hlen
  refine⟨(),S,rfl,s.swap (kept_put _ n os) hblk hb' ?_,λg hg=>by simp at hg⟩;have:=yV (cap:=cap) hH';rw[List.length_mergeSort]at this;exact this
theorem compact_spec(A:Option Addr)(cap:Nat)(xs:List Int)(hl:xs.length<=140737488355328)(hcap:xs.length<=cap):cE prog 162 [.slice A xs.length cap] [cF.held (.slice A xs.length cap) xs] [] (λ_:Unit=> .slice A (Lib.compact xs).length cap) (λ_=>[cF.held (.slice A (Lib.compact xs).length cap) (Lib.compact xs)]) (λ_=>[]):=λS w s k=>by
 cases hx:xs with
 |nil=>
  refine(Tryz.slices_Compact_int_empty A cap w).mono ?_;rintro e w' ⟨rfl,rfl⟩;subst hx;exact⟨(),S,rfl,s,λg hg=>by simp at hg⟩
 |cons x r=>
  have hok:=s.ok _ (List.mem_cons_self ..);have h1:0<xs.length:=by rw[hx];simp
  obtain⟨g,off,cap',cs,t,fz,e,hblk,hh,hc⟩:=rE hok h1;injection e with e1 e2 e3
  subst e1 e3;have hH:=yY hok;rw[<-hx];refine(Tryz.slices_Compact_int g off cap xs w hH k7 hcap).mono ?_;rintro e w' ⟨rfl,q,rfl⟩
  have hle:(Lib.compact xs).length<=xs.length:=by
   unfold Lib.compact Lib.compactUpTo;rw[List.length_map];exact Nat.le_trans (List.length_filter_le ..) m9
  have hH':=holds_putRow (Value.int .i64) (Sort.ahead w q) g off xs.toArray (Lib.compact xs++List.replicate (xs.length-(Lib.compact xs).length) 0).toArray (holds_ahead _ w q g off _ hH) o7
  have hk:nP (λb=>b=g) w (putRow (Value.int .i64) (Sort.ahead w q) g off (Lib.compact xs++List.replicate (xs.length-(Lib.compact xs).length) 0).toArray):=⟨rfl,rfl,rfl,by show w.heap.size<=(w.heap.modify g _).size;simp,λb hb hne=>by show(w.heap.modify g _)[b]?=_;rw[Array.getElem?_modify,if_neg (Ne.symm hne)]⟩
  have hok':=yV (cap:=cap) (holds_pre hH')
  cases hc:Lib.compact xs with
  |nil=>
   rw[hc]at hk hok';have s2:=s.swap hk hblk (c':= .gen (some g) λ_=>True) rfl trivial;refine⟨(),S,rfl,?_,λg hg=>by simp at hg⟩;exact s2.recast' (λb hb=>by cases hb) hok'
  |cons y t'=>
   rw[hc]at hk hok';have s2:=s.swap hk hblk (c':=cF.held (.slice (some ⟨g,off,none⟩) (y::t').length cap) (y::t')) rfl hok';exact⟨(),S,rfl,s2,λg hg=>by simp at hg⟩
theorem compact_sub(xs:List Int): ∀z,z∈Lib.compact xs->z∈xs:=λz hz=>by
 unfold Lib.compact Lib.compactUpTo at hz;obtain⟨j,hj,rfl⟩:=List.mem_map.1 hz;have hlt:=List.mem_range.1 (List.mem_filter.1 hj).1;rw[getElem!_pos _ j q7];simp
theorem bGj(xs:List Int): ∀(j:Nat) (z:Int),xs[j]?=some z->z∈Lib.compact xs
 |0,z,h=>by
  have hlt:=(List.getElem?_eq_some_iff.1 h).1;refine List.mem_map.2 ⟨0,List.mem_filter.2 ⟨List.mem_range.2 hlt,Lib.keeps_lt_one _ 0 m7⟩,?_⟩;rw[getElem!_pos _ 0 q7]
  simpa using (List.getElem?_eq_some_iff.1 h).2
 |j+1,z,h=>by
  have hlt:=(List.getElem?_eq_some_iff.1 h).1
  have hz:xs.toArray[j+1]! =z:=by
   rw[getElem!_pos _ (j+1) q7]
   simpa using (List.getElem?_eq_some_iff.1 h).2
  by_cases e:xs.toArray[j+1]! =xs.toArray[j]!
  .have hy:xs[j]?=some z:=by
    rw[List.getElem?_eq_getElem k7];rw[hz,getElem!_pos _ j o7]at e;rw[e];simp
   exact bGj xs j z hy
  .exact List.mem_map.2 ⟨j+1,List.mem_filter.2 ⟨List.mem_range.2 hlt,Lib.keeps_pos (m:=j+1) e⟩,hz⟩
theorem mem_uses{xs:List Int}{z:Int}:z∈Lib.compact (wU xs)↔z∈xs:=by
 constructor
 .exact λh=>List.mem_mergeSort.1 (compact_sub _ z h)
 .intro h;obtain⟨j,hj⟩:=List.mem_iff_getElem?.1 (List.mem_mergeSort.2 h:z∈wU xs);exact bGj _ j z hj
theorem uses_len{xs:List Int}:(Lib.compact (wU xs)).length<=xs.length:=by
 unfold Lib.compact Lib.compactUpTo;rw[List.length_map];refine Nat.le_trans (List.length_filter_le ..) ?_;rw[List.length_range,yL];exact Nat.le_refl _
def sM (l:List OpV):List Int:=(l.filter λo=>o.how==4).map (·.k)
def nG (l:List OpV):List Int:=Lib.compact (wU (sM l))
theorem bRg(l:List OpV):(sM l).length<=l.length:=by
 unfold sM;rw[List.length_map];exact List.length_filter_le ..
theorem usesV_len(l:List OpV):(nG l).length<=l.length:=Nat.le_trans uses_len (bRg l)
section
variable {l : List OpV} {i : Nat} {o : OpV} {us : List Int}
theorem uses_yes(h:us=sM (l.take i))(ho:l[i]?=some o)(e:o.how=4):us++[o.k]=sM (l.take (i+1)):=by
 subst h;rw[List.take_add_one,ho];simp[sM,e]
theorem uses_no(h:us=sM (l.take i))(ho:l[i]?=some o)(e:o.how≠4):us=sM (l.take (i+1)):=by
 subst h;rw[List.take_add_one,ho];simp[sM,e]
theorem uses_full(h:us=sM (l.take i))(hi:l.length<=i):us=sM l:=by rw[h,List.take_of_length_le hi]
theorem bEr{z:Int}:z∈nG l↔ ∃o∈l,o.how=4/\o.k=z:=by
 unfold nG;rw[mem_uses];simp[sM,and_assoc]
end
theorem uses_spec(A:Option Addr)(c:Nat)(l:List OpV)(hl:l.length<=17592186044416):cE prog 89 [.slice A l.length c] [] [opE.sl (.slice A l.length c) l] (λ(x:Option Addr×Nat)=> .slice x.1 (nG l).length x.2) (λ_=>[]) (λ(x:Option Addr×Nat)=>[cF.sl (.slice x.1 (nG l).length x.2) (nG l)]):=by
 have hT:=dB;refine j2 func89 ntmps89 ?_;intro β hM;refine g19 ?_;refine bZ (t:=3) cF ?_;refine bU (ι:=Nat×List Int×Option Addr×Nat) [(6,_),(7,_)] ⟨rfl,rfl,e8⟩ (λ⟨i,us,UA,uc⟩=>[(3,.slice UA us.length uc),(8,.int .i64 (i:Nat))]) (λ⟨i,us,UA,uc⟩=>[cF.row (.slice UA us.length uc) 3 us]) (λ⟨i,us,UA,uc⟩=>[bC.pure (i<=l.length/\us=sM (l.take i))]) (λ⟨i,us,UA,uc⟩=>l.length-i) (0,[],none,0) ⟨rfl,rfl,e8⟩ (.c0 .nil) ⟨e9 (⟨k7,rfl⟩),e8⟩ ?_;rintro⟨i,us,UA,uc⟩;dsimp only;refine bJ d7 λhinv3=>?_;have hul:us.length<=i:=by rw[hinv3.2];exact Nat.le_trans (bRg _) (List.length_take_le ..)
 refine g6 ?_;refine dH (λhc9=>?_) λhc9=>?_
 .refine g6 ?_;obtain⟨x1,hx2⟩:=gx l i;refine ss (ixs i) ?_;refine ss (jQ hx2 0) ?_;refine i7 bAm λb3=>?_;refine g10 ?_;refine jN (λhc14=>?_) λhc14=>?_
  .refine g4 ?_;refine at_one_int (m:=x1.k) rfl rfl rfl rfl rfl λb4=>?_;refine at_app_int kT2 (gB .head rfl) rfl rfl rfl rfl rfl rfl rfl o7 λA5 c6=>?_;refine g6 ?_;refine inc (i+1) ?_;refine g3 ?_;exact bk2 (i+1,us++[x1.k],A5,c6) ⟨e9 (⟨by dsimp only;omega,uses_yes hinv3.2 hx2 ‹_›⟩),e8⟩
  refine g5 ?_;refine inc (i+1) ?_;refine g3 ?_;exact bk2 (i+1,us,UA,uc) ⟨e9 (⟨by dsimp only;omega,uses_no hinv3.2 hx2 ‹_›⟩),e8⟩
 refine g6 ?_;have hue:us=sM l:=uses_full hinv3.2 k7;refine g2 ?_;refine bEx .head λhcap=>bBd .head ?_;refine bF func161 (sort_spec UA uc us k7) rfl rfl (.c0 .nil) e8 λ_=>?_;have hsl:=yL us;refine g5 ?_;have cs:=compact_spec UA uc (wU us) k7 k7;rw[yL]at cs;refine f9 func162 cs (.c0 .nil) e8 λ_=>?_;refine qG .head ?_;refine g4 ?_;subst hue;exact rs1 (UA,uc) ⟨d7,e8⟩
end
section
open Go.RowKit Go.Proofs.Tryz
theorem bHb{P:Program}(w:World)(dT sT ty elem:TypeId)(z b o dLen dCap:Nat)(a:Addr)(sLen sCap:Nat)(cs:List Value)
  (hu:P.underlying dT=some (.slice elem)) (hs:(P.info? elem).map (·.size)=some z) (hn:cs.length=Nat.min sLen dLen*z)
  (hsrc: ∀j v,cs[j]?=some v->w.cell? (a.add j)=some v) (hc: ∀j,j<cs.length->(w.cell? ⟨b,o+j,none⟩).isSome=true) (hf: ∀j,j<cs.length->w.frozen? ⟨b,o+j,none⟩=false) (h1: ∀v∈cs,v.oneCell'=true):
  (Builtin.copy_ #[dT,sT] ty #[.slice (some ⟨b,o,none⟩) dLen dCap,.slice (some a) sLen sCap]).run P w= .ok (goInt (Nat.min sLen dLen)) (w.setCells b o cs):=by
 have hl:=run_loadCells_list (P:=P) w a cs hsrc;have hst:=run_storeCells_cells (P:=P) b o cs 0 w (by simpa using hc) (by simpa using hf) h1
 cases hq:P.info? elem with
 |none=>simp[hq]at hs
 |some i=>
  have hi:i.size=z:=by simpa[hq]using hs
  rw[hn]at hl;simp[Builtin.copy_,run_underlying hu,Builtin.lenOf,Builtin.firstCells,sizeOf,typeInfo,hq,hi,hl,hst]
theorem bLg{P:Program}(w:World)(dT sT ty elem:TypeId)(z:Nat)(d a:Option Addr)(dLen dCap sLen sCap:Nat)(hu:P.underlying dT=some (.slice elem))(hs:(P.info? elem).map (·.size)=some z)(hn:Nat.min sLen dLen=0):
  (Builtin.copy_ #[dT,sT] ty #[.slice d dLen dCap,.slice a sLen sCap]).run P w= .ok (goInt 0) w:=by
 cases hq:P.info? elem with
 |none=>simp[hq]at hs
 |some i=>
  have hl: ∀(x:Addr),(loadCells x 0).run P w= .ok #[] w:=λx=>by simpa using run_loadCells_list (P:=P) w x [] m9
  cases d<;>cases a<;>simp[Builtin.copy_,run_underlying hu,Builtin.lenOf,Builtin.firstCells,sizeOf,typeInfo,hq,hn,storeCells,hl]
section
variable {α : Type} {E : Flat α} {β : dC} {H : List bD} {F : List bC}
theorem dL.cellsE{A:Option Addr}{xs:List α}{w:World}{S:jF}(hr:dL β H F E A xs)(s:St β H S w)(hF:All F S w)(h0:0<xs.length):
  ∃b off,A=some ⟨b,off,none⟩/\ ∀j u,(E.all xs)[j]?=some u->w.cell? ((⟨b,off,none⟩:Addr).add j)=some u:=by
 obtain⟨⟨b,off,rfl⟩,_⟩:=hr w S s hF 0 _ (List.getElem?_eq_getElem h0);refine⟨b,off,rfl,λj u hj=>?_⟩;have hlt:=(List.getElem?_eq_some_iff.1 hj).1;rw[E.all_length]at hlt;have hk:j/E.size<xs.length:=Nat.div_lt_of_lt_mul (by rwa[Nat.mul_comm]at hlt);have hm:j%E.size<E.size:=Nat.mod_lt _ E.pos;have hx':=List.getElem?_eq_getElem hk;have hu':=List.getElem?_eq_getElem (l:=E.cells xs[j/E.size]) (i:=j%E.size) (by rw[E.len];exact hm);have e:j/E.size*E.size+j%E.size=j:=by rw[Nat.mul_comm];exact Nat.div_add_mod j E.size
 have h1:=(hr w S s hF _ _ hx').2 _ _ hu';have h2:=E.all_get hx' hu';rw[e,hj]at h2;injection h2 with h2
 have h3:=h1.trans (congrArg some h2.symm);rw[Nat.add_assoc,e]at h3;rw[Addr.add_mid];exact h3
theorem dL.preE{A:Option Addr}{xs:List α}(h:dL β H F E A xs)(r:Nat):dL β H F E A (xs.take r):=λw S s hF k x hk=>by
 rw[List.getElem?_take]at hk;split at hk
 .exact h w S s hF k x hk
 .cases hk
theorem all_take(xs:List α)(q:Nat)(h:q<=xs.length):(E.all xs).take (q*E.size)=E.all (xs.take q):=by
 have e:(E.all (xs.take q)).length=q*E.size:=by rw[E.all_length,List.length_take,Nat.min_eq_left h]
 conv=>lhs;rw[<-List.take_append_drop q xs,E.all_append]
 rw[List.take_append_of_le_length k7,List.take_of_length_le k7]
theorem all_drop(xs:List α)(q:Nat)(h:q<=xs.length):(E.all xs).drop (q*E.size)=E.all (xs.drop q):=by
 have e:(E.all (xs.take q)).length=q*E.size:=by rw[E.all_length,List.length_take,Nat.min_eq_left h]
 conv=>lhs;rw[<-List.take_append_drop q xs,E.all_append]
 rw[List.drop_append_of_le_length k7,List.drop_of_length_le k7,List.nil_append]
theorem bCw{P:Program}{n:Nat}{Γ:Env}{Q:Exit->Act->World->Prop}{ops:Array Oper}{rest:List Oper}{o:Oper}{d:Nat}{x y:Operand}{t e t':TypeId}{g c cap m q off l lc s:Nat}{A:Option Addr}{xs ys:List α}{H':List bD}(hr:dL β H F E A ys)(hw:want ops Γ o=some true)
  (ho:o.op= .call {callee:= .builtin .copy,args:= #[x,y],argTypes:= #[t,t]}) (hd:o.dst=some d) (hn:Nat.blt d n=true) (hu:P.underlying t=some (.slice e)) (hs:(P.info? e).map (·.size)=some E.size)
  (hx:Γ.ev x=some (.slice (some ⟨g,off,none⟩) l lc)) (hoff:off=q*E.size) (hm:xs.length=m) (hy:Γ.ev y=some (.slice A s c)) (hmin:ys.length=Nat.min s l) (hq:q+ys.length<=m) (hH:bW H (E.row (.slice (some ⟨g,0,none⟩) m cap) t' xs) H')
  (k:At β n ((d,.int .i64 (ys.length:Nat))::Γ) (E.row (.slice (some ⟨g,0,none⟩) m cap) t' (xs.take q++ys++xs.drop (q+ys.length))::H') F (wpList P ops Q rest)):At β n Γ H F (wpList P ops Q (o::rest)):=
 fY hw λa w S f st hk=>by
  subst hoff;have hl:(E.all ys).length=ys.length*E.size:=E.all_length _;have hlx:(E.all xs).length=m*E.size:=by rw[E.all_length,hm]
  have hle:q*E.size+ys.length*E.size<=m*E.size:=by rw[<-Nat.add_mul];exact Nat.mul_le_mul_right _ hq
  have s2:=st.perm hH.perm;have hown:w.ownsRow 0 t' E.size (.slice (some ⟨g,0,none⟩) m cap) xs.length (E.all xs):=st.ok _ hH.mem;rw[hm]at hown
  have hcp:(Builtin.copy_ #[t,t] o.type #[.slice (some ⟨g,q*E.size,none⟩) l lc,.slice A s c]).run P w= .ok (goInt ys.length) (w.setCells g (q*E.size) (E.all ys)):=by
   by_cases h0:0<ys.length
   .obtain⟨b,off,rfl,hb⟩:=hr.cellsE st hk h0;have:=bHb (P:=P) w t t o.type e E.size g (q*E.size) l lc ⟨b,off,none⟩ s c (E.all ys) hu hs (by rw[hl,hmin]) hb
     (λj hj=>by
      rw[World.ownsRow.cellAt hown _ k7,List.getElem?_eq_getElem (by rw[hlx];omega)]
      rfl) (λj _=>World.ownsRow.frozenAt hown _) E.all_one
    rwa[<-hmin]at this
   .have e0:ys=[]:=List.length_eq_zero_iff.1 k7;subst e0;exact bLg (P:=P) w _ _ o.type e E.size _ A l lc s c hu hs hmin.symm
  have hr':(execOp a.eval o).run P w= .ok (.value (.int .i64 (ys.length:Nat))) (w.setCells g (q*E.size) (E.all ys)):=by
   unfold execOp;simp only[ho,resolve,invoke,builtin,Sem.run_bind,Sem.run_pure,Result.andThen_ok,List.map_toArray,List.map_cons,List.map_nil,f.ev hx,f.ev hy,hcp];rfl
  unfold Oper.wp;rw[hr',Oper.upon_value,hd];refine k _ _ S (f.put l9 _) (s2.swap (jK g _ _ w) rfl rfl ?_) (All.mono (λ_ h=>h) (st.agree (jK g _ _ w) (λc hc e=>by subst e;exact(s2.own _ (List.mem_cons_self ..) _ rfl).2.2 hc)) hk);have:=rL (E.all ys) (q*E.size) w (E.all xs) hown;rw[bAl _ _ _ (by rw[hl,hlx];omega),hl,<-Nat.add_mul,all_take xs q k7,all_drop xs _ k7,<-E.all_append,<-E.all_append]at this;show World.ownsRow _ 0 t' E.size _ _ _;have e:(xs.take q++ys++xs.drop (q+ys.length)).length=m:=by simp;omega
  rw[e];exact this
end
section
variable {α : Type} {p z : α} {n i : Nat} {cur : List α}
def bQb (z p:α)(n i:Nat)(cur:List α):Prop:=cur=List.replicate i p++List.replicate (n-i) z/\i<=n
theorem rep_len(h:bQb z p n i cur):cur.length=n:=by
 rw[h.1];have:=h.2;simp;omega
theorem rep_first(z p:α)(n r:Nat)(hr:r=Nat.min 1 n):bQb z p n r ((List.replicate n z).take 0++List.take r [p]++(List.replicate n z).drop (0+(List.take r [p]).length)):=by
 subst hr
 cases n with
 |zero=>exact⟨rfl,Nat.le_refl _⟩
 |succ n=>
  have:Nat.min 1 (n+1)=1:=by simp
  rw[this];exact⟨m9,k7⟩
theorem rep_step(h:bQb z p n i cur)(hi:i<n):bQb z p n (i+Nat.min i (n-i)) (cur.take i++cur.take (Nat.min i (n-i))++cur.drop (i+(cur.take (Nat.min i (n-i))).length)):=by
 obtain⟨rfl,hle⟩:=h;have hm:Nat.min i (n-i)<=i:=Nat.min_le_left _ _;have hm2:Nat.min i (n-i)<=n-i:=Nat.min_le_right _ _;generalize Nat.min i (n-i)=r at*
 have t1:(List.replicate i p++List.replicate (n-i) z).take i=List.replicate i p:=by
  rw[List.take_append_of_le_length m9,List.take_of_length_le m9]
 have t2:(List.replicate i p++List.replicate (n-i) z).take r=List.replicate r p:=by
  rw[List.take_append_of_le_length o7,List.take_replicate,Nat.min_eq_left hm]
 rw[t1,t2,List.length_replicate];refine⟨?_,k7⟩
 have t3:(List.replicate i p++List.replicate (n-i) z).drop (i+r)=List.replicate (n-(i+r)) z:=by
  rw[List.drop_append,List.drop_of_length_le m9,List.length_replicate,List.drop_replicate,List.nil_append]
  congr 1
  omega
 rw[t3,List.replicate_append_replicate]
theorem rep_l1(p:α)(n:Nat):(List.take (Nat.min 1 n) [p]).length=Nat.min 1 n:=by
 rw[List.length_take];exact Nat.min_eq_left (Nat.min_le_left 1 n)
theorem rep_l(h:bQb z p n i cur):(cur.take (Nat.min i (n-i))).length=Nat.min i (n-i):=by
 rw[List.length_take,rep_len h];exact Nat.min_eq_left (Nat.le_trans (Nat.min_le_left _ _) h.2)
end
theorem min1_le(n:Nat):Nat.min 1 n<=n:=Nat.min_le_right _ _
theorem min1_or(n:Nat):1<=Nat.min 1 n\/n=0:=by
 cases n with
 |zero=>exact .inr rfl
 |succ n=>exact .inl m9
theorem cutA_in{b i k z cap:Nat}(h:i<cap)(hk:k=z):cutA (some ⟨b,0,none⟩) i k cap=some ⟨b,i*z,none⟩:=by
 subst hk;unfold cutA;rw[if_neg k7];have h0:(⟨b,0,none⟩:Addr).add (i*k)=⟨b,0+i*k,none⟩:=Addr.add_mid _ _ _;rw[Option.map_some,h0,Nat.zero_add]
theorem conv64{m:Nat}(h:m<9223372036854775808):IntKind.u64.wrap ((m:Nat):Int)=((m:Nat):Int):=by
 simp only[IntKind.wrap,IntKind.bits,IntKind.signed];simp;omega
theorem conv63{m:Nat}(h:m<9223372036854775808):IntKind.i64.wrap ((m:Nat):Int)=((m:Nat):Int):=by
 simp only[IntKind.wrap,IntKind.bits,IntKind.signed];simp;omega
end
end Go.Proofs.YtnfiadlonjediaaGreatDoor
