/- The runner: functions whose answers are known by theorems. -/
import Derived.Test.YtnfiadlonjediaaGreatDoorM4
import Derived.Test.YtnfiadlonjediaaGreatDoorShelf
import Derived.Lib.SmallJoins
import Derived.Lib.Fields
namespace Go.Proofs.YtnfiadlonjediaaGreatDoor
open Go.Proofs.Tryz
namespace X
open Go.RowKit Go.Proofs.Tryz
noncomputable section
def u8s (x:List Nat):List UInt8:=x.map UInt8.ofNat
def ofU (x:List UInt8):List Nat:=x.map UInt8.toNat
theorem xJ(x:List UInt8):bQ (ofU x)=⟨x.toArray⟩:=by
 have:(ofU x).map UInt8.ofNat=x:=by
  unfold ofU;rw[List.map_map]
  conv=>rhs;rw[<-List.map_id x]
  exact List.map_congr_left λy _=>by simp
 unfold bQ;rw[this]
theorem jH(x:List Nat):(bQ x).data.toList=u8s x:=by simp[bQ,u8s]
def numO (s:St):Lib.NumEnd Int->Option (V×St)
 |.ok v=>some (.t [.i .i64 v,.e0],s)
 |_=>none
def parseO:Orc:=λargs s=>match args with
 |[x,b,n]=>gd (beqD 2 b (.i .i64 10)&&beqD 2 n (.i .i64 64)) (asS x λx=>gd (Nat.ble x.length 1000) (numO s (Lib.parseIntB 64 (u8s x))))
 |_=>none
def idxO:Orc:=λargs s=>match args with
 |[x,b]=>asS x λx=>asI b λk c=>gd (sameKind k .u8) (some (.i .i64 (Lib.indexByte (u8s x) c.toNat.toUInt8),s))
 |_=>none
def isKnow(n:Nat):Option Blk->Bool
 |some (.know m)=>Nat.beq n m
 |_=>false
def fieldsO(kSp:Nat):Orc:=λargs s=>match args with
 |[x]=>asS x λx=>gd (Nat.ble x.length 1000&&(allL (λb=>Nat.blt b 128) x&&isKnow 0 (s.h.get kSp))) ((λl:List (List UInt8)=>some (.l s.n 0 l.length (.n l.length),s.new (.cells (l.map λy=>V.s (ofU y)) 9 none false))) (Lib.fields (u8s x)))
 |_=>none
def strO:V->Option (List Nat)
 |.s x=>some x
 |_=>none
def joinL (xs:List (List Nat))(sep:List Nat):List Nat:=ofU (Lib.join (xs.map u8s) (u8s sep))
def joinV (s:St)(sep:List Nat):V->Option (V×St)
 |.l0=>some (.s [],s)
 |.l k o n c=>gd (Nat.ble n 100000&&Nat.ble n c.least) (ob (rowX0 s k o n) λcs=>ob (bHd strO cs) λxs=>(λr=>gd (Nat.ble r.length 100000) (some (.s r,s))) (joinL xs sep))
 |_=>none
def joinO:Orc:=λargs s=>match args with
 |[l,y]=>asS y λsep=>joinV s sep l
 |_=>none
def gd1 (s:St)(y:List Nat):Option (V×St):=gd (Nat.ble y.length 1000) (some (.s y,s))
def replO (kMax:Nat):Orc:=λargs s=>match args with
 |[x,a,b,n]=>asS x λx=>gd (Nat.ble x.length 1000&&(beqD 2 a (.s [45])&&(beqD 2 b (.s [95])&&(beqD 2 n (.i .i64 1)&&isKnow 1 (s.h.get kMax))))) (gd1 s (ofU (Lib.replace (u8s x) [45] [95] 1)))
 |_=>none
def trimO (kSp:Nat):Orc:=λargs s=>match args with
 |[x]=>asS x λx=>gd (Nat.ble x.length 1000&&(allL (λb=>Nat.blt b 128) x&&isKnow 0 (s.h.get kSp))) (gd1 s (ofU (Lib.trimSpace (u8s x))))
 |_=>none
def contO:Orc:=λargs s=>match args with
 |[x,y]=>asS x λx=>asS y λy=>match y with
  |[c]=>some (.b (!ilt (Lib.indexByte (u8s x) (UInt8.ofNat c)) 0),s)
  |_=>none
 |_=>none
def escO:Orc:=λargs s=>match args with
 |[v]=>some (v,s)
 |_=>none
end
section
variable [Ctx] {α : As} {s s' : St} {w w' : World}
theorem pG{f:FuncId}{args:Array Value}{v:V}(hs:Sim α s w)(he:(callFunc f args).run Ctx.P w= .ok (.enter f args) w)(h:Calls Ctx.P f args w λe w'=>e= .returned (v.inst α)/\Below w.heap.size w w'):
  CallR Ctx.P f args w λu w'=> ∃α',u=v.inst α'/\Stp α s w α' s w':=
 .inr ⟨he,h.mono λ_ _ ⟨h1,h2⟩=>⟨_,h1,α,rfl,Stp.of_grow hs h2⟩⟩
omit [Ctx]in
theorem tJ(x:List Nat):(bQ x).size=x.length:=by simp[bQ,ByteArray.size]
theorem parse_orc(hP:Ctx.P=prog):sJ 227 parseO:=λargs s v s' h α w hs _=>by
 match args,h with
 |[x,b,n],h=>
  obtain⟨h1,h2⟩:=bL (show gd _ _=some (v,s')from h);obtain⟨a,rfl,h3⟩:=jT h2;obtain⟨h4,h5⟩:=bL h3;rw[Bool.and_eq_true]at h1;rw[pH 2 _ _ h1.1,pH 2 _ _ h1.2]
  cases hp:Lib.parseIntB 64 (u8s a)with
  |ok z=>
   rw[hp]at h5;cases h5;refine pG hs (by rw[hP];exact j4 func227 _ _) ?_;rw[hP];refine(Tryz.strconv_ParseInt_10_at64_ok (bQ a) aa8 z (by rw[jH];exact hp) w).mono ?_;rintro e w' ⟨rfl,h⟩;refine⟨by rw[inst_t];simp[V.inst],?_⟩
   rcases h with rfl|⟨t,rfl⟩
   .exact Below.refl _ _
   .exact Joins.below_bytesWorld _ _ _ _ (Nat.le_refl _)
  |_=>rw[hp]at h5;cases h5
theorem idx_orc(hP:Ctx.P=prog):sJ 229 idxO:=λargs s v s' h α w hs _=>by
 match args,h with
 |[x,b],h=>
  obtain⟨a,rfl,h1⟩:=jT (show asS x _=some (v,s')from h);obtain⟨k,c,rfl,h2⟩:=kT h1;obtain⟨h3,h4⟩:=bL h2;cases h4;have:=jZ h3;subst this;refine pG hs (by rw[hP];exact j4 func229 _ _) ?_;rw[hP];refine(Tryz.strings_IndexByte (bQ a) c w).mono ?_;rintro e w' ⟨rfl,rfl⟩;exact⟨by simp[V.inst,jH],Below.refl _ _⟩
theorem esc_orc(hP:Ctx.P=prog):sJ 330 escO:=λargs s v s' h α w hs _=>by
 match args,h with
 |[x],h=>
  cases h;refine .inl ⟨v.inst α,w,?_,α,rfl,Stp.refl hs⟩;show(callFunc 330 #[v.inst α]).run Ctx.P w=_;rw[hP,run_callFunc_extern func330 k8 k8 k8 (e:=Extern.AbiNoEscape.same) k8,Lib.run_noEscape];rfl
theorem join_orc(hP:Ctx.P=prog):sJ 303 joinO:=λargs s v s' h α w hs _=>by
 match args,h with
 |[l,y],h=>
  obtain⟨sep,rfl,h1⟩:=jT (show asS y _=some (v,s')from h);have he: ∀args,(callFunc 303 args).run Ctx.P w= .ok (.enter 303 args) w:=λargs=>by rw[hP];exact j4 func303 _ _
  cases l with
  |l0=>
   cases h1;refine pG hs (he _) ?_;rw[hP];refine(Tryz.strings_Join_none none 0 (bQ sep) w).mono ?_;rintro e w' ⟨rfl,rfl⟩;exact⟨rfl,Below.refl _ _⟩
  |l k o n c=>
   obtain⟨h2,h3⟩:=bL (show gd _ _=some (v,s')from h1);obtain⟨cs,hcs,h4⟩:=bB h3;obtain⟨xs,hxs,h5⟩:=bB h4;obtain⟨h6,h7⟩:=bL h5;cases h7;rw[Bool.and_eq_true]at h2;have hm:=bDz _ _ _ hxs;obtain⟨hl,hc⟩:=oP hs (row0_row hcs);have hlx:xs.length=n:=by rw[<-hl];have:=congrArg List.length hm;simpa using this.symm
   have hlb:(xs.map bQ).length=n:=by rw[List.length_map,hlx]
   have hx:(xs.map bQ).map (λb:ByteArray=>b.data.toList)=xs.map u8s:=by
    rw[List.map_map];exact List.map_congr_left λx _=>jH x
   obtain⟨b,hb,_⟩:=bB hcs
   have hj:=Tryz.strings_Join (α.blk k) o (c.inst α) (xs.map bQ) (bQ sep) w (λj x hx'=>by
    rw[List.getElem?_map]at hx'
    cases hz:xs[j]? with
    |none=>rw[hz]at hx';cases hx'
    |some z=>
     rw[hz]at hx';cases hx';have h8:=congrArg (λq:List (Option (List Nat))=>q[j]?) hm;simp only[List.getElem?_map,hz,Option.map_some]at h8
     cases hu:cs[j]? with
     |none=>rw[hu]at h8;cases h8
     |some u=>
      rw[hu]at h8;have h8:strO u=some z:=by simpa using h8
      rw[hc j u hu];cases u<;>cases h8
      rfl) ((hs.is k b hb).lt) (by rw[hlb];have:=fI h2.1;omega) (by
     rw[hlb];have:=fI h2.2
     cases c with
     |n c=>exact this
     |s a d=>exact Nat.le_trans this (Nat.le_add_right _ _)) (by
     rw[hx,jH];have:=fI h6;simp only[joinL,ofU,List.length_map]at this
     omega)
   rw[hlb,hx,jH]at hj;refine pG hs (he _) ?_;rw[hP];refine hj.mono ?_;rintro e w' ⟨rfl,hb⟩;refine⟨?_,hb⟩;show _=Ending.returned (.string (bQ (joinL xs sep)));rw[joinL,xJ]
  |_=>cases h1
theorem know_at(hs:Sim α s w){k n g:Nat}(hg:Ctx.gl g=some k)(h:isKnow n (s.h.get k)=true): ∃o,w.heap[g]?=some o/\Ctx.G n o:=by
 have hk:s.h.get k=some (.know n):=by
  cases hx:s.h.get k with
  |none=>rw[hx]at h;cases h
  |some y=>
   rw[hx]at h
   cases y with
   |know m=>
    have:Nat.beq n m=true:=h;rw[jI this]
   |_=>cases h
 obtain⟨o,h7,h8⟩:=hs.is _ _ hk;rw[(hs.gl _ _ hg).2]at h7;exact⟨o,h7,h8⟩
def bHu [Ctx]:Prop:= ∀o,Ctx.G 0 o-> ∃t z,o= .cells (Lib.asciiSpaceTab.map λz=>Value.int .u8 z).toArray t z
def MaxIs [Ctx]:Prop:= ∀o,Ctx.G 1 o-> ∃m r t z,o= .cells (Value.int .i64 m::r).toArray t z
theorem bPc(hs:Sim α s w){k:Nat}(hg:Ctx.gl 2=some k)(hG:bHu)(h:isKnow 0 (s.h.get k)=true):Lib.TabIs prog w "strings.asciiSpace" .u8 Lib.asciiSpaceTab:=by
 obtain⟨o,h7,h8⟩:=know_at hs hg h;obtain⟨t,z,rfl⟩:=hG o h8;unfold Lib.TabIs World.var?;rw[show prog.globalNamed "strings.asciiSpace" =some 2 by kernel_rfl];show(match w.heap[2]? with|some (.cells cs _ _)=>some cs|_=>none)=_;rw[h7]
omit [Ctx]in
theorem u8_ascii{a:List Nat}(h5: ∀b∈a,b<128): ∀(j:Nat) b,(bQ a).data.toList[j]?=some b->b.toNat<128:=λj b hb=>by
 rw[jH]at hb;unfold u8s at hb;rw[List.getElem?_map]at hb
 cases hz:a[j]? with
 |none=>rw[hz]at hb;cases hb
 |some c=>
  rw[hz]at hb;cases hb;have:=h5 c (f5 hz);simp;omega
omit [Ctx]in
theorem gd1_some{y:List Nat}{v:V}(h:gd1 s y=some (v,s')):v= .s y/\s'=s:=by
 obtain⟨_,h⟩:=bL h;cases h;exact⟨rfl,rfl⟩
theorem repl_orc(hP:Ctx.P=prog){kMax:Nat}(hg:Ctx.gl 1=some kMax)(hG:MaxIs):sJ 314 (replO kMax):=λargs s v s' h α w hs _=>by
 match args,h with
 |[x,a,b,n],h=>
  obtain⟨y,rfl,h1⟩:=jT (show asS x _=some (v,s')from h);obtain⟨h2,h3⟩:=bL h1;simp only[Bool.and_eq_true]at h2;obtain⟨h4,h5,h6,h7,h8⟩:=h2;rw[pH 2 _ _ h5,pH 2 _ _ h6,pH 2 _ _ h7];obtain⟨rfl,rfl⟩:=gd1_some h3;obtain⟨o,h9,h10⟩:=know_at hs hg h8;obtain⟨m,r,t,z,rfl⟩:=hG o h10
  have hm:w.cell? ⟨1,0,none⟩=some (.int .i64 m):=by
   unfold World.cell?;rw[h9];rfl
  refine pG hs (by rw[hP];exact j4 func314 _ _) ?_;rw[hP];have hc:=Lib.countB_mul_le (⟨#[45]⟩:ByteArray) m7 (bQ y).size (bQ y) (Nat.le_refl _);have h4:=fI h4
  refine(Tryz.strings_Replace (bQ y) ⟨#[45]⟩ ⟨#[95]⟩ 1 m w (by rw[tJ];omega) hm m7 ?_).mono λe w' ⟨he,hb⟩=>⟨?_,hb⟩
  .have e1:(⟨#[45]⟩:ByteArray).size=1:=rfl;have e2:(⟨#[95]⟩:ByteArray).size=1:=rfl;rw[e1]at hc;rw[e2,tJ]at*;omega
  .rw[he,jH];show _=Ending.returned (.string (bQ (ofU (Lib.replace (u8s y) [45] [95] 1))));rw[xJ]
theorem trim_orc(hP:Ctx.P=prog){kSp:Nat}(hg:Ctx.gl 2=some kSp)(hG:bHu):sJ 316 (trimO kSp):=λargs s v s' h α w hs _=>by
 match args,h with
 |[x],h=>
  obtain⟨a,rfl,h1⟩:=jT (show asS x _=some (v,s')from h);obtain⟨h2,h3⟩:=bL h1;simp only[Bool.and_eq_true,oF,List.all_eq_true,Nat.blt_eq]at h2;obtain⟨h4,h5,h6⟩:=h2;have htab:=bPc hs hg hG h6;obtain⟨rfl,rfl⟩:=gd1_some h3;refine pG hs (by rw[hP];exact j4 func316 _ _) ?_;rw[hP];refine(Tryz.strings_TrimSpace (bQ a) w aa8 (u8_ascii h5) htab).mono ?_;rintro e w' ⟨rfl,rfl⟩;refine⟨?_,Joins.below_bytesWorld _ _ _ _ (Nat.le_refl _)⟩;rw[jH];show _=Ending.returned (.string (bQ (ofU (Lib.trimSpace (u8s a)))));rw[xJ]
theorem cont_orc(hP:Ctx.P=prog):sJ 317 contO:=λargs s v s' h α w hs _=>by
 match args,h with
 |[x,y],h=>
  obtain⟨a,rfl,h1⟩:=jT (show asS x _=some (v,s')from h);obtain⟨b,rfl,h2⟩:=jT h1
  match b,h2 with
  |[c],h2=>
   cases h2;refine pG hs (by rw[hP];exact j4 func317 _ _) ?_;rw[hP];refine(Tryz.strings_Contains_one (bQ a) (UInt8.ofNat c) w).mono ?_;rintro e w' ⟨rfl,rfl⟩;refine⟨?_,Below.refl _ _⟩;rw[jH];show _=Ending.returned (.bool (!ilt (Lib.indexByte (u8s a) (UInt8.ofNat c)) 0))
   congr 2
   rw[ilt_eq]
   by_cases h:0<=Lib.indexByte (u8s a) (UInt8.ofNat c)
   .simp[h]
   .simp[h];omega
theorem fields_orc(hP:Ctx.P=prog){kSp:Nat}(hg:Ctx.gl 2=some kSp)(hG:bHu):sJ 267 (fieldsO kSp):=λargs s v s' h α w hs _=>by
 match args,h with
 |[x],h=>
  obtain⟨a,rfl,h1⟩:=jT (show asS x _=some (v,s')from h);obtain⟨h2,h3⟩:=bL h1;cases h3;simp only[Bool.and_eq_true,oF,List.all_eq_true,Nat.blt_eq]at h2;obtain⟨h4,h5,h6⟩:=h2;have htab:=bPc hs hg hG h6;refine .inr ⟨by rw[hP];exact j4 func267 _ _,?_⟩;rw[hP];refine(Tryz.strings_Fields (bQ a) w aa8 (u8_ascii h5) htab).mono ?_
  .rintro e w' ⟨rfl,rfl⟩;rw[jH]
   obtain⟨α',h9,h10⟩:=uB hs (cs:=(Lib.fields (u8s a)).map λy=>V.s (ofU y)) 9 (λv hv=>by
    obtain⟨y,_,rfl⟩:=List.mem_map.1 hv
    exact⟨⟨1,by rw[iN]⟩,rfl⟩)
   refine⟨_,rfl,α',?_,?_⟩
   .simp[V.inst,h10,Cap.inst]
   .have e1:((Lib.fields (u8s a)).map λy=>V.s (ofU y)).map (V.inst α)=(Lib.fields (u8s a)).map λl=>Value.string ⟨l.toArray⟩:=by
     rw[List.map_map]
     exact List.map_congr_left λy _=>by
      show Value.string (bQ (ofU y))=_;rw[xJ]
    rw[e1]at h9;exact h9
end
end X
end Go.Proofs.YtnfiadlonjediaaGreatDoor
