/- A part of one proof. -/
import Derived.Test.YtnfiadlonjediaaGreatDoorM2
import Derived.Test.YtnfiadlonjediaaGreatDoorShelf
import Derived.Lib.SmallJoins
namespace Go.Proofs.YtnfiadlonjediaaGreatDoor
open Go.Proofs.Tryz
open _root_.UInt8 renaming ofNat->N8
open _root_.List renaming map_map->T9,map_congr_left->H7,length_map->I2,getElem?_map->F7,all_eq_true->G0
open _root_.Nat renaming ble->C7,le_refl->B8
open Lib renaming indexByte->U0,fields->U1
open _root_.Bool renaming and_eq_true->L9
open Ending renaming returned->U2
namespace X
open Go.RowKit Go.Proofs.Tryz
noncomputable section
def u8s (x:List Nat):List UInt8:=x.map N8
def ofU (x:List UInt8):List Nat:=x.map UInt8.toNat
theorem bBh(x:List UInt8):bW (ofU x)=⟨x.toArray⟩:=by
 have:(ofU x).map N8=x:=by
  unfold ofU;rw[T9]
  conv=>rhs;rw[<-List.map_id x]
  exact H7 λy _=>by simp
 unfold bW;rw[this]
theorem lD(x:List Nat):(bW x).data.toList=u8s x:=by simp[bW,u8s]
def numO (s:St):Lib.NumEnd Int->Option (V×St)
 |.ok v=>some (.t [.i .i64 v,.e0],s)
 |_=>none
def parseO:Orc:=λargs s=>match args with
 |[x,b,n]=>gd (beqD 2 b (.i .i64 10)&&beqD 2 n (.i .i64 64)) (asS x λx=>gd (C7 x.length 1000) (numO s (Lib.parseIntB 64 (u8s x))))
 |_=>none
def idxO:Orc:=λargs s=>match args with
 |[x,b]=>asS x λx=>asI b λk c=>gd (sameKind k .u8) (some (.i .i64 (U0 (u8s x) c.toNat.toUInt8),s))
 |_=>none
def isKnow(n:Nat):Option Blk->Bool
 |some (.know m)=>Nat.beq n m
 |_=>false
def fieldsO(kSp:Nat):Orc:=λargs s=>match args with
 |[x]=>asS x λx=>gd (C7 x.length 1000&&(allL (λb=>Nat.blt b 128) x&&isKnow 0 (s.h.get kSp))) ((λl:List (List UInt8)=>some (.l s.n 0 l.length (.n l.length),s.new (.cells (l.map λy=>V.s (ofU y)) 9 none false))) (U1 (u8s x)))
 |_=>none
def strO:V->Option (List Nat)
 |.s x=>some x
 |_=>none
def joinL (xs:List (List Nat))(sep:List Nat):List Nat:=ofU (Lib.join (xs.map u8s) (u8s sep))
def joinV (s:St)(sep:List Nat):V->Option (V×St)
 |.l0=>some (.s [],s)
 |.l k o n c=>gd (C7 n 100000&&C7 n c.least) (ob (rowX0 s k o n) λcs=>ob (bKv strO cs) λxs=>(λr=>gd (C7 r.length 100000) (some (.s r,s))) (joinL xs sep))
 |_=>none
def joinO:Orc:=λargs s=>match args with
 |[l,y]=>asS y λsep=>joinV s sep l
 |_=>none
def gd1 (s:St)(y:List Nat):Option (V×St):=gd (C7 y.length 1000) (some (.s y,s))
def replO (kMax:Nat):Orc:=λargs s=>match args with
 |[x,a,b,n]=>asS x λx=>gd (C7 x.length 1000&&(beqD 2 a (.s [45])&&(beqD 2 b (.s [95])&&(beqD 2 n (.i .i64 1)&&isKnow 1 (s.h.get kMax))))) (gd1 s (ofU (Lib.replace (u8s x) [45] [95] 1)))
 |_=>none
def trimO (kSp:Nat):Orc:=λargs s=>match args with
 |[x]=>asS x λx=>gd (C7 x.length 1000&&(allL (λb=>Nat.blt b 128) x&&isKnow 0 (s.h.get kSp))) (gd1 s (ofU (Lib.trimSpace (u8s x))))
 |_=>none
def contO:Orc:=λargs s=>match args with
 |[x,y]=>asS x λx=>asS y λy=>match y with
  |[c]=>some (.b (!ilt (U0 (u8s x) (N8 c)) 0),s)
  |_=>none
 |_=>none
def escO:Orc:=λargs s=>match args with
 |[v]=>some (v,s)
 |_=>none
end
section
variable [Ctx] {α : As} {s s' : St} {w w' : World}
theorem rE{f:FuncId}{args:Array Value}{v:V}(hs:Sim α s w)(he:(callFunc f args).run Ctx.P w= .ok (.enter f args) w)(h:Calls Ctx.P f args w λe w'=>e= .returned (v.inst α)/\Below w.heap.size w w'):
  CallR Ctx.P f args w λu w'=> ∃α',u=v.inst α'/\Stp α s w α' s w':=
 .inr ⟨he,h.mono λ_ _ ⟨h1,h2⟩=>⟨_,h1,α,rfl,Stp.of_grow hs h2⟩⟩
omit [Ctx]in
theorem wK(x:List Nat):(bW x).size=x.length:=by simp[bW,ByteArray.size]
theorem parse_orc(hP:Ctx.P=prog):vL 227 parseO:=λc s v s' h α w g _=>by
 match c,h with
 |[x,b,n],h=>
  obtain⟨h1,h2⟩:=bQ (show gd _ _=some (v,s')from h);obtain⟨a,rfl,h3⟩:=lO h2;obtain⟨h4,d⟩:=bQ h3;rw[L9]at h1;rw[rQ 2 _ _ h1.1,rQ 2 _ _ h1.2]
  cases f:Lib.parseIntB 64 (u8s a)with
  |ok z=>
   rw[f]at d;cases d;refine rE g (by rw[hP];exact bJ func227 rfl rfl _ _) ?_;rw[hP];refine(Tryz.strconv_ParseInt_10_at64_ok (bW a) ad4 z (by rw[lD];exact f) w).mono ?_;rintro e w' ⟨rfl,h⟩;refine⟨by rw[inst_t];simp[V.inst],?_⟩
   rcases h with rfl|⟨t,rfl⟩
   .exact Below.refl _ _
   .exact Joins.below_bytesWorld _ _ _ _ (B8 _)
  |_=>rw[f]at d;cases d
theorem idx_orc(hP:Ctx.P=prog):vL 229 idxO:=λd s v s' h α w f _=>by
 match d,h with
 |[x,b],h=>
  obtain⟨a,rfl,h1⟩:=lO (show asS x _=some (v,s')from h);obtain⟨k,c,rfl,h2⟩:=mM h1;obtain⟨h3,h4⟩:=bQ h2;cases h4;have:=lU h3;subst this;refine rE f (by rw[hP];exact bJ func229 rfl rfl _ _) ?_;rw[hP];refine(Tryz.strings_IndexByte (bW a) c w).mono ?_;rintro e w' ⟨rfl,rfl⟩;exact⟨by simp[V.inst,lD],Below.refl _ _⟩
theorem esc_orc(hP:Ctx.P=prog):vL 330 escO:=λa s v s' h α w b _=>by
 match a,h with
 |[x],h=>
  cases h;refine .inl ⟨v.inst α,w,?_,α,rfl,Stp.refl b⟩;show(callFunc 330 #[v.inst α]).run Ctx.P w=_;rw[hP,run_callFunc_extern func330 j8 j8 j8 (e:=Extern.AbiNoEscape.same) j8,Lib.run_noEscape];rfl
theorem join_orc(hP:Ctx.P=prog):vL 303 joinO:=λf s v s' h α w A _=>by
 match f,h with
 |[l,y],h=>
  obtain⟨m,rfl,h1⟩:=lO (show asS y _=some (v,s')from h);have he: ∀f,(callFunc 303 f).run Ctx.P w= .ok (.enter 303 f) w:=λf=>by rw[hP];exact bJ func303 rfl rfl _ _
  cases l with
  |l0=>
   cases h1;refine rE A (he _) ?_;rw[hP];refine(Tryz.strings_Join_none none 0 (bW m) w).mono ?_;rintro e w' ⟨rfl,rfl⟩;exact⟨rfl,Below.refl _ _⟩
  |l k o n c=>
   obtain⟨h2,h3⟩:=bQ (show gd _ _=some (v,s')from h1);obtain⟨M,t,h4⟩:=bB h3;obtain⟨i,C,L⟩:=bB h4;obtain⟨K,J⟩:=bQ L;cases J;rw[L9]at h2;have E:=bGu _ _ _ C;obtain⟨hl,I⟩:=qZ A (row0_row t);have D:i.length=n:=by rw[<-hl];have:=congrArg List.length E;simpa using this.symm
   have p:(i.map bW).length=n:=by rw[I2,D]
   have hx:(i.map bW).map (λb:ByteArray=>b.data.toList)=i.map u8s:=by rw[T9];exact H7 λx _=>lD x
   obtain⟨b,hb,_⟩:=bB t
   have G:=Tryz.strings_Join (α.blk k) o (c.inst α) (i.map bW) (bW m) w (λj x g=>by
    rw[F7]at g
    cases B:i[j]? with
    |none=>rw[B]at g;cases g
    |some z=>
     rw[B]at g;cases g;have r:=congrArg (λq:List (Option (List Nat))=>q[j]?) E;simp only[F7,B,Option.map_some]at r
     cases hu:M[j]? with
     |none=>rw[hu]at r;cases r
     |some u=>
      rw[hu]at r;have r:strO u=some z:=by simpa using r
      rw[I j u hu];cases u<;>cases r
      rfl) ((A.is k b hb).lt) (by rw[p];have:=gB h2.1;omega) (by
     rw[p];have:=gB h2.2
     cases c with
     |n c=>exact this
     |s a d=>exact Nat.le_trans this (Nat.le_add_right _ _)) (by
     rw[hx,lD];have:=gB K;simp only[joinL,ofU,I2]at this
     omega)
   rw[p,hx,lD]at G;refine rE A (he _) ?_;rw[hP];refine G.mono ?_;rintro e w' ⟨rfl,hb⟩;refine⟨?_,hb⟩;show _=U2 (.string (bW (joinL i m)));rw[joinL,bBh]
  |_=>cases h1
theorem know_at(hs:Sim α s w){k n g:Nat}(hg:Ctx.gl g=some k)(h:isKnow n (s.h.get k)=true): ∃o,w.heap[g]?=some o/\Ctx.G n o:=by
 have b:s.h.get k=some (.know n):=by
  cases hx:s.h.get k with
  |none=>rw[hx]at h;cases h
  |some y=>
   rw[hx]at h
   cases y with
   |know m=>
    have:Nat.beq n m=true:=h;rw[lF this]
   |_=>cases h
 obtain⟨o,a,c⟩:=hs.is _ _ b;rw[(hs.gl _ _ hg).2]at a;exact⟨o,a,c⟩
def bLh [Ctx]:Prop:= ∀o,Ctx.G 0 o-> ∃t z,o= .cells (Lib.asciiSpaceTab.map λz=>Value.int .u8 z).toArray t z
def MaxIs [Ctx]:Prop:= ∀o,Ctx.G 1 o-> ∃m r t z,o= .cells (Value.int .i64 m::r).toArray t z
theorem bUq(hs:Sim α s w){k:Nat}(hg:Ctx.gl 2=some k)(hG:bLh)(h:isKnow 0 (s.h.get k)=true):Lib.TabIs prog w "strings.asciiSpace" .u8 Lib.asciiSpaceTab:=by
 obtain⟨o,b,a⟩:=know_at hs hg h;obtain⟨t,z,rfl⟩:=hG o a;unfold Lib.TabIs World.var?;rw[show prog.globalNamed "strings.asciiSpace" =some 2 by kernel_rfl];show(match w.heap[2]? with|some (.cells cs _ _)=>some cs|_=>none)=_;rw[b]
omit [Ctx]in
theorem u8_ascii{a:List Nat}(h5: ∀b∈a,b<128): ∀(j:Nat) b,(bW a).data.toList[j]?=some b->b.toNat<128:=λj b hb=>by
 rw[lD]at hb;unfold u8s at hb;rw[F7]at hb
 cases d:a[j]? with
 |none=>rw[d]at hb;cases hb
 |some c=>
  rw[d]at hb;cases hb;have:=h5 c (f5 d);simp;omega
omit [Ctx]in
theorem gd1_some{y:List Nat}{v:V}(h:gd1 s y=some (v,s')):v= .s y/\s'=s:=by obtain⟨_,h⟩:=bQ h;cases h;exact⟨rfl,rfl⟩
theorem repl_orc(hP:Ctx.P=prog){kMax:Nat}(hg:Ctx.gl 1=some kMax)(hG:MaxIs):vL 314 (replO kMax):=λc s v s' h α w f _=>by
 match c,h with
 |[x,a,b,n],h=>
  obtain⟨y,rfl,h1⟩:=lO (show asS x _=some (v,s')from h);obtain⟨h2,h3⟩:=bQ h1;simp only[L9]at h2;obtain⟨h4,q,p,l,k⟩:=h2;rw[rQ 2 _ _ q,rQ 2 _ _ p,rQ 2 _ _ l];obtain⟨rfl,rfl⟩:=gd1_some h3;obtain⟨o,j,d⟩:=know_at f hg k;obtain⟨m,r,t,z,rfl⟩:=hG o d
  have g:w.cell? ⟨1,0,none⟩=some (.int .i64 m):=by unfold World.cell?;rw[j];rfl
  refine rE f (by rw[hP];exact bJ func314 rfl rfl _ _) ?_;rw[hP];have i:=Lib.countB_mul_le (⟨#[45]⟩:ByteArray) l4 (bW y).size (bW y) (B8 _);have h4:=gB h4
  refine(Tryz.strings_Replace (bW y) ⟨#[45]⟩ ⟨#[95]⟩ 1 m w (by rw[wK];omega) g l4 ?_).mono λe w' ⟨he,hb⟩=>⟨?_,hb⟩
  .have A:(⟨#[45]⟩:ByteArray).size=1:=rfl;have u:(⟨#[95]⟩:ByteArray).size=1:=rfl;rw[A]at i;rw[u,wK]at*;omega
  .rw[he,lD];show _=U2 (.string (bW (ofU (Lib.replace (u8s y) [45] [95] 1))));rw[bBh]
theorem trim_orc(hP:Ctx.P=prog){kSp:Nat}(hg:Ctx.gl 2=some kSp)(hG:bLh):vL 316 (trimO kSp):=λc s v s' h α w d _=>by
 match c,h with
 |[x],h=>
  obtain⟨a,rfl,h1⟩:=lO (show asS x _=some (v,s')from h);obtain⟨h2,h3⟩:=bQ h1;simp only[L9,qD,G0,Nat.blt_eq]at h2;obtain⟨h4,g,f⟩:=h2;have b:=bUq d hg hG f;obtain⟨rfl,rfl⟩:=gd1_some h3;refine rE d (by rw[hP];exact bJ func316 rfl rfl _ _) ?_;rw[hP];refine(Tryz.strings_TrimSpace (bW a) w ad4 (u8_ascii g) b).mono ?_;rintro e w' ⟨rfl,rfl⟩;refine⟨?_,Joins.below_bytesWorld _ _ _ _ (B8 _)⟩;rw[lD];show _=U2 (.string (bW (ofU (Lib.trimSpace (u8s a)))));rw[bBh]
theorem cont_orc(hP:Ctx.P=prog):vL 317 contO:=λd s v s' h α w f _=>by
 match d,h with
 |[x,y],h=>
  obtain⟨a,rfl,h1⟩:=lO (show asS x _=some (v,s')from h);obtain⟨b,rfl,h2⟩:=lO h1
  match b,h2 with
  |[c],h2=>
   cases h2;refine rE f (by rw[hP];exact bJ func317 rfl rfl _ _) ?_;rw[hP];refine(Tryz.strings_Contains_one (bW a) (N8 c) w).mono ?_;rintro e w' ⟨rfl,rfl⟩;refine⟨?_,Below.refl _ _⟩;rw[lD];show _=U2 (.bool (!ilt (U0 (u8s a) (N8 c)) 0))
   congr 2
   rw[ilt_eq]
   by_cases h:0<=U0 (u8s a) (N8 c)
   .simp[h]
   .simp[h];omega
theorem fields_orc(hP:Ctx.P=prog){kSp:Nat}(hg:Ctx.gl 2=some kSp)(hG:bLh):vL 267 (fieldsO kSp):=λc s v s' h α w f _=>by
 match c,h with
 |[x],h=>
  obtain⟨a,rfl,h1⟩:=lO (show asS x _=some (v,s')from h);obtain⟨h2,h3⟩:=bQ h1;cases h3;simp only[L9,qD,G0,Nat.blt_eq]at h2;obtain⟨h4,k,j⟩:=h2;have b:=bUq f hg hG j;refine .inr ⟨by rw[hP];exact bJ func267 rfl rfl _ _,?_⟩;rw[hP];refine(Tryz.strings_Fields (bW a) w ad4 (u8_ascii k) b).mono ?_
  .rintro e w' ⟨rfl,rfl⟩;rw[lD]
   obtain⟨α',g,d⟩:=wA f (cs:=(U1 (u8s a)).map λy=>V.s (ofU y)) 9 (λv i=>by
    obtain⟨y,_,rfl⟩:=List.mem_map.1 i
    exact⟨⟨1,by rw[jY]⟩,rfl⟩)
   refine⟨_,rfl,α',?_,?_⟩
   .simp[V.inst,d,Cap.inst]
   .have m:((U1 (u8s a)).map λy=>V.s (ofU y)).map (V.inst α)=(U1 (u8s a)).map λl=>Value.string ⟨l.toArray⟩:=by
     rw[T9]
     exact H7 λy _=>by show Value.string (bW (ofU y))=_;rw[bBh]
    rw[m]at g;exact g
