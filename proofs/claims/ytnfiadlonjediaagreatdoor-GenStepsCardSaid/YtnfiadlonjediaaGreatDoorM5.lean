/- The runner: functions whose answers are known by theorems. -/
import Derived.Test.YtnfiadlonjediaaGreatDoorM4
import Derived.Test.YtnfiadlonjediaaGreatDoorShelf
import Derived.Lib.SmallJoins
import Derived.Lib.Fields
namespace Go.Proofs.YtnfiadlonjediaaGreatDoor
open Go.Proofs.Tryz
open _root_.UInt8 renaming ofNat->J0
open _root_.List renaming map_map->Q6,map_congr_left->I6,length_map->K3,getElem?_map->I7,all_eq_true->D6
open _root_.Nat renaming ble->H8,le_refl->B8
open Lib renaming indexByte->Q7,fields->Q8
open _root_.Bool renaming and_eq_true->G1
open Ending renaming returned->Q9
namespace X
open Go.RowKit Go.Proofs.Tryz
noncomputable section
def u8s (x:List Nat):List UInt8:=x.map J0
def ofU (x:List UInt8):List Nat:=x.map UInt8.toNat
theorem bAp(x:List UInt8):bR (ofU x)=⟨x.toArray⟩:=by
 have:(ofU x).map J0=x:=by
  unfold ofU;rw[Q6]
  conv=>rhs;rw[<-List.map_id x]
  exact I6 λy _=>by simp
 unfold bR;rw[this]
theorem jT(x:List Nat):(bR x).data.toList=u8s x:=by simp[bR,u8s]
def numO (s:St):Lib.NumEnd Int->Option (V×St)
 |.ok v=>some (.t [.i .i64 v,.e0],s)
 |_=>none
def parseO:Orc:=λargs s=>match args with
 |[x,b,n]=>gd (beqD 2 b (.i .i64 10)&&beqD 2 n (.i .i64 64)) (asS x λx=>gd (H8 x.length 1000) (numO s (Lib.parseIntB 64 (u8s x))))
 |_=>none
def idxO:Orc:=λargs s=>match args with
 |[x,b]=>asS x λx=>asI b λk c=>gd (sameKind k .u8) (some (.i .i64 (Q7 (u8s x) c.toNat.toUInt8),s))
 |_=>none
def isKnow(n:Nat):Option Blk->Bool
 |some (.know m)=>Nat.beq n m
 |_=>false
def fieldsO(kSp:Nat):Orc:=λargs s=>match args with
 |[x]=>asS x λx=>gd (H8 x.length 1000&&(allL (λb=>Nat.blt b 128) x&&isKnow 0 (s.h.get kSp))) ((λl:List (List UInt8)=>some (.l s.n 0 l.length (.n l.length),s.new (.cells (l.map λy=>V.s (ofU y)) 9 none false))) (Q8 (u8s x)))
 |_=>none
def strO:V->Option (List Nat)
 |.s x=>some x
 |_=>none
def joinL (xs:List (List Nat))(sep:List Nat):List Nat:=ofU (Lib.join (xs.map u8s) (u8s sep))
def joinV (s:St)(sep:List Nat):V->Option (V×St)
 |.l0=>some (.s [],s)
 |.l k o n c=>gd (H8 n 100000&&H8 n c.least) (ob (rowX0 s k o n) λcs=>ob (bKw strO cs) λxs=>(λr=>gd (H8 r.length 100000) (some (.s r,s))) (joinL xs sep))
 |_=>none
def joinO:Orc:=λargs s=>match args with
 |[l,y]=>asS y λsep=>joinV s sep l
 |_=>none
def gd1 (s:St)(y:List Nat):Option (V×St):=gd (H8 y.length 1000) (some (.s y,s))
def replO (kMax:Nat):Orc:=λargs s=>match args with
 |[x,a,b,n]=>asS x λx=>gd (H8 x.length 1000&&(beqD 2 a (.s [45])&&(beqD 2 b (.s [95])&&(beqD 2 n (.i .i64 1)&&isKnow 1 (s.h.get kMax))))) (gd1 s (ofU (Lib.replace (u8s x) [45] [95] 1)))
 |_=>none
def trimO (kSp:Nat):Orc:=λargs s=>match args with
 |[x]=>asS x λx=>gd (H8 x.length 1000&&(allL (λb=>Nat.blt b 128) x&&isKnow 0 (s.h.get kSp))) (gd1 s (ofU (Lib.trimSpace (u8s x))))
 |_=>none
def contO:Orc:=λargs s=>match args with
 |[x,y]=>asS x λx=>asS y λy=>match y with
  |[c]=>some (.b (!ilt (Q7 (u8s x) (J0 c)) 0),s)
  |_=>none
 |_=>none
def escO:Orc:=λargs s=>match args with
 |[v]=>some (v,s)
 |_=>none
end
section
variable [Ctx] {α : As} {s s' : St} {w w' : World}
theorem pP{f:FuncId}{args:Array Value}{v:V}(hs:Sim α s w)(he:(callFunc f args).run Ctx.P w= .ok (.enter f args) w)(h:Calls Ctx.P f args w λe w'=>e= .returned (v.inst α)/\Below w.heap.size w w'):
  CallR Ctx.P f args w λu w'=> ∃α',u=v.inst α'/\Stp α s w α' s w':=
 .inr ⟨he,h.mono λ_ _ ⟨h1,a⟩=>⟨_,h1,α,rfl,Stp.of_grow hs a⟩⟩
omit [Ctx]in
theorem uO(x:List Nat):(bR x).size=x.length:=by simp[bR,ByteArray.size]
theorem parse_orc(hP:Ctx.P=prog):uC 227 parseO:=λc s v s' h α w g _=>by
 match c,h with
 |[x,b,n],h=>
  obtain⟨h1,j⟩:=bN (show gd _ _=some (v,s')from h);obtain⟨a,rfl,i⟩:=kD j;obtain⟨h4,d⟩:=bN i;rw[G1]at h1;rw[qG 2 _ _ h1.1,qG 2 _ _ h1.2]
  cases f:Lib.parseIntB 64 (u8s a)with
  |ok z=>
   rw[f]at d;cases d;refine pP g (by rw[hP];exact j4 func227 _ _) ?_;rw[hP];refine(Tryz.strconv_ParseInt_10_at64_ok (bR a) ab1 z (by rw[jT];exact f) w).mono ?_;rintro e w' ⟨rfl,h⟩;refine⟨by rw[inst_t];simp[V.inst],?_⟩
   rcases h with rfl|⟨t,rfl⟩
   .exact Below.refl _ _
   .exact Joins.below_bytesWorld _ _ _ _ (B8 _)
  |_=>rw[f]at d;cases d
theorem idx_orc(hP:Ctx.P=prog):uC 229 idxO:=λd s v s' h α w f _=>by
 match d,h with
 |[x,b],h=>
  obtain⟨a,rfl,h1⟩:=kD (show asS x _=some (v,s')from h);obtain⟨k,c,rfl,i⟩:=lG h1;obtain⟨g,h4⟩:=bN i;cases h4;have:=kJ g;subst this;refine pP f (by rw[hP];exact j4 func229 _ _) ?_;rw[hP];refine(Tryz.strings_IndexByte (bR a) c w).mono ?_;rintro e w' ⟨rfl,rfl⟩;exact⟨by simp[V.inst,jT],Below.refl _ _⟩
theorem esc_orc(hP:Ctx.P=prog):uC 330 escO:=λa s v s' h α w b _=>by
 match a,h with
 |[x],h=>
  cases h;refine .inl ⟨v.inst α,w,?_,α,rfl,Stp.refl b⟩;show(callFunc 330 #[v.inst α]).run Ctx.P w=_;rw[hP,run_callFunc_extern func330 l4 l4 l4 (e:=Extern.AbiNoEscape.same) l4,Lib.run_noEscape];rfl
theorem join_orc(hP:Ctx.P=prog):uC 303 joinO:=λf s v s' h α w A _=>by
 match f,h with
 |[l,y],h=>
  obtain⟨m,rfl,h1⟩:=kD (show asS y _=some (v,s')from h);have I: ∀f,(callFunc 303 f).run Ctx.P w= .ok (.enter 303 f) w:=λf=>by rw[hP];exact j4 func303 _ _
  cases l with
  |l0=>
   cases h1;refine pP A (I _) ?_;rw[hP];refine(Tryz.strings_Join_none none 0 (bR m) w).mono ?_;rintro e w' ⟨rfl,rfl⟩;exact⟨rfl,Below.refl _ _⟩
  |l k o n c=>
   obtain⟨D,N⟩:=bN (show gd _ _=some (v,s')from h1);obtain⟨O,t,h4⟩:=bB N;obtain⟨i,B,M⟩:=bB h4;obtain⟨L,K⟩:=bN M;cases K;rw[G1]at D;have E:=bGl _ _ _ B;obtain⟨hl,J⟩:=qB A (row0_row t);have C:i.length=n:=by rw[<-hl];have:=congrArg List.length E;simpa using this.symm
   have p:(i.map bR).length=n:=by rw[K3,C]
   have hx:(i.map bR).map (λb:ByteArray=>b.data.toList)=i.map u8s:=by
    rw[Q6];exact I6 λx _=>jT x
   obtain⟨b,hb,_⟩:=bB t
   have G:=Tryz.strings_Join (α.blk k) o (c.inst α) (i.map bR) (bR m) w (λj x g=>by
    rw[I7]at g
    cases hz:i[j]? with
    |none=>rw[hz]at g;cases g
    |some z=>
     rw[hz]at g;cases g;have r:=congrArg (λq:List (Option (List Nat))=>q[j]?) E;simp only[I7,hz,Option.map_some]at r
     cases hu:O[j]? with
     |none=>rw[hu]at r;cases r
     |some u=>
      rw[hu]at r;have r:strO u=some z:=by simpa using r
      rw[J j u hu];cases u<;>cases r
      rfl) ((A.is k b hb).lt) (by rw[p];have:=fH D.1;omega) (by
     rw[p];have:=fH D.2
     cases c with
     |n c=>exact this
     |s a d=>exact Nat.le_trans this (Nat.le_add_right _ _)) (by
     rw[hx,jT];have:=fH L;simp only[joinL,ofU,K3]at this
     omega)
   rw[p,hx,jT]at G;refine pP A (I _) ?_;rw[hP];refine G.mono ?_;rintro e w' ⟨rfl,hb⟩;refine⟨?_,hb⟩;show _=Q9 (.string (bR (joinL i m)));rw[joinL,bAp]
  |_=>cases h1
theorem know_at(hs:Sim α s w){k n g:Nat}(hg:Ctx.gl g=some k)(h:isKnow n (s.h.get k)=true): ∃o,w.heap[g]?=some o/\Ctx.G n o:=by
 have b:s.h.get k=some (.know n):=by
  cases hx:s.h.get k with
  |none=>rw[hx]at h;cases h
  |some y=>
   rw[hx]at h
   cases y with
   |know m=>
    have:Nat.beq n m=true:=h;rw[jZ this]
   |_=>cases h
 obtain⟨o,a,c⟩:=hs.is _ _ b;rw[(hs.gl _ _ hg).2]at a;exact⟨o,a,c⟩
def bLf [Ctx]:Prop:= ∀o,Ctx.G 0 o-> ∃t z,o= .cells (Lib.asciiSpaceTab.map λz=>Value.int .u8 z).toArray t z
def MaxIs [Ctx]:Prop:= ∀o,Ctx.G 1 o-> ∃m r t z,o= .cells (Value.int .i64 m::r).toArray t z
theorem bVb(hs:Sim α s w){k:Nat}(hg:Ctx.gl 2=some k)(hG:bLf)(h:isKnow 0 (s.h.get k)=true):Lib.TabIs prog w "strings.asciiSpace" .u8 Lib.asciiSpaceTab:=by
 obtain⟨o,b,a⟩:=know_at hs hg h;obtain⟨t,z,rfl⟩:=hG o a;unfold Lib.TabIs World.var?;rw[show prog.globalNamed "strings.asciiSpace" =some 2 by kernel_rfl];show(match w.heap[2]? with|some (.cells cs _ _)=>some cs|_=>none)=_;rw[b]
omit [Ctx]in
theorem u8_ascii{a:List Nat}(h5: ∀b∈a,b<128): ∀(j:Nat) b,(bR a).data.toList[j]?=some b->b.toNat<128:=λj b hb=>by
 rw[jT]at hb;unfold u8s at hb;rw[I7]at hb
 cases hz:a[j]? with
 |none=>rw[hz]at hb;cases hb
 |some c=>
  rw[hz]at hb;cases hb;have:=h5 c (f4 hz);simp;omega
omit [Ctx]in
theorem gd1_some{y:List Nat}{v:V}(h:gd1 s y=some (v,s')):v= .s y/\s'=s:=by
 obtain⟨_,h⟩:=bN h;cases h;exact⟨rfl,rfl⟩
theorem repl_orc(hP:Ctx.P=prog){kMax:Nat}(hg:Ctx.gl 1=some kMax)(hG:MaxIs):uC 314 (replO kMax):=λc s v s' h α w f _=>by
 match c,h with
 |[x,a,b,n],h=>
  obtain⟨y,rfl,h1⟩:=kD (show asS x _=some (v,s')from h);obtain⟨g,B⟩:=bN h1;simp only[G1]at g;obtain⟨h4,A,u,q,p⟩:=g;rw[qG 2 _ _ A,qG 2 _ _ u,qG 2 _ _ q];obtain⟨rfl,rfl⟩:=gd1_some B;obtain⟨o,l,d⟩:=know_at f hg p;obtain⟨m,r,t,z,rfl⟩:=hG o d
  have i:w.cell? ⟨1,0,none⟩=some (.int .i64 m):=by
   unfold World.cell?;rw[l];rfl
  refine pP f (by rw[hP];exact j4 func314 _ _) ?_;rw[hP];have k:=Lib.countB_mul_le (⟨#[45]⟩:ByteArray) l5 (bR y).size (bR y) (B8 _);have h4:=fH h4
  refine(Tryz.strings_Replace (bR y) ⟨#[45]⟩ ⟨#[95]⟩ 1 m w (by rw[uO];omega) i l5 ?_).mono λe w' ⟨j,hb⟩=>⟨?_,hb⟩
  .have D:(⟨#[45]⟩:ByteArray).size=1:=rfl;have C:(⟨#[95]⟩:ByteArray).size=1:=rfl;rw[D]at k;rw[C,uO]at*;omega
  .rw[j,jT];show _=Q9 (.string (bR (ofU (Lib.replace (u8s y) [45] [95] 1))));rw[bAp]
theorem trim_orc(hP:Ctx.P=prog){kSp:Nat}(hg:Ctx.gl 2=some kSp)(hG:bLf):uC 316 (trimO kSp):=λc s v s' h α w d _=>by
 match c,h with
 |[x],h=>
  obtain⟨a,rfl,h1⟩:=kD (show asS x _=some (v,s')from h);obtain⟨f,j⟩:=bN h1;simp only[G1,oY,D6,Nat.blt_eq]at f;obtain⟨h4,i,g⟩:=f;have b:=bVb d hg hG g;obtain⟨rfl,rfl⟩:=gd1_some j;refine pP d (by rw[hP];exact j4 func316 _ _) ?_;rw[hP];refine(Tryz.strings_TrimSpace (bR a) w ab1 (u8_ascii i) b).mono ?_;rintro e w' ⟨rfl,rfl⟩;refine⟨?_,Joins.below_bytesWorld _ _ _ _ (B8 _)⟩;rw[jT];show _=Q9 (.string (bR (ofU (Lib.trimSpace (u8s a)))));rw[bAp]
theorem cont_orc(hP:Ctx.P=prog):uC 317 contO:=λd s v s' h α w g _=>by
 match d,h with
 |[x,y],h=>
  obtain⟨a,rfl,h1⟩:=kD (show asS x _=some (v,s')from h);obtain⟨b,rfl,f⟩:=kD h1
  match b,f with
  |[c],f=>
   cases f;refine pP g (by rw[hP];exact j4 func317 _ _) ?_;rw[hP];refine(Tryz.strings_Contains_one (bR a) (J0 c) w).mono ?_;rintro e w' ⟨rfl,rfl⟩;refine⟨?_,Below.refl _ _⟩;rw[jT];show _=Q9 (.bool (!ilt (Q7 (u8s a) (J0 c)) 0))
   congr 2
   rw[ilt_eq]
   by_cases h:0<=Q7 (u8s a) (J0 c)
   .simp[h]
   .simp[h];omega
theorem fields_orc(hP:Ctx.P=prog){kSp:Nat}(hg:Ctx.gl 2=some kSp)(hG:bLf):uC 267 (fieldsO kSp):=λc s v s' h α w f _=>by
 match c,h with
 |[x],h=>
  obtain⟨a,rfl,h1⟩:=kD (show asS x _=some (v,s')from h);obtain⟨i,n⟩:=bN h1;cases n;simp only[G1,oY,D6,Nat.blt_eq]at i;obtain⟨h4,m,k⟩:=i;have b:=bVb f hg hG k;refine .inr ⟨by rw[hP];exact j4 func267 _ _,?_⟩;rw[hP];refine(Tryz.strings_Fields (bR a) w ab1 (u8_ascii m) b).mono ?_
  .rintro e w' ⟨rfl,rfl⟩;rw[jT]
   obtain⟨α',g,d⟩:=uP f (cs:=(Q8 (u8s a)).map λy=>V.s (ofU y)) 9 (λv j=>by
    obtain⟨y,_,rfl⟩:=List.mem_map.1 j
    exact⟨⟨1,by rw[iU]⟩,rfl⟩)
   refine⟨_,rfl,α',?_,?_⟩
   .simp[V.inst,d,Cap.inst]
   .have o:((Q8 (u8s a)).map λy=>V.s (ofU y)).map (V.inst α)=(Q8 (u8s a)).map λl=>Value.string ⟨l.toArray⟩:=by
     rw[Q6]
     exact I6 λy _=>by
      show Value.string (bR (ofU y))=_;rw[bAp]
    rw[o]at g;exact g
end
end X
end Go.Proofs.YtnfiadlonjediaaGreatDoor
