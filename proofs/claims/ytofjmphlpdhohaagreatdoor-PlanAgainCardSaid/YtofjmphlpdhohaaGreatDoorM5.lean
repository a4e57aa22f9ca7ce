/- The runner: functions whose answers are known by theorems. -/
import Derived.Test.YtofjmphlpdhohaaGreatDoorM4
import Derived.Test.YtofjmphlpdhohaaGreatDoorShelf
import Derived.Lib.SmallJoins
import Derived.Lib.Fields
namespace Go.Proofs.YtofjmphlpdhohaaGreatDoor
namespace X
open Go.RowKit
noncomputable section
def u8s (x:List Nat):List UInt8:=x.map UInt8.ofNat
def ofU (x:List UInt8):List Nat:=x.map UInt8.toNat
theorem bIk(x:List UInt8):cB (ofU x)=⟨x.toArray⟩:=by
 have:(ofU x).map UInt8.ofNat=x:=by
  unfold ofU;rw [List.map_map]
  conv=>rhs;rw [←List.map_id x]
  exact List.map_congr_left fun y _=>by simp
 unfold cB;rw [this]
theorem mR(x:List Nat):(cB x).data.toList=u8s x:=by simp [cB,u8s]
def idxO:Orc:=fun args s=>match args with
 | [x,b]=>asS x fun x=>asI b fun k c=>gd (sameKind k .u8) (some (.i .i64 (Lib.indexByte (u8s x) c.toNat.toUInt8),s))
 | _=>none
def isKnow(n:Nat):Option Blk→Bool
 | some (.know m)=>Nat.beq n m
 | _=>false
def fieldsO(kSp:Nat):Orc:=fun args s=>match args with
 | [x]=>asS x fun x=>gd (Nat.ble x.length 1000&&(allL (fun b=>Nat.blt b 128) x&&isKnow 0 (s.h.get kSp))) ((fun l:List (List UInt8)=>some (.l s.n 0 l.length (.n l.length),s.new (.cells (l.map fun y=>V.s (ofU y)) 9 none false))) (Lib.fields (u8s x)))
 | _=>none
def strO:V→Option (List Nat)
 | .s x=>some x
 | _=>none
def joinL (xs:List (List Nat))(sep:List Nat):List Nat:=ofU (Lib.join (xs.map u8s) (u8s sep))
def joinV (s:St)(sep:List Nat):V→Option (V×St)
 | .l0=>some (.s [],s)
 | .l k o n c=>gd (Nat.ble n 100000&&Nat.ble n c.least) (ob (rowX0 s k o n) fun cs=>ob (bAg strO cs) fun xs=>(fun r=>gd (Nat.ble r.length 100000) (some (.s r,s))) (joinL xs sep))
 | _=>none
def joinO:Orc:=fun args s=>match args with
 | [l,y]=>asS y fun sep=>joinV s sep l
 | _=>none
def escO:Orc:=fun args s=>match args with
 | [v]=>some (v,s)
 | _=>none
end
section
variable [Ctx] {α : As} {s s' : St} {w w' : World}
theorem yO{f:FuncId}{args:Array Value}{v:V}(hs:Sim α s w)(he:(callFunc f args).run Ctx.P w= .ok (.enter f args) w)(h:Calls Ctx.P f args w fun e w'=>e= .returned (v.inst α)∧Below w.heap.size w w'):
  CallR Ctx.P f args w fun u w'=> ∃α',u=v.inst α'∧Stp α s w α' s w':=
 .inr ⟨he,h.mono fun _ _ ⟨h1,h2⟩=>⟨_,h1,α,rfl,Stp.of_grow hs h2⟩⟩
omit [Ctx] in
theorem bytes_len(x:List Nat):(cB x).size=x.length:=by simp [cB,ByteArray.size]
theorem idx_orc(hP:Ctx.P=Tryz.prog):qE 234 idxO:=fun args s v s' h α w hs _=>by
 match args,h with
 | [x,b],h=>
  obtain⟨a,rfl,h1⟩:=nA (show asS x _=some (v,s') from h);obtain⟨k,c,rfl,h2⟩:=jU h1;obtain⟨h3,h4⟩:=bS h2;cases h4;have:=jZ h3;subst this;refine yO hs (by rw [hP];exact bP Tryz.func234 rfl rfl _ _) ?_;rw [hP];refine(Tryz.strings_IndexByte (cB a) c w).mono ?_;rintro e w' ⟨rfl,rfl⟩;exact⟨by simp [V.inst,mR],Below.refl _ _⟩
theorem esc_orc(hP:Ctx.P=Tryz.prog):qE 310 escO:=fun args s v s' h α w hs _=>by
 match args,h with
 | [x],h=>
  cases h;refine .inl ⟨v.inst α,w,?_,α,rfl,Stp.refl hs⟩;show(callFunc 310 #[v.inst α]).run Ctx.P w=_;rw [hP,run_callFunc_extern Tryz.func310 (by kernel_rfl) (by kernel_rfl) (by kernel_rfl) (e:=Extern.AbiNoEscape.same) (by kernel_rfl),Lib.run_noEscape];rfl
theorem join_orc(hP:Ctx.P=Tryz.prog):qE 284 joinO:=fun args s v s' h α w hs _=>by
 match args,h with
 | [l,y],h=>
  obtain⟨sep,rfl,h1⟩:=nA (show asS y _=some (v,s') from h);have he: ∀args,(callFunc 284 args).run Ctx.P w= .ok (.enter 284 args) w:=fun args=>by rw [hP];exact bP Tryz.func284 rfl rfl _ _
  cases l with
  | l0=>
   cases h1;refine yO hs (he _) ?_;rw [hP];refine(Tryz.strings_Join_none none 0 (cB sep) w).mono ?_;rintro e w' ⟨rfl,rfl⟩;exact⟨rfl,Below.refl _ _⟩
  | l k o n c=>
   obtain⟨h2,h3⟩:=bS (show gd _ _=some (v,s') from h1);obtain⟨cs,hcs,h4⟩:=bB h3;obtain⟨xs,hxs,h5⟩:=bB h4;obtain⟨h6,h7⟩:=bS h5;cases h7;rw [Bool.and_eq_true] at h2;have hm:=uB _ _ _ hxs;obtain⟨hl,hc⟩:=mO hs (row0_row hcs);have hlx:xs.length=n:=by rw [←hl];have:=congrArg List.length hm;simpa using this.symm
   have hlb:(xs.map cB).length=n:=by rw [List.length_map,hlx]
   have hx:(xs.map cB).map (fun b:ByteArray=>b.data.toList)=xs.map u8s:=by
    rw [List.map_map];exact List.map_congr_left fun x _=>mR x
   obtain⟨b,hb,_⟩:=bB hcs
   have hj:=Tryz.strings_Join (α.blk k) o (c.inst α) (xs.map cB) (cB sep) w (fun j x hx'=>by
    rw [List.getElem?_map] at hx'
    cases hz:xs[j]? with
    | none=>rw [hz] at hx';cases hx'
    | some z=>
     rw [hz] at hx';cases hx';have h8:=congrArg (fun q:List (Option (List Nat))=>q[j]?) hm;simp only [List.getElem?_map,hz,Option.map_some] at h8
     cases hu:cs[j]? with
     | none=>rw [hu] at h8;cases h8
     | some u=>
      rw [hu] at h8;have h8:strO u=some z:=by simpa using h8
      rw [hc j u hu];cases u<;>cases h8
      rfl) ((hs.is k b hb).lt) (by rw [hlb];have:=dZ h2.1;omega) (by
     rw [hlb];have:=dZ h2.2
     cases c with
     | n c=>exact this
     | s a d=>exact Nat.le_trans this (Nat.le_add_right _ _)) (by
     rw [hx,mR];have:=dZ h6;simp only [joinL,ofU,List.length_map] at this
     omega)
   rw [hlb,hx,mR] at hj;refine yO hs (he _) ?_;rw [hP];refine hj.mono ?_;rintro e w' ⟨rfl,hb⟩;refine⟨?_,hb⟩;show _=Ending.returned (.string (cB (joinL xs sep)));rw [joinL,bIk]
  | _=>cases h1
theorem know_at(hs:Sim α s w){k n g:Nat}(hg:Ctx.gl g=some k)(h:isKnow n (s.h.get k)=true): ∃o,w.heap[g]?=some o∧Ctx.G n o:=by
 have hk:s.h.get k=some (.know n):=by
  cases hx:s.h.get k with
  | none=>rw [hx] at h;cases h
  | some y=>
   rw [hx] at h
   cases y with
   | know m=>
    have:Nat.beq n m=true:=h;rw [iB this]
   | _=>cases h
 obtain⟨o,h7,h8⟩:=hs.is _ _ hk;rw [(hs.gl _ _ hg).2] at h7;exact⟨o,h7,h8⟩
def SpaceIs [Ctx]:Prop:= ∀o,Ctx.G 0 o→ ∃t z,o= .cells (Lib.asciiSpaceTab.map fun z=>Value.int .u8 z).toArray t z
theorem space_tab(hs:Sim α s w){k:Nat}(hg:Ctx.gl 2=some k)(hG:SpaceIs)(h:isKnow 0 (s.h.get k)=true):Lib.TabIs Tryz.prog w "strings.asciiSpace" .u8 Lib.asciiSpaceTab:=by
 obtain⟨o,h7,h8⟩:=know_at hs hg h;obtain⟨t,z,rfl⟩:=hG o h8;unfold Lib.TabIs World.var?;rw [show Tryz.prog.globalNamed "strings.asciiSpace" =some 2 by kernel_rfl];show(match w.heap[2]? with | some (.cells cs _ _)=>some cs | _=>none)=_;rw [h7]
omit [Ctx] in
theorem u8_ascii{a:List Nat}(h5: ∀b∈a,b<128): ∀(j:Nat) b,(cB a).data.toList[j]?=some b→b.toNat<128:=fun j b hb=>by
 rw [mR] at hb;unfold u8s at hb;rw [List.getElem?_map] at hb
 cases hz:a[j]? with
 | none=>rw [hz] at hb;cases hb
 | some c=>
  rw [hz] at hb;cases hb;have:=h5 c (List.mem_of_getElem? hz);simp;omega
theorem fields_orc(hP:Ctx.P=Tryz.prog){kSp:Nat}(hg:Ctx.gl 2=some kSp)(hG:SpaceIs):qE 255 (fieldsO kSp):=fun args s v s' h α w hs _=>by
 match args,h with
 | [x],h=>
  obtain⟨a,rfl,h1⟩:=nA (show asS x _=some (v,s') from h);obtain⟨h2,h3⟩:=bS h1;cases h3;simp only [Bool.and_eq_true,gG,List.all_eq_true,Nat.blt_eq] at h2;obtain⟨h4,h5,h6⟩:=h2;have htab:=space_tab hs hg hG h6;refine .inr ⟨by rw [hP];exact bP Tryz.func255 rfl rfl _ _,?_⟩;rw [hP];refine(Tryz.strings_Fields (cB a) w (by rw [bytes_len];have:=dZ h4;omega) (u8_ascii h5) htab).mono ?_
  ·rintro e w' ⟨rfl,rfl⟩;rw [mR]
   obtain⟨α',h9,h10⟩:=pR hs (cs:=(Lib.fields (u8s a)).map fun y=>V.s (ofU y)) 9 (fun v hv=>by
    obtain⟨y,_,rfl⟩:=List.mem_map.1 hv
    exact⟨⟨1,by rw [iU]⟩,rfl⟩)
   refine⟨_,rfl,α',?_,?_⟩
   ·simp [V.inst,h10,Cap.inst]
   ·have e1:((Lib.fields (u8s a)).map fun y=>V.s (ofU y)).map (V.inst α)=(Lib.fields (u8s a)).map fun l=>Value.string ⟨l.toArray⟩:=by
     rw [List.map_map]
     exact List.map_congr_left fun y _=>by
      show Value.string (cB (ofU y))=_;rw [bIk]
    rw [e1] at h9;exact h9
end
end X
end Go.Proofs.YtofjmphlpdhohaaGreatDoor
