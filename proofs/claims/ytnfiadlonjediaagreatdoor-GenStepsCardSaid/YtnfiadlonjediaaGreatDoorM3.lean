/- Texts of one proof, one behind the other: RunV, RunW, RunX, RunY, RunZ. -/
import Derived.Test.YtnfiadlonjediaaGreatDoorM2
import Derived.Laws.Tables
import Derived.Laws.IdiomStrings
import Derived.Lib.Builder
import Derived.Lib.UnsafeStr
import Derived.Deep.AppendSrc
import Derived.Laws.CopyRow
import Derived.Deep.Upon
import Derived.Great.BuildSlice
import Derived.Laws.MakeOwn
import Derived.MapKept
import Derived.Lib.OthersKept
import Derived.Carry
import Derived.Lib.AppendZeros
namespace Go.Proofs.YtnfiadlonjediaaGreatDoor
open _root_.Nat renaming blt_eq->H9,le_refl->B8,beq_eq->H7,lt_of_lt_of_le->B6,le_trans->B9,le_succ->J8,lt_succ_self->J9,beq->B5,ble->H8,zero_add->C7,add_mul->C5
open _root_.UInt8 renaming ofNat->J0
open _root_.List renaming map_cons->I5,getElem?_eq_some_iff->D9,getElem?_take->K0,mem_of_mem_drop->K1,mem_of_mem_take->K2,length_map->K3,getElem?_eq_getElem->D7,getElem?_map->I7,size_toArray->K4,map_take->K5,mem_cons->C9,map_congr_left->I6,map_append->K6,mem_map->K7,take_append_of_le_length->K8,mem_append->D0,eq_nil_of_length_eq_zero->K9,length_append->E0,drop_zero->L0,all_eq_true->D6,mem_cons_of_mem->D1,mem_cons_self->D5,mem_singleton->L1,findIdx?_cons->L2
open _root_.Bool renaming and_eq_true->G1,not_eq_true'->L3,false_eq_true->G0
open _root_.Option renaming map_some->I2,map_none->I3,getD_some->L4
open Instr renaming fieldAt->L5,sureAddr->F1,indexAt->F3,checkKey->L6,findKey->L7,sameNow->L8,findNow->L9,buildSlice->M0,makeMap->M1,keyThatStays->M2,mapUpdate->M3,mapEntry->M4
open Sem renaming run_bind->E6,run_pure->E7
open Result renaming andThen_ok->E8
open _root_.Int renaming ofNat->J1,natCast_nonneg->J3,ofNat_lt->M5
open Builtin renaming len_->M6,cap_->M7,lenOf->M8,firstCells->M9,append_->N1,zeroCells->N2,delete_->N3,clear_->N4,copy_->N5
open _root_.Array renaming ext'->k7,getElem?_eq_some_iff->N6,range->N7,length_toList->N8,map_empty->N9,ext->O0,getElem_modify->O1
open Program renaming cellsOf->O2
open MapKept renaming run_keyThatStays->O3,run_getObj_map->O4,run_setObj_map->O5
open World renaming freeze->O6
section
namespace X
open Go.RowKit
theorem oF(l:List Nat):(bR l).size=l.length:=by simp[bR,ByteArray.size]
theorem byte_some{v:V}{x:Nat}(h:byteX v=some x):v= .i .u8 (.ofNat x)/\x<256:=by
 unfold byteX at h;split at h
 .obtain⟨h1,a⟩:=bN h;cases a;exact⟨rfl,by simpa[H9]using h1⟩
 .cases h
theorem bCp{α:As}: ∀{l:List V} {xs:List Nat},bKw byteX l=some xs->l.map (V.inst α)=(xs.map J0).map (λb=>Value.int .u8 (b.toNat:Int))/\xs.length=l.length
 |[],xs,h=>by cases h;exact⟨rfl,rfl⟩
 |v::l,xs,h=>by
  obtain⟨x,hx,h1⟩:=bB h;obtain⟨r,hr,c⟩:=bB h1;cases c;obtain⟨rfl,hlt⟩:=byte_some hx;obtain⟨a,h4⟩:=bCp (α:=α) hr;refine⟨?_,by simp[h4]⟩;have e:(J0 x).toNat=x:=by simp;omega
  simp only[I5,a,e];rfl
section
variable [Ctx] {α : As} {s : St} {w : World} {N : Nat} {e : E} {a : Act}
theorem isU8_eq{t:TypeId}(h:isU8 t=true):Ctx.P.underlying t=some (.int .u8):=by
 unfold isU8 at h;split at h
 .assumption
 .cases h
theorem bEr{t:TypeId}(h:isStr t=true):Ctx.P.underlying t=some .string:=by
 unfold isStr at h;split at h
 .assumption
 .cases h
theorem isUns_eq{t:TypeId}(h:isUns t=true):Ctx.P.underlying t=some .unsafePointer:=by
 unfold isUns at h;split at h
 .assumption
 .cases h
theorem ptrTo_eq{t u:TypeId}(h:ptrTo t=some u):Ctx.P.underlying t=some (.pointer u):=by
 obtain⟨d,hd,h1⟩:=bB h;cases d<;>cases h1
 exact hd
theorem Sim.shape(hs:Sim α s w){k:Nat}{cs:List V}{t:TypeId}{ro:Bool}(hk:s.h.get k=some (.cells cs t none ro)):w.shape? (α.blk k)=some (t,cs.length):=by
 obtain⟨rest,hr,h0⟩:=hs.cells hk;have:=h0 rfl;subst this;simp[World.shape?,hr]
theorem row0_row{k o n:Nat}{l:List V}(h:rowX0 s k o n=some l):bIf s k o n=some l:=by
 obtain⟨x,hx,h1⟩:=bB h;obtain⟨c,a,b⟩:=bB h1
 have hr:x.row=some c:=by
  cases x with
  |cells _ _ _ _=>exact a
  |win _=>exact a
  |_=>cases a
 unfold bIf;rw[hx];show ob x.row _=_;rw[hr];exact b
theorem qB(hs:Sim α s w){k o n:Nat}{l:List V}(h:bIf s k o n=some l):l.length=n/\ ∀j v,l[j]?=some v->w.cell? ⟨α.blk k,o+j,none⟩=some (v.inst α):=by
 obtain⟨x,hx,h1⟩:=bB h;obtain⟨g,a,f⟩:=bB h1;obtain⟨e,hl⟩:=mS _ _ _ _ f;have b:l.length=n:=by rw[e];simp;omega
 refine⟨b,λj v c=>?_⟩;have d:=(D9.1 c).1;refine hs.cell hx a ?_;rw[e,K0,if_pos k9,List.getElem?_drop]at c;exact c
theorem row_sc(hs:Sim α s w){k o n:Nat}{l:List V}(h:bIf s k o n=some l): ∀v∈l,v.Sc s.n s.c/\v.one=true:=by
 obtain⟨x,hx,h1⟩:=bB h;obtain⟨f,a,d⟩:=bB h1;obtain⟨e,_⟩:=mS _ _ _ _ d;intro v b;rw[e]at b;exact hs.row_sc hx a v (K1 (K2 b))
theorem conv_run(hs:Sim α s w){src d:TypeId}{u r:V}(h:cvX src d u s=some r):(convert src d (u.inst α)).run Ctx.P w= .ok (r.inst α) w:=by
 unfold cvX at h
 cases hu:Ctx.P.underlying src with
 |none=>rw[hu]at h;cases h
 |some ds=>
  rw[hu]at h
  have one: ∀r,cvOne d u=some r->(convert src d (u.inst α)).run Ctx.P w= .ok (r.inst α) w:=λr h=>by
   obtain⟨J,hd,h1⟩:=bB h;cases J<;>try cases h1
   case int k=>
    obtain⟨L,x,rfl,a⟩:=lG h1;cases a;simp[convert,run_underlying hu,run_underlying hd,V.inst,Conv.intToInt,bEv]
   case string=>
    obtain⟨x,rfl,a⟩:=kD h1;cases a;simp[convert,run_underlying hu,run_underlying hd,V.inst]
  cases ds with
  |slice el=>
   obtain⟨hb,h1⟩:=bN (show gd _ _=some r from h);rw[G1]at hb;have D:=isU8_eq hb.1;have hd:=bEr hb.2
   cases u with
   |l0=>
    cases h1;simp[convert,run_underlying hu,run_underlying hd,run_underlying D,V.inst,Conv.bytesToString];rfl
   |l k o n c=>
    obtain⟨l,hl,a⟩:=bB (show ob (bIf s k o n) _=some r from h1);obtain⟨y,hx,p⟩:=bB a;cases p;obtain⟨h4,g⟩:=qB hs hl;obtain⟨f,e⟩:=bCp (α:=α) hx;have m:(y.map J0).length=n:=by rw[K3,e,h4]
    have:=run_convert_bytes_back (P:=Ctx.P) w src d el ⟨α.blk k,o,none⟩ (c.inst α) (y.map J0) hu D hd (λj C=>by
     have b:j<l.length:=by rw[K3,e]at C;exact C
     have G:=g j _ (D7 b);rw[lU,G];have v:=congrArg (λq:List Value=>q[j]?) f;simp only[I7,D7 b,I2]at v;rw[v];have A:j<y.length:=by rw[e];exact b
     simp[D7 A])
    rw[m]at this
    simpa[V.inst,bR]using this
   |_=>cases h1
  |pointer t=>
   obtain⟨k,o,rfl,h1⟩:=pH (show asP u _=some r from h);obtain⟨n,hn,a⟩:=bB h1;obtain⟨hb,p⟩:=bN a;obtain⟨x,hx,h4⟩:=bB p;obtain⟨K,q,ext,ro,rfl,g⟩:=zP h4
   cases ext with
   |some _=>cases g
   |none=>
    obtain⟨f,e⟩:=bN (show gd _ _=some r from g);cases e;rw[G1]at hb;obtain⟨i,B,z⟩:=jQ hn;have hn0:i.size≠0:=λE=>by rw[z]at E;subst E;cases hb.2
    exact Lib.run_to_unsafe (P:=Ctx.P) w ⟨α.blk k,o,none⟩ hu (isUns_eq hb.1) B hn0 (hs.shape hx) (by simpa[H9]using f)
  |unsafePointer=>
   obtain⟨t,I,h1⟩:=bB (show ob (ptrTo d) _=some r from h);obtain⟨k,o,rfl,a⟩:=pH h1;obtain⟨n,hn,p⟩:=bB a;obtain⟨hb,h4⟩:=bN p;obtain⟨x,hx,g⟩:=bB h4;obtain⟨K,q,ext,ro,rfl,f⟩:=zP g
   cases ext with
   |some _=>cases f
   |none=>
    obtain⟨e,v⟩:=bN (show gd _ _=some r from f);cases v;obtain⟨i,B,_⟩:=jQ hn;exact Lib.run_from_unsafe (P:=Ctx.P) w ⟨α.blk k,o,none⟩ hu (ptrTo_eq I) B (hs.shape hx) e
  |_=>exact one r h
theorem bOn{t f ft fo:Nat}(h:bDt t f=some (ft,fo)): ∃gs:Array Field,Ctx.P.underlying t=some (.struct gs)/\ ∃g:Field,gs[f]?=some g/\g.type=ft/\g.offset=fo:=by
 obtain⟨d,hd,h1⟩:=bB h;cases d<;>try cases h1
 obtain⟨g,hg,a⟩:=bB h1;cases a;rw[iJ]at hg;exact⟨_,hd,g,by simpa using hg,rfl,rfl⟩
theorem bRu{t f fo b o:Nat}(h:fieldAt t f=some fo):(L5 t (.pointer (some ⟨b,o,none⟩)) f).run Ctx.P w= .ok (.pointer (some ⟨b,addO o fo,none⟩)) w:=by
 obtain⟨⟨k,e⟩,a,h1⟩:=bB h;obtain⟨n,hn,d⟩:=bB h1;obtain⟨hn0,c⟩:=bN d;cases c;obtain⟨j,hu,g,hg,rfl,rfl⟩:=bOn a;have hn0:n≠0:=λi=>by subst i;cases hn0
 simp only[L5,E6,run_underlying hu,E8,hg,F1,E7,fieldPlace,iD hn,if_neg hn0,lU];rfl
theorem field_run{t f ft fo:Nat}{cs:List V}{v:V}(h:bDt t f=some (ft,fo))(hv:bFs ft cs fo=some v):(Instr.field t ((V.g cs).inst α) f).run Ctx.P w= .ok (v.inst α) w:=by
 obtain⟨a,hu,g,hg,rfl,rfl⟩:=bOn h;rw[oR];simp only[Instr.field,E6,run_underlying hu,E8,hg,asAgg,E7,vK hv w]
theorem bRc{t z:Nat}{k:IntKind}{q:Option Nat×TypeId×Nat}{u v:V}(hq:elemOf t=some q)(h:idxX u q.1 q.2.2 z=some v):(F3 t (u.inst α) (.int k (.ofNat z))).run Ctx.P w= .ok (v.inst α) w:=by
 obtain⟨n,el,sz⟩:=q
 have key: ∀(b o m:Nat),z<m->(0:Int)<=J1 z/\J1 z<(m:Int):=λb o m hz=>⟨J3 z,M5.2 hz⟩
 cases u with
 |l b o m c=>
  cases n with
  |some n=>cases h
  |none=>
   obtain⟨h1,d⟩:=bN (show gd _ _=some v from h);cases d;obtain⟨hu,a⟩:=kY hq;have h0:=key 0 0 m (by simpa[H9]using h1);simp only[V.inst,F3,asIntOf,E6,E7,E8,run_underlying hu,if_pos h0,iD a,lU];rfl
 |p b o=>
  cases n with
  |none=>cases h
  |some n=>
   obtain⟨h1,d⟩:=bN (show gd _ _=some v from h);cases d;obtain⟨hu,a⟩:=bCf hq;have h0:=key 0 0 n (by simpa[H9]using h1);simp only[V.inst,F3,asIntOf,F1,E6,E7,E8,run_underlying hu,if_pos h0,iD a,lU];rfl
 |_=>cases h
theorem index_run{t z:Nat}{k:IntKind}{u v:V}(h:atX t u z=some v):(Instr.index t (u.inst α) (.int k (.ofNat z))).run Ctx.P w= .ok (v.inst α) w:=by
 cases u with
 |s x=>
  obtain⟨d,h1⟩:=bN (show gd _ _=some v from h);obtain⟨y,a,c⟩:=bB h1;cases c;rw[iJ]at a;obtain⟨hlt,a⟩:=D9.1 a;have hr:=run_index_string (P:=Ctx.P) w t (bR x) k (J1 z) (bEr d);rw[dif_pos ⟨J3 z,by rw[oF];exact M5.2 hlt⟩]at hr
  have f:(bR x)[(J1 z).toNat]'(by rw[oF];exact hlt)=J0 y:=by
   rw[<-a];simp[bR,ByteArray.getElem_eq_getElem_data]
  rw[f]at hr
  simpa[V.inst]using hr
 |g cs=>
  obtain⟨⟨n,el,sz⟩,hq,h1⟩:=bB (show ob (elemOf t) _=some v from h)
  cases n with
  |none=>cases h1
  |some n=>
   obtain⟨c,e⟩:=bN (show gd _ _=some v from h1);obtain⟨hu,b⟩:=bCf hq
   have h0:(0:Int)<=J1 z/\J1 z<(n:Int):=⟨J3 z,M5.2 (by simpa[H9]using c)⟩
   rw[oR];simp only[Instr.index,asIntOf,E6,E7,E8,run_underlying hu,if_pos h0,iD b];exact vK e w
 |_=>cases h
omit [Ctx]in
theorem bQn: ∀(vs:List Value) (o k:Nat) (A:Array Value),o+k+vs.length<=A.size->(vs.zipIdx k).foldl (λcs (x:Value×Nat)=>cs.setIfInBounds (o+x.2) x.1) A=(A.toList.take (o+k)++vs++A.toList.drop (o+k+vs.length)).toArray
 |[],o,k,A,_=>by simp
 |v::vs,o,k,A,h=>by
  simp only[List.length_cons]at h;simp only[List.zipIdx_cons,List.foldl_cons];rw[bQn vs o (k+1) _ n9]
  congr 1
  have hlt:o+k<A.toList.length:=by simp;omega
  simp only[Array.toList_setIfInBounds]
  have b:(A.toList.set (o+k) v).take (o+(k+1))=A.toList.take (o+k)++[v]:=by
   rw[show o+(k+1)=(o+k)+1 from by omega,List.take_add_one,List.getElem?_set_self hlt,List.take_set_of_le (B8 _)];rfl
  have a:(A.toList.set (o+k) v).drop (o+(k+1)+vs.length)=A.toList.drop (o+k+(vs.length+1)):=by
   rw[List.drop_set_of_lt k9]
   congr 1
   omega
  rw[b,a];simp
omit [Ctx]in
theorem yY{place:Nat->Option (Nat×Nat)}: ∀{l:List (Nat×V)} {cs r:List V},bOq place cs l=some r->Instr.fill place (cs.map (V.inst α)).toArray (l.map λx=>(x.1,x.2.inst α))=some (r.map (V.inst α)).toArray
 |[],cs,r,h=>by
  have h:some cs=some r:=h;cases h;rfl
 |(i,v)::l,cs,r,h=>by
  obtain⟨⟨o,sz⟩,f,h1⟩:=bB (show ob (place i) _=some r from h);obtain⟨d,m⟩:=bN h1;obtain⟨a,j,h4⟩:=bB m;obtain⟨c,k⟩:=qT _ _ _ _ j;have d:v.cells.length=sz:=by simpa[H7]using d
  have e:=yY (l:=l) (cs:=a) (r:=r) h4;have c:o+v.cells.length<=cs.length:=c;simp only[I5,Instr.fill,f,hJ]
  have b: ¬((v.cells.map (V.inst α)).toArray.size≠sz\/o+(v.cells.map (V.inst α)).toArray.size>(cs.map (V.inst α)).toArray.size):=by
   simp only[K4,K3];omega
  have g:((v.cells.map (V.inst α)).toArray.zipIdx.foldl (λcs (x:Value×Nat)=>cs.setIfInBounds (o+x.2) x.1) (cs.map (V.inst α)).toArray)=(a.map (V.inst α)).toArray:=by
   rw[<-Array.foldl_toList,Array.toList_zipIdx];have:=bQn (v.cells.map (V.inst α)) o 0 (cs.map (V.inst α)).toArray n9;rw[this,k];simp[K5,List.map_drop]
  rw[if_neg (by simpa using b)];rw[g];exact e
theorem tQ(hs:Sim α s w)(he:EOk α s N e a): ∀{l:List (Nat×Operand)} {ps:List (Nat×V)},partsX l e=some ps->l.map (λx=>(x.1,a.eval x.2))=ps.map (λx=>(x.1,x.2.inst α))/\ ∀x∈ps,x.2.Sc s.n s.c
 |[],ps,h=>by
  have h:some []=some ps:=h;cases h;exact⟨rfl,λ_ h=>by cases h⟩
 |(i,x)::l,ps,h=>by
  obtain⟨q,hq,h1⟩:=bB (show ob _ _=some ps from h);obtain⟨r,hr,m⟩:=bB h1;obtain⟨v,d,k⟩:=bB hq;cases m;cases k;obtain⟨h4,j⟩:=tQ hs he hr;obtain⟨g,f⟩:=bT hs he d;refine⟨by simp[h4,g],λy b=>?_⟩
  rcases C9.1 b with rfl|b
  .exact f
  .exact j y b
theorem bTy: ∀{fs:List Field} {pl:List (Nat×Nat)},placesX fs=some pl->fs.mapM (λf=>(Ctx.P.info? f.type).map λi=>(f.offset,i.size))=some pl
 |[],pl,h=>by
  have h:some []=some pl:=h;cases h;rfl
 |f::fs,pl,h=>by
  obtain⟨q,hq,h1⟩:=bB (show ob _ _=some pl from h);obtain⟨r,hr,c⟩:=bB h1;obtain⟨n,hn,b⟩:=bB hq;cases c;cases b;obtain⟨i,a,rfl⟩:=jQ hn;simp[List.mapM_cons,a,bTy hr]
theorem build_run{t:TypeId}{z:V}{pl:Nat->Option (Nat×Nat)}{ps:List (Nat×V)}{cs:List V}{parts:Array (Nat×Value)}(hz:zeroX t=some z)(hp:placeOf t=some pl)(hf:bOq pl z.cells ps=some cs)
  (he:parts.toList=ps.map λx=>(x.1,x.2.inst α)):(Instr.build t parts).run Ctx.P w= .ok ((V.g cs).inst α) w:=by
 rw[oR];refine run_build w t parts _ ?_;obtain⟨i,e,h1⟩:=bB hz;obtain⟨u,hu,h⟩:=bB h1;have a:u.cells=(z.cells.map (V.inst α)).toArray:=by rw[<-vF (α:=α) h,hJ]
 obtain⟨d,hd,c⟩:=bB hp;unfold Program.built;rw[he];cases d<;>try cases c
 case struct fs=>
  obtain⟨q,hq,h4⟩:=bB c;cases h4;simp only[e,hd,hu,bTy hq,a]
  have:(λx:Nat=>q.toArray[x]?)=nthL q:=by
   funext x
   rw[iJ];simp
  rw[this];exact yY hf
 case array n el=>
  obtain⟨sz,b,h4⟩:=bB c;cases h4;obtain⟨j,f,rfl⟩:=jQ b;simp only[e,hd,hu,f,a];exact yY hf
theorem len_run(hs:Sim α s w){t:TypeId}{d:TypeDesc}{u:V}{n:Nat}(hd:Ctx.P.underlying t=some d)(h:lenD d u s=some n)(ty:TypeId):(M6 #[t] ty #[u.inst α]).run Ctx.P w= .ok (.int .i64 (.ofNat n)) w:=by
 cases d<;>try cases h
 case string=>
  obtain⟨x,rfl,h1⟩:=kD h;cases h1;simp[M6,run_underlying hd,V.inst,goInt,oF]
 case array=>simp[M6,run_underlying hd,goInt]
 case slice el=>
  cases u<;>cases h<;>simp[M6,run_underlying hd,V.inst,goInt]
 case map kt et=>
  cases u<;>try cases h
  .simp[M6,run_underlying hd,V.inst,goInt]
  .obtain⟨x,hx,h1⟩:=bB h;obtain⟨b,c,rfl,a⟩:=xJ h1;cases a;have hb:=hs.is _ _ hx;have hb:w.heap[α.blk _]?=some (.map (b.map (entI α)).toArray c):=hb;simp[M6,run_underlying hd,V.inst,goInt,getObj,hb,Sem.run]
theorem oE{kt:TypeId}{k:V}(h:xQ kt k=true)(q:Bool):(L6 q 10000 kt (k.inst α)).run Ctx.P w= .ok () w:=by
 unfold xQ at h
 cases hd:Ctx.P.underlying kt with
 |none=>rw[hd]at h;cases h
 |some d=>
  rw[hd]at h;cases d<;>try cases h
  case int kk=>
   cases k<;>try cases h
   have: ∀n (v:Value),(∃kk x,v= .int kk x)->(L6 q (n+1) kt v).run Ctx.P w= .ok () w:=λn v ⟨_,_,a⟩=>by subst a;simp[L6,run_underlying hd]
   exact this 9999 _ ⟨_,_,rfl⟩
  case string=>
   cases k<;>try cases h
   have: ∀n (v:Value),(∃x,v= .string x)->(L6 q (n+1) kt v).run Ctx.P w= .ok () w:=λn v ⟨_,a⟩=>by subst a;simp[L6,run_underlying hd]
   exact this 9999 _ ⟨_,rfl⟩
theorem bEb{kt:TypeId}{k:V}(hk:xQ kt k=true){es:List Ent}{f:Option (Nat×V)}(h:bDy kt k es 0=some f):(L7 kt (k.inst α) (es.map (entI α))).run Ctx.P w= .ok (f.map λq=>(q.1,q.2.inst α)) w:=by
 unfold xQ at hk;have key: ∀(d:TypeDesc),Ctx.P.underlying kt=some d->(∀e c,eqX 1 kt k e=some c->L8 d (k.inst α) (e.inst α)=some c)-> ∀(es:List Ent) (i:Nat) (f:Option (Nat×V)),bDy kt k es i=some f->
   L9 d (k.inst α) (es.map (entI α)) i=some (f.map λq=>(q.1,q.2.inst α)):=by
  intro d hd b es
  induction es with
  |nil=>intro i f h;cases h;rfl
  |cons x es ih=>
   intro i f h;unfold bDy at h;obtain⟨c,a,h1⟩:=bB h;rw[cF]at h1;simp only[I5,L9,entI,b _ _ a];cases c
   .simp at h1;exact ih (i+1) f h1
   .simp at h1;subst h1;rfl
 cases hd:Ctx.P.underlying kt with
 |none=>rw[hd]at hk;cases hk
 |some d=>
  rw[hd]at hk;unfold L7;rw[E6,run_underlying hd,E8];cases d<;>try cases hk
  case int kk=>
   cases k<;>try cases hk
   rw[key _ hd (λe c a=>by
    simp only[eqX,hd]at a;cases e<;>try cases a
    obtain⟨h1,g⟩:=bN a;cases g
    simp[L8,V.inst,kJ h1,bGk]) es 0 f h]
   rfl
  case string=>
   cases k<;>try cases hk
   rw[key _ hd (λe c a=>by
    simp only[eqX,hd]at a;cases e<;>cases a
    simp[L8,V.inst,bQq,beq_toListBytes]) es 0 f h]
   rfl
theorem bPj{t kt et:TypeId}(h:bLv t=some (kt,et)):Ctx.P.underlying t=some (.map kt et):=by
 obtain⟨d,hd,h1⟩:=bB h;cases d<;>cases h1
 exact hd
theorem lookup_run(hs:Sim α s w){t kt et:TypeId}{u k r:V}{es:List Ent}{f:Option (Nat×V)}{ok:Bool}(ht:bLv t=some (kt,et))(hk:xQ kt k=true)(hm:mapOf u s=some es)(hf:bDy kt k es 0=some f)(hr:foundX ok et f=some r):
  (Instr.lookup t (u.inst α) (k.inst α) ok).run Ctx.P w= .ok (r.inst α) w:=by
 have hu:=bPj ht;have a:=bEb (w:=w) (α:=α) hk hf;unfold Instr.lookup;rw[E6,run_underlying hu,E8];cases u<;>try cases hm
 case m0=>
  simp only[V.inst,E6,E7,E8,oE hk];rw[show(L7 kt (k.inst α) (#[]:Array MapEntry).toList).run Ctx.P w=_ from a,E8];unfold foundX at hr;rw[rN]at hr
  cases f with
  |none=>
   obtain⟨z,hz,h1⟩:=bB hr;cases h1;simp only[I3,E6,vR hz w α,E8,E7,cF];cases ok<;>simp[inst_t,V.inst]
  |some q=>
   cases hr;simp only[I2,E6,E7,E8,cF];cases ok<;>simp[inst_t,V.inst]
 case m b=>
  obtain⟨x,hx,h1⟩:=bB hm;obtain⟨e,c,rfl,d⟩:=xJ h1;cases d;have hb:w.heap[α.blk b]?=some (.map (es.map (entI α)).toArray c):=hs.is _ _ hx;have hg:(getObj (α.blk b)).run Ctx.P w= .ok (.map (es.map (entI α)).toArray c) w:=by simp[getObj,hb,Sem.run]
  simp only[V.inst,E6,hg,E7,E8,oE hk];rw[show(L7 kt (k.inst α) (es.map (entI α)).toArray.toList).run Ctx.P w=_ from a,E8];unfold foundX at hr;rw[rN]at hr
  cases f with
  |none=>
   obtain⟨z,hz,h1⟩:=bB hr;cases h1;simp only[I3,E6,vR hz w α,E8,E7,cF];cases ok<;>simp[inst_t,V.inst]
  |some q=>
   cases hr;simp only[I2,E6,E7,E8,cF];cases ok<;>simp[inst_t,V.inst]
end
end X
end
section
namespace X
open Go.RowKit
theorem cP{P:Program}{S:Sem Value}{v:Value}{w w':World}(h:S.run P w= .ok v w'):(do pure (Next.value (<-S)):Sem Next).run P w= .ok (.value v) w':=by
 rw[E6,h];rfl
theorem mR(f:Operand->Value)(b:Builtin)(args:Array Operand)(ts:Array TypeId)(ty:TypeId){P:Program}(w:World):(do let d<-resolve f ⟨.builtin b,args,ts⟩ ty;invoke d.target d.args:Sem Next).run P w=(builtin b ts ty (args.map λ|.const _=>true|_=>false) (args.map f)).run P w:=by
 simp only[resolve,E6,E7,E8,invoke];rfl
theorem bLq{args:Array Operand}{x:Operand}(h:args.toList=[x])(f:Operand->Value):args.map f= #[f x]:=by
 have:args= #[x]:=by apply k7;simpa using h
 subst this;simp
theorem uV{args:Array Operand}{x y:Operand}(h:args.toList=[x,y])(f:Operand->Value):args.map f= #[f x,f y]:=by
 have:args= #[x,y]:=by apply k7;simpa using h
 subst this;simp
section
variable [Ctx] {α : As} {s : St} {w : World} {N : Nat} {e : E} {a : Act}
theorem call_run(hs:Sim α s w)(he:EOk α s N e a){b:Builtin}{args:Array Operand}{ts:Array TypeId}{v:V}(h:pCall b args.toList ts.toList s e=some v)(ty:TypeId):
  (do let d<-resolve a.eval ⟨.builtin b,args,ts⟩ ty;invoke d.target d.args:Sem Next).run Ctx.P w= .ok (.value (v.inst α)) w:=by
 rw[mR];cases b<;>try cases h
 case len=>
  have h:(match args.toList,ts.toList with
   |[x],[t]=>pLen e x t s
   |_,_=>none)=some v:=h
  split at h
  .rename_i x t hx j;have r:ts= #[t]:=by apply k7;simpa using j
   obtain⟨u,hu,h1⟩:=bB h;obtain⟨d,hd,f⟩:=bB h1;obtain⟨n,hn,g⟩:=bB f;cases g;rw[bLq hx,(bT hs he hu).1,r];exact cP (len_run hs hd hn ty)
  .cases h
 case cap=>
  have h:(match args.toList,ts.toList with
   |[x],[t]=>ob (evX x e) λu=>gd (isSl t) (capX u)
   |_,_=>none)=some v:=h
  split at h
  .rename_i x t hx j;have r:ts= #[t]:=by apply k7;simpa using j
   obtain⟨u,hu,h1⟩:=bB h;obtain⟨f,g⟩:=bN h1
   have m: ∃el,Ctx.P.underlying t=some (.slice el):=by
    unfold isSl at f;split at f
    .exact⟨_,by assumption⟩
    .cases f
   obtain⟨el,hel⟩:=m;rw[bLq hx,(bT hs he hu).1,r];refine cP ?_
   cases u with
   |l0=>
    cases g;simp[M7,run_underlying hel,V.inst,goInt]
   |l k o n c=>
    cases c<;>cases g
    simp[M7,run_underlying hel,V.inst,goInt,Cap.inst]
   |_=>cases g
  .cases h
 case unsafeSliceData=>
  have h:(match args.toList with
   |[x]=>ob (evX x e) dataX
   |_=>none)=some v:=h
  split at h
  .rename_i x hx;obtain⟨u,hu,h1⟩:=bB h;rw[bLq hx,(bT hs he hu).1];refine cP ?_
   cases u with
   |l0=>
    cases h1;exact Lib.run_unsafeSliceData_nil w ts ty 0 0
   |l k o n c=>
    obtain⟨f,g⟩:=bN (show gd _ _=some v from h1);cases g;refine Lib.run_unsafeSliceData_row w ts ty ⟨α.blk k,o,none⟩ n (c.inst α) ?_;have:=bDx c α;intro B;rw[B]at this;have:c.least=0:=k9
    rw[this]at f;cases f
   |_=>cases h1
  .cases h
 case max=>
  have h:(match args.toList with
   |[x,y]=>pMost e true x y
   |_=>none)=some v:=h
  split at h
  .rename_i x y hx;obtain⟨u,hu,h1⟩:=bB h;obtain⟨z,i,f⟩:=bB h1;obtain⟨k,p,rfl,g⟩:=lG f;obtain⟨A,q,rfl,h4⟩:=lG g;cases h4;rw[uV hx,(bT hs he hu).1,(bT hs he i).1];refine cP ?_;simp only[V.inst,cF,ilt_eq];simp[Builtin.max_,Builtin.max2]
  .cases h
 case min=>
  have h:(match args.toList with
   |[x,y]=>pMost e false x y
   |_=>none)=some v:=h
  split at h
  .rename_i x y hx;obtain⟨u,hu,h1⟩:=bB h;obtain⟨z,i,f⟩:=bB h1;obtain⟨k,p,rfl,g⟩:=lG f;obtain⟨A,q,rfl,h4⟩:=lG g;cases h4;rw[uV hx,(bT hs he hu).1,(bT hs he i).1];refine cP ?_;simp only[V.inst,cF,ilt_eq];simp[Builtin.min_,Builtin.min2]
  .cases h
theorem bQf{t:TypeId}{q:Bool}(h:isIf t=some q)(hq:(!q)=true): ∃d,Ctx.P.underlying t=some d/\ ∀ms,d≠ .interface ms:=by
 obtain⟨d,hd,h1⟩:=bB h;refine⟨d,hd,λms a=>?_⟩;subst a;cases h1;cases hq
theorem pure_run(hs:Sim α s w)(he:EOk α s N e a){o:Oper}{v:V}(h:pureX o.op s e=some v):(execOp a.eval o).run Ctx.P w= .ok (.value (v.inst α)) w:=by
 unfold execOp;cases ho:o.op<;>rw[ho]at h<;>simp only
 case move x=>
  rw[(bT hs he (show evX x e=some v from h)).1];rfl
 case assign x=>
  rw[(bT hs he (show evX x e=some v from h)).1];rfl
 case pick c x y=>
  obtain⟨u,hu,h1⟩:=bB (show ob (evX c e) _=some v from h);obtain⟨t,rfl,g⟩:=bPs h1;rw[cF]at g;rw[(bT hs he hu).1];cases t
  .simp at g;simp[V.inst,asBool,(bT hs he g).1]
  .simp at g;simp[V.inst,asBool,(bT hs he g).1]
 case binOp op t x y t'=>
  obtain⟨u,hu,h1⟩:=bB (show ob (evX x e) _=some v from h);obtain⟨J,B,g⟩:=bB h1;rw[(bT hs he hu).1,(bT hs he B).1];exact cP (bin_run g)
 case unOp op t x=>
  obtain⟨u,hu,h1⟩:=bB (show ob (evX x e) _=some v from h);rw[(bT hs he hu).1];refine cP ?_;cases op<;>try cases h1
  case neg=>
   obtain⟨k,z,rfl,g⟩:=lG (show asI u _=some v from h1);cases g;simp[Op.unary,Op.intArith,V.inst,bEv]
   congr 1
   exact(Int.zero_sub z).symm
  case not=>
   obtain⟨z,rfl,g⟩:=bPs (show asB u _=some v from h1);cases g;simp[Op.unary,V.inst]
 case convert src d x=>
  obtain⟨u,hu,h1⟩:=bB (show ob (evX x e) _=some v from h);rw[(bT hs he hu).1];exact cP (conv_run hs h1)
 case extract x i=>
  obtain⟨u,hu,h1⟩:=bB (show ob (evX x e) _=some v from h);obtain⟨Y,rfl,g⟩:=asT_some h1;rw[iJ]at g;rw[(bT hs he hu).1];refine cP ?_;rw[inst_t];simp[Instr.extract,I7,g]
 case load t x=>
  obtain⟨u,hu,h1⟩:=bB (show ob (evX x e) _=some v from h);obtain⟨k,q,rfl,g⟩:=pH h1;rw[(bT hs he hu).1];refine cP ?_;simp only[V.inst,Instr.loadAt,F1,E6,E7,E8,bMy hs g]
 case fieldAddr t x f=>
  obtain⟨R,r,h1⟩:=bB (show ob (fieldAt t f) _=some v from h);obtain⟨u,hu,g⟩:=bB h1;obtain⟨k,q,rfl,j⟩:=pH g;cases j;rw[(bT hs he hu).1];exact cP (bRu r)
 case field t x f=>
  obtain⟨⟨ft,R⟩,r,h1⟩:=bB (show ob (bDt t f) _=some v from h);obtain⟨u,hu,g⟩:=bB h1;obtain⟨X,rfl,j⟩:=vB g;rw[(bT hs he hu).1];exact cP (field_run r j)
 case indexAddr t x i=>
  obtain⟨z,hz,h1⟩:=bB (show ob (evX i e) _=some v from h);obtain⟨k,n,rfl,g⟩:=tB h1;obtain⟨q,hq,j⟩:=bB g;obtain⟨u,hu,h4⟩:=bB j;rw[(bT hs he hz).1,(bT hs he hu).1];exact cP (bRc hq h4)
 case index t x i=>
  obtain⟨z,hz,h1⟩:=bB (show ob (evX i e) _=some v from h);obtain⟨k,n,rfl,g⟩:=tB h1;obtain⟨u,hu,j⟩:=bB g;rw[(bT hs he hz).1,(bT hs he hu).1];exact cP (index_run j)
 case slice t x lo hi mx=>
  obtain⟨u,hu,h1⟩:=bB (show ob (evX x e) _=some v from h);rw[(bT hs he hu).1];exact cP (slice_run hs he h1)
 case nilCheck x=>
  obtain⟨u,hu,h1⟩:=bB (show ob (evX x e) _=some v from h);rw[(bT hs he hu).1]
  cases u with
  |p k q=>
   cases h1;rfl
  |f fn x y=>
   cases fn<;>cases h1
   rw[bNr];rfl
  |_=>cases h1
 case makeFunc fn first cap=>
  obtain⟨x,hx,h1⟩:=bB (show ob (evsX first.toList e) _=some v from h);obtain⟨y,K,g⟩:=bB h1;cases g;have W:first.map a.eval=(x.map (V.inst α)).toArray:=by apply k7;simpa using (bAi hs he hx).1
  have U:cap.map a.eval=(y.map (V.inst α)).toArray:=by apply k7;simpa using (bAi hs he K).1
  rw[W,U,bNr];rfl
 case makeInterface t x=>
  obtain⟨q,hq,h1⟩:=bB (show ob (isIf t) _=some v from h);obtain⟨g,j⟩:=bN h1;obtain⟨u,hu,h4⟩:=bB j;cases h4;obtain⟨d,hd,m⟩:=bQf hq g;rw[(bT hs he hu).1];refine cP ?_;unfold Instr.makeInterface;rw[E6,run_underlying hd,E8];cases d<;>first|exact absurd rfl (m _)|rfl
 case typeAssert x xt t ok=>
  obtain⟨q,hq,h1⟩:=bB (show ob (isIf t) _=some v from h);obtain⟨g,j⟩:=bN h1;obtain⟨u,hu,h4⟩:=bB j;obtain⟨t',J,rfl,G⟩:=asE_some h4;obtain⟨A,E⟩:=bN G;cases E;have A:t'=t:=by simpa[H7]using A
  subst A;obtain⟨d,hd,m⟩:=bQf hq g;rw[(bT hs he hu).1];refine cP ?_;unfold Instr.typeAssert;rw[E6,run_underlying hd,E8];cases d<;>first|exact absurd rfl (m _)|(cases ok<;>simp[V.inst,cF,V.instL])
 case build t parts=>
  obtain⟨z,hz,h1⟩:=bB (show ob (zeroX t) _=some v from h);obtain⟨pl,M,g⟩:=bB h1;obtain⟨ps,C,j⟩:=bB g;obtain⟨X,Q,h4⟩:=bB j;cases h4;exact cP (build_run hz M Q (by simpa using (tQ hs he C).1))
 case call c=>
  obtain⟨l,I,Z⟩:=c
  cases l with
  |builtin b=>exact call_run hs he h o.type
  |_=>cases h
 case lookup t x ix ok=>
  obtain⟨⟨kt,et⟩,L,h1⟩:=bB (show ob (bLv t) _=some v from h);obtain⟨u,hu,g⟩:=bB h1;obtain⟨k,O,j⟩:=bB g;obtain⟨h4,G⟩:=bN j;obtain⟨es,D,A⟩:=bB G;obtain⟨f,r,E⟩:=bB A;rw[(bT hs he hu).1,(bT hs he O).1];exact cP (lookup_run hs L h4 D r E)
 all_goals cases h
end
end X
end
section
namespace X
open Go.RowKit
def Blk.ro:Blk->Bool
 |.cells _ _ _ ro=>ro
 |.win _=>true
 |.know _=>true
 |_=>false
structure Fr (α:As) (s:St) (w w':World):Prop where
 os:w'.os=w.os
 tape:w'.tape=w.tape
 output:w'.output=w.output
 size:w.heap.size<=w'.heap.size
 block: ∀b,b<w.heap.size->(∀k x,s.h.get k=some x->x.ro=false->α.blk k≠b)->w'.heap[b]?=w.heap[b]?
section
variable [Ctx]
structure Stp (α:As) (s:St) (w:World) (α':As) (s':St) (w':World):Prop where
 same:mI s.n s.c α α'
 n:s.n<=s'.n
 c:s.c<=s'.c
 sim:Sim α' s' w'
 fr:Fr α s w w'
 new: ∀k x,s'.h.get k=some x->(∃k0 x0,s.h.get k0=some x0/\(x.ro=false->x0.ro=false)/\α.blk k0=α'.blk k)\/w.heap.size<=α'.blk k
section
variable {α α' α'' : As} {s s' s'' : St} {w w' w'' : World}
theorem Blk.Is.ext{x:Blk}{n c r r':Nat}(hx:x.Sc n c)(hs:mI n c α α')(hr:w'.heap[r']?=w.heap[r]?)(h:x.Is α w r):x.Is α' w' r':=by
 cases x with
 |cells cs t ext ro=>
  have a:cs.map (V.inst α)=cs.map (V.inst α'):=I6 λv f=>(hx.1 v f).1.ext hs
  cases ext with
  |none=>
   show w'.heap[r']?=_;rw[hr,<-a];exact h
  |some k=>
   obtain⟨rest,h1,b⟩:=h;refine⟨rest,?_,?_⟩
   .rw[h1,hs.room k (hx.2 k rfl)]
   .rw[hr,<-a];exact b
 |map es clock=>
  have a:es.map (entI α)=es.map (entI α'):=I6 λy d=>by
   simp only[entI,(hx y d).1.ext hs,(hx y d).2.ext hs]
  show w'.heap[r']?=_;rw[hr,<-a];exact h
 |sit y pos=>
  show w'.heap[r']?=_;rw[hr];exact h
 |mit m since seen last=>
  have a:m.map α.blk=m.map α'.blk:=by
   cases m with
   |none=>rfl
   |some k=>simp[hs.blk k (hx k rfl)]
  show w'.heap[r']?=_;rw[hr,<-a];exact h
 |win cs=>
  obtain⟨h1,b⟩:=h;refine⟨?_,λi v e=>?_⟩
  .have:w'.heap[r']?=some w.heap[r]:=by rw[hr];exact Array.getElem?_eq_getElem h1
   exact(N6.1 this).1
  .rw[<-(hx v (f4 e)).1.ext hs,<-b i v e];unfold World.cell?;simp only[hr]
 |know n=>
  obtain⟨o,h1,b⟩:=h;exact⟨o,hr.trans h1,b⟩
theorem Blk.Is.lt{x:Blk}{r:Nat}(h:x.Is α w r):r<w.heap.size:=by
 have key: ∀o:Obj,w.heap[r]?=some o->r<w.heap.size:=λo ho=>(N6.1 ho).1
 cases x with
 |cells cs t ext ro=>
  cases ext with
  |none=>exact key _ h
  |some k=>exact h.elim λrest h=>key _ h.2
 |map es clock=>exact key _ h
 |sit y pos=>exact key _ h
 |mit m since seen last=>exact key _ h
 |win cs=>exact h.1
 |know n=>exact h.elim λo h=>key _ h.1
omit [Ctx]in
theorem Blk.Sc.mono{x:Blk}{n c n' c':Nat}(h:x.Sc n c)(hn:n<=n')(hc:c<=c'):x.Sc n' c':=by
 cases x with
 |cells cs t ext ro=>exact⟨λv a=>⟨(h.1 v a).1.mono hn hc,(h.1 v a).2⟩,λk b=>B6 (h.2 k b) hc⟩
 |map es clock=>exact λy d=>⟨(h y d).1.mono hn hc,(h y d).2.mono hn hc⟩
 |sit y pos=>trivial
 |mit m since seen last=>exact λk b=>B6 (h k b) hn
 |win cs=>exact λv a=>⟨(h v a).1.mono hn hc,(h v a).2⟩
 |know n=>trivial
theorem Sim.grow(h:Sim α s w)(hb:Below w.heap.size w w'):Sim α s w':=
 ⟨h.gl,h.lt,h.sc,λk x a=>(h.is k x a).ext (h.sc k x a) (mI.refl _ _ _) (hb.block _ (h.is k x a).lt),h.ne⟩
omit [Ctx]in
theorem Fr.refl:Fr α s w w:=⟨rfl,rfl,rfl,B8 _,λ_ _ _=>rfl⟩
theorem Stp.refl(h:Sim α s w):Stp α s w α s w:=⟨mI.refl _ _ _,B8 _,B8 _,h,Fr.refl,λk x a=> .inl ⟨k,x,a,id,rfl⟩⟩
theorem Stp.trans(h:Stp α s w α' s' w')(k:Stp α' s' w' α'' s'' w''):Stp α s w α'' s'' w'' where
 same:=h.same.trans k.same h.n h.c
 n:=B9 h.n k.n
 c:=B9 h.c k.c
 sim:=k.sim
 fr:=⟨k.fr.os.trans h.fr.os,k.fr.tape.trans h.fr.tape,k.fr.output.trans h.fr.output,B9 h.fr.size k.fr.size,λb hb hn=>by
  refine(k.fr.block b (B6 hb h.fr.size) λi x g hr e=>?_).trans (h.fr.block b hb hn)
  rcases h.new i x g with ⟨f,d,h1,j,a⟩|h1
  .exact hn f d h1 (j hr) (a.trans e)
  .omega⟩
 new:=λi x g=>by
  rcases k.new i x g with ⟨f,d,h1,j,a⟩|h1
  .rcases h.new f d h1 with ⟨m,l,h4,p,o⟩|h4
   .exact .inl ⟨m,l,h4,λhr=>p (j hr),o.trans a⟩
   .exact .inr (by rw[<-a];exact h4)
  .exact .inr (B9 h.fr.size h1)
theorem Stp.make(hs:Sim α s w)(M:Nat->Prop)(same:mI s.n s.c α α')(hn:s.n<=s'.n)(hc:s.c<=s'.c)(ho:w'.os=w.os)(ht:w'.tape=w.tape)(hp:w'.output=w.output)(hz:w.heap.size<=w'.heap.size)
  (kept: ∀b,b<w.heap.size-> ¬M b->w'.heap[b]?=w.heap[b]?) (hM: ∀b,M b->b<w.heap.size-> ∃k x,s.h.get k=some x/\x.ro=false/\α.blk k=b)
  (old: ∀k x,s'.h.get k=some x->(s.h.get k=some x/\ ¬M (α.blk k))\/(k<s'.n/\x.Sc s'.n s'.c/\x.Is α' w' (α'.blk k)/\(w.heap.size<=α'.blk k\/ ∃k0 x0,s.h.get k0=some x0/\x0.ro=false/\α.blk k0=α'.blk k)))
  (ne: ∀k k' x x',s'.h.get k=some x->s'.h.get k'=some x'->α'.blk k=α'.blk k'->k=k'):Stp α s w α' s' w' where
 same:=same
 n:=hn
 c:=hc
 sim:=⟨λg k a=>by
   obtain⟨h1,d⟩:=hs.gl g k a
   exact⟨B6 h1 hn,by rw[<-same.blk k h1];exact d⟩,
  λk x a=>by
   rcases old k x a with ⟨h1,_⟩|h1
   .exact B6 (hs.lt k x h1) hn
   .exact h1.1,
  λk x a=>by
   rcases old k x a with ⟨h1,_⟩|h1
   .exact(hs.sc k x h1).mono hn hc
   .exact h1.2.1,
  λk x a=>by
   rcases old k x a with ⟨h1,d⟩|h1
   .have e:=hs.is k x h1;rw[<-same.blk k (hs.lt k x h1)];exact e.ext (hs.sc k x h1) same (kept _ e.lt d)
   .exact h1.2.2.1,
  ne⟩
 fr:=⟨ho,ht,hp,hz,λb hb f=>kept b hb λi=>by
  obtain⟨k,x,h1,d,e⟩:=hM b i hb
  exact f k x h1 d e⟩
 new:=λk x a=>by
  rcases old k x a with ⟨h1,_⟩|h1
  .exact .inl ⟨k,x,h1,id,same.blk k (hs.lt k x h1)⟩
  .rcases h1.2.2.2 with d|⟨k0,x0,d,e,h4⟩
   .exact .inr d
   .exact .inl ⟨k0,x0,d,λ_=>e,h4⟩
omit [Ctx]in
theorem gA{t:T Blk}{v:Option Blk}{n j:Nat}{u:Blk}(h:(t.set v fuelT n).get j=some u):(j=n/\v=some u)\/(j≠n/\t.get j=some u):=T.get_set_fuel v fuelT t n j u h
def As.new(α:As)(n r c m:Nat):As:={α with blk:=λk=>if k=n then r else α.blk k,room:=λk=>if k=c then m else α.room k}
omit [Ctx]in
theorem nK(α:As)(n r c m:Nat):mI n c α (α.new n r c m):=
 ⟨λk a=>by simp[As.new];omega,λk a=>by simp[As.new];omega,λ_ _=>rfl⟩
theorem Stp.alloc(hs:Sim α s w){x:Blk}{c' r m:Nat}(hw:Below w.heap.size w w')(hr:w.heap.size<=r)(hc:s.c<=c')(hx:x.Sc (s.n+1) c')(hi:x.Is (α.new s.n r s.c m) w' r):
  Stp α s w (α.new s.n r s.c m) {h:=s.h.set (some x) fuelT s.n,n:=s.n+1,c:=c'} w':=by
 have hb: ∀k y,s.h.get k=some y->(α.new s.n r s.c m).blk k=α.blk k/\α.blk k<w.heap.size:=λk y d=>by
  have:=hs.lt k y d;refine⟨by simp[As.new];omega,(hs.is k y d).lt⟩
 have a:(α.new s.n r s.c m).blk s.n=r:=by simp[As.new]
 refine Stp.make hs (λ_=>False) (nK _ _ _ _ _) (J8 _) hc hw.os hw.tape hw.output hw.size (λb hb _=>hw.block b hb) (λ_ h=>h.elim) (λk y d=>?_) (λk g y f d i e=>?_)
 .rcases gA d with ⟨rfl,e⟩|⟨_,h⟩
  .injection e with e
   subst e;exact .inr ⟨J9 _,hx,by rw[a];exact hi,.inl (by rw[a];exact hr)⟩
  .exact .inl ⟨h,λh=>h⟩
 .rcases gA d with ⟨rfl,_⟩|⟨h1,h⟩<;>rcases gA i with ⟨rfl,_⟩|⟨l,j⟩
  .rfl
  .have:=hb g f j;rw[a]at e;omega
  .have:=hb k y h;rw[a]at e;omega
  .rw[(hb k y h).1,(hb g f j).1]at e;exact hs.ne k g y f h j e
theorem Stp.put(hs:Sim α s w){k:Nat}{x0 x:Blk}(hk:s.h.get k=some x0)(hro:x0.ro=false)(ho:w'.os=w.os)(ht:w'.tape=w.tape)(hp:w'.output=w.output)(hz:w.heap.size<=w'.heap.size)
  (kept: ∀b,b<w.heap.size->b≠α.blk k->w'.heap[b]?=w.heap[b]?) (hx:x.Sc s.n s.c) (hi:x.Is α w' (α.blk k)):Stp α s w α (s.put k x) w':=by
 refine Stp.make hs (λb=>b=α.blk k) (mI.refl _ _ _) (B8 _) (B8 _) ho ht hp hz kept (λb hb _=>⟨k,x0,hk,hro,hb.symm⟩) (λj y d=>?_) (λj l y i d a e=>?_)
 .rcases gA d with ⟨rfl,e⟩|⟨h1,h⟩
  .injection e with e
   subst e;exact .inr ⟨hs.lt _ _ hk,hx,hi,.inr ⟨_,x0,hk,hro,rfl⟩⟩
  .exact .inl ⟨h,λe=>h1 (hs.ne j k y x0 h hk e)⟩
 .rcases gA d with ⟨rfl,_⟩|⟨h1,h⟩<;>rcases gA a with ⟨rfl,_⟩|⟨g,f⟩
  .rfl
  .exact hs.ne _ _ _ _ hk f e
  .exact hs.ne _ _ _ _ h hk e
  .exact hs.ne _ _ _ _ h f e
theorem Stp.drop(hs:Sim α s w){k:Nat}{x0:Blk}(hk:s.h.get k=some x0)(hro:x0.ro=false)(ho:w'.os=w.os)(ht:w'.tape=w.tape)(hp:w'.output=w.output)(hz:w.heap.size<=w'.heap.size)
  (kept: ∀b,b<w.heap.size->b≠α.blk k->w'.heap[b]?=w.heap[b]?):Stp α s w α (s.drop k) w':=by
 refine Stp.make hs (λb=>b=α.blk k) (mI.refl _ _ _) (B8 _) (B8 _) ho ht hp hz kept (λb hb _=>⟨k,x0,hk,hro,hb.symm⟩) (λj y c=>?_) (λj i y g c a e=>?_)
 .rcases gA c with ⟨_,e⟩|⟨h1,h⟩
  .cases e
  .exact .inl ⟨h,λe=>h1 (hs.ne j k y x0 h hk e)⟩
 .rcases gA c with ⟨_,d⟩|⟨_,h⟩
  .cases d
  .rcases gA a with ⟨_,d⟩|⟨_,f⟩
   .cases d
   .exact hs.ne _ _ _ _ h f e
theorem Stp.move(hs:Sim α s w){k m c':Nat}{x0 x:Blk}(hk:s.h.get k=some x0)(hro:x0.ro=false)(ho:w'.os=w.os)(ht:w'.tape=w.tape)(hp:w'.output=w.output)(hz:w.heap.size<=w'.heap.size)
  (kept: ∀b,b<w.heap.size->b≠α.blk k->w'.heap[b]?=w.heap[b]?) (hc:s.c<=c') (hx:x.Sc (s.n+1) c') (hi:x.Is (α.new s.n (α.blk k) s.c m) w' (α.blk k)):
  Stp α s w (α.new s.n (α.blk k) s.c m) {h:=(s.h.set none fuelT k).set (some x) fuelT s.n,n:=s.n+1,c:=c'} w':=by
 have hb: ∀j y,s.h.get j=some y->(α.new s.n (α.blk k) s.c m).blk j=α.blk j:=λj y f=>by
  have:=hs.lt j y f;simp[As.new];omega
 have a:(α.new s.n (α.blk k) s.c m).blk s.n=α.blk k:=by simp[As.new]
 refine Stp.make hs (λb=>b=α.blk k) (nK _ _ _ _ _) (J8 _) hc ho ht hp hz kept (λb hb _=>⟨k,x0,hk,hro,hb.symm⟩) (λj y f=>?_) (λj p y o f i e=>?_)
 .rcases gA f with ⟨rfl,e⟩|⟨_,h⟩
  .injection e with e
   subst e;exact .inr ⟨J9 _,hx,by rw[a];exact hi,.inr ⟨k,x0,hk,hro,a.symm⟩⟩
  .rcases gA h with ⟨_,e⟩|⟨h1,h⟩
   .cases e
   .exact .inl ⟨h,λe=>h1 (hs.ne j k y x0 h hk e)⟩
 .have two: ∀j y,(s.h.set none fuelT k).get j=some y->j≠k/\s.h.get j=some y:=λj y h=>by
   rcases gA h with ⟨_,e⟩|h
   .cases e
   .exact h
  rcases gA f with ⟨rfl,_⟩|⟨_,h⟩<;>rcases gA i with ⟨rfl,_⟩|⟨_,l⟩
  .rfl
  .obtain⟨h1,d⟩:=two _ _ l;rw[a,hb _ _ d]at e;exact absurd (hs.ne _ _ _ _ hk d e).symm h1
  .obtain⟨h1,d⟩:=two _ _ h;rw[a,hb _ _ d]at e;exact absurd (hs.ne _ _ _ _ d hk e) h1
  .obtain⟨_,d⟩:=two _ _ h;obtain⟨_,g⟩:=two _ _ l;rw[hb _ _ d,hb _ _ g]at e;exact hs.ne _ _ _ _ d g e
end
end
end X
end
section
namespace X
open Go.RowKit
theorem range_rep(z:List Value): ∀n:Nat,((N7 (n*z.length)).map λi=>z.toArray[i%z.length]!)=(rH n z).toArray:=by
 intro n;apply k7;simp only[Array.toList_map,Array.toList_range];rw[bLp]
 induction n with
 |zero=>simp
 |succ n ih=>
  rw[List.replicate_succ,List.flatten_cons,<-ih,Nat.succ_mul,Nat.add_comm,List.range_add,K6]
  congr 1
  .apply List.ext_getElem
   .simp
   .intro i h1 a;simp at h1;simp[Nat.mod_eq_of_lt h1,h1]
  .simp[List.map_map,Function.comp_def]
section
variable [Ctx] {α : As} {s : St} {w : World} {N : Nat} {e : E} {a : Act}
theorem uB{t:TypeId}{z:V}(h:zeroX t=some z)(n c:Nat):z.Sc n c:=by
 obtain⟨i,_,h1⟩:=bB h;obtain⟨u,_,a⟩:=bB h1;exact ofV_sc a n c
theorem uP(hs:Sim α s w){cs:List V}(t:TypeId)(hc: ∀v∈cs,v.Sc s.n s.c/\v.one=true): ∃α',Stp α s w α' (s.new (.cells cs t none false)) (w.alloc (.cells (cs.map (V.inst α)).toArray t))/\α'.blk s.n=w.heap.size:=by
 refine⟨α.new s.n w.heap.size s.c 0,Stp.alloc hs (c':=s.c) ((Below.refl _ _).alloc (B8 _) _) (B8 _) (B8 _) ⟨λv a=>⟨(hc v a).1.mono (J8 _) (B8 _),(hc v a).2⟩,λk b=>by cases b⟩ ?_,by simp[As.new]⟩;show(w.alloc _).heap[w.heap.size]?=_;rw[heap_alloc_new];have:cs.map (V.inst α)=cs.map (V.inst (α.new s.n w.heap.size s.c 0)):=I6 λv a=>(hc v a).1.ext (nK _ _ _ _ _);rw[this]
theorem new_obj(hs:Sim α s w){x:Blk}{o:Obj}(hx:x.Sc s.n s.c)(hi: ∀β w' r,w'.heap[r]?=some o->x.Is β w' r): ∃α',Stp α s w α' (s.new x) (w.alloc o)/\α'.blk s.n=w.heap.size:=by
 refine⟨α.new s.n w.heap.size s.c 0,Stp.alloc hs (c':=s.c) ((Below.refl _ _).alloc (B8 _) _) (B8 _) (B8 _) (hx.mono (J8 _) (B8 _)) (hi _ _ _ (heap_alloc_new _ _)),by simp[As.new]⟩
def bKz (o:Oper)(a:Act)(α:As)(s:St)(w:World):R->Prop
 |.v v s'=> ∃α' w',(execOp a.eval o).run Ctx.P w= .ok (.value (v.inst α')) w'/\Stp α s w α' s' w'
 |.sk s'=> ∃α' w',(execOp a.eval o).run Ctx.P w= .ok .skip w'/\Stp α s w α' s' w'
 |.call f args s'=>s'=s/\(execOp a.eval o).run Ctx.P w=(callFunc f (args.map (V.inst α)).toArray).run Ctx.P w/\ ∀v∈args,v.Sc s.n s.c
omit [Ctx]in
theorem bFi{P:Program}{S:Sem Unit}{w w':World}(h:S.run P w= .ok () w'):(do S;pure Next.skip:Sem Next).run P w= .ok .skip w':=by
 rw[E6,h];rfl
theorem vG(hs:Sim α s w){k o:Nat}{vs:List V}{s':St}(h:bCx k o vs s=some s')(hv: ∀v∈vs,v.Sc s.n s.c)(h1: ∀v∈vs,v.one=true):
  ∃w',(storeCells ⟨α.blk k,o,none⟩ (vs.map (V.inst α))).run Ctx.P w= .ok () w'/\Stp α s w α s' w':=by
 obtain⟨x,hx,z⟩:=bB h;obtain⟨m,t,ext,ro,rfl,y⟩:=zP z;obtain⟨g,h4⟩:=bN y;obtain⟨j,q,r⟩:=bB h4;cases r;have g:ro=false:=by simpa using g
 subst g;obtain⟨A,p⟩:=qT _ _ _ _ q;obtain⟨rest,hr,h0⟩:=hs.cells hx
 have f:=run_storeCells_at (P:=Ctx.P) (α.blk k) o t (vs.map (V.inst α)) 0 (m.map (V.inst α)++rest).toArray w hr n9 (λu hu=>by
  obtain⟨v,hv,rfl⟩:=K7.1 hu
  exact one_inst α (h1 v hv))
 simp only[Nat.add_zero,K3]at f
 have d:((m.map (V.inst α)++rest).toArray.toList.take o++vs.map (V.inst α)++(m.map (V.inst α)++rest).toArray.toList.drop (o+vs.length))=j.map (V.inst α)++rest:=by
  rw[p];simp only[K6,K5,List.map_drop];rw[K8 n9,List.drop_append_of_le_length n9];simp
 rw[d]at f;refine⟨_,f,Stp.put hs hx rfl rfl rfl rfl n4 (λb hb l=>setRow_other _ _ _ _ l) ⟨λv a=>?_,(hs.sc _ _ hx).2⟩ ?_⟩
 .rw[p]at a
  rcases D0.1 a with a|a
  .rcases D0.1 a with a|a
   .exact(hs.sc _ _ hx).1 v (K2 a)
   .exact⟨hv v a,h1 v a⟩
  .exact(hs.sc _ _ hx).1 v (K1 a)
 .have hb:=setRow_heap w (α.blk k) _ (j.map (V.inst α)++rest).toArray t _ hr
  cases ext with
  |none=>
   have:=h0 rfl;subst this
   simpa[Blk.Is]using hb
  |some c=>
   obtain⟨e,hl,i⟩:=hs.is _ _ hx;rw[hr]at i;have:rest=e:=by simpa using i
   subst this;exact⟨rest,hl,hb⟩
theorem src_run(hs:Sim α s w){sz n:Nat}{u:V}{news:List V}{tx:TypeId}(ht:(∃q,Ctx.P.underlying tx=some (.slice q))\/Ctx.P.underlying tx=some .string)(h:newsX sz u s=some (n,news)):
  Src Ctx.P sz tx (u.inst α) n (news.map (V.inst α)) w/\(∀v∈news,v.Sc s.n s.c/\v.one=true)/\news.length=n*sz:=by
 have g:Sim α s w.drew:=hs.grow ((Below.refl _ _).drew)
 have nil: ∀v:Value,(∀w':World,(M8 v).run Ctx.P w'= .ok 0 w')->(∀w':World,(M9 sz 0 v).run Ctx.P w'= .ok #[] w')->Src Ctx.P sz tx v 0 (([]:List V).map (V.inst α)) w/\(∀v∈([]:List V),v.Sc s.n s.c/\v.one=true)/\([]:List V).length=0*sz:=λv h1 b=>
  ⟨⟨ht,h1,b w,b w.drew,n4,n4⟩,n4,n4⟩
 cases u<;>try cases h
 case s x=>
  obtain⟨h1,b⟩:=bN (show gd _ _=some (n,news)from h);cases b;have h1:sz=1:=by simpa[H7]using h1
  subst h1
  have A:(x.map λy=>V.i .u8 (.ofNat (y%256))).map (V.inst α)=byteCells (bR x):=by
   simp only[byteCells,bR,List.map_map];exact I6 λy _=>by simp[V.inst]
  have a:=oF x;refine⟨?_,λv f=>?_,n4⟩
  .rw[A];refine⟨ht,λ_=>by simp[V.inst,M8,a],?_,?_,by rw[byteCells_length,a,Nat.mul_one],λu hu=>?_⟩
   .have:=firstCells_string (P:=Ctx.P) (bR x) w;rw[a]at this;exact this
   .have:=firstCells_string (P:=Ctx.P) (bR x) w.drew;rw[a]at this;exact this
   .obtain⟨_,_,rfl⟩:=K7.1 hu;rfl
  .obtain⟨y,_,rfl⟩:=K7.1 f;exact⟨⟨1,by rw[iU]⟩,rfl⟩
 case l0=>exact nil _ (λ_=>rfl) (λ_=>rfl)
 case z k o o' c=>exact nil _ (λ_=>rfl) (λ_=>by simp[V.inst,M9,loadCells,loadCellsFrom])
 case y c=>exact nil _ (λ_=>rfl) (λ_=>by simp only[V.inst];cases α.place c<;>simp[M9,loadCells,loadCellsFrom])
 case l k o m c=>
  obtain⟨B,p,h1⟩:=bB (show ob (bIf s k o (m*sz)) _=some (n,news)from h);cases h1;obtain⟨b,t⟩:=qB hs p;obtain⟨_,r⟩:=qB g p
  have key: ∀w:World,(∀j v,news[j]?=some v->w.cell? ⟨α.blk k,o+j,none⟩=some (v.inst α))->(M9 sz n (.slice (some ⟨α.blk k,o,none⟩) n (c.inst α))).run Ctx.P w= .ok (news.map (V.inst α)).toArray w:=λw t=>by
   have:=run_loadCells_list (P:=Ctx.P) w ⟨α.blk k,o,none⟩ (news.map (V.inst α)) (λj u e=>by
    rw[I7]at e
    cases hu:news[j]? with
    |none=>rw[hu]at e;cases e
    |some u'=>
     rw[hu]at e;cases e;rw[lU]
     exact t j u' hu)
   rw[K3,b]at this;exact this
  have d:=row_sc hs p
  exact⟨⟨ht,λ_=>rfl,key w t,key w.drew r,by rw[K3,b],λu hu=>by
   obtain⟨v,f,rfl⟩:=K7.1 hu
   exact one_inst α (d v f).2⟩,d,b⟩
theorem drop_stp(hs:Sim α s w){k:Nat}{x0:Blk}(hk:s.h.get k=some x0)(hro:x0.ro=false):Stp α s w α (s.drop k) w:=Stp.drop hs hk hro rfl rfl rfl (B8 _) (λ_ _ _=>rfl)
section
variable {t t' ty el : TypeId} {i : TypeInfo} {z0 : Value}
theorem bIb(hs:Sim α s w)(hu:Ctx.P.underlying t=some (.slice el))(hi:Ctx.P.info? el=some i)(hz0:i.zero=some z0)(hzc:z0.cells.size=i.size){base:Option Addr}{m cap n:Nat}{olds news:List V}{x:Value}
  (hold:(M9 i.size m (.slice base m cap)).run Ctx.P w.drew= .ok (olds.map (V.inst α)).toArray w.drew) (hsrc:Src Ctx.P i.size t' x n (news.map (V.inst α)) w)
  (ho: ∀v∈olds,v.Sc s.n s.c/\v.one=true) (hn: ∀v∈news,v.Sc s.n s.c/\v.one=true) (hg:cap<m+n) (h63:m+n<=pow47) (hb:(m+n)*i.bytes<=pow47):
  ∃α' w',(N1 #[t,t'] ty #[.slice base m cap,x]).run Ctx.P w= .ok ((V.l s.n 0 (m+n) (.s s.c (m+n))).inst α') w'/\
   Stp α s w α' {h:=s.h.set (some (.cells (olds++news) el (some s.c) false)) fuelT s.n,n:=s.n+1,c:=s.c+1} w':=by
 have hr:=run_append_grow_src (P:=Ctx.P) w t t' ty el i z0 hu hi hz0 base m cap (olds.map (V.inst α)) hold x n (news.map (V.inst α)) hsrc hg (by simp only[pow47]at h63;omega) (growslice_fits hg hb);have d:=grownCap_ge w (m+n) cap el;generalize grownCap w (m+n) cap el=C at hr d
 have a: ∀v∈olds++news,v.Sc s.n s.c/\v.one=true:=λv b=>by
  rcases D0.1 b with b|b
  .exact ho v b
  .exact hn v b
 have e:Below w.heap.size w (w.drew.alloc (.cells ((olds.map (V.inst α)++news.map (V.inst α)).toArray++N2 z0.cells (C-(m+n))) el)):=(Below.refl _ _).drew.alloc (B8 _) _;refine⟨α.new s.n w.heap.size s.c (C-(m+n)),_,?_,Stp.alloc hs (c':=s.c+1) e (B8 _) (J8 _) ⟨λv b=>⟨(a v b).1.mono (J8 _) (J8 _),(a v b).2⟩,λk g=>by cases g;exact J9 _⟩ ?_⟩
 .rw[hr];simp only[V.inst,Cap.inst,As.new,if_true]
  congr 2
  omega
 .refine⟨(N2 z0.cells (C-(m+n))).toList,?_,?_⟩
  .simp only[N8,size_zeroCells,hzc,As.new,if_true,O2,hi,I2,L4]
  .have f:(olds++news).map (V.inst (α.new s.n w.heap.size s.c (C-(m+n))))=olds.map (V.inst α)++news.map (V.inst α):=by
    rw[<-K6];exact(I6 λv b=>(a v b).1.ext (nK _ _ _ _ _)).symm
   rw[f];show(w.drew.alloc _).heap[w.drew.heap.size]?=_;rw[heap_alloc_new]
   congr 2
   apply k7;simp
theorem nothing_run(hu:Ctx.P.underlying t=some (.slice el))(hi:Ctx.P.info? el=some i){base:Option Addr}{m cap:Nat}{x:Value}(hm:m<=cap)(hsrc:Src Ctx.P i.size t' x 0 [] w):
  (N1 #[t,t'] ty #[.slice base m cap,x]).run Ctx.P w= .ok (.slice base m cap) w:=by
 rcases hsrc.kind with ⟨b,a⟩|a<;>cases base<;>simp[N1,run_underlying hu,run_underlying a,sizeOf,typeInfo,hi,hsrc.len,hm,hsrc.cells,storeCells]
theorem append_run(hs:Sim α s w){sz by_:Nat}{u v z:V}{r:R}(hu:Ctx.P.underlying t=some (.slice el))(hsz:sizeX el=some sz)(hz:zeroX el=some z)(hzl:z.cells.length=sz)(hby:bytesOf el=some by_)
  (ht:(∃q,Ctx.P.underlying t'=some (.slice q))\/Ctx.P.underlying t'=some .string) (h:appendX el sz by_ u v s=some r):
  ∃α' w' x s',r= .v x s'/\(N1 #[t,t'] ty #[u.inst α,v.inst α]).run Ctx.P w= .ok (x.inst α') w'/\Stp α s w α' s' w':=by
 obtain⟨i,K,rfl⟩:=jQ hsz
 obtain⟨i',M,h1⟩:=bB hby
 obtain rfl:i=i':=Option.some.inj (K.symm.trans M);cases h1;obtain⟨i',M,h1⟩:=bB hz;obtain rfl:i=i':=Option.some.inj (K.symm.trans M);obtain⟨z0,Y,A⟩:=bB h1
 have X:z0.cells.size=i.size:=by
  rw[<-vF (α:=α) A,hJ,<-hzl];simp
 clear h1 A M;obtain⟨⟨n,a⟩,hn,h1⟩:=bB h;obtain⟨e,f,hnl⟩:=src_run hs ht hn;have h1:apX el i.size i.bytes u n a s=some r:=h1
 have zero: ∀{base:Option Addr} {m cap:Nat},n=0->m<=cap->(N1 #[t,t'] ty #[.slice base m cap,v.inst α]).run Ctx.P w= .ok (.slice base m cap) w:=λ{base m cap} hn0 hm=>by
  subst hn0;have:a=[]:=K9 (by simpa using hnl);subst this;exact nothing_run hu K hm e
 have hsD:Sim α s w.drew:=hs.grow ((Below.refl _ _).drew)
 have B: ∀{k o m cap:Nat} {olds:List V},bIf s k o (m*i.size)=some olds->(M9 i.size m (.slice (some ⟨α.blk k,o,none⟩) m cap)).run Ctx.P w.drew= .ok (olds.map (V.inst α)).toArray w.drew:=λ{k o m cap olds} ho=>by
  obtain⟨A,h3⟩:=qB hsD ho
  have:=run_loadCells_list (P:=Ctx.P) w.drew ⟨α.blk k,o,none⟩ (olds.map (V.inst α)) (λj u hj=>by
   rw[I7]at hj
   cases hu:olds[j]? with
   |none=>rw[hu]at hj;cases hj
   |some u'=>
    rw[hu]at hj;cases hj;rw[lU]
    exact h3 j u' hu)
  rw[K3,A]at this;exact this
 cases u with
 |l0=>
  have h1:sel (B5 n 0) (some (R.v .l0 s)) (gd (H8 n pow47&&H8 (n*i.bytes) pow47) (some (bNb el n a s)))=some r:=h1;rw[cF]at h1
  by_cases hn0:B5 n 0=true
  .rw[if_pos hn0]at h1;cases h1;exact⟨α,w,_,_,rfl,zero aa7 (B8 _),Stp.refl hs⟩
  .rw[if_neg hn0]at h1;obtain⟨A,h3⟩:=bN h1;cases h3;rw[G1]at A;have hn0:n≠0:=λe0=>hn0 (by rw[e0];rfl);obtain⟨α',w',h4,N⟩:=bIb (ty:=ty) (t:=t) (t':=t') hs hu K Y X (base:=none) (m:=0) (cap:=0) (olds:=[]) rfl e n4 f k9 (by simpa using fH A.1) (by simpa using fH A.2);simp only[C7,List.nil_append]at h4 N;exact⟨α',w',_,_,rfl,h4,N⟩
 |l k o m c=>
  have h1:apL el i.bytes i.size k o m n a c s=some r:=h1
  cases c with
  |n c=>
   have h1:sel (H8 (m+n) c) (apFits k o m (.n c) i.size n a) (apGrows el i.bytes k o m i.size n a) s=some r:=h1;rw[cF]at h1
   by_cases g:H8 (m+n) c=true
   .rw[if_pos g]at h1;have g:=fH g;have h1:sel (B5 n 0) (some (R.v (.l k o m (.n c)) s)) (ob (bCx k (o+m*i.size) a s) λs'=>some (.v (.l k o (m+n) (.n c)) s'))=some r:=h1;rw[cF]at h1
    by_cases hn0:B5 n 0=true
    .rw[if_pos hn0]at h1;cases h1;exact⟨α,w,_,_,rfl,zero aa7 (show m<=c by omega),Stp.refl hs⟩
    .rw[if_neg hn0]at h1;obtain⟨s',C,A⟩:=bB h1;cases A;obtain⟨w',hw,D⟩:=vG hs C (λv y=>(f v y).1) (λv y=>(f v y).2);refine⟨α,w',_,_,rfl,?_,D⟩;have p:(⟨α.blk k,o,none⟩:Addr).add (m*i.size)=⟨α.blk k,o+m*i.size,none⟩:=lU _ _ _
     rcases e.kind with ⟨e',W⟩|W<;>simp[N1,run_underlying hu,run_underlying W,sizeOf,typeInfo,K,e.len,g,e.cells,V.inst,Cap.inst,p,hw]
   .rw[if_neg g]at h1;obtain⟨A,h3⟩:=bN (show gd _ _=some r from h1);obtain⟨olds,ho,h4⟩:=bB h3;cases h4;rw[G1]at A
    have hlt:c<m+n:=by
     rcases Nat.lt_or_ge c (m+n)with hh|hh
     .exact hh
     .exact absurd (show H8 (m+n) c=true by rw[Nat.ble_eq];exact hh) g
    obtain⟨α',w',N,h6⟩:=bIb (ty:=ty) (t:=t) (t':=t') hs hu K Y X (base:=some ⟨α.blk k,o,none⟩) (m:=m) (cap:=c) (B ho) e (row_sc hs ho) f hlt (fH A.1) (fH A.2);exact⟨α',w',_,_,rfl,N,h6⟩
  |s cn d=>
   have h1:sel (H8 (m+n) d) (apFits k o m (.s cn d) i.size n a) (λs=>gd (B5 o 0) (apRow el i.bytes k m cn d i.size n a s)) s=some r:=h1;rw[cF]at h1
   by_cases g:H8 (m+n) d=true
   .rw[if_pos g]at h1;have g:=fH g;have hfit2:m+n<=d+α.room cn:=k9
    have h1:sel (B5 n 0) (some (R.v (.l k o m (.s cn d)) s)) (ob (bCx k (o+m*i.size) a s) λs'=>some (.v (.l k o (m+n) (.s cn d)) s'))=some r:=h1;rw[cF]at h1
    by_cases hn0:B5 n 0=true
    .rw[if_pos hn0]at h1;cases h1;exact⟨α,w,_,_,rfl,zero aa7 (show m<=d+α.room cn by omega),Stp.refl hs⟩
    .rw[if_neg hn0]at h1;obtain⟨s',C,A⟩:=bB h1;cases A;obtain⟨w',hw,D⟩:=vG hs C (λv y=>(f v y).1) (λv y=>(f v y).2);refine⟨α,w',_,_,rfl,?_,D⟩;have p:(⟨α.blk k,o,none⟩:Addr).add (m*i.size)=⟨α.blk k,o+m*i.size,none⟩:=lU _ _ _
     rcases e.kind with ⟨e',W⟩|W<;>simp[N1,run_underlying hu,run_underlying W,sizeOf,typeInfo,K,e.len,hfit2,e.cells,V.inst,Cap.inst,p,hw]
   rw[if_neg g]at h1;obtain⟨ho0,A⟩:=bN (show gd _ _=some r from h1);have ho0:o=0:=by simpa[H7]using ho0
   subst ho0;obtain⟨x,hx,h3⟩:=bB A;obtain⟨cs,el',ext,ro,rfl,h4⟩:=zP h3
   cases ext with
   |none=>cases h4
   |some cn'=>
    obtain⟨N,h6⟩:=bN (show gd _ _=some r from h4);obtain⟨olds,G,h7⟩:=bB h6;cases h7;simp only[G1,L3,H7]at N;obtain⟨Z,rfl,rfl,hd,hmd,h63,hb⟩:=N;have hmd:=fH hmd
    have Q:bIf s k 0 (m*i.size)=some olds:=by
     show ob (s.h.get k) _=_;rw[hx];exact G
    obtain⟨rest,hrl,J⟩:=hs.is _ _ hx;have hco:Ctx.P.cellsOf el=i.size:=by simp[O2,K]
    rw[hco]at hrl;obtain⟨hoe,hol⟩:=mS _ _ _ _ G;have holen:olds.length=m*i.size:=by rw[hoe];simp;omega
    have U:=row_sc hs Q
    by_cases E:m+n<=d+α.room cn
    .
     have O:(cs.map (V.inst α)++rest).length=(d+α.room cn)*i.size:=by
      rw[E0,K3,hrl,<-hd,C5]
     have hmn:(m+n)*i.size<=(d+α.room cn)*i.size:=Nat.mul_le_mul_right _ E
     have hle:0+m*i.size+(a.map (V.inst α)).length<=(cs.map (V.inst α)++rest).toArray.size:=by
      rw[K4,O,K3,hnl,C7,<-C5];exact hmn
     have C:=run_storeCells_at (P:=Ctx.P) (α.blk k) (0+m*i.size) el (a.map (V.inst α)) 0 (cs.map (V.inst α)++rest).toArray w J (by simpa using hle) e.one;simp only[Nat.add_zero,K3]at C;generalize hcs:((cs.map (V.inst α)++rest).toArray.toList.take (0+m*i.size)++a.map (V.inst α)++(cs.map (V.inst α)++rest).toArray.toList.drop (0+m*i.size+a.length))=L at C;have p:(⟨α.blk k,0,none⟩:Addr).add (m*i.size)=⟨α.blk k,0+m*i.size,none⟩:=lU _ _ _;simp only[C7]at C p;have hdc:(s.drop k).c=s.c:=rfl;have hdn:(s.drop k).n=s.n:=rfl
     have hrun:(N1 #[t,t'] ty #[(V.l k 0 m (.s cn d)).inst α,v.inst α]).run Ctx.P w= .ok (.slice (some ⟨α.blk k,0,none⟩) (m+n) (d+α.room cn)) (w.setRow (α.blk k) L.toArray):=by
      rcases e.kind with ⟨e',W⟩|W<;>simp[N1,run_underlying hu,run_underlying W,sizeOf,typeInfo,K,e.len,E,e.cells,V.inst,Cap.inst,p,C]
     have I: ∀v∈olds++a,v.Sc s.n s.c/\v.one=true:=λv y=>by
      rcases D0.1 y with y|y
      .exact U v y
      .exact f v y
     refine⟨α.new s.n (α.blk k) s.c (d+α.room cn-(m+n)),_,_,_,rfl,?_,Stp.move hs hx Z (w':=w.setRow (α.blk k) L.toArray) rfl rfl rfl n4 (λb hb hne=>setRow_other _ _ _ _ hne) (J8 _) ⟨λv y=>⟨(I v y).1.mono (J8 _) (J8 _),(I v y).2⟩,λj hj=>by cases hj;exact J9 _⟩ ?_⟩
     .rw[hrun];simp only[V.inst,Cap.inst,As.new,hdc,hdn,if_true]
      congr 2
      omega
     .refine⟨(cs.map (V.inst α)++rest).drop (m*i.size+a.length),?_,?_⟩
      .rw[List.length_drop,O,hco,hnl,<-C5,<-Nat.sub_mul];simp[As.new,hdc]
      .have hm:(olds++a).map (V.inst (α.new s.n (α.blk k) s.c (d+α.room cn-(m+n))))=olds.map (V.inst α)++a.map (V.inst α):=by
        rw[<-K6];exact(I6 λv y=>(I v y).1.ext (nK _ _ _ _ _)).symm
       rw[hm,setRow_heap w (α.blk k) _ L.toArray el _ J]
       congr 3
       rw[<-hcs,hoe];simp only[C7,L0,K5];rw[K8 n9]
    .obtain⟨α',w',N,h6⟩:=bIb (ty:=ty) (t:=t) (t':=t') (s:=s.drop k) (drop_stp hs hx Z).sim hu K Y X (base:=some ⟨α.blk k,0,none⟩) (m:=m) (cap:=d+α.room cn) (B Q) e U f k9 (fH h63) (fH hb);exact⟨α',w',_,_,rfl,N,(drop_stp hs hx Z).trans h6⟩
 |_=>cases h1
end
end
end X
end
section
namespace X
open Go.RowKit
section
variable [Ctx] {α : As} {s : St} {w : World} {N : Nat} {e : E} {a : Act}
omit [Ctx]in
theorem all_one{l:List V}(h:allL V.one l=true): ∀v∈l,v.one=true:=by
 rw[oY,D6]at h;exact h
omit [Ctx]in
theorem fill_sc{P:V->Prop}{place:Nat->Option (Nat×Nat)}: ∀{l:List (Nat×V)} {cs r:List V},bOq place cs l=some r->(∀v∈cs,P v)->(∀x∈l,∀v∈x.2.cells,P v)-> ∀v∈r,P v
 |[],cs,r,h,hc,_=>by
  have h:some cs=some r:=h;cases h;exact hc
 |(i,u)::l,cs,r,h,hc,hl=>by
  obtain⟨⟨o,sz⟩,f,h1⟩:=bB (show ob (place i) _=some r from h);obtain⟨_,d⟩:=bN h1;obtain⟨e,b,h4⟩:=bB d;obtain⟨_,c⟩:=qT _ _ _ _ b;refine fill_sc (l:=l) h4 (λv a=>?_) (λx hx=>hl x (D1 _ hx));rw[c]at a
  rcases D0.1 a with a|a
  .rcases D0.1 a with a|a
   .exact hc v (K2 a)
   .exact hl (i,u) (D5 ..) v a
  .exact hc v (K1 a)
omit [Ctx]in
theorem tY{n:Nat}{z:List V}{v:V}(h:v∈rH n z):v∈z:=by
 rw[bLp,List.mem_flatten]at h;obtain⟨l,hl,a⟩:=h;rw[(List.mem_replicate.1 hl).2]at a;exact a
omit [Ctx]in
theorem rep_map(n:Nat)(z:List V):(rH n z).map (V.inst α)=rH n (z.map (V.inst α)):=by
 rw[bLp,bLp];simp[List.map_flatten]
omit [Ctx]in
theorem yR{z:V}{sz:Nat}(hl:z.cells.length=sz)(n:Nat):((N7 (n*sz)).map λi=>((z.inst α).cells)[i%(z.inst α).cells.size]!)=((rH n z.cells).map (V.inst α)).toArray:=by
 rw[rep_map,<-range_rep,hJ];simp[hl]
theorem alloc_run(hs:Sim α s w){o:Oper}{t:TypeId}{r:R}(ho:o.op= .alloc t)(h:oAlloc t s e=some r):bKz o a α s w r:=by
 obtain⟨z,hz,h1⟩:=bB h;obtain⟨f,d⟩:=bN h1;cases d;obtain⟨α',b,hb⟩:=uP hs t (λv c=>⟨(uB hz _ _).cells v c,all_one f v c⟩);refine⟨α',_,?_,b⟩;unfold execOp;simp only[ho];refine cP ?_;simp only[Instr.alloc,E6,vR hz w α,E8,newVar,newRow,run_newObj,E7,hJ,V.inst,hb];rfl
theorem box_run(hs:Sim α s w)(he:EOk α s N e a){o:Oper}{t:TypeId}{x:Operand}{r:R}(ho:o.op= .box t x)(h:oBox t x s e=some r):bKz o a α s w r:=by
 obtain⟨v,d,h1⟩:=bB h;obtain⟨g,f⟩:=bN h1;cases f;obtain⟨hx,c⟩:=bT hs he d;obtain⟨α',b,hb⟩:=uP hs t (λu hu=>⟨c.cells u hu,all_one g u hu⟩);refine⟨α',_,?_,b⟩;unfold execOp;simp only[ho,hx];refine cP ?_;simp only[Instr.box,E6,E8,newVar,newRow,run_newObj,E7,hJ,V.inst,hb];rfl
omit [Ctx]in
theorem repL_len{β:Type}(n:Nat)(z:List β):(rH n z).length=n*z.length:=by
 induction n with
 |zero=>show([]:List β).length=_;simp
 |succ n ih=>
  show(z++rH n z).length=_;rw[E0,ih,Nat.succ_mul,Nat.add_comm]
theorem zV{t:TypeId}{z:V}(h:zeroX t=some z){i:TypeInfo}(hi:Ctx.P.info? t=some i):i.zero=some (z.inst α):=by
 obtain⟨j,a,h1⟩:=bB h;obtain⟨u,hu,b⟩:=bB h1;obtain rfl:i=j:=Option.some.inj (hi.symm.trans a);rw[hu,vF (α:=α) b]
theorem bMg(hs:Sim α s w)(he:EOk α s N e a){o:Oper}{t:TypeId}{n:Nat}{parts:Array (Nat×Operand)}{r:R}(ho:o.op= .buildSlice t n parts)(h:uF t n parts s e=some r):bKz o a α s w r:=by
 obtain⟨⟨q,el,sz⟩,hq,h1⟩:=bB h
 cases q with
 |some _=>cases h1
 |none=>
  obtain⟨z,hz,Q⟩:=bB (show ob (zeroX el) _=some r from h1);obtain⟨J,C,P⟩:=bB Q;obtain⟨h4,O⟩:=bN P;obtain⟨U,I,M⟩:=bB O;obtain⟨L,K⟩:=bN M;cases K;rw[G1]at h4;obtain⟨hu,j⟩:=kY hq;obtain⟨i,G,rfl⟩:=jQ j;obtain⟨D,k⟩:=tQ hs he C;have f:z.cells.length=i.size:=by simpa[H7]using h4.2
  have E: ¬(n*i.size>2^24):=by have:=fH h4.1;simp at this⊢;omega
  have A: ∀v∈U,v.Sc s.n s.c:=fill_sc I (λv p=>(uB hz _ _).cells v (tY p)) (λx hx v p=>(k x hx).cells v p);obtain⟨α',y,hb⟩:=uP hs el (λu hu=>⟨A u hu,all_one L u hu⟩);refine⟨α',_,?_,y⟩;have b:=yY (α:=α) I;unfold execOp;simp only[ho];refine cP ?_;have d:(parts.map λ(i,x)=>(i,a.eval x)).toList=J.map λx=>(x.1,x.2.inst α):=by simpa using D
  have g:(V.l s.n 0 n (.n n)).inst α'= .slice (some ⟨w.heap.size,0,none⟩) n n:=by simp[V.inst,Cap.inst,hb]
  rw[g]
  by_cases h0:n*i.size=0
  .have hr:rH n z.cells=[]:=K9 (by rw[repL_len,f,h0]);rw[hr,<-d]at b;simp only[List.map_nil]at b;unfold M0;have B:N7 0= #[]:=rfl;have m: ¬((0:Nat)>2^24):=l5
   simp only[E6,run_underlying hu,E8,iD j,h0,if_neg m,if_true,E7,B,N9];rw[show(#[]:Array Value)=([]:List Value).toArray from rfl,b];simp only[E6,newRow,run_newObj,E8,E7];rfl
  .refine run_buildSlice w t el n _ _ i (z.inst α) hu G (zV hz G) E h0 ?_;rw[d,yR f n];exact b
def rV (g:Nat):Option Nat->Value
 |none=> .pointer (some ⟨g,0,none⟩)
 |some n=> .slice (some ⟨g,0,none⟩) n n
theorem bs_some{t:TypeId}{n:Nat}{parts:Array (Nat×Operand)}{b:TypeId×Option Nat×List V}(h:bsX (.buildSlice t n parts) e=some b):uF t n parts s e=some (.v (bKm s.n b.2.1) (s.new (.cells b.2.2 b.1 none false))):=by
 obtain⟨⟨q,el,sz⟩,hq,h1⟩:=bB h
 cases q with
 |some _=>cases h1
 |none=>
  obtain⟨z,hz,m⟩:=bB (show ob (zeroX el) _=some b from h1);obtain⟨c,a,l⟩:=bB m;obtain⟨h4,k⟩:=bN l;obtain⟨o,d,j⟩:=bB k;obtain⟨g,f⟩:=bN j;cases f;unfold uF;rw[hq];show ob (zeroX el) _=_;rw[hz];show ob (partsX parts.toList e) _=_;rw[a];show gd (H8 (n*sz) 16777216&&B5 z.cells.length sz) _=_;rw[h4];show ob (bOq (λi=>some (i*sz,sz)) (rH n z.cells) c) _=_;rw[d];show gd (allL V.one o) _=_;rw[g];rfl
theorem build_alloc(hs:Sim α s w)(he:EOk α s N e a){o:Oper}{t:TypeId}{n:Nat}{parts:Array (Nat×Operand)}{b:TypeId×Option Nat×List V}(ho:o.op= .buildSlice t n parts)(h:bsX (.buildSlice t n parts) e=some b):
  (execOp a.eval o).run Ctx.P w= .ok (.value (rV w.heap.size b.2.1)) (w.alloc (.cells (b.2.2.map (V.inst α)).toArray b.1))/\ ∀v∈b.2.2,v.Sc s.n s.c/\v.one=true:=by
 obtain⟨⟨q,el,sz⟩,hq,h1⟩:=bB h
 cases q with
 |some _=>cases h1
 |none=>
  obtain⟨z,hz,M⟩:=bB (show ob (zeroX el) _=some b from h1);obtain⟨E,y,L⟩:=bB M;obtain⟨h4,K⟩:=bN L;obtain⟨O,D,J⟩:=bB K;obtain⟨I,G⟩:=bN J;cases G;rw[G1]at h4;obtain⟨hu,j⟩:=kY hq;obtain⟨i,C,rfl⟩:=jQ j;obtain⟨A,k⟩:=tQ hs he y;have g:z.cells.length=i.size:=by simpa[H7]using h4.2
  have B: ¬(n*i.size>2^24):=by have:=fH h4.1;simp at this⊢;omega
  have p: ∀v∈O,v.Sc s.n s.c:=fill_sc D (λv m=>(uB hz _ _).cells v (tY m)) (λx hx v m=>(k x hx).cells v m);refine⟨?_,λu hu=>⟨p u hu,all_one I u hu⟩⟩;have d:=yY (α:=α) D;unfold execOp;simp only[ho];refine cP ?_;have f:(parts.map λ(i,x)=>(i,a.eval x)).toList=E.map λx=>(x.1,x.2.inst α):=by simpa using A
  by_cases h0:n*i.size=0
  .have hr:rH n z.cells=[]:=K9 (by rw[repL_len,g,h0]);rw[hr,<-f]at d;simp only[List.map_nil]at d;unfold M0;have r:N7 0= #[]:=rfl;have l: ¬((0:Nat)>2^24):=l5
   simp only[E6,run_underlying hu,E8,iD j,h0,if_neg l,if_true,E7,r,N9];rw[show(#[]:Array Value)=([]:List Value).toArray from rfl,d];simp only[E6,newRow,run_newObj,E8,E7];rfl
  .refine run_buildSlice w t el n _ _ i (z.inst α) hu C (zV hz C) B h0 ?_;rw[f,yR g n];exact d
theorem late_op{o:Op}{b:TypeId×Option Nat×List V}(h:bsX o e=some b):opX o s e=some (.v (bKm s.n b.2.1) (s.new (.cells b.2.2 b.1 none false))):=by
 cases o with
 |buildSlice t n parts=>exact bs_some h
 |alloc t=>
  obtain⟨z,hz,h1⟩:=bB h;obtain⟨c,a⟩:=bN h1;cases a;show ob (zeroX t) _=_;rw[hz];show gd (allL V.one z.cells) _=_;rw[c];rfl
 |box t x=>
  obtain⟨v,d,h1⟩:=bB h;obtain⟨c,a⟩:=bN h1;cases a;show ob (evX x e) _=_;rw[d];show gd (allL V.one v.cells) _=_;rw[c];rfl
 |_=>cases h
theorem bOr(hs:Sim α s w)(he:EOk α s N e a){o:Oper}{b:TypeId×Option Nat×List V}(h:bsX o.op e=some b):
  (execOp a.eval o).run Ctx.P w= .ok (.value (rV w.heap.size b.2.1)) (w.alloc (.cells (b.2.2.map (V.inst α)).toArray b.1))/\ ∀v∈b.2.2,v.Sc s.n s.c/\v.one=true:=by
 cases ho:o.op with
 |buildSlice t n parts=>
  rw[ho]at h;exact build_alloc hs he ho h
 |alloc t=>
  rw[ho]at h;obtain⟨z,hz,h1⟩:=bB h;obtain⟨i,g⟩:=bN h1;cases g;refine⟨?_,λv d=>⟨(uB hz _ _).cells v d,all_one i v d⟩⟩;unfold execOp;simp only[ho];refine cP ?_;simp only[Instr.alloc,E6,vR hz w α,E8,newVar,newRow,run_newObj,E7,hJ];rfl
 |box t x=>
  rw[ho]at h;obtain⟨v,d,h1⟩:=bB h;obtain⟨i,g⟩:=bN h1;cases g;obtain⟨hx,f⟩:=bT hs he d;refine⟨?_,λu hu=>⟨f.cells u hu,all_one i u hu⟩⟩;unfold execOp;simp only[ho,hx];refine cP ?_;simp only[Instr.box,E6,E8,newVar,newRow,run_newObj,E7,hJ];rfl
 |_=>rw[ho]at h;cases h
theorem storeOp_run(hs:Sim α s w)(he:EOk α s N e a){o:Oper}{t:TypeId}{x y:Operand}{r:R}(ho:o.op= .store t x y)(h:oStore t x y s e=some r):bKz o a α s w r:=by
 obtain⟨u,hu,h1⟩:=bB h;obtain⟨k,q,rfl,A⟩:=pH h1;obtain⟨v,l,z⟩:=bB A;obtain⟨sz,c,h4⟩:=bB z;obtain⟨i,p⟩:=bN h4;obtain⟨s',d,n⟩:=bB p;cases n;rw[G1]at i;obtain⟨hx,f⟩:=bT hs he l;obtain⟨w',j,b⟩:=vG hs d (λv m=>f.cells v m) (all_one i.2);refine⟨α,w',?_,b⟩;unfold execOp;simp only[ho];refine bFi ?_;have hl:(v.inst α).cells.size=sz:=by rw[hJ];simpa[H7]using i.1
 have g: ¬((v.inst α).cells.size≠sz):=k9
 rw[(bT hs he hu).1,hx];simp only[V.inst,Instr.storeAt,F1,E6,E7,E8,storeVar,iD c,if_neg g];rw[hJ];exact j
theorem bRs(hs:Sim α s w)(he:EOk α s N e a){o:Oper}{t:TypeId}{l c:Operand}{r:R}(ho:o.op= .makeSlice t l c)(h:bQo t l c s e=some r):bKz o a α s w r:=by
 obtain⟨⟨q,el,sz⟩,hq,h1⟩:=bB h
 cases q with
 |some _=>cases h1
 |none=>
  obtain⟨z,hz,W⟩:=bB (show ob (zeroX el) _=some r from h1);obtain⟨Y,D,U⟩:=bB W;obtain⟨u,hu,h4⟩:=bB U;obtain⟨k,n,rfl,Q⟩:=tB h4;obtain⟨Z,x,O⟩:=bB Q;obtain⟨J,m,rfl,M⟩:=tB O;obtain⟨I,L⟩:=bN M;cases L;simp only[G1]at I;obtain⟨g,b,p,f,G⟩:=I;obtain⟨v,y⟩:=kY hq;obtain⟨i,C,rfl⟩:=jQ y
  obtain⟨K,B,E⟩:=bB D
  obtain rfl:i=K:=Option.some.inj (C.symm.trans B);cases E;have f:z.cells.length=i.size:=by simpa[H7]using f
  have g:=fH g;have b:=fH b;have p:m<9223372036854775808:=by simpa[H9]using p
  obtain⟨α',A,hb⟩:=uP (cs:=rH m z.cells) hs el (λu hu=>⟨(uB hz _ _).cells u (tY hu),all_one G u (tY hu)⟩);refine⟨α',_,?_,A⟩;unfold execOp;simp only[ho];refine cP ?_;rw[(bT hs he hu).1,(bT hs he x).1];have j:(V.l s.n 0 n (.n m)).inst α'= .slice (some ⟨w.heap.size,0,none⟩) n m:=by simp[V.inst,Cap.inst,hb]
  rw[j]
  have d:=run_make (P:=Ctx.P) w t el i (z.inst α) v C (zV hz C) k J (J1 n) (J1 m) (J3 n) (Int.ofNat_le.2 g) (by
   have:((i.bytes*m:Nat):Int)<=((pow47:Nat):Int):=Int.ofNat_le.2 b;rw[Int.natCast_mul]at this;simp only[pow47]at this;show(i.bytes:Int)*((m:Nat):Int)<=_
   omega) (by show((m:Nat):Int)<=_;omega)
  have X:madeCells (z.inst α).cells ((J1 m).toNat*i.size)=((rH m z.cells).map (V.inst α)).toArray:=yR f m;rw[X]at d;exact d
theorem makeMap_run(hs:Sim α s w)(he:EOk α s N e a){o:Oper}{t:TypeId}{x:Option Operand}{r:R}(ho:o.op= .makeMap t x)(h:oMakeMap t x s e=some r):bKz o a α s w r:=by
 have key:r= .v (.m s.n) (s.new (.map [] 0))/\(M1 t (x.map a.eval)).run Ctx.P w= .ok (.map (some w.heap.size)) (w.alloc (.map #[] 0)):=by
  cases x with
  |none=>
   cases h;exact⟨rfl,run_makeMap t w⟩
  |some x=>
   obtain⟨⟨i,j⟩,hq,h1⟩:=bB (show ob (bLv t) _=some r from h);obtain⟨u,hu,g⟩:=bB h1;obtain⟨k,n,rfl,f⟩:=lG g;cases f;refine⟨rfl,?_⟩;have hx:=(bT hs he hu).1;simp only[I2,hx,V.inst,M1,E6,run_underlying (bPj hq),E8,asInt,asIntOf,E7,run_newObj];rfl
 obtain⟨rfl,b⟩:=key;obtain⟨α',c,hb⟩:=new_obj hs (x:= .map [] 0) (o:= .map #[] 0) (by intro y d;cases d) (λβ w' r h=>h);refine⟨α',_,?_,c⟩;unfold execOp;simp only[ho];refine cP ?_;rw[b];simp[V.inst,hb]
theorem find_at{kt:TypeId}{k:V}(hk:xQ kt k=true): ∀(es:List Ent) (i j:Nat) (v:V),bDy kt k es i=some (some (j,v))-> ∃m x,j=i+m/\es[m]?=some x/\x.2.1=v/\x.1.inst α=k.inst α
 |[],_,_,_,h=>by cases h
 |x::es,i,j,v,h=>by
  obtain⟨c,a,h1⟩:=bB (show ob (eqX 1 kt k x.1) _=some (some (j,v))from h);rw[cF]at h1
  cases c with
  |true=>
   simp only[if_true,Option.some.injEq,Prod.mk.injEq]at h1;obtain⟨rfl,rfl⟩:=h1;refine⟨0,x,rfl,rfl,rfl,?_⟩;unfold xQ at hk
   cases hd:Ctx.P.underlying kt with
   |none=>rw[hd]at hk;cases hk
   |some d=>
    rw[hd]at hk;simp only[eqX,hd]at a
    cases d with
    |int kk=>
     cases k with
     |i k1 n1=>
      cases hx:x.1 with
      |i k2 n2=>
       rw[hx]at a;obtain⟨e,b⟩:=bN (show gd (sameKind k1 k2) (some (ieq n1 n2))=some true from a);injection b with b
       rw[bGk]at b;rw[kJ e,beq_iff_eq.1 b]
      |_=>rw[hx]at a;cases a
     |_=>cases hk
    |string=>
     cases k with
     |s n1=>
      cases hx:x.1 with
      |s n2=>
       rw[hx]at a;have a:some (seq n1 n2)=some true:=a;injection a with a
       rw[bQq]at a;have:=beq_iff_eq.1 a;rw[ByteArray.toList_eq,ByteArray.toList_eq]at this;simp only[V.inst]
       congr 1
       apply ByteArray.ext;apply k7;exact this.symm
      |_=>rw[hx]at a;cases a
     |_=>cases hk
    |_=>cases hk
  |false=>
   simp only[G0,if_false]at h1;obtain⟨m,y,e,b,h4,f⟩:=find_at hk es (i+1) j v h1;exact⟨m+1,y,k9,by simpa using b,h4,f⟩
theorem bVm{kt:TypeId}{k:V}(hk:xQ kt k=true):(M2 (k.inst α) (k.inst α)).run Ctx.P w= .ok (k.inst α) w:=by
 unfold xQ at hk
 cases hd:Ctx.P.underlying kt with
 |none=>rw[hd]at hk;cases hk
 |some d=>
  rw[hd]at hk
  cases d with
  |int kk=>
   cases k with
   |i k1 n1=>exact O3 (d:= .int k1) rfl
   |_=>cases hk
  |string=>
   cases k with
   |s n1=>exact O3 (d:= .string) trivial
   |_=>cases hk
  |_=>cases hk
theorem bCu{t:TypeId}{m k:Operand}{f:Found}(hs:Sim α s w)(he:EOk α s N e a)(h:mapAt t m k s e=some f): ∃kt,Ctx.P.underlying t=some (.map kt f.et)/\a.eval m= .map (some (α.blk f.r))/\a.eval k=f.k.inst α/\f.k.Sc s.n s.c/\
  s.h.get f.r=some (.map f.es f.clock)/\xQ kt f.k=true/\bDy kt f.k f.es 0=some f.at_:=by
 obtain⟨⟨kt,et⟩,hq,h1⟩:=bB h;obtain⟨u,hu,q⟩:=bB h1;obtain⟨r,rfl,p⟩:=asM_some q;obtain⟨y,b,h4⟩:=bB p;obtain⟨x,hx,o⟩:=bB h4;obtain⟨es,c,rfl,l⟩:=xJ o;obtain⟨j,i⟩:=bN l;obtain⟨g,hg,d⟩:=bB i;cases d;have v:=(bT hs he hu).1;exact⟨kt,bPj hq,by rw[v];rfl,(bT hs he b).1,(bT hs he b).2,hx,j,hg⟩
theorem zB(hs:Sim α s w){k:Nat}{es:List Ent}{c:Nat}(hk:s.h.get k=some (.map es c)):w.heap[α.blk k]?=some (.map (es.map (entI α)).toArray c):=hs.is _ _ hk
theorem bAg(hs:Sim α s w){k:Nat}{es es':List Ent}{c c':Nat}(hk:s.h.get k=some (.map es c))(hsc: ∀x∈es',x.1.Sc s.n s.c/\x.2.1.Sc s.n s.c):
  Stp α s w α (s.put k (.map es' c')) {w with heap:=w.heap.setIfInBounds (α.blk k) (.map (es'.map (entI α)).toArray c')}:=by
 have hb:=zB hs hk;have hlt:α.blk k<w.heap.size:=(N6.1 hb).1;refine Stp.put hs hk rfl rfl rfl rfl n4 (λb hb a=>?_) hsc ?_
 .simp[Ne.symm a]
 .show(w.heap.setIfInBounds (α.blk k) _)[α.blk k]?=_;simp[hlt]
omit [Ctx]in
theorem setV_map: ∀(es:List Ent) (i:Nat) (v:V),(es.map (entI α)).toArray.modify i (λe=>{e with val:=v.inst α})=((setV es i v).map (entI α)).toArray:=by
 intro es i v;apply k7;rw[Array.toList_modify]
 induction es generalizing i with
 |nil=>simp[setV]
 |cons x es ih=>
  obtain⟨k,u,b⟩:=x
  cases i with
  |zero=>simp[setV,entI]
  |succ i=>simpa[setV,entI]using ih i
omit [Ctx]in
theorem setV_sc{P:Ent->Prop}: ∀{es:List Ent} {i:Nat} {v:V},(∀x∈es,P x)->(∀x∈es,P (x.1,v,x.2.2))-> ∀x∈setV es i v,P x
 |[],_,_,_,_,x,hx=>by cases hx
 |(k,u,b)::es,0,v,h1,h2,x,hx=>by
  rcases C9.1 hx with rfl|hx
  .exact h2 _ (D5 ..)
  .exact h1 _ (D1 _ hx)
 |y::es,i+1,v,h1,h2,x,hx=>by
  rcases C9.1 hx with rfl|hx
  .exact h1 _ (D5 ..)
  .exact setV_sc (λz hz=>h1 z (D1 _ hz)) (λz hz=>h2 z (D1 _ hz)) x hx
omit [Ctx]in
theorem bPi{A:Array MapEntry}{i:Nat}{x:MapEntry}(hi:A[i]?=some x){g:MapEntry->MapEntry}:A.modify i (λe=>{g e with key:=x.key})=A.modify i (λe=>{g e with key:=e.key}):=by
 apply O0 n4;intro j h1 b;simp only[O1];split
 .rename_i a;subst a;simp at h1;have:A[i]=x:=(N6.1 hi).2;rw[this]
 .rfl
theorem bNc(hs:Sim α s w)(he:EOk α s N e a){t:TypeId}{m k x:Operand}{r:R}(h:bMc t m k x s e=some r): ∃s' w',r= .sk s'/\(M3 t (a.eval m) (a.eval k) (a.eval x)).run Ctx.P w= .ok () w'/\Stp α s w α s' w':=by
 obtain⟨f,M,h1⟩:=bB h;obtain⟨v,J,O⟩:=bB h1;cases O;obtain⟨U,hu,K,L,A,c,d,b⟩:=bCu hs he M;obtain⟨hx,n⟩:=bT hs he J;have hb:=zB hs c;have u:=hs.sc _ _ c;have l:=bEb (w:=w) (α:=α) d b;rw[K,L,hx];rw[rN]
 cases D:f.at_ with
 |none=>
  rw[D]at l;refine⟨_,_,rfl,?_,bAg hs c (es':=f.es++[(f.k,v,f.clock)]) (c':=f.clock+1) (λy p=>?_)⟩
  .simp only[M3,E6,run_underlying hu,O4 hb,oE d,l,E8,I3,O5 _ hb]
   congr 2
   simp[entI]
  .rcases D0.1 p with p|p
   .exact u y p
   .rw[L1.1 p];exact⟨A,n⟩
 |some q=>
  rw[D]at l;obtain⟨j,Q⟩:=q;rw[D]at b;obtain⟨i,y,E,p,I,o⟩:=find_at (α:=α) d _ _ _ _ b;rw[C7]at E;subst E;refine⟨_,_,rfl,?_,bAg hs c (es':=setV f.es j v) (c':=f.clock) (setV_sc u λz hz=>⟨(u z hz).1,n⟩)⟩;have G:(f.es.map (entI α)).toArray[j]?=some (entI α y):=by simp[p]
  have B:(M2 ((((f.es.map (entI α)).toArray[j]?).map (·.key)).getD (f.k.inst α)) (f.k.inst α)).run Ctx.P w= .ok (f.k.inst α) w:=by
   rw[G];simp only[I2,L4,entI,o];exact bVm d
  simp only[M3,E6,run_underlying hu,O4 hb,oE d,l,E8,I2,B,O5 _ hb]
  congr 3
  have C:f.k.inst α=(entI α y).key:=by simp[entI,o]
  rw[C];have:=bPi G (g:=λe=>{e with val:=v.inst α});simp only at this;rw[<-setV_map,this]
theorem mapEntry_run(hs:Sim α s w)(he:EOk α s N e a){o:Oper}{t:TypeId}{m k:Operand}{r:R}(ho:o.op= .mapEntry t m k)(h:bUr t m k s e=some r):bKz o a α s w r:=by
 obtain⟨f,X,h1⟩:=bB h;obtain⟨kt,hu,G,I,A,d,c,b⟩:=bCu hs he X;have hb:=zB hs d;have D:=hs.sc _ _ d;have n:=bEb (w:=w) (α:=α) c b;rw[rN]at h1
 have M: ∀v w',(M4 t (a.eval m) (a.eval k)).run Ctx.P w= .ok v w'->(execOp a.eval o).run Ctx.P w= .ok (.value v) w':=λv w' U=>by
  unfold execOp;simp only[ho];exact cP U
 cases K:f.at_ with
 |none=>
  rw[K]at h1 n;obtain⟨z,hz,B⟩:=bB (show ob (zeroX f.et) _=some r from h1);cases B;refine⟨α,_,M _ _ ?_,bAg hs d (es':=f.es++[(f.k,z,f.clock)]) (c':=f.clock+1) (λy p=>?_)⟩
  .rw[G,I];simp only[M4,E6,run_underlying hu,O4 hb,oE c,n,E8,I3,vR hz w α,O5 _ hb,E7]
   congr 1
   simp[entI]
  .rcases D0.1 p with p|p
   .exact D y p
   .rw[L1.1 p];exact⟨A,uB hz _ _⟩
 |some q=>
  rw[K]at h1 n b;obtain⟨j,v0⟩:=q;obtain⟨i,y,J,p,Q,u⟩:=find_at (α:=α) c _ _ _ _ b;rw[C7]at J;subst J;obtain⟨Z,l,B⟩:=bB (show ob (nthL f.es j) _=some r from h1);cases B;rw[iJ,p]at l;injection l with l
  subst l;refine⟨α,w,M _ _ ?_,Stp.refl hs⟩;have L:(f.es.map (entI α)).toArray[j]?=some (entI α y):=by simp[p]
  have C:(M2 (entI α y).key (f.k.inst α)).run Ctx.P w= .ok (f.k.inst α) w:=by
   rw[show(entI α y).key=f.k.inst α from u];exact bVm c
  have x:({w with heap:=w.heap.setIfInBounds (α.blk f.r) (.map ((f.es.map (entI α)).toArray.modify j λe=>{e with key:=f.k.inst α}) f.clock)}:World)=w:=by
   have E:f.k.inst α=(entI α y).key:=by simp[entI,u]
   have O:=bPi L (g:=λe=>e);simp only at O
   have Y:(f.es.map (entI α)).toArray.modify j (λe=>{e with key:=e.key})=(f.es.map (entI α)).toArray:=by
    apply O0 n4;intro i h1 B;simp only[O1];split<;>rfl
   rw[E,O,Y]
   have:w.heap.setIfInBounds (α.blk f.r) (.map (f.es.map (entI α)).toArray f.clock)=w.heap:=by
    apply O0 n4;intro i h1 B;rw[Array.getElem_setIfInBounds];split
    .rename_i W;subst W;exact(N6.1 hb).2.symm
    .rfl
   rw[this]
  rw[G,I];simp only[M4,E6,run_underlying hu,O4 hb,oE c,n,E8,I2,C,O5 _ hb,E7,L,L4];rw[x,inst_t];simp[V.inst,goInt,entI]
omit [Ctx]in
theorem bOp: ∀(es:List Ent) (j i r:Nat),findB es j i=some r-> ∃m,r=i+m/\m<es.length/\(es.map (entI α)).findIdx? (λe=>(e.born:Int)==(j:Int))=some m
 |[],_,_,_,h=>by cases h
 |x::es,j,i,r,h=>by
  have h:sel (B5 x.2.2 j) (some i) (findB es j (i+1))=some r:=h;rw[cF]at h
  by_cases hb:B5 x.2.2 j=true
  .rw[if_pos hb]at h;cases h;refine⟨0,rfl,n4,?_⟩;have hb:x.2.2=j:=by simpa[H7]using hb
   simp[L2,entI,hb]
  .rw[if_neg hb]at h;obtain⟨m,h1,d,b⟩:=bOp es j (i+1) r h;have hb: ¬x.2.2=j:=by simpa[H7]using hb
   have a:((x.2.2:Int)==(j:Int))=false:=by
    rw[beq_eq_false_iff_ne];intro c;exact hb (by exact_mod_cast c)
   refine⟨m+1,k9,by simp;omega,?_⟩;rw[I5,L2];simp only[entI,a,G0,if_false];rw[b];rfl
theorem bOs(hs:Sim α s w)(he:EOk α s N e a){o:Oper}{t:TypeId}{m st x:Operand}{r:R}(ho:o.op= .entryStore t m st x)(h:bKd m st x s e=some r):bKz o a α s w r:=by
 obtain⟨u,hu,h1⟩:=bB h;obtain⟨k,rfl,L⟩:=asM_some h1;obtain⟨b,hb,K⟩:=bB L;obtain⟨O,n,rfl,h4⟩:=tB K;obtain⟨v,C,J⟩:=bB h4;obtain⟨y,j,I⟩:=bB J;obtain⟨A,c,rfl,G⟩:=xJ I;obtain⟨i,D,E⟩:=bB G;cases E;obtain⟨hx,d⟩:=bT hs he C;have g:=zB hs j;have f:=hs.sc _ _ j;obtain⟨q,B,M,p⟩:=bOp (α:=α) A n 0 i D;rw[C7]at B;subst B;refine⟨α,_,?_,bAg hs j (es':=setV A i v) (c':=c) (setV_sc f λz hz=>⟨(f z hz).1,d⟩)⟩;unfold execOp;simp only[ho];refine bFi ?_;rw[(bT hs he hu).1,(bT hs he hb).1,hx]
 have l:(A.map (entI α)).toArray.findIdx? (λe=>(e.born:Int)==J1 n)=some i:=by
  rw[List.findIdx?_toArray];exact p
 simp only[V.inst,Instr.entryStore,E6,O4 g,E8,asInt,asIntOf,E7,l,O5 _ g,setV_map]
theorem range_run(hs:Sim α s w)(he:EOk α s N e a){o:Oper}{t:TypeId}{x:Operand}{r:R}(ho:o.op= .range t x)(h:oRange t x s e=some r):bKz o a α s w r:=by
 obtain⟨u,hu,h1⟩:=bB h;obtain⟨c,f⟩:=bN h1;obtain⟨y,rfl,d⟩:=kD f;cases d;obtain⟨α',b,hb⟩:=new_obj hs (x:= .sit y 0) (o:= .stringIter (bR y) 0) e8 (λβ w' r h=>h);refine⟨α',_,?_,b⟩;unfold execOp;simp only[ho];refine cP ?_;rw[(bT hs he hu).1];have:=run_range_string (P:=Ctx.P) w t (bR y) (bEr c);simp only[V.inst];rw[this];simp[hb,World.iter]
theorem next_run(hs:Sim α s w)(he:EOk α s N e a){o:Oper}{it:Operand}{str:Bool}{r:R}(ho:o.op= .next it str)(h:oNext it str s e=some r):bKz o a α s w r:=by
 obtain⟨i,h1⟩:=bN h;subst i;obtain⟨u,hu,G⟩:=bB h1;obtain⟨k,q,rfl,E⟩:=pH G;obtain⟨hq,h4⟩:=bN E;have hq:q=0:=by simpa[H7]using hq
 subst hq;obtain⟨x,hx,d⟩:=bB h4
 have n: ∀v w',(Instr.next (.pointer (some ⟨α.blk k,0,none⟩)) true o.type).run Ctx.P w= .ok v w'->(execOp a.eval o).run Ctx.P w= .ok (.value v) w':=λv w' z=>by
  unfold execOp;simp only[ho];rw[(bT hs he hu).1];exact cP z
 cases x with
 |sit y p=>
  have d:nxStr k y p s=some r:=d;have hb:w.heap[α.blk k]?=some (.stringIter (bR y) p):=hs.is _ _ hx;unfold nxStr at d;rw[cF]at d
  by_cases f:Nat.blt p y.length=true
  .rw[if_pos f]at d;obtain⟨c,A,D⟩:=bB d;cases D;have f:p<y.length:=by simpa[H9]using f
   obtain⟨b,j,C⟩:=bB A;obtain⟨m,B⟩:=bN C;cases B;have m:b%256<128:=by simpa[H9]using m
   have g:p<(bR y).size:=by rw[oF];exact f
   have I:(bR y)[p]'g=J0 b:=by
    rw[iJ]at j;have:y[p]=b:=(D9.1 j).2;simp[bR,ByteArray.getElem_eq_getElem_data,this]
   have t:((bR y)[p]'g).toNat=b%256:=by rw[I];simp
   refine⟨α,_,n _ _ ?_,Stp.put hs hx (x:= .sit y (p+1)) (w':=w.iterAt (α.blk k) (bR y) (p+1)) rfl rfl rfl rfl (Nat.le_of_eq (Go.Lib.iterAt_size _ _ _ _).symm) (λb hb l=>Go.Lib.iterAt_other _ _ _ _ _ l) e8 (Go.Lib.iterAt_heap _ _ _ _ _ hb)⟩;rw[Go.Lib.run_next_ascii_at w (α.blk k) (bR y) p o.type hb g (by rw[t];exact m),t,inst_t];simp[V.inst]
  .rw[if_neg f]at d;cases d;have f: ¬p<y.length:=by simpa[H9]using f
   refine⟨α,w,n _ _ ?_,Stp.refl hs⟩;rw[Go.Lib.run_next_end_at w (α.blk k) (bR y) p o.type hb (by rw[oF];exact f),inst_t];simp[V.inst]
 |_=>cases d
omit [Ctx]in
theorem bEx{args:List Operand}{ts:List TypeId}{f:Operand->Operand->TypeId->TypeId->St->E->Option R}{r:R}(h:two args ts f s e=some r): ∃x y t t',args=[x,y]/\ts=[t,t']/\f x y t t' s e=some r:=by
 unfold two at h;split at h
 .exact⟨_,_,_,_,rfl,rfl,h⟩
 .cases h
omit [Ctx]in
theorem ts_two{ts:Array TypeId}{t t':TypeId}(h:ts.toList=[t,t']):ts= #[t,t']:=by
 apply k7
 simpa using h
theorem ustr_run(hs:Sim α s w)(he:EOk α s N e a){x y:Operand}{t t' ty:TypeId}{r:R}(h:bOz x y t s e=some r): ∃v s' w',r= .v v s'/\(Builtin.unsafeString_ #[t,t'] ty #[a.eval x,a.eval y]).run Ctx.P w= .ok (v.inst α) w'/\Stp α s w α s' w':=by
 obtain⟨u,hu,h1⟩:=bB h;obtain⟨v,hv,L⟩:=bB h1;rw[(bT hs he hu).1,(bT hs he hv).1]
 have hn: ∃n,v= .i .i64 (.ofNat n)/\sel (B5 n 0) (usNil u s) (asP u λk o=>gd (B5 o 0) (ob (ptrTo t) λq=>ob (sizeX q) λz=>gd (B5 z 1) (ustrX q k n s)))=some r:=by
  unfold asN6 at L;split at L
  .exact⟨_,rfl,L⟩
  .cases L
 obtain⟨n,rfl,B⟩:=hn;rw[cF]at B
 by_cases h0:B5 n 0=true
 .rw[if_pos h0]at B;have h0:n=0:=by simpa[H7]using h0
  subst h0
  cases u with
  |p0=>
   cases B;exact⟨_,_,w,rfl,Go.Lib.run_unsafeString_none (P:=Ctx.P) w t t' ty none,Stp.refl hs⟩
  |p k o=>
   cases B;exact⟨_,_,w,rfl,Go.Lib.run_unsafeString_none (P:=Ctx.P) w t t' ty (some ⟨α.blk k,o,none⟩),Stp.refl hs⟩
  |_=>cases B
 .rw[if_neg h0]at B;have h0:n≠0:=λK=>h0 (by rw[K];rfl);obtain⟨k,o,rfl,h4⟩:=pH B;obtain⟨ho,h5⟩:=bN h4;have ho:o=0:=by simpa[H7]using ho
  subst ho;obtain⟨q,hq,h6⟩:=bB h5;obtain⟨z,hz,h7⟩:=bB h6;obtain⟨m,h8⟩:=bN h7;have m:z=1:=by simpa[H7]using m
  subst m;obtain⟨b,hb,h9⟩:=bB h8;obtain⟨cs,el,ext,ro,rfl,h10⟩:=zP h9;obtain⟨J,h12⟩:=bN h10;simp only[G1,L3,H7]at J;obtain⟨Q,rfl,h8',D⟩:=J;obtain⟨l,hl,h13⟩:=bB (show ob (cutL cs 0 n) _=some r from h12);obtain⟨M,O,h14⟩:=bB h13;cases h14;obtain⟨e1,e2⟩:=mS _ _ _ _ hl;obtain⟨Z,Y⟩:=bCp (α:=α) O;obtain⟨rest,A,_⟩:=hs.cells hb;have f:w.shape? (α.blk k)=some (q,(cs.map (V.inst α)++rest).length):=by simp[World.shape?,A]
  have W:l.length=n:=by rw[e1];simp;omega
  have d:(M.map J0).length=n:=by rw[K3,Y,W]
  have g:=Go.Lib.run_unsafeString_row (P:=Ctx.P) w t t' ty q (ptrTo_eq hq) (bMn hz) (α.blk k) (cs.map (V.inst α)++rest).length f (M.map J0) (λK=>h0 (by rw[<-d,K];rfl)) (by rw[d,E0,K3];omega) (by rw[d];have:=fH D;simp only[pow47]at this;omega) (λj c C=>by
   rw[lU]
   have X:j<l.length:=by
    have:=(D9.1 C).1;rw[d]at this;omega
   obtain⟨lj,E⟩: ∃x,l[j]?=some x:=⟨_,D7 X⟩
   have hc:=hs.cell_of hb (i:=0+j) (v:=lj) (by
    have I:=E;rw[e1,L0,K0,if_pos k9]at I;rw[C7]
    exact I)
   rw[hc];have G:=congrArg (λq:List Value=>q[j]?) Z;simp only[I7,E,I2]at G;rw[G];rw[I7]at C
   cases hx:M[j]? with
   |none=>rw[hx]at C;cases C
   |some x'=>
    rw[hx]at C;cases C
    rfl)
  rw[d]at g;refine⟨_,_,_,rfl,?_,Stp.drop hs hb Q (w':=w.freeze ⟨α.blk k,0,none⟩ n) ?_ ?_ ?_ ?_ (λi hi U=>?_)⟩
  .simpa[V.inst,bR]using g
  .unfold O6;split<;>rfl
  .unfold O6;split<;>rfl
  .unfold O6;split<;>rfl
  .unfold O6;split<;>simp
  .unfold O6;split
   .rfl
   .simp only[Array.getElem?_modify];rw[if_neg (λK=>U K.symm)]
theorem append_op0(hs:Sim α s w)(he:EOk α s N e a){x y:Operand}{t t' ty:TypeId}{r:R}(h:oAppend0 x y t t' s e=some r): ∃α' w' v s',r= .v v s'/\(N1 #[t,t'] ty #[a.eval x,a.eval y]).run Ctx.P w= .ok (v.inst α') w'/\Stp α s w α' s' w':=by
 obtain⟨b,h1⟩:=bN h;obtain⟨⟨q,el,sz⟩,hq,i⟩:=bB h1
 cases q with
 |some _=>cases i
 |none=>
  obtain⟨z,hz,n⟩:=bB (show ob (zeroX el) _=some r from i);obtain⟨c,h4⟩:=bN n;obtain⟨o,g,m⟩:=bB h4;obtain⟨u,hu,l⟩:=bB m;obtain⟨v,j,k⟩:=bB l;obtain⟨d,f⟩:=kY hq;rw[(bT hs he hu).1,(bT hs he j).1];refine append_run hs d f hz (by simpa[H7]using c) g ?_ k;rw[Bool.or_eq_true]at b
  rcases b with b|b
  .unfold isSl at b;split at b
   .exact .inl ⟨_,by assumption⟩
   .cases b
  .exact .inr (bEr b)
theorem zeros_op(hs:Sim α s w)(he:EOk α s N e a){x y:Operand}{t t' ty:TypeId}{r:R}(hi':isIntT t'=true)(h:oZeros x y t s e=some r): ∃α' w' v s',r= .v v s'/\(N1 #[t,t'] ty #[a.eval x,a.eval y]).run Ctx.P w= .ok (v.inst α') w'/\Stp α s w α' s' w':=by
 obtain⟨j,A⟩: ∃j,Ctx.P.underlying t'=some (.int j):=by
  unfold isIntT at hi';split at hi'
  .exact⟨_,by assumption⟩
  .cases hi'
 obtain⟨⟨q,el,sz⟩,hq,L⟩:=bB h
 cases q with
 |some _=>cases L
 |none=>
  obtain⟨z,hz,h3⟩:=bB (show ob (zeroX el) _=some r from L);obtain⟨by_,E,Z⟩:=bB h3;obtain⟨u,hu,Y⟩:=bB Z;obtain⟨v,b,X⟩:=bB Y;obtain⟨k,n,rfl,W⟩:=tB X;obtain⟨K,J⟩:=bN W;cases J;simp only[G1]at K;obtain⟨g1,g2,g3,g4,g5,g6,g7⟩:=K;obtain⟨m,p⟩:=kY hq;obtain⟨i,g,rfl⟩:=jQ p
  obtain⟨O,B,I⟩:=bB E
  obtain rfl:i=O:=Option.some.inj (g.symm.trans B);cases I;have o:u= .l0:=by cases u<;>first|rfl|cases g1
  subst o;have g2:0<n:=by simpa[H9]using g2
  have g3:0<i.size:=by simpa[H9]using g3
  have g4:z.cells.length=i.size:=by simpa[H7]using g4
  have g6:=fH g6;have g7:=fH g7;rw[(bT hs he hu).1,(bT hs he b).1];have hr:=Lib.run_append_nil_zeros (P:=Ctx.P) w t t' ty el i (z.inst α) k j m A g (zV hz g) n g2 g3 (by simp only[pow47]at g6;omega) (by simp only[pow47]at g7;omega);have D:=grownCap_ge w n 0 el;generalize grownCap w n 0 el=C at hr D
  have d: ∀v∈rH n z.cells,v.Sc s.n s.c/\v.one=true:=λv b=>⟨(uB hz _ _).cells v (tY b),all_one g5 v (tY b)⟩
  have f:((z.inst α).cells).size=i.size:=by rw[hJ,<-g4];simp
  have G:Below w.heap.size w (w.drew.alloc (.cells (N2 (z.inst α).cells n++N2 (z.inst α).cells (C-n)) el)):=(Below.refl _ _).drew.alloc (B8 _) _;refine⟨α.new s.n w.heap.size s.c (C-n),_,_,_,rfl,?_,Stp.alloc hs (c':=s.c+1) G (B8 _) (J8 _) ⟨λv b=>⟨(d v b).1.mono (J8 _) (J8 _),(d v b).2⟩,λk U=>by cases U;exact J9 _⟩ ?_⟩
  .show(N1 #[t,t'] ty #[.slice none 0 0,.int k (n:Int)]).run Ctx.P w=_;rw[hr];simp only[V.inst,Cap.inst,As.new,if_true]
   congr 2
   omega
  .refine⟨(N2 (z.inst α).cells (C-n)).toList,?_,?_⟩
   .simp only[N8,size_zeroCells,f,As.new,if_true,O2,g,I2,L4]
   .have Q:(rH n z.cells).map (V.inst (α.new s.n w.heap.size s.c (C-n)))=(rH n z.cells).map (V.inst α):=(I6 λv b=>(d v b).1.ext (nK _ _ _ _ _)).symm
    have l:(N2 (z.inst α).cells n)=((rH n z.cells).map (V.inst α)).toArray:=by
     have M:=yR (α:=α) g4 n;unfold N2;rw[f]at M⊢;exact M
    rw[Q];show(w.drew.alloc _).heap[w.drew.heap.size]?=_;rw[heap_alloc_new,l]
    congr 2
    apply k7;simp
theorem append_op(hs:Sim α s w)(he:EOk α s N e a){x y:Operand}{t t' ty:TypeId}{r:R}(h:oAppend x y t t' s e=some r): ∃α' w' v s',r= .v v s'/\(N1 #[t,t'] ty #[a.eval x,a.eval y]).run Ctx.P w= .ok (v.inst α') w'/\Stp α s w α' s' w':=by
 unfold oAppend at h;rw[cF]at h;split at h
 .rename_i b;exact zeros_op hs he b h
 .exact append_op0 hs he h
theorem bSy(hs:Sim α s w)(he:EOk α s N e a){f:Operand}{args:Array Operand}{ts:Array TypeId}{ty:TypeId}{r:R}(h:oCallV f args.toList s e=some r):
  ∃g vs,r= .call g vs s/\(do let d<-resolve a.eval ⟨.value f,args,ts⟩ ty;invoke d.target d.args:Sem Next).run Ctx.P w=(callFunc g (vs.map (V.inst α)).toArray).run Ctx.P w/\ ∀v∈vs,v.Sc s.n s.c:=by
 obtain⟨u,hu,h1⟩:=bB h
 cases u with
 |f fn first cap=>
  cases fn with
  |func g=>
   obtain⟨vs,j,o⟩:=bB (show ob (evsX args.toList e) _=some r from h1);cases o;obtain⟨m,h4⟩:=bAi hs he j;obtain⟨l,k⟩:=bT hs he hu;have i:args.map a.eval=(vs.map (V.inst α)).toArray:=by apply k7;simpa using m
   refine⟨g,first++(vs++cap),rfl,?_,λv b=>?_⟩
   .simp only[resolve,l,bNr,Deferred.ofValue,E6,E7,E8,invoke,i]
    congr 1
    simp
   .obtain⟨d,hd⟩:=k
    cases d with
    |zero=>cases hd
    |succ d=>
     rw[iU]at hd;simp only[G1,oY,D6]at hd
     rcases D0.1 b with b|b
     .exact⟨d,hd.1 v b⟩
     .rcases D0.1 b with b|b
      .exact h4 v b
      .exact⟨d,hd.2 v b⟩
  |_=>cases h1
 |_=>cases h1
class Meths:Prop where
 ok: ∀t name f,Ctx.meth t name=some (f,none)-> ∀(v:Value) (w:World),(method (Ctx.P.types.size+Made.depth) t v name).run Ctx.P w= .ok (f,v) w
 deref: ∀t name f el,Ctx.meth t name=some (f,some el)-> ∀(b o:Nat) (r:Value) (w:World),(loadVar el ⟨b,o,none⟩).run Ctx.P w= .ok r w->(method (Ctx.P.types.size+Made.depth) t (.pointer (some ⟨b,o,none⟩)) name).run Ctx.P w= .ok (f,r) w
theorem invoke_run [Meths](hs:Sim α s w)(he:EOk α s N e a){x:Operand}{name:String}{args:Array Operand}{ts:Array TypeId}{ty:TypeId}{r:R}(h:oInvoke x name args.toList s e=some r):
  ∃g vs,r= .call g vs s/\(do let d<-resolve a.eval ⟨.invoke x name,args,ts⟩ ty;invoke d.target d.args:Sem Next).run Ctx.P w=(callFunc g (vs.map (V.inst α)).toArray).run Ctx.P w/\ ∀v∈vs,v.Sc s.n s.c:=by
 obtain⟨u,hu,h1⟩:=bB h;obtain⟨t,v,rfl,K⟩:=asE_some h1;obtain⟨⟨f,el⟩,C,J⟩:=bB K;obtain⟨q,hq,h4⟩:=bB J;obtain⟨vs,l,m⟩:=bB h4;cases m;obtain⟨m,I⟩:=bT hs he hu;obtain⟨G,E⟩:=bAi hs he l;have i:args.map a.eval=(vs.map (V.inst α)).toArray:=by apply k7;simpa using G
 have b:a.eval x= .iface t (v.inst α):=m
 have B:(method (Ctx.P.types.size+Made.depth) t (v.inst α) name).run Ctx.P w= .ok (f,q.inst α) w/\q.Sc s.n s.c:=by
  have hq:recvX el v s=some q:=hq;unfold recvX at hq;rw[rN]at hq
  cases el with
  |none=>
   cases hq;refine⟨Meths.ok t name f C _ w,?_⟩;obtain⟨d,hd⟩:=I
   cases d with
   |zero=>cases hd
   |succ d=>exact⟨d,hd⟩
  |some el=>
   obtain⟨k,o,rfl,D⟩:=pH hq;obtain⟨r,hr,A⟩:=bB D;obtain⟨z,p⟩:=bN A;cases p;exact⟨Meths.deref t name f el C _ _ _ w (bMy hs hr),V.Sc.of z⟩
 refine⟨f,q::vs,rfl,?_,λy j=>?_⟩
 .have M:(#[a.eval x]++args.map a.eval)[0]?=some (.iface t (v.inst α)):=by
   rw[Array.getElem?_append_left n4,b];rfl
  have L:(#[a.eval x]++args.map a.eval).extract 1 (#[a.eval x]++args.map a.eval).size=(vs.map (V.inst α)).toArray:=by
   rw[i];apply k7;simp only[K4,Array.size_append];simp[List.take_of_length_le]
  simp only[resolve,E6,E7,E8,invoke,M,L,callMethod,run_program,B.1]
  congr 1
  simp
 .rcases C9.1 j with rfl|j
  .exact B.2
  .exact E y j
omit [Ctx]in
theorem delE_map: ∀(es:List Ent) (i:Nat),((es.map (entI α)).toArray.eraseIdxIfInBounds i)=((delE es i).map (entI α)).toArray:=by
 intro es i;apply k7;rw[Array.toList_eraseIdxIfInBounds]
 induction es generalizing i with
 |nil=>simp[delE]
 |cons x es ih=>
  cases i with
  |zero=>simp[delE]
  |succ i=>simpa[delE]using ih i
omit [Ctx]in
theorem delE_mem: ∀{es:List Ent} {i:Nat} {x:Ent},x∈delE es i->x∈es
 |[],_,_,h=>h
 |_::_,0,_,h=>D1 _ h
 |y::es,i+1,x,h=>by
  rcases C9.1 h with rfl|h
  .exact D5 ..
  .exact D1 _ (delE_mem h)
omit [Ctx]in
theorem one1_some{args:List Operand}{ts:List TypeId}{f:Operand->TypeId->St->E->Option R}{r:R}(h:one1 args ts f s e=some r): ∃x t,args=[x]/\ts=[t]/\f x t s e=some r:=by
 unfold one1 at h;split at h
 .exact⟨_,_,rfl,rfl,h⟩
 .cases h
theorem delete_run(hs:Sim α s w)(he:EOk α s N e a){m k:Operand}{t t' ty:TypeId}{r:R}(h:oDelete m k t s e=some r): ∃v s' w',r= .v v s'/\(N3 #[t,t'] ty #[a.eval m,a.eval k]).run Ctx.P w= .ok (v.inst α) w'/\Stp α s w α s' w':=by
 obtain⟨f,y,h1⟩:=bB h;cases h1;obtain⟨A,hu,p,u,n,b,d,g⟩:=bCu hs he y;have hb:=zB hs b;have i:=hs.sc _ _ b;have c:=bEb (w:=w) (α:=α) d g;rw[p,u,rN];have l:(V.t []).inst α= .tuple #[]:=by simp[inst_t]
 cases o:f.at_ with
 |none=>
  rw[o]at c;refine⟨_,_,_,rfl,?_,bAg hs b (es':=f.es) (c':=f.clock) i⟩;rw[l];simp[N3,run_underlying hu,O4 hb,oE d,c,E8,O5 _ hb]
 |some q=>
  obtain⟨j,z⟩:=q;rw[o]at c;refine⟨_,_,_,rfl,?_,bAg hs b (es':=delE f.es j) (c':=f.clock) (λx hx=>i x (delE_mem hx))⟩;rw[l,<-delE_map];simp[N3,run_underlying hu,O4 hb,oE d,c,E8,O5 _ hb]
theorem clear_run(hs:Sim α s w)(he:EOk α s N e a){x:Operand}{t ty:TypeId}{r:R}(h:oClear x t s e=some r): ∃v s' w',r= .v v s'/\(N4 #[t] ty #[a.eval x]).run Ctx.P w= .ok (v.inst α) w'/\Stp α s w α s' w':=by
 obtain⟨⟨q,el,sz⟩,hq,h1⟩:=bB h
 cases q with
 |some _=>cases h1
 |none=>
  obtain⟨u,hu,b⟩:=bB (show ob (evX x e) _=some r from h1);obtain⟨f,C⟩:=kY hq;rw[(bT hs he hu).1];have g:(V.t []).inst α= .tuple #[]:=by simp[inst_t]
  have b:clearV el sz u s=some r:=b
  cases u with
  |l0=>
   cases b;refine⟨_,_,w,rfl,?_,Stp.refl hs⟩;rw[g];simp[N4,run_underlying f,V.inst]
  |z k o o' c=>
   cases b;refine⟨_,_,w,rfl,?_,Stp.refl hs⟩;rw[g];simp[N4,run_underlying f,V.inst]
  |l k o n c=>
   have b:sel (B5 n 0) (some (R.v (.t []) s)) (clearX el sz k o n s)=some r:=b;rw[cF]at b
   by_cases hn0:B5 n 0=true
   .rw[if_pos hn0]at b;cases b;have hn0:n=0:=by simpa[H7]using hn0
    subst hn0;refine⟨_,_,w,rfl,?_,Stp.refl hs⟩;rw[g];simp[N4,run_underlying f,V.inst]
   .rw[if_neg hn0]at b;have hn0:n≠0:=λJ=>hn0 (by rw[J];rfl);obtain⟨z,hz,G⟩:=bB b;obtain⟨h4,E⟩:=bN G;obtain⟨s',p,D⟩:=bB E;cases D;rw[G1]at h4;obtain⟨d,y⟩:=h4;have d:z.cells.length=sz:=by simpa[H7]using d
    obtain⟨w',B,i⟩:=vG hs p (λv g=>(uB hz _ _).cells v (tY g)) (λv g=>all_one y v (tY g));refine⟨_,_,w',rfl,?_,i⟩;rw[g]
    have j:(N2 (z.inst α).cells n).toList=(rH n z.cells).map (V.inst α):=by
     have A:=yR (α:=α) d n;have I:(z.inst α).cells.size=sz:=by rw[hJ,<-d];simp
     unfold N2;rw[I]at A⊢;rw[A]
    obtain⟨n,rfl⟩: ∃m,n=m+1:=⟨n-1,k9⟩
    simp[N4,run_underlying f,V.inst,vR hz w α,j,B]
  |_=>cases b
theorem copy_run(hs:Sim α s w)(he:EOk α s N e a){x y:Operand}{t t' ty:TypeId}{r:R}(h:oCopy x y t s e=some r): ∃v s' w',r= .v v s'/\(N5 #[t,t'] ty #[a.eval x,a.eval y]).run Ctx.P w= .ok (v.inst α) w'/\Stp α s w α s' w':=by
 obtain⟨⟨q,el,sz⟩,hq,h1⟩:=bB h
 cases q with
 |some _=>cases h1
 |none=>
  obtain⟨u,hu,I⟩:=bB (show ob (evX x e) _=some r from h1);obtain⟨v,C,b⟩:=bB I;obtain⟨d,f⟩:=kY hq;rw[(bT hs he hu).1,(bT hs he C).1]
  cases u with
  |l k o m c=>
   have b:copyX sz k o m v s=some r:=b
   cases v with
   |l0=>
    cases b;refine⟨_,_,w,rfl,?_,Stp.refl hs⟩;simp[N5,run_underlying d,V.inst,M8,M9,iD f,storeCells,goInt]
   |l k' o' m' c'=>
    obtain⟨A,z,h4⟩:=bB (show ob (bIf s k' o' ((Nat.min m' m)*sz)) _=some r from b);obtain⟨s',p,G⟩:=bB h4;cases G;have i:=row_sc hs z;obtain⟨w',B,g⟩:=vG hs p (λu hu=>(i u hu).1) (λu hu=>(i u hu).2);refine⟨_,_,w',rfl,?_,g⟩;obtain⟨E,D⟩:=qB hs z
    have hl:=run_loadCells_list (P:=Ctx.P) w ⟨α.blk k',o',none⟩ (A.map (V.inst α)) (λj u n=>by
     rw[I7]at n
     cases hu:A[j]? with
     |none=>rw[hu]at n;cases n
     |some u'=>
      rw[hu]at n;cases n;rw[lU]
      exact D j u' hu)
    rw[K3,E]at hl;simp[N5,run_underlying d,V.inst,M8,M9,iD f,hl,B,goInt]
   |_=>cases b
  |_=>cases b
theorem builtin_run(hs:Sim α s w)(he:EOk α s N e a){b:Builtin}{args:Array Operand}{ts:Array TypeId}{ty:TypeId}{r:R}(h:oBuiltin b args.toList ts.toList s e=some r):
  ∃α' w' v s',r= .v v s'/\(do let d<-resolve a.eval ⟨.builtin b,args,ts⟩ ty;invoke d.target d.args:Sem Next).run Ctx.P w= .ok (.value (v.inst α')) w'/\Stp α s w α' s' w':=by
 have j:(ob (pCall b args.toList ts.toList s e) λv=>some (R.v v s))=some r-> ∃α' w' v s',r= .v v s'/\(do let d<-resolve a.eval ⟨.builtin b,args,ts⟩ ty;invoke d.target d.args:Sem Next).run Ctx.P w= .ok (.value (v.inst α')) w'/\Stp α s w α' s' w':=λh=>by
  obtain⟨v,n,h1⟩:=bB h;cases h1;exact⟨α,w,v,s,rfl,call_run hs he n ty,Stp.refl hs⟩
 cases b with
 |append=>
  obtain⟨x,y,t,t',h1,i,g⟩:=bEx (show two args.toList ts.toList oAppend s e=some r from h);obtain⟨α',w',v,s',h4,f,c⟩:=append_op (t':=t') (ty:=ty) hs he g;refine⟨α',w',v,s',h4,?_,c⟩;rw[mR,uV h1,ts_two i];exact cP f
 |unsafeString=>
  obtain⟨x,y,t,t',h1,i,g⟩:=bEx (show two args.toList ts.toList (λx y t _=>bOz x y t) s e=some r from h);obtain⟨v,s',w',h4,f,c⟩:=ustr_run (t':=t') (ty:=ty) hs he g;refine⟨α,w',v,s',h4,?_,c⟩;rw[mR,uV h1,ts_two i];exact cP f
 |delete=>
  obtain⟨x,y,t,t',h1,i,g⟩:=bEx (show two args.toList ts.toList (λm k t _=>oDelete m k t) s e=some r from h);obtain⟨v,s',w',h4,f,c⟩:=delete_run (t':=t') (ty:=ty) hs he g;refine⟨α,w',v,s',h4,?_,c⟩;rw[mR,uV h1,ts_two i];exact cP f
 |copy=>
  obtain⟨x,y,t,t',h1,i,g⟩:=bEx (show two args.toList ts.toList (λx y t _=>oCopy x y t) s e=some r from h);obtain⟨v,s',w',h4,f,c⟩:=copy_run (t':=t') (ty:=ty) hs he g;refine⟨α,w',v,s',h4,?_,c⟩;rw[mR,uV h1,ts_two i];exact cP f
 |clear=>
  obtain⟨x,t,h1,i,g⟩:=one1_some (show one1 args.toList ts.toList oClear s e=some r from h);obtain⟨v,s',w',h4,f,c⟩:=clear_run (ty:=ty) hs he g;refine⟨α,w',v,s',h4,?_,c⟩;have l:ts= #[t]:=by apply k7;simpa using i
  rw[mR,bLq h1,l];exact cP f
 |_=>exact j h
theorem oPure_run(hs:Sim α s w)(he:EOk α s N e a){o:Oper}{r:R}(h:oPure o.op s e=some r):bKz o a α s w r:=by
 obtain⟨v,b,h1⟩:=bB h;cases h1;exact⟨α,w,pure_run hs he b,Stp.refl hs⟩
theorem op_run [Meths](hs:Sim α s w)(he:EOk α s N e a){o:Oper}{r:R}(h:opX o.op s e=some r):bKz o a α s w r:=by
 cases ho:o.op with
 |alloc t=>rw[ho]at h;exact alloc_run (e:=e) hs ho h
 |box t x=>rw[ho]at h;exact box_run hs he ho h
 |buildSlice t n parts=>rw[ho]at h;exact bMg hs he ho h
 |store t x y=>rw[ho]at h;exact storeOp_run hs he ho h
 |makeSlice t l c=>rw[ho]at h;exact bRs hs he ho h
 |makeMap t x=>rw[ho]at h;exact makeMap_run hs he ho h
 |mapUpdate t m k x=>
  rw[ho]at h;obtain⟨s',w',rfl,h1,i⟩:=bNc hs he (show bMc t m k x s e=some r from h);refine⟨α,w',?_,i⟩;unfold execOp;simp only[ho];exact bFi h1
 |insert t m k x=>
  rw[ho]at h;obtain⟨s',w',rfl,h1,i⟩:=bNc hs he (show bMc t m k x s e=some r from h);refine⟨α,w',?_,i⟩;unfold execOp;simp only[ho];exact bFi h1
 |mapEntry t m k=>rw[ho]at h;exact mapEntry_run hs he ho h
 |entryStore t m k x=>rw[ho]at h;exact bOs hs he ho h
 |range t x=>rw[ho]at h;exact range_run hs he ho h
 |next x str=>rw[ho]at h;exact next_run hs he ho h
 |call c=>
  rw[ho]at h;obtain⟨j,d,ts⟩:=c
  cases j with
  |builtin b=>
   obtain⟨α',w',v,s',rfl,h1,i⟩:=builtin_run (ty:=o.type) hs he (show oBuiltin b d.toList ts.toList s e=some r from h);refine⟨α',w',?_,i⟩;unfold execOp;simp only[ho];exact h1
  |value f=>
   obtain⟨g,p,rfl,h1,i⟩:=bSy (ts:=ts) (ty:=o.type) hs he (show oCallV f d.toList s e=some r from h);refine⟨rfl,?_,i⟩;unfold execOp;simp only[ho];exact h1
  |invoke x name=>
   obtain⟨g,p,rfl,h1,i⟩:=invoke_run (ts:=ts) (ty:=o.type) hs he (show oInvoke x name d.toList s e=some r from h);refine⟨rfl,?_,i⟩;unfold execOp;simp only[ho];exact h1
 |_=>exact oPure_run hs he (show oPure o.op s e=some r by rw[ho]at h⊢;exact h)
end
end X
end
end Go.Proofs.YtnfiadlonjediaaGreatDoor
