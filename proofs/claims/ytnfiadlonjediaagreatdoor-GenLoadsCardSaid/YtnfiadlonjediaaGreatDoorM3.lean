/- Texts of one proof, one behind the other: RunV, RunW, RunX, RunY, RunZ. -/
import Derived.Test.YtnfiadlonjediaaGreatDoorM2
import Derived.Laws.Tables
import Derived.Laws.IdiomStrings
import Derived.Lib.Builder
import Derived.Lib.UnsafeStr
import Derived.Deep.AppendSrc
import Derived.Laws.CopyRow
import Derived.Deep.Upon
import Derived.Great.BuildSlice
import Derived.Laws.MakeOwn
import Derived.MapKept
import Derived.Lib.OthersKept
import Derived.Carry
import Derived.Lib.AppendZeros
namespace Go.Proofs.YtnfiadlonjediaaGreatDoor
section
namespace X
open Go.RowKit
theorem nH(l:List Nat):(bQ l).size=l.length:=by simp[bQ,ByteArray.size]
theorem byte_some{v:V}{x:Nat}(h:byteX v=some x):v= .i .u8 (.ofNat x)/\x<256:=by
 unfold byteX at h;split at h
 .obtain⟨h1,h2⟩:=bL h;cases h2;exact⟨rfl,by simpa[Nat.blt_eq]using h1⟩
 .cases h
theorem bAd{α:As}: ∀{l:List V} {xs:List Nat},bHd byteX l=some xs->l.map (V.inst α)=(xs.map UInt8.ofNat).map (λb=>Value.int .u8 (b.toNat:Int))/\xs.length=l.length
 |[],xs,h=>by cases h;exact⟨rfl,rfl⟩
 |v::l,xs,h=>by
  obtain⟨x,hx,h1⟩:=bB h;obtain⟨r,hr,h2⟩:=bB h1;cases h2;obtain⟨rfl,hlt⟩:=byte_some hx;obtain⟨h3,h4⟩:=bAd (α:=α) hr;refine⟨?_,by simp[h4]⟩;have e:(UInt8.ofNat x).toNat=x:=by simp;omega
  simp only[List.map_cons,h3,e];rfl
section
variable [Ctx] {α : As} {s : St} {w : World} {N : Nat} {e : E} {a : Act}
theorem isU8_eq{t:TypeId}(h:isU8 t=true):Ctx.P.underlying t=some (.int .u8):=by
 unfold isU8 at h;split at h
 .assumption
 .cases h
theorem bBo{t:TypeId}(h:isStr t=true):Ctx.P.underlying t=some .string:=by
 unfold isStr at h;split at h
 .assumption
 .cases h
theorem isUns_eq{t:TypeId}(h:isUns t=true):Ctx.P.underlying t=some .unsafePointer:=by
 unfold isUns at h;split at h
 .assumption
 .cases h
theorem ptrTo_eq{t u:TypeId}(h:ptrTo t=some u):Ctx.P.underlying t=some (.pointer u):=by
 obtain⟨d,hd,h1⟩:=bB h;cases d<;>cases h1
 exact hd
theorem Sim.shape(hs:Sim α s w){k:Nat}{cs:List V}{t:TypeId}{ro:Bool}(hk:s.h.get k=some (.cells cs t none ro)):w.shape? (α.blk k)=some (t,cs.length):=by
 obtain⟨rest,hr,h0⟩:=hs.cells hk;have:=h0 rfl;subst this;simp[World.shape?,hr]
theorem row0_row{k o n:Nat}{l:List V}(h:rowX0 s k o n=some l):bDs s k o n=some l:=by
 obtain⟨x,hx,h1⟩:=bB h;obtain⟨cs,hrow,h2⟩:=bB h1
 have hr:x.row=some cs:=by
  cases x with
  |cells _ _ _ _=>exact hrow
  |win _=>exact hrow
  |_=>cases hrow
 unfold bDs;rw[hx];show ob x.row _=_;rw[hr];exact h2
theorem oP(hs:Sim α s w){k o n:Nat}{l:List V}(h:bDs s k o n=some l):l.length=n/\ ∀j v,l[j]?=some v->w.cell? ⟨α.blk k,o+j,none⟩=some (v.inst α):=by
 obtain⟨x,hx,h1⟩:=bB h;obtain⟨cs,hrow,h2⟩:=bB h1;obtain⟨e,hl⟩:=lY _ _ _ _ h2;have hlen:l.length=n:=by rw[e];simp;omega
 refine⟨hlen,λj v hj=>?_⟩;have hjl:=(List.getElem?_eq_some_iff.1 hj).1;refine hs.cell hx hrow ?_;rw[e,List.getElem?_take,if_pos k7,List.getElem?_drop]at hj;exact hj
theorem row_sc(hs:Sim α s w){k o n:Nat}{l:List V}(h:bDs s k o n=some l): ∀v∈l,v.Sc s.n s.c/\v.one=true:=by
 obtain⟨x,hx,h1⟩:=bB h;obtain⟨cs,hrow,h2⟩:=bB h1;obtain⟨e,_⟩:=lY _ _ _ _ h2;intro v hv;rw[e]at hv;exact hs.row_sc hx hrow v (List.mem_of_mem_drop (List.mem_of_mem_take hv))
theorem conv_run(hs:Sim α s w){src d:TypeId}{u r:V}(h:cvX src d u s=some r):(convert src d (u.inst α)).run Ctx.P w= .ok (r.inst α) w:=by
 unfold cvX at h
 cases hu:Ctx.P.underlying src with
 |none=>rw[hu]at h;cases h
 |some ds=>
  rw[hu]at h
  have one: ∀r,cvOne d u=some r->(convert src d (u.inst α)).run Ctx.P w= .ok (r.inst α) w:=λr h=>by
   obtain⟨dd,hd,h1⟩:=bB h;cases dd<;>try cases h1
   case int k=>
    obtain⟨k',x,rfl,h2⟩:=kT h1;cases h2;simp[convert,run_underlying hu,run_underlying hd,V.inst,Conv.intToInt,bBm]
   case string=>
    obtain⟨x,rfl,h2⟩:=jT h1;cases h2;simp[convert,run_underlying hu,run_underlying hd,V.inst]
  cases ds with
  |slice el=>
   obtain⟨hb,h1⟩:=bL (show gd _ _=some r from h);rw[Bool.and_eq_true]at hb;have he:=isU8_eq hb.1;have hd:=bBo hb.2
   cases u with
   |l0=>
    cases h1;simp[convert,run_underlying hu,run_underlying hd,run_underlying he,V.inst,Conv.bytesToString];rfl
   |l k o n c=>
    obtain⟨l,hl,h2⟩:=bB (show ob (bDs s k o n) _=some r from h1);obtain⟨xs,hx,h3⟩:=bB h2;cases h3;obtain⟨h4,h5⟩:=oP hs hl;obtain⟨h6,h7⟩:=bAd (α:=α) hx;have hlen:(xs.map UInt8.ofNat).length=n:=by rw[List.length_map,h7,h4]
    have:=run_convert_bytes_back (P:=Ctx.P) w src d el ⟨α.blk k,o,none⟩ (c.inst α) (xs.map UInt8.ofNat) hu he hd (λj hj=>by
     have hj':j<l.length:=by rw[List.length_map,h7]at hj;exact hj
     have hv:=h5 j _ (List.getElem?_eq_getElem hj');rw[lB,hv];have h8:=congrArg (λq:List Value=>q[j]?) h6;simp only[List.getElem?_map,List.getElem?_eq_getElem hj',Option.map_some]at h8;rw[h8];have hjx:j<xs.length:=by rw[h7];exact hj'
     simp[List.getElem?_eq_getElem hjx])
    rw[hlen]at this
    simpa[V.inst,bQ]using this
   |_=>cases h1
  |pointer t=>
   obtain⟨k,o,rfl,h1⟩:=nW (show asP u _=some r from h);obtain⟨n,hn,h2⟩:=bB h1;obtain⟨hb,h3⟩:=bL h2;obtain⟨x,hx,h4⟩:=bB h3;obtain⟨cs,q,ext,ro,rfl,h5⟩:=wF h4
   cases ext with
   |some _=>cases h5
   |none=>
    obtain⟨h6,h7⟩:=bL (show gd _ _=some r from h5);cases h7;rw[Bool.and_eq_true]at hb;obtain⟨i,hi,hsz⟩:=iZ hn;have hn0:i.size≠0:=λe0=>by rw[hsz]at e0;subst e0;cases hb.2
    exact Lib.run_to_unsafe (P:=Ctx.P) w ⟨α.blk k,o,none⟩ hu (isUns_eq hb.1) hi hn0 (hs.shape hx) (by simpa[Nat.blt_eq]using h6)
  |unsafePointer=>
   obtain⟨t,ht,h1⟩:=bB (show ob (ptrTo d) _=some r from h);obtain⟨k,o,rfl,h2⟩:=nW h1;obtain⟨n,hn,h3⟩:=bB h2;obtain⟨hb,h4⟩:=bL h3;obtain⟨x,hx,h5⟩:=bB h4;obtain⟨cs,q,ext,ro,rfl,h6⟩:=wF h5
   cases ext with
   |some _=>cases h6
   |none=>
    obtain⟨h7,h8⟩:=bL (show gd _ _=some r from h6);cases h8;obtain⟨i,hi,_⟩:=iZ hn;exact Lib.run_from_unsafe (P:=Ctx.P) w ⟨α.blk k,o,none⟩ hu (ptrTo_eq ht) hi (hs.shape hx) h7
  |_=>exact one r h
theorem bIc{t f ft fo:Nat}(h:bCj t f=some (ft,fo)): ∃gs:Array Field,Ctx.P.underlying t=some (.struct gs)/\ ∃g:Field,gs[f]?=some g/\g.type=ft/\g.offset=fo:=by
 obtain⟨d,hd,h1⟩:=bB h;cases d<;>try cases h1
 obtain⟨g,hg,h2⟩:=bB h1;cases h2;rw[iF]at hg;exact⟨_,hd,g,by simpa using hg,rfl,rfl⟩
theorem bNn{t f fo b o:Nat}(h:fieldAt t f=some fo):(Instr.fieldAt t (.pointer (some ⟨b,o,none⟩)) f).run Ctx.P w= .ok (.pointer (some ⟨b,addO o fo,none⟩)) w:=by
 obtain⟨⟨ft,fo'⟩,hf,h1⟩:=bB h;obtain⟨n,hn,h2⟩:=bB h1;obtain⟨hn0,h3⟩:=bL h2;cases h3;obtain⟨gs,hu,g,hg,rfl,rfl⟩:=bIc hf;have hn0:n≠0:=λe0=>by subst e0;cases hn0
 simp only[Instr.fieldAt,Sem.run_bind,run_underlying hu,Result.andThen_ok,hg,Instr.sureAddr,Sem.run_pure,fieldPlace,iA hn,if_neg hn0,lB];rfl
theorem field_run{t f ft fo:Nat}{cs:List V}{v:V}(h:bCj t f=some (ft,fo))(hv:bBc ft cs fo=some v):(Instr.field t ((V.g cs).inst α) f).run Ctx.P w= .ok (v.inst α) w:=by
 obtain⟨gs,hu,g,hg,rfl,rfl⟩:=bIc h;rw[oH];simp only[Instr.field,Sem.run_bind,run_underlying hu,Result.andThen_ok,hg,asAgg,Sem.run_pure,tS hv w]
theorem bNr{t z:Nat}{k:IntKind}{q:Option Nat×TypeId×Nat}{u v:V}(hq:elemOf t=some q)(h:idxX u q.1 q.2.2 z=some v):(Instr.indexAt t (u.inst α) (.int k (.ofNat z))).run Ctx.P w= .ok (v.inst α) w:=by
 obtain⟨n,el,sz⟩:=q
 have key: ∀(b o m:Nat),z<m->(0:Int)<=Int.ofNat z/\Int.ofNat z<(m:Int):=λb o m hz=>⟨Int.natCast_nonneg z,Int.ofNat_lt.2 hz⟩
 cases u with
 |l b o m c=>
  cases n with
  |some n=>cases h
  |none=>
   obtain⟨h1,h2⟩:=bL (show gd _ _=some v from h);cases h2;obtain⟨hu,hsz⟩:=kH hq;have h0:=key 0 0 m (by simpa[Nat.blt_eq]using h1);simp only[V.inst,Instr.indexAt,asIntOf,Sem.run_bind,Sem.run_pure,Result.andThen_ok,run_underlying hu,if_pos h0,iA hsz,lB];rfl
 |p b o=>
  cases n with
  |none=>cases h
  |some n=>
   obtain⟨h1,h2⟩:=bL (show gd _ _=some v from h);cases h2;obtain⟨hu,hsz⟩:=zT hq;have h0:=key 0 0 n (by simpa[Nat.blt_eq]using h1);simp only[V.inst,Instr.indexAt,asIntOf,Instr.sureAddr,Sem.run_bind,Sem.run_pure,Result.andThen_ok,run_underlying hu,if_pos h0,iA hsz,lB];rfl
 |_=>cases h
theorem index_run{t z:Nat}{k:IntKind}{u v:V}(h:atX t u z=some v):(Instr.index t (u.inst α) (.int k (.ofNat z))).run Ctx.P w= .ok (v.inst α) w:=by
 cases u with
 |s x=>
  obtain⟨ht,h1⟩:=bL (show gd _ _=some v from h);obtain⟨y,hy,h2⟩:=bB h1;cases h2;rw[iF]at hy;obtain⟨hlt,hy⟩:=List.getElem?_eq_some_iff.1 hy;have hr:=run_index_string (P:=Ctx.P) w t (bQ x) k (Int.ofNat z) (bBo ht);rw[dif_pos ⟨Int.natCast_nonneg z,by rw[nH];exact Int.ofNat_lt.2 hlt⟩]at hr
  have e1:(bQ x)[(Int.ofNat z).toNat]'(by rw[nH];exact hlt)=UInt8.ofNat y:=by
   rw[<-hy];simp[bQ,ByteArray.getElem_eq_getElem_data]
  rw[e1]at hr
  simpa[V.inst]using hr
 |g cs=>
  obtain⟨⟨n,el,sz⟩,hq,h1⟩:=bB (show ob (elemOf t) _=some v from h)
  cases n with
  |none=>cases h1
  |some n=>
   obtain⟨h2,h3⟩:=bL (show gd _ _=some v from h1);obtain⟨hu,hsz⟩:=zT hq
   have h0:(0:Int)<=Int.ofNat z/\Int.ofNat z<(n:Int):=⟨Int.natCast_nonneg z,Int.ofNat_lt.2 (by simpa[Nat.blt_eq]using h2)⟩
   rw[oH];simp only[Instr.index,asIntOf,Sem.run_bind,Sem.run_pure,Result.andThen_ok,run_underlying hu,if_pos h0,iA hsz];exact tS h3 w
 |_=>cases h
omit [Ctx]in
theorem bMs: ∀(vs:List Value) (o k:Nat) (A:Array Value),o+k+vs.length<=A.size->(vs.zipIdx k).foldl (λcs (x:Value×Nat)=>cs.setIfInBounds (o+x.2) x.1) A=(A.toList.take (o+k)++vs++A.toList.drop (o+k+vs.length)).toArray
 |[],o,k,A,_=>by simp
 |v::vs,o,k,A,h=>by
  simp only[List.length_cons]at h;simp only[List.zipIdx_cons,List.foldl_cons];rw[bMs vs o (k+1) _ o7]
  congr 1
  have hlt:o+k<A.toList.length:=by simp;omega
  simp only[Array.toList_setIfInBounds]
  have e1:(A.toList.set (o+k) v).take (o+(k+1))=A.toList.take (o+k)++[v]:=by
   rw[show o+(k+1)=(o+k)+1 from by omega,List.take_add_one,List.getElem?_set_self hlt,List.take_set_of_le (Nat.le_refl _)];rfl
  have e2:(A.toList.set (o+k) v).drop (o+(k+1)+vs.length)=A.toList.drop (o+k+(vs.length+1)):=by
   rw[List.drop_set_of_lt k7]
   congr 1
   omega
  rw[e1,e2];simp
omit [Ctx]in
theorem wT{place:Nat->Option (Nat×Nat)}: ∀{l:List (Nat×V)} {cs r:List V},bKq place cs l=some r->Instr.fill place (cs.map (V.inst α)).toArray (l.map λx=>(x.1,x.2.inst α))=some (r.map (V.inst α)).toArray
 |[],cs,r,h=>by
  have h:some cs=some r:=h;cases h;rfl
 |(i,v)::l,cs,r,h=>by
  obtain⟨⟨o,sz⟩,hp,h1⟩:=bB (show ob (place i) _=some r from h);obtain⟨h2,h3⟩:=bL h1;obtain⟨cs',hc,h4⟩:=bB h3;obtain⟨h5,h6⟩:=pZ _ _ _ _ hc;have h2:v.cells.length=sz:=by simpa[Nat.beq_eq]using h2
  have ih:=wT (l:=l) (cs:=cs') (r:=r) h4;have h5:o+v.cells.length<=cs.length:=h5;simp only[List.map_cons,Instr.fill,hp,gZ]
  have hc1: ¬((v.cells.map (V.inst α)).toArray.size≠sz\/o+(v.cells.map (V.inst α)).toArray.size>(cs.map (V.inst α)).toArray.size):=by
   simp only[List.size_toArray,List.length_map];omega
  have hf:((v.cells.map (V.inst α)).toArray.zipIdx.foldl (λcs (x:Value×Nat)=>cs.setIfInBounds (o+x.2) x.1) (cs.map (V.inst α)).toArray)=(cs'.map (V.inst α)).toArray:=by
   rw[<-Array.foldl_toList,Array.toList_zipIdx];have:=bMs (v.cells.map (V.inst α)) o 0 (cs.map (V.inst α)).toArray o7;rw[this,h6];simp[List.map_take,List.map_drop]
  rw[if_neg (by simpa using hc1)];rw[hf];exact ih
theorem sP(hs:Sim α s w)(he:EOk α s N e a): ∀{l:List (Nat×Operand)} {ps:List (Nat×V)},partsX l e=some ps->l.map (λx=>(x.1,a.eval x.2))=ps.map (λx=>(x.1,x.2.inst α))/\ ∀x∈ps,x.2.Sc s.n s.c
 |[],ps,h=>by
  have h:some []=some ps:=h;cases h;exact⟨rfl,λ_ h=>by cases h⟩
 |(i,x)::l,ps,h=>by
  obtain⟨q,hq,h1⟩:=bB (show ob _ _=some ps from h);obtain⟨r,hr,h2⟩:=bB h1;obtain⟨v,hv,h3⟩:=bB hq;cases h2;cases h3;obtain⟨h4,h5⟩:=sP hs he hr;obtain⟨h6,h7⟩:=bV hs he hv;refine⟨by simp[h4,h6],λy hy=>?_⟩
  rcases List.mem_cons.1 hy with rfl|hy
  .exact h7
  .exact h5 y hy
theorem bRf: ∀{fs:List Field} {pl:List (Nat×Nat)},placesX fs=some pl->fs.mapM (λf=>(Ctx.P.info? f.type).map λi=>(f.offset,i.size))=some pl
 |[],pl,h=>by
  have h:some []=some pl:=h;cases h;rfl
 |f::fs,pl,h=>by
  obtain⟨q,hq,h1⟩:=bB (show ob _ _=some pl from h);obtain⟨r,hr,h2⟩:=bB h1;obtain⟨n,hn,h3⟩:=bB hq;cases h2;cases h3;obtain⟨i,hi,rfl⟩:=iZ hn;simp[List.mapM_cons,hi,bRf hr]
theorem build_run{t:TypeId}{z:V}{pl:Nat->Option (Nat×Nat)}{ps:List (Nat×V)}{cs:List V}{parts:Array (Nat×Value)}(hz:zeroX t=some z)(hp:placeOf t=some pl)(hf:bKq pl z.cells ps=some cs)
  (he:parts.toList=ps.map λx=>(x.1,x.2.inst α)):(Instr.build t parts).run Ctx.P w= .ok ((V.g cs).inst α) w:=by
 rw[oH];refine run_build w t parts _ ?_;obtain⟨i,hi,h1⟩:=bB hz;obtain⟨u,hu,h2⟩:=bB h1;have hzc:u.cells=(z.cells.map (V.inst α)).toArray:=by rw[<-tP (α:=α) h2,gZ]
 obtain⟨d,hd,h3⟩:=bB hp;unfold Program.built;rw[he];cases d<;>try cases h3
 case struct fs=>
  obtain⟨q,hq,h4⟩:=bB h3;cases h4;simp only[hi,hd,hu,bRf hq,hzc]
  have:(λx:Nat=>q.toArray[x]?)=nthL q:=by
   funext x
   rw[iF];simp
  rw[this];exact wT hf
 case array n el=>
  obtain⟨sz,hsz,h4⟩:=bB h3;cases h4;obtain⟨j,hj,rfl⟩:=iZ hsz;simp only[hi,hd,hu,hj,hzc];exact wT hf
theorem len_run(hs:Sim α s w){t:TypeId}{d:TypeDesc}{u:V}{n:Nat}(hd:Ctx.P.underlying t=some d)(h:lenD d u s=some n)(ty:TypeId):(Builtin.len_ #[t] ty #[u.inst α]).run Ctx.P w= .ok (.int .i64 (.ofNat n)) w:=by
 cases d<;>try cases h
 case string=>
  obtain⟨x,rfl,h1⟩:=jT h;cases h1;simp[Builtin.len_,run_underlying hd,V.inst,goInt,nH]
 case array=>simp[Builtin.len_,run_underlying hd,goInt]
 case slice el=>
  cases u<;>cases h<;>simp[Builtin.len_,run_underlying hd,V.inst,goInt]
 case map kt et=>
  cases u<;>try cases h
  .simp[Builtin.len_,run_underlying hd,V.inst,goInt]
  .obtain⟨x,hx,h1⟩:=bB h;obtain⟨es,c,rfl,h2⟩:=uS h1;cases h2;have hb:=hs.is _ _ hx;have hb:w.heap[α.blk _]?=some (.map (es.map (entI α)).toArray c):=hb;simp[Builtin.len_,run_underlying hd,V.inst,goInt,getObj,hb,Sem.run]
theorem nD{kt:TypeId}{k:V}(h:vX kt k=true)(q:Bool):(Instr.checkKey q 10000 kt (k.inst α)).run Ctx.P w= .ok () w:=by
 unfold vX at h
 cases hd:Ctx.P.underlying kt with
 |none=>rw[hd]at h;cases h
 |some d=>
  rw[hd]at h;cases d<;>try cases h
  case int kk=>
   cases k<;>try cases h
   have: ∀n (v:Value),(∃kk x,v= .int kk x)->(Instr.checkKey q (n+1) kt v).run Ctx.P w= .ok () w:=λn v ⟨_,_,e0⟩=>by subst e0;simp[Instr.checkKey,run_underlying hd]
   exact this 9999 _ ⟨_,_,rfl⟩
  case string=>
   cases k<;>try cases h
   have: ∀n (v:Value),(∃x,v= .string x)->(Instr.checkKey q (n+1) kt v).run Ctx.P w= .ok () w:=λn v ⟨_,e0⟩=>by subst e0;simp[Instr.checkKey,run_underlying hd]
   exact this 9999 _ ⟨_,rfl⟩
theorem bBf{kt:TypeId}{k:V}(hk:vX kt k=true){es:List Ent}{f:Option (Nat×V)}(h:bBj kt k es 0=some f):(Instr.findKey kt (k.inst α) (es.map (entI α))).run Ctx.P w= .ok (f.map λq=>(q.1,q.2.inst α)) w:=by
 unfold vX at hk;have key: ∀(d:TypeDesc),Ctx.P.underlying kt=some d->(∀k' c,eqX 1 kt k k'=some c->Instr.sameNow d (k.inst α) (k'.inst α)=some c)-> ∀(es:List Ent) (i:Nat) (f:Option (Nat×V)),bBj kt k es i=some f->
   Instr.findNow d (k.inst α) (es.map (entI α)) i=some (f.map λq=>(q.1,q.2.inst α)):=by
  intro d hd hsame es
  induction es with
  |nil=>intro i f h;cases h;rfl
  |cons x es ih=>
   intro i f h;unfold bBj at h;obtain⟨c,hc,h1⟩:=bB h;rw[cJ]at h1;simp only[List.map_cons,Instr.findNow,entI,hsame _ _ hc];cases c
   .simp at h1;exact ih (i+1) f h1
   .simp at h1;subst h1;rfl
 cases hd:Ctx.P.underlying kt with
 |none=>rw[hd]at hk;cases hk
 |some d=>
  rw[hd]at hk;unfold Instr.findKey;rw[Sem.run_bind,run_underlying hd,Result.andThen_ok];cases d<;>try cases hk
  case int kk=>
   cases k<;>try cases hk
   rw[key _ hd (λk' c hc=>by
    simp only[eqX,hd]at hc;cases k'<;>try cases hc
    obtain⟨h1,h2⟩:=bL hc;cases h2
    simp[Instr.sameNow,V.inst,jZ h1,bEn]) es 0 f h]
   rfl
  case string=>
   cases k<;>try cases hk
   rw[key _ hd (λk' c hc=>by
    simp only[eqX,hd]at hc;cases k'<;>cases hc
    simp[Instr.sameNow,V.inst,bLk,beq_toListBytes]) es 0 f h]
   rfl
theorem bMr{t kt et:TypeId}(h:bKk t=some (kt,et)):Ctx.P.underlying t=some (.map kt et):=by
 obtain⟨d,hd,h1⟩:=bB h;cases d<;>cases h1
 exact hd
theorem lookup_run(hs:Sim α s w){t kt et:TypeId}{u k r:V}{es:List Ent}{f:Option (Nat×V)}{ok:Bool}(ht:bKk t=some (kt,et))(hk:vX kt k=true)(hm:mapOf u s=some es)(hf:bBj kt k es 0=some f)(hr:foundX ok et f=some r):
  (Instr.lookup t (u.inst α) (k.inst α) ok).run Ctx.P w= .ok (r.inst α) w:=by
 have hu:=bMr ht;have hfr:=bBf (w:=w) (α:=α) hk hf;unfold Instr.lookup;rw[Sem.run_bind,run_underlying hu,Result.andThen_ok];cases u<;>try cases hm
 case m0=>
  simp only[V.inst,Sem.run_bind,Sem.run_pure,Result.andThen_ok,nD hk];rw[show(Instr.findKey kt (k.inst α) (#[]:Array MapEntry).toList).run Ctx.P w=_ from hfr,Result.andThen_ok];unfold foundX at hr;rw[qK]at hr
  cases f with
  |none=>
   obtain⟨z,hz,h1⟩:=bB hr;cases h1;simp only[Option.map_none,Sem.run_bind,uD hz w α,Result.andThen_ok,Sem.run_pure,cJ];cases ok<;>simp[inst_t,V.inst]
  |some q=>
   cases hr;simp only[Option.map_some,Sem.run_bind,Sem.run_pure,Result.andThen_ok,cJ];cases ok<;>simp[inst_t,V.inst]
 case m b=>
  obtain⟨x,hx,h1⟩:=bB hm;obtain⟨es',c,rfl,h2⟩:=uS h1;cases h2;have hb:w.heap[α.blk b]?=some (.map (es.map (entI α)).toArray c):=hs.is _ _ hx;have hg:(getObj (α.blk b)).run Ctx.P w= .ok (.map (es.map (entI α)).toArray c) w:=by simp[getObj,hb,Sem.run]
  simp only[V.inst,Sem.run_bind,hg,Sem.run_pure,Result.andThen_ok,nD hk];rw[show(Instr.findKey kt (k.inst α) (es.map (entI α)).toArray.toList).run Ctx.P w=_ from hfr,Result.andThen_ok];unfold foundX at hr;rw[qK]at hr
  cases f with
  |none=>
   obtain⟨z,hz,h1⟩:=bB hr;cases h1;simp only[Option.map_none,Sem.run_bind,uD hz w α,Result.andThen_ok,Sem.run_pure,cJ];cases ok<;>simp[inst_t,V.inst]
  |some q=>
   cases hr;simp only[Option.map_some,Sem.run_bind,Sem.run_pure,Result.andThen_ok,cJ];cases ok<;>simp[inst_t,V.inst]
end
end X
end
section
namespace X
open Go.RowKit
theorem cO{P:Program}{S:Sem Value}{v:Value}{w w':World}(h:S.run P w= .ok v w'):(do pure (Next.value (<-S)):Sem Next).run P w= .ok (.value v) w':=by
 rw[Sem.run_bind,h];rfl
theorem mA(f:Operand->Value)(b:Builtin)(args:Array Operand)(ts:Array TypeId)(ty:TypeId){P:Program}(w:World):(do let d<-resolve f ⟨.builtin b,args,ts⟩ ty;invoke d.target d.args:Sem Next).run P w=(builtin b ts ty (args.map λ|.const _=>true|_=>false) (args.map f)).run P w:=by
 simp only[resolve,Sem.run_bind,Sem.run_pure,Result.andThen_ok,invoke];rfl
theorem bHs{args:Array Operand}{x:Operand}(h:args.toList=[x])(f:Operand->Value):args.map f= #[f x]:=by
 have:args= #[x]:=by apply Array.ext';simpa using h
 subst this;simp
theorem tV{args:Array Operand}{x y:Operand}(h:args.toList=[x,y])(f:Operand->Value):args.map f= #[f x,f y]:=by
 have:args= #[x,y]:=by apply Array.ext';simpa using h
 subst this;simp
section
variable [Ctx] {α : As} {s : St} {w : World} {N : Nat} {e : E} {a : Act}
theorem call_run(hs:Sim α s w)(he:EOk α s N e a){b:Builtin}{args:Array Operand}{ts:Array TypeId}{v:V}(h:pCall b args.toList ts.toList s e=some v)(ty:TypeId):
  (do let d<-resolve a.eval ⟨.builtin b,args,ts⟩ ty;invoke d.target d.args:Sem Next).run Ctx.P w= .ok (.value (v.inst α)) w:=by
 rw[mA];cases b<;>try cases h
 case len=>
  have h:(match args.toList,ts.toList with
   |[x],[t]=>pLen e x t s
   |_,_=>none)=some v:=h
  split at h
  .rename_i x t hx ht;have et:ts= #[t]:=by apply Array.ext';simpa using ht
   obtain⟨u,hu,h1⟩:=bB h;obtain⟨d,hd,h2⟩:=bB h1;obtain⟨n,hn,h3⟩:=bB h2;cases h3;rw[bHs hx,(bV hs he hu).1,et];exact cO (len_run hs hd hn ty)
  .cases h
 case cap=>
  have h:(match args.toList,ts.toList with
   |[x],[t]=>ob (evX x e) λu=>gd (isSl t) (capX u)
   |_,_=>none)=some v:=h
  split at h
  .rename_i x t hx ht;have et:ts= #[t]:=by apply Array.ext';simpa using ht
   obtain⟨u,hu,h1⟩:=bB h;obtain⟨h2,h3⟩:=bL h1
   have hsl: ∃el,Ctx.P.underlying t=some (.slice el):=by
    unfold isSl at h2;split at h2
    .exact⟨_,by assumption⟩
    .cases h2
   obtain⟨el,hel⟩:=hsl;rw[bHs hx,(bV hs he hu).1,et];refine cO ?_
   cases u with
   |l0=>
    cases h3;simp[Builtin.cap_,run_underlying hel,V.inst,goInt]
   |l k o n c=>
    cases c<;>cases h3
    simp[Builtin.cap_,run_underlying hel,V.inst,goInt,Cap.inst]
   |_=>cases h3
  .cases h
 case unsafeSliceData=>
  have h:(match args.toList with
   |[x]=>ob (evX x e) dataX
   |_=>none)=some v:=h
  split at h
  .rename_i x hx;obtain⟨u,hu,h1⟩:=bB h;rw[bHs hx,(bV hs he hu).1];refine cO ?_
   cases u with
   |l0=>
    cases h1;exact Lib.run_unsafeSliceData_nil w ts ty 0 0
   |l k o n c=>
    obtain⟨h2,h3⟩:=bL (show gd _ _=some v from h1);cases h3;refine Lib.run_unsafeSliceData_row w ts ty ⟨α.blk k,o,none⟩ n (c.inst α) ?_;have:=bBp c α;intro e0;rw[e0]at this;have:c.least=0:=k7
    rw[this]at h2;cases h2
   |_=>cases h1
  .cases h
 case max=>
  have h:(match args.toList with
   |[x,y]=>pMost e true x y
   |_=>none)=some v:=h
  split at h
  .rename_i x y hx;obtain⟨u,hu,h1⟩:=bB h;obtain⟨u',hu',h2⟩:=bB h1;obtain⟨k,p,rfl,h3⟩:=kT h2;obtain⟨k',q,rfl,h4⟩:=kT h3;cases h4;rw[tV hx,(bV hs he hu).1,(bV hs he hu').1];refine cO ?_;simp only[V.inst,cJ,ilt_eq];simp[Builtin.max_,Builtin.max2]
  .cases h
 case min=>
  have h:(match args.toList with
   |[x,y]=>pMost e false x y
   |_=>none)=some v:=h
  split at h
  .rename_i x y hx;obtain⟨u,hu,h1⟩:=bB h;obtain⟨u',hu',h2⟩:=bB h1;obtain⟨k,p,rfl,h3⟩:=kT h2;obtain⟨k',q,rfl,h4⟩:=kT h3;cases h4;rw[tV hx,(bV hs he hu).1,(bV hs he hu').1];refine cO ?_;simp only[V.inst,cJ,ilt_eq];simp[Builtin.min_,Builtin.min2]
  .cases h
theorem bKb{t:TypeId}{q:Bool}(h:isIf t=some q)(hq:(!q)=true): ∃d,Ctx.P.underlying t=some d/\ ∀ms,d≠ .interface ms:=by
 obtain⟨d,hd,h1⟩:=bB h;refine⟨d,hd,λms e0=>?_⟩;subst e0;cases h1;cases hq
theorem pure_run(hs:Sim α s w)(he:EOk α s N e a){o:Oper}{v:V}(h:pureX o.op s e=some v):(execOp a.eval o).run Ctx.P w= .ok (.value (v.inst α)) w:=by
 unfold execOp;cases ho:o.op<;>rw[ho]at h<;>simp only
 case move x=>
  rw[(bV hs he (show evX x e=some v from h)).1];rfl
 case assign x=>
  rw[(bV hs he (show evX x e=some v from h)).1];rfl
 case pick c x y=>
  obtain⟨u,hu,h1⟩:=bB (show ob (evX c e) _=some v from h);obtain⟨t,rfl,h2⟩:=bKp h1;rw[cJ]at h2;rw[(bV hs he hu).1];cases t
  .simp at h2;simp[V.inst,asBool,(bV hs he h2).1]
  .simp at h2;simp[V.inst,asBool,(bV hs he h2).1]
 case binOp op t x y t'=>
  obtain⟨u,hu,h1⟩:=bB (show ob (evX x e) _=some v from h);obtain⟨u',hu',h2⟩:=bB h1;rw[(bV hs he hu).1,(bV hs he hu').1];exact cO (bin_run h2)
 case unOp op t x=>
  obtain⟨u,hu,h1⟩:=bB (show ob (evX x e) _=some v from h);rw[(bV hs he hu).1];refine cO ?_;cases op<;>try cases h1
  case neg=>
   obtain⟨k,z,rfl,h2⟩:=kT (show asI u _=some v from h1);cases h2;simp[Op.unary,Op.intArith,V.inst,bBm]
   congr 1
   exact(Int.zero_sub z).symm
  case not=>
   obtain⟨z,rfl,h2⟩:=bKp (show asB u _=some v from h1);cases h2;simp[Op.unary,V.inst]
 case convert src d x=>
  obtain⟨u,hu,h1⟩:=bB (show ob (evX x e) _=some v from h);rw[(bV hs he hu).1];exact cO (conv_run hs h1)
 case extract x i=>
  obtain⟨u,hu,h1⟩:=bB (show ob (evX x e) _=some v from h);obtain⟨vs,rfl,h2⟩:=asT_some h1;rw[iF]at h2;rw[(bV hs he hu).1];refine cO ?_;rw[inst_t];simp[Instr.extract,List.getElem?_map,h2]
 case load t x=>
  obtain⟨u,hu,h1⟩:=bB (show ob (evX x e) _=some v from h);obtain⟨k,q,rfl,h2⟩:=nW h1;rw[(bV hs he hu).1];refine cO ?_;simp only[V.inst,Instr.loadAt,Instr.sureAddr,Sem.run_bind,Sem.run_pure,Result.andThen_ok,bJj hs h2]
 case fieldAddr t x f=>
  obtain⟨fo,hf,h1⟩:=bB (show ob (fieldAt t f) _=some v from h);obtain⟨u,hu,h2⟩:=bB h1;obtain⟨k,q,rfl,h3⟩:=nW h2;cases h3;rw[(bV hs he hu).1];exact cO (bNn hf)
 case field t x f=>
  obtain⟨⟨ft,fo⟩,hf,h1⟩:=bB (show ob (bCj t f) _=some v from h);obtain⟨u,hu,h2⟩:=bB h1;obtain⟨cs,rfl,h3⟩:=tR h2;rw[(bV hs he hu).1];exact cO (field_run hf h3)
 case indexAddr t x i=>
  obtain⟨z,hz,h1⟩:=bB (show ob (evX i e) _=some v from h);obtain⟨k,n,rfl,h2⟩:=rR h1;obtain⟨q,hq,h3⟩:=bB h2;obtain⟨u,hu,h4⟩:=bB h3;rw[(bV hs he hz).1,(bV hs he hu).1];exact cO (bNr hq h4)
 case index t x i=>
  obtain⟨z,hz,h1⟩:=bB (show ob (evX i e) _=some v from h);obtain⟨k,n,rfl,h2⟩:=rR h1;obtain⟨u,hu,h3⟩:=bB h2;rw[(bV hs he hz).1,(bV hs he hu).1];exact cO (index_run h3)
 case slice t x lo hi mx=>
  obtain⟨u,hu,h1⟩:=bB (show ob (evX x e) _=some v from h);rw[(bV hs he hu).1];exact cO (slice_run hs he h1)
 case nilCheck x=>
  obtain⟨u,hu,h1⟩:=bB (show ob (evX x e) _=some v from h);rw[(bV hs he hu).1]
  cases u with
  |p k q=>
   cases h1;rfl
  |f fn x y=>
   cases fn<;>cases h1
   rw[bIf];rfl
  |_=>cases h1
 case makeFunc fn first cap=>
  obtain⟨x,hx,h1⟩:=bB (show ob (evsX first.toList e) _=some v from h);obtain⟨y,hy,h2⟩:=bB h1;cases h2;have e1:first.map a.eval=(x.map (V.inst α)).toArray:=by apply Array.ext';simpa using (xV hs he hx).1
  have e2:cap.map a.eval=(y.map (V.inst α)).toArray:=by apply Array.ext';simpa using (xV hs he hy).1
  rw[e1,e2,bIf];rfl
 case makeInterface t x=>
  obtain⟨q,hq,h1⟩:=bB (show ob (isIf t) _=some v from h);obtain⟨h2,h3⟩:=bL h1;obtain⟨u,hu,h4⟩:=bB h3;cases h4;obtain⟨d,hd,hne⟩:=bKb hq h2;rw[(bV hs he hu).1];refine cO ?_;unfold Instr.makeInterface;rw[Sem.run_bind,run_underlying hd,Result.andThen_ok];cases d<;>first|exact absurd rfl (hne _)|rfl
 case typeAssert x xt t ok=>
  obtain⟨q,hq,h1⟩:=bB (show ob (isIf t) _=some v from h);obtain⟨h2,h3⟩:=bL h1;obtain⟨u,hu,h4⟩:=bB h3;obtain⟨t',u',rfl,h5⟩:=asE_some h4;obtain⟨h6,h7⟩:=bL h5;cases h7;have h6:t'=t:=by simpa[Nat.beq_eq]using h6
  subst h6;obtain⟨d,hd,hne⟩:=bKb hq h2;rw[(bV hs he hu).1];refine cO ?_;unfold Instr.typeAssert;rw[Sem.run_bind,run_underlying hd,Result.andThen_ok];cases d<;>first|exact absurd rfl (hne _)|(cases ok<;>simp[V.inst,cJ,V.instL])
 case build t parts=>
  obtain⟨z,hz,h1⟩:=bB (show ob (zeroX t) _=some v from h);obtain⟨pl,hp,h2⟩:=bB h1;obtain⟨ps,hps,h3⟩:=bB h2;obtain⟨cs,hc,h4⟩:=bB h3;cases h4;exact cO (build_run hz hp hc (by simpa using (sP hs he hps).1))
 case call c=>
  obtain⟨callee,args,ts⟩:=c
  cases callee with
  |builtin b=>exact call_run hs he h o.type
  |_=>cases h
 case lookup t x ix ok=>
  obtain⟨⟨kt,et⟩,ht,h1⟩:=bB (show ob (bKk t) _=some v from h);obtain⟨u,hu,h2⟩:=bB h1;obtain⟨k,hk,h3⟩:=bB h2;obtain⟨h4,h5⟩:=bL h3;obtain⟨es,hes,h6⟩:=bB h5;obtain⟨f,hf,h7⟩:=bB h6;rw[(bV hs he hu).1,(bV hs he hk).1];exact cO (lookup_run hs ht h4 hes hf h7)
 all_goals cases h
end
end X
end
section
namespace X
open Go.RowKit
def Blk.ro:Blk->Bool
 |.cells _ _ _ ro=>ro
 |.win _=>true
 |.know _=>true
 |_=>false
structure Fr (α:As) (s:St) (w w':World):Prop where
 os:w'.os=w.os
 tape:w'.tape=w.tape
 output:w'.output=w.output
 size:w.heap.size<=w'.heap.size
 block: ∀b,b<w.heap.size->(∀k x,s.h.get k=some x->x.ro=false->α.blk k≠b)->w'.heap[b]?=w.heap[b]?
section
variable [Ctx]
structure Stp (α:As) (s:St) (w:World) (α':As) (s':St) (w':World):Prop where
 same:lT s.n s.c α α'
 n:s.n<=s'.n
 c:s.c<=s'.c
 sim:Sim α' s' w'
 fr:Fr α s w w'
 new: ∀k x,s'.h.get k=some x->(∃k0 x0,s.h.get k0=some x0/\(x.ro=false->x0.ro=false)/\α.blk k0=α'.blk k)\/w.heap.size<=α'.blk k
section
variable {α α' α'' : As} {s s' s'' : St} {w w' w'' : World}
theorem Blk.Is.ext{x:Blk}{n c r r':Nat}(hx:x.Sc n c)(hs:lT n c α α')(hr:w'.heap[r']?=w.heap[r]?)(h:x.Is α w r):x.Is α' w' r':=by
 cases x with
 |cells cs t ext ro=>
  have hm:cs.map (V.inst α)=cs.map (V.inst α'):=List.map_congr_left λv hv=>(hx.1 v hv).1.ext hs
  cases ext with
  |none=>
   show w'.heap[r']?=_;rw[hr,<-hm];exact h
  |some k=>
   obtain⟨rest,h1,h2⟩:=h;refine⟨rest,?_,?_⟩
   .rw[h1,hs.room k (hx.2 k rfl)]
   .rw[hr,<-hm];exact h2
 |map es clock=>
  have hm:es.map (entI α)=es.map (entI α'):=List.map_congr_left λy hy=>by
   simp only[entI,(hx y hy).1.ext hs,(hx y hy).2.ext hs]
  show w'.heap[r']?=_;rw[hr,<-hm];exact h
 |sit y pos=>
  show w'.heap[r']?=_;rw[hr];exact h
 |mit m since seen last=>
  have hm:m.map α.blk=m.map α'.blk:=by
   cases m with
   |none=>rfl
   |some k=>simp[hs.blk k (hx k rfl)]
  show w'.heap[r']?=_;rw[hr,<-hm];exact h
 |win cs=>
  obtain⟨h1,h2⟩:=h;refine⟨?_,λi v hi=>?_⟩
  .have:w'.heap[r']?=some w.heap[r]:=by rw[hr];exact Array.getElem?_eq_getElem h1
   exact(Array.getElem?_eq_some_iff.1 this).1
  .rw[<-(hx v (f5 hi)).1.ext hs,<-h2 i v hi];unfold World.cell?;simp only[hr]
 |know n=>
  obtain⟨o,h1,h2⟩:=h;exact⟨o,hr.trans h1,h2⟩
theorem Blk.Is.lt{x:Blk}{r:Nat}(h:x.Is α w r):r<w.heap.size:=by
 have key: ∀o:Obj,w.heap[r]?=some o->r<w.heap.size:=λo ho=>(Array.getElem?_eq_some_iff.1 ho).1
 cases x with
 |cells cs t ext ro=>
  cases ext with
  |none=>exact key _ h
  |some k=>exact h.elim λrest h=>key _ h.2
 |map es clock=>exact key _ h
 |sit y pos=>exact key _ h
 |mit m since seen last=>exact key _ h
 |win cs=>exact h.1
 |know n=>exact h.elim λo h=>key _ h.1
omit [Ctx]in
theorem Blk.Sc.mono{x:Blk}{n c n' c':Nat}(h:x.Sc n c)(hn:n<=n')(hc:c<=c'):x.Sc n' c':=by
 cases x with
 |cells cs t ext ro=>exact⟨λv hv=>⟨(h.1 v hv).1.mono hn hc,(h.1 v hv).2⟩,λk hk=>Nat.lt_of_lt_of_le (h.2 k hk) hc⟩
 |map es clock=>exact λy hy=>⟨(h y hy).1.mono hn hc,(h y hy).2.mono hn hc⟩
 |sit y pos=>trivial
 |mit m since seen last=>exact λk hk=>Nat.lt_of_lt_of_le (h k hk) hn
 |win cs=>exact λv hv=>⟨(h v hv).1.mono hn hc,(h v hv).2⟩
 |know n=>trivial
theorem Sim.grow(h:Sim α s w)(hb:Below w.heap.size w w'):Sim α s w':=
 ⟨h.gl,h.lt,h.sc,λk x hk=>(h.is k x hk).ext (h.sc k x hk) (lT.refl _ _ _) (hb.block _ (h.is k x hk).lt),h.ne⟩
omit [Ctx]in
theorem Fr.refl:Fr α s w w:=⟨rfl,rfl,rfl,Nat.le_refl _,λ_ _ _=>rfl⟩
theorem Stp.refl(h:Sim α s w):Stp α s w α s w:=⟨lT.refl _ _ _,Nat.le_refl _,Nat.le_refl _,h,Fr.refl,λk x hk=> .inl ⟨k,x,hk,id,rfl⟩⟩
theorem Stp.trans(h:Stp α s w α' s' w')(k:Stp α' s' w' α'' s'' w''):Stp α s w α'' s'' w'' where
 same:=h.same.trans k.same h.n h.c
 n:=Nat.le_trans h.n k.n
 c:=Nat.le_trans h.c k.c
 sim:=k.sim
 fr:=⟨k.fr.os.trans h.fr.os,k.fr.tape.trans h.fr.tape,k.fr.output.trans h.fr.output,Nat.le_trans h.fr.size k.fr.size,λb hb hn=>by
  refine(k.fr.block b (Nat.lt_of_lt_of_le hb h.fr.size) λi x hi hr e=>?_).trans (h.fr.block b hb hn)
  rcases h.new i x hi with ⟨k0,x0,h1,h2,h3⟩|h1
  .exact hn k0 x0 h1 (h2 hr) (h3.trans e)
  .omega⟩
 new:=λi x hi=>by
  rcases k.new i x hi with ⟨k0,x0,h1,h2,h3⟩|h1
  .rcases h.new k0 x0 h1 with ⟨k1,x1,h4,h5,h6⟩|h4
   .exact .inl ⟨k1,x1,h4,λhr=>h5 (h2 hr),h6.trans h3⟩
   .exact .inr (by rw[<-h3];exact h4)
  .exact .inr (Nat.le_trans h.fr.size h1)
theorem Stp.make(hs:Sim α s w)(M:Nat->Prop)(same:lT s.n s.c α α')(hn:s.n<=s'.n)(hc:s.c<=s'.c)(ho:w'.os=w.os)(ht:w'.tape=w.tape)(hp:w'.output=w.output)(hz:w.heap.size<=w'.heap.size)
  (kept: ∀b,b<w.heap.size-> ¬M b->w'.heap[b]?=w.heap[b]?) (hM: ∀b,M b->b<w.heap.size-> ∃k x,s.h.get k=some x/\x.ro=false/\α.blk k=b)
  (old: ∀k x,s'.h.get k=some x->(s.h.get k=some x/\ ¬M (α.blk k))\/(k<s'.n/\x.Sc s'.n s'.c/\x.Is α' w' (α'.blk k)/\(w.heap.size<=α'.blk k\/ ∃k0 x0,s.h.get k0=some x0/\x0.ro=false/\α.blk k0=α'.blk k)))
  (ne: ∀k k' x x',s'.h.get k=some x->s'.h.get k'=some x'->α'.blk k=α'.blk k'->k=k'):Stp α s w α' s' w' where
 same:=same
 n:=hn
 c:=hc
 sim:=⟨λg k hk=>by
   obtain⟨h1,h2⟩:=hs.gl g k hk
   exact⟨Nat.lt_of_lt_of_le h1 hn,by rw[<-same.blk k h1];exact h2⟩,
  λk x hk=>by
   rcases old k x hk with ⟨h1,_⟩|h1
   .exact Nat.lt_of_lt_of_le (hs.lt k x h1) hn
   .exact h1.1,
  λk x hk=>by
   rcases old k x hk with ⟨h1,_⟩|h1
   .exact(hs.sc k x h1).mono hn hc
   .exact h1.2.1,
  λk x hk=>by
   rcases old k x hk with ⟨h1,h2⟩|h1
   .have h3:=hs.is k x h1;rw[<-same.blk k (hs.lt k x h1)];exact h3.ext (hs.sc k x h1) same (kept _ h3.lt h2)
   .exact h1.2.2.1,
  ne⟩
 fr:=⟨ho,ht,hp,hz,λb hb hnb=>kept b hb λhm=>by
  obtain⟨k,x,h1,h2,h3⟩:=hM b hm hb
  exact hnb k x h1 h2 h3⟩
 new:=λk x hk=>by
  rcases old k x hk with ⟨h1,_⟩|h1
  .exact .inl ⟨k,x,h1,id,same.blk k (hs.lt k x h1)⟩
  .rcases h1.2.2.2 with h2|⟨k0,x0,h2,h3,h4⟩
   .exact .inr h2
   .exact .inl ⟨k0,x0,h2,λ_=>h3,h4⟩
omit [Ctx]in
theorem gC{t:T Blk}{v:Option Blk}{n j:Nat}{u:Blk}(h:(t.set v fuelT n).get j=some u):(j=n/\v=some u)\/(j≠n/\t.get j=some u):=T.get_set_fuel v fuelT t n j u h
def As.new(α:As)(n r c m:Nat):As:={α with blk:=λk=>if k=n then r else α.blk k,room:=λk=>if k=c then m else α.room k}
omit [Ctx]in
theorem mE(α:As)(n r c m:Nat):lT n c α (α.new n r c m):=
 ⟨λk hk=>by simp[As.new];omega,λk hk=>by simp[As.new];omega,λ_ _=>rfl⟩
theorem Stp.alloc(hs:Sim α s w){x:Blk}{c' r m:Nat}(hw:Below w.heap.size w w')(hr:w.heap.size<=r)(hc:s.c<=c')(hx:x.Sc (s.n+1) c')(hi:x.Is (α.new s.n r s.c m) w' r):
  Stp α s w (α.new s.n r s.c m) {h:=s.h.set (some x) fuelT s.n,n:=s.n+1,c:=c'} w':=by
 have hb: ∀k y,s.h.get k=some y->(α.new s.n r s.c m).blk k=α.blk k/\α.blk k<w.heap.size:=λk y hk=>by
  have:=hs.lt k y hk;refine⟨by simp[As.new];omega,(hs.is k y hk).lt⟩
 have hb0:(α.new s.n r s.c m).blk s.n=r:=by simp[As.new]
 refine Stp.make hs (λ_=>False) (mE _ _ _ _ _) (Nat.le_succ _) hc hw.os hw.tape hw.output hw.size (λb hb _=>hw.block b hb) (λ_ h=>h.elim) (λk y hk=>?_) (λk k' y y' hk hk' e=>?_)
 .rcases gC hk with ⟨rfl,e⟩|⟨_,h⟩
  .injection e with e
   subst e;exact .inr ⟨Nat.lt_succ_self _,hx,by rw[hb0];exact hi,.inl (by rw[hb0];exact hr)⟩
  .exact .inl ⟨h,λh=>h⟩
 .rcases gC hk with ⟨rfl,_⟩|⟨h1,h⟩<;>rcases gC hk' with ⟨rfl,_⟩|⟨h1',h'⟩
  .rfl
  .have:=hb k' y' h';rw[hb0]at e;omega
  .have:=hb k y h;rw[hb0]at e;omega
  .rw[(hb k y h).1,(hb k' y' h').1]at e;exact hs.ne k k' y y' h h' e
theorem Stp.put(hs:Sim α s w){k:Nat}{x0 x:Blk}(hk:s.h.get k=some x0)(hro:x0.ro=false)(ho:w'.os=w.os)(ht:w'.tape=w.tape)(hp:w'.output=w.output)(hz:w.heap.size<=w'.heap.size)
  (kept: ∀b,b<w.heap.size->b≠α.blk k->w'.heap[b]?=w.heap[b]?) (hx:x.Sc s.n s.c) (hi:x.Is α w' (α.blk k)):Stp α s w α (s.put k x) w':=by
 refine Stp.make hs (λb=>b=α.blk k) (lT.refl _ _ _) (Nat.le_refl _) (Nat.le_refl _) ho ht hp hz kept (λb hb _=>⟨k,x0,hk,hro,hb.symm⟩) (λj y hj=>?_) (λj j' y y' hj hj' e=>?_)
 .rcases gC hj with ⟨rfl,e⟩|⟨h1,h⟩
  .injection e with e
   subst e;exact .inr ⟨hs.lt _ _ hk,hx,hi,.inr ⟨_,x0,hk,hro,rfl⟩⟩
  .exact .inl ⟨h,λe=>h1 (hs.ne j k y x0 h hk e)⟩
 .rcases gC hj with ⟨rfl,_⟩|⟨h1,h⟩<;>rcases gC hj' with ⟨rfl,_⟩|⟨h1',h'⟩
  .rfl
  .exact hs.ne _ _ _ _ hk h' e
  .exact hs.ne _ _ _ _ h hk e
  .exact hs.ne _ _ _ _ h h' e
theorem Stp.drop(hs:Sim α s w){k:Nat}{x0:Blk}(hk:s.h.get k=some x0)(hro:x0.ro=false)(ho:w'.os=w.os)(ht:w'.tape=w.tape)(hp:w'.output=w.output)(hz:w.heap.size<=w'.heap.size)
  (kept: ∀b,b<w.heap.size->b≠α.blk k->w'.heap[b]?=w.heap[b]?):Stp α s w α (s.drop k) w':=by
 refine Stp.make hs (λb=>b=α.blk k) (lT.refl _ _ _) (Nat.le_refl _) (Nat.le_refl _) ho ht hp hz kept (λb hb _=>⟨k,x0,hk,hro,hb.symm⟩) (λj y hj=>?_) (λj j' y y' hj hj' e=>?_)
 .rcases gC hj with ⟨_,e⟩|⟨h1,h⟩
  .cases e
  .exact .inl ⟨h,λe=>h1 (hs.ne j k y x0 h hk e)⟩
 .rcases gC hj with ⟨_,e1⟩|⟨_,h⟩
  .cases e1
  .rcases gC hj' with ⟨_,e1⟩|⟨_,h'⟩
   .cases e1
   .exact hs.ne _ _ _ _ h h' e
theorem Stp.move(hs:Sim α s w){k m c':Nat}{x0 x:Blk}(hk:s.h.get k=some x0)(hro:x0.ro=false)(ho:w'.os=w.os)(ht:w'.tape=w.tape)(hp:w'.output=w.output)(hz:w.heap.size<=w'.heap.size)
  (kept: ∀b,b<w.heap.size->b≠α.blk k->w'.heap[b]?=w.heap[b]?) (hc:s.c<=c') (hx:x.Sc (s.n+1) c') (hi:x.Is (α.new s.n (α.blk k) s.c m) w' (α.blk k)):
  Stp α s w (α.new s.n (α.blk k) s.c m) {h:=(s.h.set none fuelT k).set (some x) fuelT s.n,n:=s.n+1,c:=c'} w':=by
 have hb: ∀j y,s.h.get j=some y->(α.new s.n (α.blk k) s.c m).blk j=α.blk j:=λj y hj=>by
  have:=hs.lt j y hj;simp[As.new];omega
 have hb0:(α.new s.n (α.blk k) s.c m).blk s.n=α.blk k:=by simp[As.new]
 refine Stp.make hs (λb=>b=α.blk k) (mE _ _ _ _ _) (Nat.le_succ _) hc ho ht hp hz kept (λb hb _=>⟨k,x0,hk,hro,hb.symm⟩) (λj y hj=>?_) (λj j' y y' hj hj' e=>?_)
 .rcases gC hj with ⟨rfl,e⟩|⟨_,h⟩
  .injection e with e
   subst e;exact .inr ⟨Nat.lt_succ_self _,hx,by rw[hb0];exact hi,.inr ⟨k,x0,hk,hro,hb0.symm⟩⟩
  .rcases gC h with ⟨_,e⟩|⟨h1,h⟩
   .cases e
   .exact .inl ⟨h,λe=>h1 (hs.ne j k y x0 h hk e)⟩
 .have two: ∀j y,(s.h.set none fuelT k).get j=some y->j≠k/\s.h.get j=some y:=λj y h=>by
   rcases gC h with ⟨_,e⟩|h
   .cases e
   .exact h
  rcases gC hj with ⟨rfl,_⟩|⟨_,h⟩<;>rcases gC hj' with ⟨rfl,_⟩|⟨_,h'⟩
  .rfl
  .obtain⟨h1,h2⟩:=two _ _ h';rw[hb0,hb _ _ h2]at e;exact absurd (hs.ne _ _ _ _ hk h2 e).symm h1
  .obtain⟨h1,h2⟩:=two _ _ h;rw[hb0,hb _ _ h2]at e;exact absurd (hs.ne _ _ _ _ h2 hk e) h1
  .obtain⟨_,h2⟩:=two _ _ h;obtain⟨_,h2'⟩:=two _ _ h';rw[hb _ _ h2,hb _ _ h2']at e;exact hs.ne _ _ _ _ h2 h2' e
end
end
end X
end
section
namespace X
open Go.RowKit
theorem range_rep(z:List Value): ∀n:Nat,((Array.range (n*z.length)).map λi=>z.toArray[i%z.length]!)=(qE n z).toArray:=by
 intro n;apply Array.ext';simp only[Array.toList_map,Array.toList_range];rw[bHn]
 induction n with
 |zero=>simp
 |succ n ih=>
  rw[List.replicate_succ,List.flatten_cons,<-ih,Nat.succ_mul,Nat.add_comm,List.range_add,List.map_append]
  congr 1
  .apply List.ext_getElem
   .simp
   .intro i h1 h2;simp at h1;simp[Nat.mod_eq_of_lt h1,h1]
  .simp[List.map_map,Function.comp_def]
section
variable [Ctx] {α : As} {s : St} {w : World} {N : Nat} {e : E} {a : Act}
theorem sU{t:TypeId}{z:V}(h:zeroX t=some z)(n c:Nat):z.Sc n c:=by
 obtain⟨i,_,h1⟩:=bB h;obtain⟨u,_,h2⟩:=bB h1;exact ofV_sc h2 n c
theorem uB(hs:Sim α s w){cs:List V}(t:TypeId)(hc: ∀v∈cs,v.Sc s.n s.c/\v.one=true): ∃α',Stp α s w α' (s.new (.cells cs t none false)) (w.alloc (.cells (cs.map (V.inst α)).toArray t))/\α'.blk s.n=w.heap.size:=by
 refine⟨α.new s.n w.heap.size s.c 0,Stp.alloc hs (c':=s.c) ((Below.refl _ _).alloc (Nat.le_refl _) _) (Nat.le_refl _) (Nat.le_refl _) ⟨λv hv=>⟨(hc v hv).1.mono (Nat.le_succ _) (Nat.le_refl _),(hc v hv).2⟩,λk hk=>by cases hk⟩ ?_,by simp[As.new]⟩;show(w.alloc _).heap[w.heap.size]?=_;rw[heap_alloc_new];have:cs.map (V.inst α)=cs.map (V.inst (α.new s.n w.heap.size s.c 0)):=List.map_congr_left λv hv=>(hc v hv).1.ext (mE _ _ _ _ _);rw[this]
theorem new_obj(hs:Sim α s w){x:Blk}{o:Obj}(hx:x.Sc s.n s.c)(hi: ∀β w' r,w'.heap[r]?=some o->x.Is β w' r): ∃α',Stp α s w α' (s.new x) (w.alloc o)/\α'.blk s.n=w.heap.size:=by
 refine⟨α.new s.n w.heap.size s.c 0,Stp.alloc hs (c':=s.c) ((Below.refl _ _).alloc (Nat.le_refl _) _) (Nat.le_refl _) (Nat.le_refl _) (hx.mono (Nat.le_succ _) (Nat.le_refl _)) (hi _ _ _ (heap_alloc_new _ _)),by simp[As.new]⟩
def bHc (o:Oper)(a:Act)(α:As)(s:St)(w:World):R->Prop
 |.v v s'=> ∃α' w',(execOp a.eval o).run Ctx.P w= .ok (.value (v.inst α')) w'/\Stp α s w α' s' w'
 |.sk s'=> ∃α' w',(execOp a.eval o).run Ctx.P w= .ok .skip w'/\Stp α s w α' s' w'
 |.call f args s'=>s'=s/\(execOp a.eval o).run Ctx.P w=(callFunc f (args.map (V.inst α)).toArray).run Ctx.P w/\ ∀v∈args,v.Sc s.n s.c
omit [Ctx]in
theorem bAw{P:Program}{S:Sem Unit}{w w':World}(h:S.run P w= .ok () w'):(do S;pure Next.skip:Sem Next).run P w= .ok .skip w':=by
 rw[Sem.run_bind,h];rfl
theorem tM(hs:Sim α s w){k o:Nat}{vs:List V}{s':St}(h:bAc k o vs s=some s')(hv: ∀v∈vs,v.Sc s.n s.c)(h1: ∀v∈vs,v.one=true):
  ∃w',(storeCells ⟨α.blk k,o,none⟩ (vs.map (V.inst α))).run Ctx.P w= .ok () w'/\Stp α s w α s' w':=by
 obtain⟨x,hx,h2⟩:=bB h;obtain⟨cs,t,ext,ro,rfl,h3⟩:=wF h2;obtain⟨hro,h4⟩:=bL h3;obtain⟨cs',hc,h5⟩:=bB h4;cases h5;have hro:ro=false:=by simpa using hro
 subst hro;obtain⟨h6,h7⟩:=pZ _ _ _ _ hc;obtain⟨rest,hr,h0⟩:=hs.cells hx
 have hst:=run_storeCells_at (P:=Ctx.P) (α.blk k) o t (vs.map (V.inst α)) 0 (cs.map (V.inst α)++rest).toArray w hr o7 (λu hu=>by
  obtain⟨v,hv,rfl⟩:=List.mem_map.1 hu
  exact one_inst α (h1 v hv))
 simp only[Nat.add_zero,List.length_map]at hst
 have hcells:((cs.map (V.inst α)++rest).toArray.toList.take o++vs.map (V.inst α)++(cs.map (V.inst α)++rest).toArray.toList.drop (o+vs.length))=cs'.map (V.inst α)++rest:=by
  rw[h7];simp only[List.map_append,List.map_take,List.map_drop];rw[List.take_append_of_le_length o7,List.drop_append_of_le_length o7];simp
 rw[hcells]at hst;refine⟨_,hst,Stp.put hs hx rfl rfl rfl rfl m9 (λb hb hne=>setRow_other _ _ _ _ hne) ⟨λv hm=>?_,(hs.sc _ _ hx).2⟩ ?_⟩
 .rw[h7]at hm
  rcases List.mem_append.1 hm with hm|hm
  .rcases List.mem_append.1 hm with hm|hm
   .exact(hs.sc _ _ hx).1 v (List.mem_of_mem_take hm)
   .exact⟨hv v hm,h1 v hm⟩
  .exact(hs.sc _ _ hx).1 v (List.mem_of_mem_drop hm)
 .have hb:=setRow_heap w (α.blk k) _ (cs'.map (V.inst α)++rest).toArray t _ hr
  cases ext with
  |none=>
   have:=h0 rfl;subst this
   simpa[Blk.Is]using hb
  |some c=>
   obtain⟨rest',hl,hr'⟩:=hs.is _ _ hx;rw[hr]at hr';have:rest=rest':=by simpa using hr'
   subst this;exact⟨rest,hl,hb⟩
theorem src_run(hs:Sim α s w){sz n:Nat}{u:V}{news:List V}{tx:TypeId}(ht:(∃q,Ctx.P.underlying tx=some (.slice q))\/Ctx.P.underlying tx=some .string)(h:newsX sz u s=some (n,news)):
  Src Ctx.P sz tx (u.inst α) n (news.map (V.inst α)) w/\(∀v∈news,v.Sc s.n s.c/\v.one=true)/\news.length=n*sz:=by
 have hsD:Sim α s w.drew:=hs.grow ((Below.refl _ _).drew)
 have nil: ∀v:Value,(∀w':World,(Builtin.lenOf v).run Ctx.P w'= .ok 0 w')->(∀w':World,(Builtin.firstCells sz 0 v).run Ctx.P w'= .ok #[] w')->Src Ctx.P sz tx v 0 (([]:List V).map (V.inst α)) w/\(∀v∈([]:List V),v.Sc s.n s.c/\v.one=true)/\([]:List V).length=0*sz:=λv h1 h2=>
  ⟨⟨ht,h1,h2 w,h2 w.drew,m9,m9⟩,m9,m9⟩
 cases u<;>try cases h
 case s x=>
  obtain⟨h1,h2⟩:=bL (show gd _ _=some (n,news)from h);cases h2;have h1:sz=1:=by simpa[Nat.beq_eq]using h1
  subst h1
  have hm:(x.map λy=>V.i .u8 (.ofNat (y%256))).map (V.inst α)=byteCells (bQ x):=by
   simp only[byteCells,bQ,List.map_map];exact List.map_congr_left λy _=>by simp[V.inst]
  have hsz:=nH x;refine⟨?_,λv hv=>?_,m9⟩
  .rw[hm];refine⟨ht,λ_=>by simp[V.inst,Builtin.lenOf,hsz],?_,?_,by rw[byteCells_length,hsz,Nat.mul_one],λu hu=>?_⟩
   .have:=firstCells_string (P:=Ctx.P) (bQ x) w;rw[hsz]at this;exact this
   .have:=firstCells_string (P:=Ctx.P) (bQ x) w.drew;rw[hsz]at this;exact this
   .obtain⟨_,_,rfl⟩:=List.mem_map.1 hu;rfl
  .obtain⟨y,_,rfl⟩:=List.mem_map.1 hv;exact⟨⟨1,by rw[iN]⟩,rfl⟩
 case l0=>exact nil _ (λ_=>rfl) (λ_=>rfl)
 case z k o o' c=>exact nil _ (λ_=>rfl) (λ_=>by simp[V.inst,Builtin.firstCells,loadCells,loadCellsFrom])
 case y c=>exact nil _ (λ_=>rfl) (λ_=>by simp only[V.inst];cases α.place c<;>simp[Builtin.firstCells,loadCells,loadCellsFrom])
 case l k o m c=>
  obtain⟨cs,hc,h1⟩:=bB (show ob (bDs s k o (m*sz)) _=some (n,news)from h);cases h1;obtain⟨h2,h3⟩:=oP hs hc;obtain⟨_,h3D⟩:=oP hsD hc
  have key: ∀w:World,(∀j v,news[j]?=some v->w.cell? ⟨α.blk k,o+j,none⟩=some (v.inst α))->(Builtin.firstCells sz n (.slice (some ⟨α.blk k,o,none⟩) n (c.inst α))).run Ctx.P w= .ok (news.map (V.inst α)).toArray w:=λw h3=>by
   have:=run_loadCells_list (P:=Ctx.P) w ⟨α.blk k,o,none⟩ (news.map (V.inst α)) (λj u hj=>by
    rw[List.getElem?_map]at hj
    cases hu:news[j]? with
    |none=>rw[hu]at hj;cases hj
    |some u'=>
     rw[hu]at hj;cases hj;rw[lB]
     exact h3 j u' hu)
   rw[List.length_map,h2]at this;exact this
  have hsc:=row_sc hs hc
  exact⟨⟨ht,λ_=>rfl,key w h3,key w.drew h3D,by rw[List.length_map,h2],λu hu=>by
   obtain⟨v,hv,rfl⟩:=List.mem_map.1 hu
   exact one_inst α (hsc v hv).2⟩,hsc,h2⟩
theorem drop_stp(hs:Sim α s w){k:Nat}{x0:Blk}(hk:s.h.get k=some x0)(hro:x0.ro=false):Stp α s w α (s.drop k) w:=Stp.drop hs hk hro rfl rfl rfl (Nat.le_refl _) (λ_ _ _=>rfl)
section
variable {t t' ty el : TypeId} {i : TypeInfo} {z0 : Value}
theorem bDh(hs:Sim α s w)(hu:Ctx.P.underlying t=some (.slice el))(hi:Ctx.P.info? el=some i)(hz0:i.zero=some z0)(hzc:z0.cells.size=i.size){base:Option Addr}{m cap n:Nat}{olds news:List V}{x:Value}
  (hold:(Builtin.firstCells i.size m (.slice base m cap)).run Ctx.P w.drew= .ok (olds.map (V.inst α)).toArray w.drew) (hsrc:Src Ctx.P i.size t' x n (news.map (V.inst α)) w)
  (ho: ∀v∈olds,v.Sc s.n s.c/\v.one=true) (hn: ∀v∈news,v.Sc s.n s.c/\v.one=true) (hg:cap<m+n) (h63:m+n<=pow47) (hb:(m+n)*i.bytes<=pow47):
  ∃α' w',(Builtin.append_ #[t,t'] ty #[.slice base m cap,x]).run Ctx.P w= .ok ((V.l s.n 0 (m+n) (.s s.c (m+n))).inst α') w'/\
   Stp α s w α' {h:=s.h.set (some (.cells (olds++news) el (some s.c) false)) fuelT s.n,n:=s.n+1,c:=s.c+1} w':=by
 have hr:=run_append_grow_src (P:=Ctx.P) w t t' ty el i z0 hu hi hz0 base m cap (olds.map (V.inst α)) hold x n (news.map (V.inst α)) hsrc hg (by simp only[pow47]at h63;omega) (growslice_fits hg hb);have hge:=grownCap_ge w (m+n) cap el;generalize grownCap w (m+n) cap el=C at hr hge
 have hnew: ∀v∈olds++news,v.Sc s.n s.c/\v.one=true:=λv hv=>by
  rcases List.mem_append.1 hv with hv|hv
  .exact ho v hv
  .exact hn v hv
 have hbl:Below w.heap.size w (w.drew.alloc (.cells ((olds.map (V.inst α)++news.map (V.inst α)).toArray++Builtin.zeroCells z0.cells (C-(m+n))) el)):=(Below.refl _ _).drew.alloc (Nat.le_refl _) _;refine⟨α.new s.n w.heap.size s.c (C-(m+n)),_,?_,Stp.alloc hs (c':=s.c+1) hbl (Nat.le_refl _) (Nat.le_succ _) ⟨λv hv=>⟨(hnew v hv).1.mono (Nat.le_succ _) (Nat.le_succ _),(hnew v hv).2⟩,λk hk=>by cases hk;exact Nat.lt_succ_self _⟩ ?_⟩
 .rw[hr];simp only[V.inst,Cap.inst,As.new,if_true]
  congr 2
  omega
 .refine⟨(Builtin.zeroCells z0.cells (C-(m+n))).toList,?_,?_⟩
  .simp only[Array.length_toList,size_zeroCells,hzc,As.new,if_true,Program.cellsOf,hi,Option.map_some,Option.getD_some]
  .have hm:(olds++news).map (V.inst (α.new s.n w.heap.size s.c (C-(m+n))))=olds.map (V.inst α)++news.map (V.inst α):=by
    rw[<-List.map_append];exact(List.map_congr_left λv hv=>(hnew v hv).1.ext (mE _ _ _ _ _)).symm
   rw[hm];show(w.drew.alloc _).heap[w.drew.heap.size]?=_;rw[heap_alloc_new]
   congr 2
   apply Array.ext';simp
theorem nothing_run(hu:Ctx.P.underlying t=some (.slice el))(hi:Ctx.P.info? el=some i){base:Option Addr}{m cap:Nat}{x:Value}(hm:m<=cap)(hsrc:Src Ctx.P i.size t' x 0 [] w):
  (Builtin.append_ #[t,t'] ty #[.slice base m cap,x]).run Ctx.P w= .ok (.slice base m cap) w:=by
 rcases hsrc.kind with ⟨e',hk⟩|hk<;>cases base<;>simp[Builtin.append_,run_underlying hu,run_underlying hk,sizeOf,typeInfo,hi,hsrc.len,hm,hsrc.cells,storeCells]
theorem append_run(hs:Sim α s w){sz by_:Nat}{u v z:V}{r:R}(hu:Ctx.P.underlying t=some (.slice el))(hsz:sizeX el=some sz)(hz:zeroX el=some z)(hzl:z.cells.length=sz)(hby:bytesOf el=some by_)
  (ht:(∃q,Ctx.P.underlying t'=some (.slice q))\/Ctx.P.underlying t'=some .string) (h:appendX el sz by_ u v s=some r):
  ∃α' w' x s',r= .v x s'/\(Builtin.append_ #[t,t'] ty #[u.inst α,v.inst α]).run Ctx.P w= .ok (x.inst α') w'/\Stp α s w α' s' w':=by
 obtain⟨i,hi,rfl⟩:=iZ hsz
 obtain⟨i',hi',h1⟩:=bB hby
 obtain rfl:i=i':=Option.some.inj (hi.symm.trans hi');cases h1;obtain⟨i',hi',h1⟩:=bB hz;obtain rfl:i=i':=Option.some.inj (hi.symm.trans hi');obtain⟨z0,hz0,h2⟩:=bB h1
 have hzc:z0.cells.size=i.size:=by
  rw[<-tP (α:=α) h2,gZ,<-hzl];simp
 clear h1 h2 hi';obtain⟨⟨n,news⟩,hn,h1⟩:=bB h;obtain⟨hsrc,hnews,hnl⟩:=src_run hs ht hn;have h1:apX el i.size i.bytes u n news s=some r:=h1
 have zero: ∀{base:Option Addr} {m cap:Nat},n=0->m<=cap->(Builtin.append_ #[t,t'] ty #[.slice base m cap,v.inst α]).run Ctx.P w= .ok (.slice base m cap) w:=λ{base m cap} hn0 hm=>by
  subst hn0;have:news=[]:=List.eq_nil_of_length_eq_zero (by simpa using hnl);subst this;exact nothing_run hu hi hm hsrc
 have hsD:Sim α s w.drew:=hs.grow ((Below.refl _ _).drew)
 have olds_of: ∀{k o m cap:Nat} {olds:List V},bDs s k o (m*i.size)=some olds->(Builtin.firstCells i.size m (.slice (some ⟨α.blk k,o,none⟩) m cap)).run Ctx.P w.drew= .ok (olds.map (V.inst α)).toArray w.drew:=λ{k o m cap olds} ho=>by
  obtain⟨h2,h3⟩:=oP hsD ho
  have:=run_loadCells_list (P:=Ctx.P) w.drew ⟨α.blk k,o,none⟩ (olds.map (V.inst α)) (λj u hj=>by
   rw[List.getElem?_map]at hj
   cases hu:olds[j]? with
   |none=>rw[hu]at hj;cases hj
   |some u'=>
    rw[hu]at hj;cases hj;rw[lB]
    exact h3 j u' hu)
  rw[List.length_map,h2]at this;exact this
 cases u with
 |l0=>
  have h1:sel (Nat.beq n 0) (some (R.v .l0 s)) (gd (Nat.ble n pow47&&Nat.ble (n*i.bytes) pow47) (some (bKg el n news s)))=some r:=h1;rw[cJ]at h1
  by_cases hn0:Nat.beq n 0=true
  .rw[if_pos hn0]at h1;cases h1;exact⟨α,w,_,_,rfl,zero aa1 (Nat.le_refl _),Stp.refl hs⟩
  .rw[if_neg hn0]at h1;obtain⟨h2,h3⟩:=bL h1;cases h3;rw[Bool.and_eq_true]at h2;have hn0:n≠0:=λe0=>hn0 (by rw[e0];rfl);obtain⟨α',w',h4,h5⟩:=bDh (ty:=ty) (t:=t) (t':=t') hs hu hi hz0 hzc (base:=none) (m:=0) (cap:=0) (olds:=[]) rfl hsrc m9 hnews k7 (by simpa using fI h2.1) (by simpa using fI h2.2);simp only[Nat.zero_add,List.nil_append]at h4 h5;exact⟨α',w',_,_,rfl,h4,h5⟩
 |l k o m c=>
  have h1:apL el i.bytes i.size k o m n news c s=some r:=h1
  cases c with
  |n c=>
   have h1:sel (Nat.ble (m+n) c) (apFits k o m (.n c) i.size n news) (apGrows el i.bytes k o m i.size n news) s=some r:=h1;rw[cJ]at h1
   by_cases hfit:Nat.ble (m+n) c=true
   .rw[if_pos hfit]at h1;have hfit:=fI hfit;have h1:sel (Nat.beq n 0) (some (R.v (.l k o m (.n c)) s)) (ob (bAc k (o+m*i.size) news s) λs'=>some (.v (.l k o (m+n) (.n c)) s'))=some r:=h1;rw[cJ]at h1
    by_cases hn0:Nat.beq n 0=true
    .rw[if_pos hn0]at h1;cases h1;exact⟨α,w,_,_,rfl,zero aa1 (show m<=c by omega),Stp.refl hs⟩
    .rw[if_neg hn0]at h1;obtain⟨s',hst,h2⟩:=bB h1;cases h2;obtain⟨w',hw,hstp⟩:=tM hs hst (λv hv=>(hnews v hv).1) (λv hv=>(hnews v hv).2);refine⟨α,w',_,_,rfl,?_,hstp⟩;have hadd:(⟨α.blk k,o,none⟩:Addr).add (m*i.size)=⟨α.blk k,o+m*i.size,none⟩:=lB _ _ _
     rcases hsrc.kind with ⟨e',hk⟩|hk<;>simp[Builtin.append_,run_underlying hu,run_underlying hk,sizeOf,typeInfo,hi,hsrc.len,hfit,hsrc.cells,V.inst,Cap.inst,hadd,hw]
   .rw[if_neg hfit]at h1;obtain⟨h2,h3⟩:=bL (show gd _ _=some r from h1);obtain⟨olds,ho,h4⟩:=bB h3;cases h4;rw[Bool.and_eq_true]at h2
    have hlt:c<m+n:=by
     rcases Nat.lt_or_ge c (m+n)with hh|hh
     .exact hh
     .exact absurd (show Nat.ble (m+n) c=true by rw[Nat.ble_eq];exact hh) hfit
    obtain⟨α',w',h5,h6⟩:=bDh (ty:=ty) (t:=t) (t':=t') hs hu hi hz0 hzc (base:=some ⟨α.blk k,o,none⟩) (m:=m) (cap:=c) (olds_of ho) hsrc (row_sc hs ho) hnews hlt (fI h2.1) (fI h2.2);exact⟨α',w',_,_,rfl,h5,h6⟩
  |s cn d=>
   have h1:sel (Nat.ble (m+n) d) (apFits k o m (.s cn d) i.size n news) (λs=>gd (Nat.beq o 0) (apRow el i.bytes k m cn d i.size n news s)) s=some r:=h1;rw[cJ]at h1
   by_cases hfit:Nat.ble (m+n) d=true
   .rw[if_pos hfit]at h1;have hfit:=fI hfit;have hfit2:m+n<=d+α.room cn:=k7
    have h1:sel (Nat.beq n 0) (some (R.v (.l k o m (.s cn d)) s)) (ob (bAc k (o+m*i.size) news s) λs'=>some (.v (.l k o (m+n) (.s cn d)) s'))=some r:=h1;rw[cJ]at h1
    by_cases hn0:Nat.beq n 0=true
    .rw[if_pos hn0]at h1;cases h1;exact⟨α,w,_,_,rfl,zero aa1 (show m<=d+α.room cn by omega),Stp.refl hs⟩
    .rw[if_neg hn0]at h1;obtain⟨s',hst,h2⟩:=bB h1;cases h2;obtain⟨w',hw,hstp⟩:=tM hs hst (λv hv=>(hnews v hv).1) (λv hv=>(hnews v hv).2);refine⟨α,w',_,_,rfl,?_,hstp⟩;have hadd:(⟨α.blk k,o,none⟩:Addr).add (m*i.size)=⟨α.blk k,o+m*i.size,none⟩:=lB _ _ _
     rcases hsrc.kind with ⟨e',hk⟩|hk<;>simp[Builtin.append_,run_underlying hu,run_underlying hk,sizeOf,typeInfo,hi,hsrc.len,hfit2,hsrc.cells,V.inst,Cap.inst,hadd,hw]
   rw[if_neg hfit]at h1;obtain⟨ho0,h2⟩:=bL (show gd _ _=some r from h1);have ho0:o=0:=by simpa[Nat.beq_eq]using ho0
   subst ho0;obtain⟨x,hx,h3⟩:=bB h2;obtain⟨cs,el',ext,ro,rfl,h4⟩:=wF h3
   cases ext with
   |none=>cases h4
   |some cn'=>
    obtain⟨h5,h6⟩:=bL (show gd _ _=some r from h4);obtain⟨olds,holds,h7⟩:=bB h6;cases h7;simp only[Bool.and_eq_true,Bool.not_eq_true',Nat.beq_eq]at h5;obtain⟨hro,rfl,rfl,hd,hmd,h63,hb⟩:=h5;have hmd:=fI hmd
    have hrow:bDs s k 0 (m*i.size)=some olds:=by
     show ob (s.h.get k) _=_;rw[hx];exact holds
    obtain⟨rest,hrl,hheap⟩:=hs.is _ _ hx;have hco:Ctx.P.cellsOf el=i.size:=by simp[Program.cellsOf,hi]
    rw[hco]at hrl;obtain⟨hoe,hol⟩:=lY _ _ _ _ holds;have holen:olds.length=m*i.size:=by rw[hoe];simp;omega
    have hosc:=row_sc hs hrow
    by_cases hroom:m+n<=d+α.room cn
    .
     have htot:(cs.map (V.inst α)++rest).length=(d+α.room cn)*i.size:=by
      rw[List.length_append,List.length_map,hrl,<-hd,Nat.add_mul]
     have hmn:(m+n)*i.size<=(d+α.room cn)*i.size:=Nat.mul_le_mul_right _ hroom
     have hle:0+m*i.size+(news.map (V.inst α)).length<=(cs.map (V.inst α)++rest).toArray.size:=by
      rw[List.size_toArray,htot,List.length_map,hnl,Nat.zero_add,<-Nat.add_mul];exact hmn
     have hst:=run_storeCells_at (P:=Ctx.P) (α.blk k) (0+m*i.size) el (news.map (V.inst α)) 0 (cs.map (V.inst α)++rest).toArray w hheap (by simpa using hle) hsrc.one;simp only[Nat.add_zero,List.length_map]at hst;generalize hcs:((cs.map (V.inst α)++rest).toArray.toList.take (0+m*i.size)++news.map (V.inst α)++(cs.map (V.inst α)++rest).toArray.toList.drop (0+m*i.size+news.length))=L at hst;have hadd:(⟨α.blk k,0,none⟩:Addr).add (m*i.size)=⟨α.blk k,0+m*i.size,none⟩:=lB _ _ _;simp only[Nat.zero_add]at hst hadd;have hdc:(s.drop k).c=s.c:=rfl;have hdn:(s.drop k).n=s.n:=rfl
     have hrun:(Builtin.append_ #[t,t'] ty #[(V.l k 0 m (.s cn d)).inst α,v.inst α]).run Ctx.P w= .ok (.slice (some ⟨α.blk k,0,none⟩) (m+n) (d+α.room cn)) (w.setRow (α.blk k) L.toArray):=by
      rcases hsrc.kind with ⟨e',hk⟩|hk<;>simp[Builtin.append_,run_underlying hu,run_underlying hk,sizeOf,typeInfo,hi,hsrc.len,hroom,hsrc.cells,V.inst,Cap.inst,hadd,hst]
     have hnew: ∀v∈olds++news,v.Sc s.n s.c/\v.one=true:=λv hv=>by
      rcases List.mem_append.1 hv with hv|hv
      .exact hosc v hv
      .exact hnews v hv
     refine⟨α.new s.n (α.blk k) s.c (d+α.room cn-(m+n)),_,_,_,rfl,?_,Stp.move hs hx hro (w':=w.setRow (α.blk k) L.toArray) rfl rfl rfl m9 (λb hb hne=>setRow_other _ _ _ _ hne) (Nat.le_succ _) ⟨λv hv=>⟨(hnew v hv).1.mono (Nat.le_succ _) (Nat.le_succ _),(hnew v hv).2⟩,λj hj=>by cases hj;exact Nat.lt_succ_self _⟩ ?_⟩
     .rw[hrun];simp only[V.inst,Cap.inst,As.new,hdc,hdn,if_true]
      congr 2
      omega
     .refine⟨(cs.map (V.inst α)++rest).drop (m*i.size+news.length),?_,?_⟩
      .rw[List.length_drop,htot,hco,hnl,<-Nat.add_mul,<-Nat.sub_mul];simp[As.new,hdc]
      .have hm:(olds++news).map (V.inst (α.new s.n (α.blk k) s.c (d+α.room cn-(m+n))))=olds.map (V.inst α)++news.map (V.inst α):=by
        rw[<-List.map_append];exact(List.map_congr_left λv hv=>(hnew v hv).1.ext (mE _ _ _ _ _)).symm
       rw[hm,setRow_heap w (α.blk k) _ L.toArray el _ hheap]
       congr 3
       rw[<-hcs,hoe];simp only[Nat.zero_add,List.drop_zero,List.map_take];rw[List.take_append_of_le_length o7]
    .obtain⟨α',w',h5,h6⟩:=bDh (ty:=ty) (t:=t) (t':=t') (s:=s.drop k) (drop_stp hs hx hro).sim hu hi hz0 hzc (base:=some ⟨α.blk k,0,none⟩) (m:=m) (cap:=d+α.room cn) (olds_of hrow) hsrc hosc hnews k7 (fI h63) (fI hb);exact⟨α',w',_,_,rfl,h5,(drop_stp hs hx hro).trans h6⟩
 |_=>cases h1
end
end
end X
end
section
namespace X
open Go.RowKit
section
variable [Ctx] {α : As} {s : St} {w : World} {N : Nat} {e : E} {a : Act}
omit [Ctx]in
theorem all_one{l:List V}(h:allL V.one l=true): ∀v∈l,v.one=true:=by
 rw[oF,List.all_eq_true]at h;exact h
omit [Ctx]in
theorem fill_sc{P:V->Prop}{place:Nat->Option (Nat×Nat)}: ∀{l:List (Nat×V)} {cs r:List V},bKq place cs l=some r->(∀v∈cs,P v)->(∀x∈l,∀v∈x.2.cells,P v)-> ∀v∈r,P v
 |[],cs,r,h,hc,_=>by
  have h:some cs=some r:=h;cases h;exact hc
 |(i,u)::l,cs,r,h,hc,hl=>by
  obtain⟨⟨o,sz⟩,hp,h1⟩:=bB (show ob (place i) _=some r from h);obtain⟨_,h3⟩:=bL h1;obtain⟨cs',hcs,h4⟩:=bB h3;obtain⟨_,h6⟩:=pZ _ _ _ _ hcs;refine fill_sc (l:=l) h4 (λv hv=>?_) (λx hx=>hl x (List.mem_cons_of_mem _ hx));rw[h6]at hv
  rcases List.mem_append.1 hv with hv|hv
  .rcases List.mem_append.1 hv with hv|hv
   .exact hc v (List.mem_of_mem_take hv)
   .exact hl (i,u) (List.mem_cons_self ..) v hv
  .exact hc v (List.mem_of_mem_drop hv)
omit [Ctx]in
theorem sW{n:Nat}{z:List V}{v:V}(h:v∈qE n z):v∈z:=by
 rw[bHn,List.mem_flatten]at h;obtain⟨l,hl,hv⟩:=h;rw[(List.mem_replicate.1 hl).2]at hv;exact hv
omit [Ctx]in
theorem rep_map(n:Nat)(z:List V):(qE n z).map (V.inst α)=qE n (z.map (V.inst α)):=by
 rw[bHn,bHn];simp[List.map_flatten]
omit [Ctx]in
theorem wZ{z:V}{sz:Nat}(hl:z.cells.length=sz)(n:Nat):((Array.range (n*sz)).map λi=>((z.inst α).cells)[i%(z.inst α).cells.size]!)=((qE n z.cells).map (V.inst α)).toArray:=by
 rw[rep_map,<-range_rep,gZ];simp[hl]
theorem alloc_run(hs:Sim α s w){o:Oper}{t:TypeId}{r:R}(ho:o.op= .alloc t)(h:oAlloc t s e=some r):bHc o a α s w r:=by
 obtain⟨z,hz,h1⟩:=bB h;obtain⟨h2,h3⟩:=bL h1;cases h3;obtain⟨α',hst,hb⟩:=uB hs t (λv hv=>⟨(sU hz _ _).cells v hv,all_one h2 v hv⟩);refine⟨α',_,?_,hst⟩;unfold execOp;simp only[ho];refine cO ?_;simp only[Instr.alloc,Sem.run_bind,uD hz w α,Result.andThen_ok,newVar,newRow,run_newObj,Sem.run_pure,gZ,V.inst,hb];rfl
theorem box_run(hs:Sim α s w)(he:EOk α s N e a){o:Oper}{t:TypeId}{x:Operand}{r:R}(ho:o.op= .box t x)(h:oBox t x s e=some r):bHc o a α s w r:=by
 obtain⟨v,hv,h1⟩:=bB h;obtain⟨h2,h3⟩:=bL h1;cases h3;obtain⟨hx,hsc⟩:=bV hs he hv;obtain⟨α',hst,hb⟩:=uB hs t (λu hu=>⟨hsc.cells u hu,all_one h2 u hu⟩);refine⟨α',_,?_,hst⟩;unfold execOp;simp only[ho,hx];refine cO ?_;simp only[Instr.box,Sem.run_bind,Result.andThen_ok,newVar,newRow,run_newObj,Sem.run_pure,gZ,V.inst,hb];rfl
omit [Ctx]in
theorem repL_len{β:Type}(n:Nat)(z:List β):(qE n z).length=n*z.length:=by
 induction n with
 |zero=>show([]:List β).length=_;simp
 |succ n ih=>
  show(z++qE n z).length=_;rw[List.length_append,ih,Nat.succ_mul,Nat.add_comm]
theorem yM{t:TypeId}{z:V}(h:zeroX t=some z){i:TypeInfo}(hi:Ctx.P.info? t=some i):i.zero=some (z.inst α):=by
 obtain⟨j,hj,h1⟩:=bB h;obtain⟨u,hu,h2⟩:=bB h1;obtain rfl:i=j:=Option.some.inj (hi.symm.trans hj);rw[hu,tP (α:=α) h2]
theorem bMx(hs:Sim α s w)(he:EOk α s N e a){o:Oper}{t:TypeId}{n:Nat}{parts:Array (Nat×Operand)}{r:R}(ho:o.op= .buildSlice t n parts)(h:sV t n parts s e=some r):bHc o a α s w r:=by
 obtain⟨⟨q,el,sz⟩,hq,h1⟩:=bB h
 cases q with
 |some _=>cases h1
 |none=>
  obtain⟨z,hz,h2⟩:=bB (show ob (zeroX el) _=some r from h1);obtain⟨ps,hps,h3⟩:=bB h2;obtain⟨h4,h5⟩:=bL h3;obtain⟨cs,hc,h6⟩:=bB h5;obtain⟨h7,h8⟩:=bL h6;cases h8;rw[Bool.and_eq_true]at h4;obtain⟨hu,hsz⟩:=kH hq;obtain⟨i,hi,rfl⟩:=iZ hsz;obtain⟨hpe,hpsc⟩:=sP hs he hps;have hzl:z.cells.length=i.size:=by simpa[Nat.beq_eq]using h4.2
  have hle: ¬(n*i.size>2^24):=by have:=fI h4.1;simp at this⊢;omega
  have hsc: ∀v∈cs,v.Sc s.n s.c:=fill_sc hc (λv hv=>(sU hz _ _).cells v (sW hv)) (λx hx v hv=>(hpsc x hx).cells v hv);obtain⟨α',hst,hb⟩:=uB hs el (λu hu=>⟨hsc u hu,all_one h7 u hu⟩);refine⟨α',_,?_,hst⟩;have hfill:=wT (α:=α) hc;unfold execOp;simp only[ho];refine cO ?_;have hparts:(parts.map λ(i,x)=>(i,a.eval x)).toList=ps.map λx=>(x.1,x.2.inst α):=by simpa using hpe
  have hval:(V.l s.n 0 n (.n n)).inst α'= .slice (some ⟨w.heap.size,0,none⟩) n n:=by simp[V.inst,Cap.inst,hb]
  rw[hval]
  by_cases h0:n*i.size=0
  .have hr:qE n z.cells=[]:=List.eq_nil_of_length_eq_zero (by rw[repL_len,hzl,h0]);rw[hr,<-hparts]at hfill;simp only[List.map_nil]at hfill;unfold Instr.buildSlice;have hr0:Array.range 0= #[]:=rfl;have hle0: ¬((0:Nat)>2^24):=m7
   simp only[Sem.run_bind,run_underlying hu,Result.andThen_ok,iA hsz,h0,if_neg hle0,if_true,Sem.run_pure,hr0,Array.map_empty];rw[show(#[]:Array Value)=([]:List Value).toArray from rfl,hfill];simp only[Sem.run_bind,newRow,run_newObj,Result.andThen_ok,Sem.run_pure];rfl
  .refine run_buildSlice w t el n _ _ i (z.inst α) hu hi (yM hz hi) hle h0 ?_;rw[hparts,wZ hzl n];exact hfill
def qZ (g:Nat):Option Nat->Value
 |none=> .pointer (some ⟨g,0,none⟩)
 |some n=> .slice (some ⟨g,0,none⟩) n n
theorem bs_some{t:TypeId}{n:Nat}{parts:Array (Nat×Operand)}{b:TypeId×Option Nat×List V}(h:bsX (.buildSlice t n parts) e=some b):sV t n parts s e=some (.v (bGg s.n b.2.1) (s.new (.cells b.2.2 b.1 none false))):=by
 obtain⟨⟨q,el,sz⟩,hq,h1⟩:=bB h
 cases q with
 |some _=>cases h1
 |none=>
  obtain⟨z,hz,h2⟩:=bB (show ob (zeroX el) _=some b from h1);obtain⟨ps,hps,h3⟩:=bB h2;obtain⟨h4,h5⟩:=bL h3;obtain⟨cs,hc,h6⟩:=bB h5;obtain⟨h7,h8⟩:=bL h6;cases h8;unfold sV;rw[hq];show ob (zeroX el) _=_;rw[hz];show ob (partsX parts.toList e) _=_;rw[hps];show gd (Nat.ble (n*sz) 16777216&&Nat.beq z.cells.length sz) _=_;rw[h4];show ob (bKq (λi=>some (i*sz,sz)) (qE n z.cells) ps) _=_;rw[hc];show gd (allL V.one cs) _=_;rw[h7];rfl
theorem build_alloc(hs:Sim α s w)(he:EOk α s N e a){o:Oper}{t:TypeId}{n:Nat}{parts:Array (Nat×Operand)}{b:TypeId×Option Nat×List V}(ho:o.op= .buildSlice t n parts)(h:bsX (.buildSlice t n parts) e=some b):
  (execOp a.eval o).run Ctx.P w= .ok (.value (qZ w.heap.size b.2.1)) (w.alloc (.cells (b.2.2.map (V.inst α)).toArray b.1))/\ ∀v∈b.2.2,v.Sc s.n s.c/\v.one=true:=by
 obtain⟨⟨q,el,sz⟩,hq,h1⟩:=bB h
 cases q with
 |some _=>cases h1
 |none=>
  obtain⟨z,hz,h2⟩:=bB (show ob (zeroX el) _=some b from h1);obtain⟨ps,hps,h3⟩:=bB h2;obtain⟨h4,h5⟩:=bL h3;obtain⟨cs,hc,h6⟩:=bB h5;obtain⟨h7,h8⟩:=bL h6;cases h8;rw[Bool.and_eq_true]at h4;obtain⟨hu,hsz⟩:=kH hq;obtain⟨i,hi,rfl⟩:=iZ hsz;obtain⟨hpe,hpsc⟩:=sP hs he hps;have hzl:z.cells.length=i.size:=by simpa[Nat.beq_eq]using h4.2
  have hle: ¬(n*i.size>2^24):=by have:=fI h4.1;simp at this⊢;omega
  have hsc: ∀v∈cs,v.Sc s.n s.c:=fill_sc hc (λv hv=>(sU hz _ _).cells v (sW hv)) (λx hx v hv=>(hpsc x hx).cells v hv);refine⟨?_,λu hu=>⟨hsc u hu,all_one h7 u hu⟩⟩;have hfill:=wT (α:=α) hc;unfold execOp;simp only[ho];refine cO ?_;have hparts:(parts.map λ(i,x)=>(i,a.eval x)).toList=ps.map λx=>(x.1,x.2.inst α):=by simpa using hpe
  by_cases h0:n*i.size=0
  .have hr:qE n z.cells=[]:=List.eq_nil_of_length_eq_zero (by rw[repL_len,hzl,h0]);rw[hr,<-hparts]at hfill;simp only[List.map_nil]at hfill;unfold Instr.buildSlice;have hr0:Array.range 0= #[]:=rfl;have hle0: ¬((0:Nat)>2^24):=m7
   simp only[Sem.run_bind,run_underlying hu,Result.andThen_ok,iA hsz,h0,if_neg hle0,if_true,Sem.run_pure,hr0,Array.map_empty];rw[show(#[]:Array Value)=([]:List Value).toArray from rfl,hfill];simp only[Sem.run_bind,newRow,run_newObj,Result.andThen_ok,Sem.run_pure];rfl
  .refine run_buildSlice w t el n _ _ i (z.inst α) hu hi (yM hz hi) hle h0 ?_;rw[hparts,wZ hzl n];exact hfill
theorem late_op{o:Op}{b:TypeId×Option Nat×List V}(h:bsX o e=some b):opX o s e=some (.v (bGg s.n b.2.1) (s.new (.cells b.2.2 b.1 none false))):=by
 cases o with
 |buildSlice t n parts=>exact bs_some h
 |alloc t=>
  obtain⟨z,hz,h1⟩:=bB h;obtain⟨h2,h3⟩:=bL h1;cases h3;show ob (zeroX t) _=_;rw[hz];show gd (allL V.one z.cells) _=_;rw[h2];rfl
 |box t x=>
  obtain⟨v,hv,h1⟩:=bB h;obtain⟨h2,h3⟩:=bL h1;cases h3;show ob (evX x e) _=_;rw[hv];show gd (allL V.one v.cells) _=_;rw[h2];rfl
 |_=>cases h
theorem bMt(hs:Sim α s w)(he:EOk α s N e a){o:Oper}{b:TypeId×Option Nat×List V}(h:bsX o.op e=some b):
  (execOp a.eval o).run Ctx.P w= .ok (.value (qZ w.heap.size b.2.1)) (w.alloc (.cells (b.2.2.map (V.inst α)).toArray b.1))/\ ∀v∈b.2.2,v.Sc s.n s.c/\v.one=true:=by
 cases ho:o.op with
 |buildSlice t n parts=>
  rw[ho]at h;exact build_alloc hs he ho h
 |alloc t=>
  rw[ho]at h;obtain⟨z,hz,h1⟩:=bB h;obtain⟨h2,h3⟩:=bL h1;cases h3;refine⟨?_,λv hv=>⟨(sU hz _ _).cells v hv,all_one h2 v hv⟩⟩;unfold execOp;simp only[ho];refine cO ?_;simp only[Instr.alloc,Sem.run_bind,uD hz w α,Result.andThen_ok,newVar,newRow,run_newObj,Sem.run_pure,gZ];rfl
 |box t x=>
  rw[ho]at h;obtain⟨v,hv,h1⟩:=bB h;obtain⟨h2,h3⟩:=bL h1;cases h3;obtain⟨hx,hsc⟩:=bV hs he hv;refine⟨?_,λu hu=>⟨hsc.cells u hu,all_one h2 u hu⟩⟩;unfold execOp;simp only[ho,hx];refine cO ?_;simp only[Instr.box,Sem.run_bind,Result.andThen_ok,newVar,newRow,run_newObj,Sem.run_pure,gZ];rfl
 |_=>rw[ho]at h;cases h
theorem storeOp_run(hs:Sim α s w)(he:EOk α s N e a){o:Oper}{t:TypeId}{x y:Operand}{r:R}(ho:o.op= .store t x y)(h:oStore t x y s e=some r):bHc o a α s w r:=by
 obtain⟨u,hu,h1⟩:=bB h;obtain⟨k,q,rfl,h2⟩:=nW h1;obtain⟨v,hv,h3⟩:=bB h2;obtain⟨sz,hsz,h4⟩:=bB h3;obtain⟨h5,h6⟩:=bL h4;obtain⟨s',hst,h7⟩:=bB h6;cases h7;rw[Bool.and_eq_true]at h5;obtain⟨hx,hsc⟩:=bV hs he hv;obtain⟨w',hw,hstp⟩:=tM hs hst (λv hm=>hsc.cells v hm) (all_one h5.2);refine⟨α,w',?_,hstp⟩;unfold execOp;simp only[ho];refine bAw ?_;have hl:(v.inst α).cells.size=sz:=by rw[gZ];simpa[Nat.beq_eq]using h5.1
 have hne: ¬((v.inst α).cells.size≠sz):=k7
 rw[(bV hs he hu).1,hx];simp only[V.inst,Instr.storeAt,Instr.sureAddr,Sem.run_bind,Sem.run_pure,Result.andThen_ok,storeVar,iA hsz,if_neg hne];rw[gZ];exact hw
theorem bOb(hs:Sim α s w)(he:EOk α s N e a){o:Oper}{t:TypeId}{l c:Operand}{r:R}(ho:o.op= .makeSlice t l c)(h:bIg t l c s e=some r):bHc o a α s w r:=by
 obtain⟨⟨q,el,sz⟩,hq,h1⟩:=bB h
 cases q with
 |some _=>cases h1
 |none=>
  obtain⟨z,hz,h2⟩:=bB (show ob (zeroX el) _=some r from h1);obtain⟨by_,hby,h3⟩:=bB h2;obtain⟨u,hu,h4⟩:=bB h3;obtain⟨k,n,rfl,h5⟩:=rR h4;obtain⟨u',hu',h6⟩:=bB h5;obtain⟨k',m,rfl,h7⟩:=rR h6;obtain⟨h8,h9⟩:=bL h7;cases h9;simp only[Bool.and_eq_true]at h8;obtain⟨hnm,hroom,h63,hzl,h1c⟩:=h8;obtain⟨hu0,hsz⟩:=kH hq;obtain⟨i,hi,rfl⟩:=iZ hsz
  obtain⟨i',hi',hb'⟩:=bB hby
  obtain rfl:i=i':=Option.some.inj (hi.symm.trans hi');cases hb';have hzl:z.cells.length=i.size:=by simpa[Nat.beq_eq]using hzl
  have hnm:=fI hnm;have hroom:=fI hroom;have h63:m<9223372036854775808:=by simpa[Nat.blt_eq]using h63
  obtain⟨α',hst,hb⟩:=uB (cs:=qE m z.cells) hs el (λu hu=>⟨(sU hz _ _).cells u (sW hu),all_one h1c u (sW hu)⟩);refine⟨α',_,?_,hst⟩;unfold execOp;simp only[ho];refine cO ?_;rw[(bV hs he hu).1,(bV hs he hu').1];have hval:(V.l s.n 0 n (.n m)).inst α'= .slice (some ⟨w.heap.size,0,none⟩) n m:=by simp[V.inst,Cap.inst,hb]
  rw[hval]
  have hrun:=run_make (P:=Ctx.P) w t el i (z.inst α) hu0 hi (yM hz hi) k k' (Int.ofNat n) (Int.ofNat m) (Int.natCast_nonneg n) (Int.ofNat_le.2 hnm) (by
   have:((i.bytes*m:Nat):Int)<=((pow47:Nat):Int):=Int.ofNat_le.2 hroom;rw[Int.natCast_mul]at this;simp only[pow47]at this;show(i.bytes:Int)*((m:Nat):Int)<=_
   omega) (by show((m:Nat):Int)<=_;omega)
  have em:madeCells (z.inst α).cells ((Int.ofNat m).toNat*i.size)=((qE m z.cells).map (V.inst α)).toArray:=wZ hzl m;rw[em]at hrun;exact hrun
theorem makeMap_run(hs:Sim α s w)(he:EOk α s N e a){o:Oper}{t:TypeId}{x:Option Operand}{r:R}(ho:o.op= .makeMap t x)(h:oMakeMap t x s e=some r):bHc o a α s w r:=by
 have key:r= .v (.m s.n) (s.new (.map [] 0))/\(Instr.makeMap t (x.map a.eval)).run Ctx.P w= .ok (.map (some w.heap.size)) (w.alloc (.map #[] 0)):=by
  cases x with
  |none=>
   cases h;exact⟨rfl,run_makeMap t w⟩
  |some x=>
   obtain⟨⟨kt,et⟩,hq,h1⟩:=bB (show ob (bKk t) _=some r from h);obtain⟨u,hu,h2⟩:=bB h1;obtain⟨k,n,rfl,h3⟩:=kT h2;cases h3;refine⟨rfl,?_⟩;have hx:=(bV hs he hu).1;simp only[Option.map_some,hx,V.inst,Instr.makeMap,Sem.run_bind,run_underlying (bMr hq),Result.andThen_ok,asInt,asIntOf,Sem.run_pure,run_newObj];rfl
 obtain⟨rfl,hrun⟩:=key;obtain⟨α',hst,hb⟩:=new_obj hs (x:= .map [] 0) (o:= .map #[] 0) (by intro y hy;cases hy) (λβ w' r h=>h);refine⟨α',_,?_,hst⟩;unfold execOp;simp only[ho];refine cO ?_;rw[hrun];simp[V.inst,hb]
theorem find_at{kt:TypeId}{k:V}(hk:vX kt k=true): ∀(es:List Ent) (i j:Nat) (v:V),bBj kt k es i=some (some (j,v))-> ∃m x,j=i+m/\es[m]?=some x/\x.2.1=v/\x.1.inst α=k.inst α
 |[],_,_,_,h=>by cases h
 |x::es,i,j,v,h=>by
  obtain⟨c,hc,h1⟩:=bB (show ob (eqX 1 kt k x.1) _=some (some (j,v))from h);rw[cJ]at h1
  cases c with
  |true=>
   simp only[if_true,Option.some.injEq,Prod.mk.injEq]at h1;obtain⟨rfl,rfl⟩:=h1;refine⟨0,x,rfl,rfl,rfl,?_⟩;unfold vX at hk
   cases hd:Ctx.P.underlying kt with
   |none=>rw[hd]at hk;cases hk
   |some d=>
    rw[hd]at hk;simp only[eqX,hd]at hc
    cases d with
    |int kk=>
     cases k with
     |i k1 n1=>
      cases hx:x.1 with
      |i k2 n2=>
       rw[hx]at hc;obtain⟨h2,h3⟩:=bL (show gd (sameKind k1 k2) (some (ieq n1 n2))=some true from hc);injection h3 with h3
       rw[bEn]at h3;rw[jZ h2,beq_iff_eq.1 h3]
      |_=>rw[hx]at hc;cases hc
     |_=>cases hk
    |string=>
     cases k with
     |s n1=>
      cases hx:x.1 with
      |s n2=>
       rw[hx]at hc;have hc:some (seq n1 n2)=some true:=hc;injection hc with hc
       rw[bLk]at hc;have:=beq_iff_eq.1 hc;rw[ByteArray.toList_eq,ByteArray.toList_eq]at this;simp only[V.inst]
       congr 1
       apply ByteArray.ext;apply Array.ext';exact this.symm
      |_=>rw[hx]at hc;cases hc
     |_=>cases hk
    |_=>cases hk
  |false=>
   simp only[Bool.false_eq_true,if_false]at h1;obtain⟨m,y,h2,h3,h4,h5⟩:=find_at hk es (i+1) j v h1;exact⟨m+1,y,k7,by simpa using h3,h4,h5⟩
theorem bPj{kt:TypeId}{k:V}(hk:vX kt k=true):(Instr.keyThatStays (k.inst α) (k.inst α)).run Ctx.P w= .ok (k.inst α) w:=by
 unfold vX at hk
 cases hd:Ctx.P.underlying kt with
 |none=>rw[hd]at hk;cases hk
 |some d=>
  rw[hd]at hk
  cases d with
  |int kk=>
   cases k with
   |i k1 n1=>exact MapKept.run_keyThatStays (d:= .int k1) rfl
   |_=>cases hk
  |string=>
   cases k with
   |s n1=>exact MapKept.run_keyThatStays (d:= .string) trivial
   |_=>cases hk
  |_=>cases hk
theorem bAg{t:TypeId}{m k:Operand}{f:Found}(hs:Sim α s w)(he:EOk α s N e a)(h:mapAt t m k s e=some f): ∃kt,Ctx.P.underlying t=some (.map kt f.et)/\a.eval m= .map (some (α.blk f.r))/\a.eval k=f.k.inst α/\f.k.Sc s.n s.c/\
  s.h.get f.r=some (.map f.es f.clock)/\vX kt f.k=true/\bBj kt f.k f.es 0=some f.at_:=by
 obtain⟨⟨kt,et⟩,hq,h1⟩:=bB h;obtain⟨u,hu,h2⟩:=bB h1;obtain⟨r,rfl,h3⟩:=asM_some h2;obtain⟨kv,hk,h4⟩:=bB h3;obtain⟨x,hx,h5⟩:=bB h4;obtain⟨es,c,rfl,h6⟩:=uS h5;obtain⟨h7,h8⟩:=bL h6;obtain⟨g,hg,h9⟩:=bB h8;cases h9;have e1:=(bV hs he hu).1;exact⟨kt,bMr hq,by rw[e1];rfl,(bV hs he hk).1,(bV hs he hk).2,hx,h7,hg⟩
theorem wM(hs:Sim α s w){k:Nat}{es:List Ent}{c:Nat}(hk:s.h.get k=some (.map es c)):w.heap[α.blk k]?=some (.map (es.map (entI α)).toArray c):=hs.is _ _ hk
theorem xT(hs:Sim α s w){k:Nat}{es es':List Ent}{c c':Nat}(hk:s.h.get k=some (.map es c))(hsc: ∀x∈es',x.1.Sc s.n s.c/\x.2.1.Sc s.n s.c):
  Stp α s w α (s.put k (.map es' c')) {w with heap:=w.heap.setIfInBounds (α.blk k) (.map (es'.map (entI α)).toArray c')}:=by
 have hb:=wM hs hk;have hlt:α.blk k<w.heap.size:=(Array.getElem?_eq_some_iff.1 hb).1;refine Stp.put hs hk rfl rfl rfl rfl m9 (λb hb hne=>?_) hsc ?_
 .simp[Ne.symm hne]
 .show(w.heap.setIfInBounds (α.blk k) _)[α.blk k]?=_;simp[hlt]
omit [Ctx]in
theorem setV_map: ∀(es:List Ent) (i:Nat) (v:V),(es.map (entI α)).toArray.modify i (λe=>{e with val:=v.inst α})=((setV es i v).map (entI α)).toArray:=by
 intro es i v;apply Array.ext';rw[Array.toList_modify]
 induction es generalizing i with
 |nil=>simp[setV]
 |cons x es ih=>
  obtain⟨k,u,b⟩:=x
  cases i with
  |zero=>simp[setV,entI]
  |succ i=>simpa[setV,entI]using ih i
omit [Ctx]in
theorem setV_sc{P:Ent->Prop}: ∀{es:List Ent} {i:Nat} {v:V},(∀x∈es,P x)->(∀x∈es,P (x.1,v,x.2.2))-> ∀x∈setV es i v,P x
 |[],_,_,_,_,x,hx=>by cases hx
 |(k,u,b)::es,0,v,h1,h2,x,hx=>by
  rcases List.mem_cons.1 hx with rfl|hx
  .exact h2 _ (List.mem_cons_self ..)
  .exact h1 _ (List.mem_cons_of_mem _ hx)
 |y::es,i+1,v,h1,h2,x,hx=>by
  rcases List.mem_cons.1 hx with rfl|hx
  .exact h1 _ (List.mem_cons_self ..)
  .exact setV_sc (λz hz=>h1 z (List.mem_cons_of_mem _ hz)) (λz hz=>h2 z (List.mem_cons_of_mem _ hz)) x hx
omit [Ctx]in
theorem bLu{A:Array MapEntry}{i:Nat}{x:MapEntry}(hi:A[i]?=some x){g:MapEntry->MapEntry}:A.modify i (λe=>{g e with key:=x.key})=A.modify i (λe=>{g e with key:=e.key}):=by
 apply Array.ext m9;intro j h1 h2;simp only[Array.getElem_modify];split
 .rename_i hij;subst hij;simp at h1;have:A[i]=x:=(Array.getElem?_eq_some_iff.1 hi).2;rw[this]
 .rfl
theorem bLr(hs:Sim α s w)(he:EOk α s N e a){t:TypeId}{m k x:Operand}{r:R}(h:bKh t m k x s e=some r): ∃s' w',r= .sk s'/\(Instr.mapUpdate t (a.eval m) (a.eval k) (a.eval x)).run Ctx.P w= .ok () w'/\Stp α s w α s' w':=by
 obtain⟨f,hf,h1⟩:=bB h;obtain⟨v,hv,h2⟩:=bB h1;cases h2;obtain⟨kt,hu,hm,hk,hksc,hget,hok,hfind⟩:=bAg hs he hf;obtain⟨hx,hvsc⟩:=bV hs he hv;have hb:=wM hs hget;have hsc:=hs.sc _ _ hget;have hfr:=bBf (w:=w) (α:=α) hok hfind;rw[hm,hk,hx];rw[qK]
 cases ha:f.at_ with
 |none=>
  rw[ha]at hfr;refine⟨_,_,rfl,?_,xT hs hget (es':=f.es++[(f.k,v,f.clock)]) (c':=f.clock+1) (λy hy=>?_)⟩
  .simp only[Instr.mapUpdate,Sem.run_bind,run_underlying hu,MapKept.run_getObj_map hb,nD hok,hfr,Result.andThen_ok,Option.map_none,MapKept.run_setObj_map _ hb]
   congr 2
   simp[entI]
  .rcases List.mem_append.1 hy with hy|hy
   .exact hsc y hy
   .rw[List.mem_singleton.1 hy];exact⟨hksc,hvsc⟩
 |some q=>
  rw[ha]at hfr;obtain⟨j,v0⟩:=q;rw[ha]at hfind;obtain⟨i,y,hj,hy,hv0,hkey⟩:=find_at (α:=α) hok _ _ _ _ hfind;rw[Nat.zero_add]at hj;subst hj;refine⟨_,_,rfl,?_,xT hs hget (es':=setV f.es j v) (c':=f.clock) (setV_sc hsc λz hz=>⟨(hsc z hz).1,hvsc⟩)⟩;have hA:(f.es.map (entI α)).toArray[j]?=some (entI α y):=by simp[hy]
  have hst:(Instr.keyThatStays ((((f.es.map (entI α)).toArray[j]?).map (·.key)).getD (f.k.inst α)) (f.k.inst α)).run Ctx.P w= .ok (f.k.inst α) w:=by
   rw[hA];simp only[Option.map_some,Option.getD_some,entI,hkey];exact bPj hok
  simp only[Instr.mapUpdate,Sem.run_bind,run_underlying hu,MapKept.run_getObj_map hb,nD hok,hfr,Result.andThen_ok,Option.map_some,hst,MapKept.run_setObj_map _ hb]
  congr 3
  have hk2:f.k.inst α=(entI α y).key:=by simp[entI,hkey]
  rw[hk2];have:=bLu hA (g:=λe=>{e with val:=v.inst α});simp only at this;rw[<-setV_map,this]
theorem mapEntry_run(hs:Sim α s w)(he:EOk α s N e a){o:Oper}{t:TypeId}{m k:Operand}{r:R}(ho:o.op= .mapEntry t m k)(h:bQo t m k s e=some r):bHc o a α s w r:=by
 obtain⟨f,hf,h1⟩:=bB h;obtain⟨kt,hu,hm,hk,hksc,hget,hok,hfind⟩:=bAg hs he hf;have hb:=wM hs hget;have hsc:=hs.sc _ _ hget;have hfr:=bBf (w:=w) (α:=α) hok hfind;rw[qK]at h1
 have go: ∀v w',(Instr.mapEntry t (a.eval m) (a.eval k)).run Ctx.P w= .ok v w'->(execOp a.eval o).run Ctx.P w= .ok (.value v) w':=λv w' hv=>by
  unfold execOp;simp only[ho];exact cO hv
 cases ha:f.at_ with
 |none=>
  rw[ha]at h1 hfr;obtain⟨z,hz,h2⟩:=bB (show ob (zeroX f.et) _=some r from h1);cases h2;refine⟨α,_,go _ _ ?_,xT hs hget (es':=f.es++[(f.k,z,f.clock)]) (c':=f.clock+1) (λy hy=>?_)⟩
  .rw[hm,hk];simp only[Instr.mapEntry,Sem.run_bind,run_underlying hu,MapKept.run_getObj_map hb,nD hok,hfr,Result.andThen_ok,Option.map_none,uD hz w α,MapKept.run_setObj_map _ hb,Sem.run_pure]
   congr 1
   simp[entI]
  .rcases List.mem_append.1 hy with hy|hy
   .exact hsc y hy
   .rw[List.mem_singleton.1 hy];exact⟨hksc,sU hz _ _⟩
 |some q=>
  rw[ha]at h1 hfr hfind;obtain⟨j,v0⟩:=q;obtain⟨i,y,hj,hy,hv0,hkey⟩:=find_at (α:=α) hok _ _ _ _ hfind;rw[Nat.zero_add]at hj;subst hj;obtain⟨y',hy',h2⟩:=bB (show ob (nthL f.es j) _=some r from h1);cases h2;rw[iF,hy]at hy';injection hy' with hy'
  subst hy';refine⟨α,w,go _ _ ?_,Stp.refl hs⟩;have hA:(f.es.map (entI α)).toArray[j]?=some (entI α y):=by simp[hy]
  have hst:(Instr.keyThatStays (entI α y).key (f.k.inst α)).run Ctx.P w= .ok (f.k.inst α) w:=by
   rw[show(entI α y).key=f.k.inst α from hkey];exact bPj hok
  have hsame:({w with heap:=w.heap.setIfInBounds (α.blk f.r) (.map ((f.es.map (entI α)).toArray.modify j λe=>{e with key:=f.k.inst α}) f.clock)}:World)=w:=by
   have hk2:f.k.inst α=(entI α y).key:=by simp[entI,hkey]
   have e1:=bLu hA (g:=λe=>e);simp only at e1
   have e2:(f.es.map (entI α)).toArray.modify j (λe=>{e with key:=e.key})=(f.es.map (entI α)).toArray:=by
    apply Array.ext m9;intro i h1 h2;simp only[Array.getElem_modify];split<;>rfl
   rw[hk2,e1,e2]
   have:w.heap.setIfInBounds (α.blk f.r) (.map (f.es.map (entI α)).toArray f.clock)=w.heap:=by
    apply Array.ext m9;intro i h1 h2;rw[Array.getElem_setIfInBounds];split
    .rename_i hi;subst hi;exact(Array.getElem?_eq_some_iff.1 hb).2.symm
    .rfl
   rw[this]
  rw[hm,hk];simp only[Instr.mapEntry,Sem.run_bind,run_underlying hu,MapKept.run_getObj_map hb,nD hok,hfr,Result.andThen_ok,Option.map_some,hst,MapKept.run_setObj_map _ hb,Sem.run_pure,hA,Option.getD_some];rw[hsame,inst_t];simp[V.inst,goInt,entI]
omit [Ctx]in
theorem bJy: ∀(es:List Ent) (j i r:Nat),findB es j i=some r-> ∃m,r=i+m/\m<es.length/\(es.map (entI α)).findIdx? (λe=>(e.born:Int)==(j:Int))=some m
 |[],_,_,_,h=>by cases h
 |x::es,j,i,r,h=>by
  have h:sel (Nat.beq x.2.2 j) (some i) (findB es j (i+1))=some r:=h;rw[cJ]at h
  by_cases hb:Nat.beq x.2.2 j=true
  .rw[if_pos hb]at h;cases h;refine⟨0,rfl,m9,?_⟩;have hb:x.2.2=j:=by simpa[Nat.beq_eq]using hb
   simp[List.findIdx?_cons,entI,hb]
  .rw[if_neg hb]at h;obtain⟨m,h1,h2,h3⟩:=bJy es j (i+1) r h;have hb: ¬x.2.2=j:=by simpa[Nat.beq_eq]using hb
   have hb':((x.2.2:Int)==(j:Int))=false:=by
    rw[beq_eq_false_iff_ne];intro e0;exact hb (by exact_mod_cast e0)
   refine⟨m+1,k7,by simp;omega,?_⟩;rw[List.map_cons,List.findIdx?_cons];simp only[entI,hb',Bool.false_eq_true,if_false];rw[h3];rfl
theorem bKm(hs:Sim α s w)(he:EOk α s N e a){o:Oper}{t:TypeId}{m st x:Operand}{r:R}(ho:o.op= .entryStore t m st x)(h:bGh m st x s e=some r):bHc o a α s w r:=by
 obtain⟨u,hu,h1⟩:=bB h;obtain⟨k,rfl,h2⟩:=asM_some h1;obtain⟨b,hb,h3⟩:=bB h2;obtain⟨kk,n,rfl,h4⟩:=rR h3;obtain⟨v,hv,h5⟩:=bB h4;obtain⟨y,hy,h6⟩:=bB h5;obtain⟨es,c,rfl,h7⟩:=uS h6;obtain⟨i,hi,h8⟩:=bB h7;cases h8;obtain⟨hx,hvsc⟩:=bV hs he hv;have hbl:=wM hs hy;have hsc:=hs.sc _ _ hy;obtain⟨q,h9,h10,h11⟩:=bJy (α:=α) es n 0 i hi;rw[Nat.zero_add]at h9;subst h9;refine⟨α,_,?_,xT hs hy (es':=setV es i v) (c':=c) (setV_sc hsc λz hz=>⟨(hsc z hz).1,hvsc⟩)⟩;unfold execOp;simp only[ho];refine bAw ?_;rw[(bV hs he hu).1,(bV hs he hb).1,hx]
 have hfi:(es.map (entI α)).toArray.findIdx? (λe=>(e.born:Int)==Int.ofNat n)=some i:=by
  rw[List.findIdx?_toArray];exact h11
 simp only[V.inst,Instr.entryStore,Sem.run_bind,MapKept.run_getObj_map hbl,Result.andThen_ok,asInt,asIntOf,Sem.run_pure,hfi,MapKept.run_setObj_map _ hbl,setV_map]
theorem range_run(hs:Sim α s w)(he:EOk α s N e a){o:Oper}{t:TypeId}{x:Operand}{r:R}(ho:o.op= .range t x)(h:oRange t x s e=some r):bHc o a α s w r:=by
 obtain⟨u,hu,h1⟩:=bB h;obtain⟨ht,h2⟩:=bL h1;obtain⟨y,rfl,h3⟩:=jT h2;cases h3;obtain⟨α',hst,hb⟩:=new_obj hs (x:= .sit y 0) (o:= .stringIter (bQ y) 0) e8 (λβ w' r h=>h);refine⟨α',_,?_,hst⟩;unfold execOp;simp only[ho];refine cO ?_;rw[(bV hs he hu).1];have:=run_range_string (P:=Ctx.P) w t (bQ y) (bBo ht);simp only[V.inst];rw[this];simp[hb,World.iter]
theorem next_run(hs:Sim α s w)(he:EOk α s N e a){o:Oper}{it:Operand}{str:Bool}{r:R}(ho:o.op= .next it str)(h:oNext it str s e=some r):bHc o a α s w r:=by
 obtain⟨hstr,h1⟩:=bL h;subst hstr;obtain⟨u,hu,h2⟩:=bB h1;obtain⟨k,q,rfl,h3⟩:=nW h2;obtain⟨hq,h4⟩:=bL h3;have hq:q=0:=by simpa[Nat.beq_eq]using hq
 subst hq;obtain⟨x,hx,h5⟩:=bB h4
 have go: ∀v w',(Instr.next (.pointer (some ⟨α.blk k,0,none⟩)) true o.type).run Ctx.P w= .ok v w'->(execOp a.eval o).run Ctx.P w= .ok (.value v) w':=λv w' hv=>by
  unfold execOp;simp only[ho];rw[(bV hs he hu).1];exact cO hv
 cases x with
 |sit y p=>
  have h5:nxStr k y p s=some r:=h5;have hb:w.heap[α.blk k]?=some (.stringIter (bQ y) p):=hs.is _ _ hx;unfold nxStr at h5;rw[cJ]at h5
  by_cases hp:Nat.blt p y.length=true
  .rw[if_pos hp]at h5;obtain⟨c,hc,h6⟩:=bB h5;cases h6;have hp:p<y.length:=by simpa[Nat.blt_eq]using hp
   obtain⟨b,hnb,h7⟩:=bB hc;obtain⟨h8,h9⟩:=bL h7;cases h9;have h8:b%256<128:=by simpa[Nat.blt_eq]using h8
   have hsz:p<(bQ y).size:=by rw[nH];exact hp
   have eb:(bQ y)[p]'hsz=UInt8.ofNat b:=by
    rw[iF]at hnb;have:y[p]=b:=(List.getElem?_eq_some_iff.1 hnb).2;simp[bQ,ByteArray.getElem_eq_getElem_data,this]
   have en:((bQ y)[p]'hsz).toNat=b%256:=by rw[eb];simp
   refine⟨α,_,go _ _ ?_,Stp.put hs hx (x:= .sit y (p+1)) (w':=w.iterAt (α.blk k) (bQ y) (p+1)) rfl rfl rfl rfl (Nat.le_of_eq (Go.Lib.iterAt_size _ _ _ _).symm) (λb hb hne=>Go.Lib.iterAt_other _ _ _ _ _ hne) e8 (Go.Lib.iterAt_heap _ _ _ _ _ hb)⟩;rw[Go.Lib.run_next_ascii_at w (α.blk k) (bQ y) p o.type hb hsz (by rw[en];exact h8),en,inst_t];simp[V.inst]
  .rw[if_neg hp]at h5;cases h5;have hp: ¬p<y.length:=by simpa[Nat.blt_eq]using hp
   refine⟨α,w,go _ _ ?_,Stp.refl hs⟩;rw[Go.Lib.run_next_end_at w (α.blk k) (bQ y) p o.type hb (by rw[nH];exact hp),inst_t];simp[V.inst]
 |_=>cases h5
omit [Ctx]in
theorem bCl{args:List Operand}{ts:List TypeId}{f:Operand->Operand->TypeId->TypeId->St->E->Option R}{r:R}(h:two args ts f s e=some r): ∃x y t t',args=[x,y]/\ts=[t,t']/\f x y t t' s e=some r:=by
 unfold two at h;split at h
 .exact⟨_,_,_,_,rfl,rfl,h⟩
 .cases h
omit [Ctx]in
theorem ts_two{ts:Array TypeId}{t t':TypeId}(h:ts.toList=[t,t']):ts= #[t,t']:=by
 apply Array.ext'
 simpa using h
theorem ustr_run(hs:Sim α s w)(he:EOk α s N e a){x y:Operand}{t t' ty:TypeId}{r:R}(h:bLo x y t s e=some r): ∃v s' w',r= .v v s'/\(Builtin.unsafeString_ #[t,t'] ty #[a.eval x,a.eval y]).run Ctx.P w= .ok (v.inst α) w'/\Stp α s w α s' w':=by
 obtain⟨u,hu,h1⟩:=bB h;obtain⟨v,hv,h2⟩:=bB h1;rw[(bV hs he hu).1,(bV hs he hv).1]
 have hn: ∃n,v= .i .i64 (.ofNat n)/\sel (Nat.beq n 0) (usNil u s) (asP u λk o=>gd (Nat.beq o 0) (ob (ptrTo t) λq=>ob (sizeX q) λz=>gd (Nat.beq z 1) (ustrX q k n s)))=some r:=by
  unfold asN6 at h2;split at h2
  .exact⟨_,rfl,h2⟩
  .cases h2
 obtain⟨n,rfl,h3⟩:=hn;rw[cJ]at h3
 by_cases h0:Nat.beq n 0=true
 .rw[if_pos h0]at h3;have h0:n=0:=by simpa[Nat.beq_eq]using h0
  subst h0
  cases u with
  |p0=>
   cases h3;exact⟨_,_,w,rfl,Go.Lib.run_unsafeString_none (P:=Ctx.P) w t t' ty none,Stp.refl hs⟩
  |p k o=>
   cases h3;exact⟨_,_,w,rfl,Go.Lib.run_unsafeString_none (P:=Ctx.P) w t t' ty (some ⟨α.blk k,o,none⟩),Stp.refl hs⟩
  |_=>cases h3
 .rw[if_neg h0]at h3;have h0:n≠0:=λe0=>h0 (by rw[e0];rfl);obtain⟨k,o,rfl,h4⟩:=nW h3;obtain⟨ho,h5⟩:=bL h4;have ho:o=0:=by simpa[Nat.beq_eq]using ho
  subst ho;obtain⟨q,hq,h6⟩:=bB h5;obtain⟨z,hz,h7⟩:=bB h6;obtain⟨hz1,h8⟩:=bL h7;have hz1:z=1:=by simpa[Nat.beq_eq]using hz1
  subst hz1;obtain⟨b,hb,h9⟩:=bB h8;obtain⟨cs,el,ext,ro,rfl,h10⟩:=wF h9;obtain⟨h11,h12⟩:=bL h10;simp only[Bool.and_eq_true,Bool.not_eq_true',Nat.beq_eq]at h11;obtain⟨hro,rfl,h8',hn47⟩:=h11;obtain⟨l,hl,h13⟩:=bB (show ob (cutL cs 0 n) _=some r from h12);obtain⟨xs,hxs,h14⟩:=bB h13;cases h14;obtain⟨e1,e2⟩:=lY _ _ _ _ hl;obtain⟨h15,h16⟩:=bAd (α:=α) hxs;obtain⟨rest,hrest,_⟩:=hs.cells hb;have hshape:w.shape? (α.blk k)=some (q,(cs.map (V.inst α)++rest).length):=by simp[World.shape?,hrest]
  have hll:l.length=n:=by rw[e1];simp;omega
  have hlen:(xs.map UInt8.ofNat).length=n:=by rw[List.length_map,h16,hll]
  have hrun:=Go.Lib.run_unsafeString_row (P:=Ctx.P) w t t' ty q (ptrTo_eq hq) (bJr hz) (α.blk k) (cs.map (V.inst α)++rest).length hshape (xs.map UInt8.ofNat) (λe0=>h0 (by rw[<-hlen,e0];rfl)) (by rw[hlen,List.length_append,List.length_map];omega) (by rw[hlen];have:=fI hn47;simp only[pow47]at this;omega) (λj c hj=>by
   rw[lB]
   have hjl:j<l.length:=by
    have:=(List.getElem?_eq_some_iff.1 hj).1;rw[hlen]at this;omega
   obtain⟨lj,hlj⟩: ∃x,l[j]?=some x:=⟨_,List.getElem?_eq_getElem hjl⟩
   have hc:=hs.cell_of hb (i:=0+j) (v:=lj) (by
    have h17:=hlj;rw[e1,List.drop_zero,List.getElem?_take,if_pos k7]at h17;rw[Nat.zero_add]
    exact h17)
   rw[hc];have h18:=congrArg (λq:List Value=>q[j]?) h15;simp only[List.getElem?_map,hlj,Option.map_some]at h18;rw[h18];rw[List.getElem?_map]at hj
   cases hx:xs[j]? with
   |none=>rw[hx]at hj;cases hj
   |some x'=>
    rw[hx]at hj;cases hj
    rfl)
  rw[hlen]at hrun;refine⟨_,_,_,rfl,?_,Stp.drop hs hb hro (w':=w.freeze ⟨α.blk k,0,none⟩ n) ?_ ?_ ?_ ?_ (λi hi hne=>?_)⟩
  .simpa[V.inst,bQ]using hrun
  .unfold World.freeze;split<;>rfl
  .unfold World.freeze;split<;>rfl
  .unfold World.freeze;split<;>rfl
  .unfold World.freeze;split<;>simp
  .unfold World.freeze;split
   .rfl
   .simp only[Array.getElem?_modify];rw[if_neg (λe0=>hne e0.symm)]
theorem append_op0(hs:Sim α s w)(he:EOk α s N e a){x y:Operand}{t t' ty:TypeId}{r:R}(h:oAppend0 x y t t' s e=some r): ∃α' w' v s',r= .v v s'/\(Builtin.append_ #[t,t'] ty #[a.eval x,a.eval y]).run Ctx.P w= .ok (v.inst α') w'/\Stp α s w α' s' w':=by
 obtain⟨ht,h1⟩:=bL h;obtain⟨⟨q,el,sz⟩,hq,h2⟩:=bB h1
 cases q with
 |some _=>cases h2
 |none=>
  obtain⟨z,hz,h3⟩:=bB (show ob (zeroX el) _=some r from h2);obtain⟨hzl,h4⟩:=bL h3;obtain⟨by_,hby,h5⟩:=bB h4;obtain⟨u,hu,h6⟩:=bB h5;obtain⟨v,hv,h7⟩:=bB h6;obtain⟨hu0,hsz⟩:=kH hq;rw[(bV hs he hu).1,(bV hs he hv).1];refine append_run hs hu0 hsz hz (by simpa[Nat.beq_eq]using hzl) hby ?_ h7;rw[Bool.or_eq_true]at ht
  rcases ht with ht|ht
  .unfold isSl at ht;split at ht
   .exact .inl ⟨_,by assumption⟩
   .cases ht
  .exact .inr (bBo ht)
theorem zeros_op(hs:Sim α s w)(he:EOk α s N e a){x y:Operand}{t t' ty:TypeId}{r:R}(hi':isIntT t'=true)(h:oZeros x y t s e=some r): ∃α' w' v s',r= .v v s'/\(Builtin.append_ #[t,t'] ty #[a.eval x,a.eval y]).run Ctx.P w= .ok (v.inst α') w'/\Stp α s w α' s' w':=by
 obtain⟨kn,hkn⟩: ∃kn,Ctx.P.underlying t'=some (.int kn):=by
  unfold isIntT at hi';split at hi'
  .exact⟨_,by assumption⟩
  .cases hi'
 obtain⟨⟨q,el,sz⟩,hq,h2⟩:=bB h
 cases q with
 |some _=>cases h2
 |none=>
  obtain⟨z,hz,h3⟩:=bB (show ob (zeroX el) _=some r from h2);obtain⟨by_,hby,h5⟩:=bB h3;obtain⟨u,hu,h6⟩:=bB h5;obtain⟨v,hv,h7⟩:=bB h6;obtain⟨k,n,rfl,h8⟩:=rR h7;obtain⟨h9,h10⟩:=bL h8;cases h10;simp only[Bool.and_eq_true]at h9;obtain⟨g1,g2,g3,g4,g5,g6,g7⟩:=h9;obtain⟨hu0,hsz⟩:=kH hq;obtain⟨i,hi,rfl⟩:=iZ hsz
  obtain⟨i',hi2,hb'⟩:=bB hby
  obtain rfl:i=i':=Option.some.inj (hi.symm.trans hi2);cases hb';have hu':u= .l0:=by cases u<;>first|rfl|cases g1
  subst hu';have g2:0<n:=by simpa[Nat.blt_eq]using g2
  have g3:0<i.size:=by simpa[Nat.blt_eq]using g3
  have g4:z.cells.length=i.size:=by simpa[Nat.beq_eq]using g4
  have g6:=fI g6;have g7:=fI g7;rw[(bV hs he hu).1,(bV hs he hv).1];have hr:=Lib.run_append_nil_zeros (P:=Ctx.P) w t t' ty el i (z.inst α) k kn hu0 hkn hi (yM hz hi) n g2 g3 (by simp only[pow47]at g6;omega) (by simp only[pow47]at g7;omega);have hge:=grownCap_ge w n 0 el;generalize grownCap w n 0 el=C at hr hge
  have hsc: ∀v∈qE n z.cells,v.Sc s.n s.c/\v.one=true:=λv hv=>⟨(sU hz _ _).cells v (sW hv),all_one g5 v (sW hv)⟩
  have hzs:((z.inst α).cells).size=i.size:=by rw[gZ,<-g4];simp
  have hbl:Below w.heap.size w (w.drew.alloc (.cells (Builtin.zeroCells (z.inst α).cells n++Builtin.zeroCells (z.inst α).cells (C-n)) el)):=(Below.refl _ _).drew.alloc (Nat.le_refl _) _;refine⟨α.new s.n w.heap.size s.c (C-n),_,_,_,rfl,?_,Stp.alloc hs (c':=s.c+1) hbl (Nat.le_refl _) (Nat.le_succ _) ⟨λv hv=>⟨(hsc v hv).1.mono (Nat.le_succ _) (Nat.le_succ _),(hsc v hv).2⟩,λk hk=>by cases hk;exact Nat.lt_succ_self _⟩ ?_⟩
  .show(Builtin.append_ #[t,t'] ty #[.slice none 0 0,.int k (n:Int)]).run Ctx.P w=_;rw[hr];simp only[V.inst,Cap.inst,As.new,if_true]
   congr 2
   omega
  .refine⟨(Builtin.zeroCells (z.inst α).cells (C-n)).toList,?_,?_⟩
   .simp only[Array.length_toList,size_zeroCells,hzs,As.new,if_true,Program.cellsOf,hi,Option.map_some,Option.getD_some]
   .have hm:(qE n z.cells).map (V.inst (α.new s.n w.heap.size s.c (C-n)))=(qE n z.cells).map (V.inst α):=(List.map_congr_left λv hv=>(hsc v hv).1.ext (mE _ _ _ _ _)).symm
    have hzc:(Builtin.zeroCells (z.inst α).cells n)=((qE n z.cells).map (V.inst α)).toArray:=by
     have e1:=wZ (α:=α) g4 n;unfold Builtin.zeroCells;rw[hzs]at e1⊢;exact e1
    rw[hm];show(w.drew.alloc _).heap[w.drew.heap.size]?=_;rw[heap_alloc_new,hzc]
    congr 2
    apply Array.ext';simp
theorem append_op(hs:Sim α s w)(he:EOk α s N e a){x y:Operand}{t t' ty:TypeId}{r:R}(h:oAppend x y t t' s e=some r): ∃α' w' v s',r= .v v s'/\(Builtin.append_ #[t,t'] ty #[a.eval x,a.eval y]).run Ctx.P w= .ok (v.inst α') w'/\Stp α s w α' s' w':=by
 unfold oAppend at h;rw[cJ]at h;split at h
 .rename_i hi;exact zeros_op hs he hi h
 .exact append_op0 hs he h
theorem bRl(hs:Sim α s w)(he:EOk α s N e a){f:Operand}{args:Array Operand}{ts:Array TypeId}{ty:TypeId}{r:R}(h:oCallV f args.toList s e=some r):
  ∃g vs,r= .call g vs s/\(do let d<-resolve a.eval ⟨.value f,args,ts⟩ ty;invoke d.target d.args:Sem Next).run Ctx.P w=(callFunc g (vs.map (V.inst α)).toArray).run Ctx.P w/\ ∀v∈vs,v.Sc s.n s.c:=by
 obtain⟨u,hu,h1⟩:=bB h
 cases u with
 |f fn first cap=>
  cases fn with
  |func g=>
   obtain⟨vs,hvs,h2⟩:=bB (show ob (evsX args.toList e) _=some r from h1);cases h2;obtain⟨h3,h4⟩:=xV hs he hvs;obtain⟨h5,h6⟩:=bV hs he hu;have hargs:args.map a.eval=(vs.map (V.inst α)).toArray:=by apply Array.ext';simpa using h3
   refine⟨g,first++(vs++cap),rfl,?_,λv hv=>?_⟩
   .simp only[resolve,h5,bIf,Deferred.ofValue,Sem.run_bind,Sem.run_pure,Result.andThen_ok,invoke,hargs]
    congr 1
    simp
   .obtain⟨d,hd⟩:=h6
    cases d with
    |zero=>cases hd
    |succ d=>
     rw[iN]at hd;simp only[Bool.and_eq_true,oF,List.all_eq_true]at hd
     rcases List.mem_append.1 hv with hv|hv
     .exact⟨d,hd.1 v hv⟩
     .rcases List.mem_append.1 hv with hv|hv
      .exact h4 v hv
      .exact⟨d,hd.2 v hv⟩
  |_=>cases h1
 |_=>cases h1
class Meths:Prop where
 ok: ∀t name f,Ctx.meth t name=some (f,none)-> ∀(v:Value) (w:World),(method (Ctx.P.types.size+Made.depth) t v name).run Ctx.P w= .ok (f,v) w
 deref: ∀t name f el,Ctx.meth t name=some (f,some el)-> ∀(b o:Nat) (r:Value) (w:World),(loadVar el ⟨b,o,none⟩).run Ctx.P w= .ok r w->(method (Ctx.P.types.size+Made.depth) t (.pointer (some ⟨b,o,none⟩)) name).run Ctx.P w= .ok (f,r) w
theorem invoke_run [Meths](hs:Sim α s w)(he:EOk α s N e a){x:Operand}{name:String}{args:Array Operand}{ts:Array TypeId}{ty:TypeId}{r:R}(h:oInvoke x name args.toList s e=some r):
  ∃g vs,r= .call g vs s/\(do let d<-resolve a.eval ⟨.invoke x name,args,ts⟩ ty;invoke d.target d.args:Sem Next).run Ctx.P w=(callFunc g (vs.map (V.inst α)).toArray).run Ctx.P w/\ ∀v∈vs,v.Sc s.n s.c:=by
 obtain⟨u,hu,h1⟩:=bB h;obtain⟨t,v,rfl,h2⟩:=asE_some h1;obtain⟨⟨f,el⟩,hf,h3⟩:=bB h2;obtain⟨q,hq,h4⟩:=bB h3;obtain⟨vs,hvs,h5⟩:=bB h4;cases h5;obtain⟨h5,h6⟩:=bV hs he hu;obtain⟨h7,h8⟩:=xV hs he hvs;have hargs:args.map a.eval=(vs.map (V.inst α)).toArray:=by apply Array.ext';simpa using h7
 have hrecv:a.eval x= .iface t (v.inst α):=h5
 have hm:(method (Ctx.P.types.size+Made.depth) t (v.inst α) name).run Ctx.P w= .ok (f,q.inst α) w/\q.Sc s.n s.c:=by
  have hq:recvX el v s=some q:=hq;unfold recvX at hq;rw[qK]at hq
  cases el with
  |none=>
   cases hq;refine⟨Meths.ok t name f hf _ w,?_⟩;obtain⟨d,hd⟩:=h6
   cases d with
   |zero=>cases hd
   |succ d=>exact⟨d,hd⟩
  |some el=>
   obtain⟨k,o,rfl,h9⟩:=nW hq;obtain⟨r,hr,h10⟩:=bB h9;obtain⟨h11,h12⟩:=bL h10;cases h12;exact⟨Meths.deref t name f el hf _ _ _ w (bJj hs hr),V.Sc.of h11⟩
 refine⟨f,q::vs,rfl,?_,λy hy=>?_⟩
 .have e0:(#[a.eval x]++args.map a.eval)[0]?=some (.iface t (v.inst α)):=by
   rw[Array.getElem?_append_left m9,hrecv];rfl
  have e1:(#[a.eval x]++args.map a.eval).extract 1 (#[a.eval x]++args.map a.eval).size=(vs.map (V.inst α)).toArray:=by
   rw[hargs];apply Array.ext';simp only[List.size_toArray,Array.size_append];simp[List.take_of_length_le]
  simp only[resolve,Sem.run_bind,Sem.run_pure,Result.andThen_ok,invoke,e0,e1,callMethod,run_program,hm.1]
  congr 1
  simp
 .rcases List.mem_cons.1 hy with rfl|hy
  .exact hm.2
  .exact h8 y hy
omit [Ctx]in
theorem delE_map: ∀(es:List Ent) (i:Nat),((es.map (entI α)).toArray.eraseIdxIfInBounds i)=((delE es i).map (entI α)).toArray:=by
 intro es i;apply Array.ext';rw[Array.toList_eraseIdxIfInBounds]
 induction es generalizing i with
 |nil=>simp[delE]
 |cons x es ih=>
  cases i with
  |zero=>simp[delE]
  |succ i=>simpa[delE]using ih i
omit [Ctx]in
theorem delE_mem: ∀{es:List Ent} {i:Nat} {x:Ent},x∈delE es i->x∈es
 |[],_,_,h=>h
 |_::_,0,_,h=>List.mem_cons_of_mem _ h
 |y::es,i+1,x,h=>by
  rcases List.mem_cons.1 h with rfl|h
  .exact List.mem_cons_self ..
  .exact List.mem_cons_of_mem _ (delE_mem h)
omit [Ctx]in
theorem one1_some{args:List Operand}{ts:List TypeId}{f:Operand->TypeId->St->E->Option R}{r:R}(h:one1 args ts f s e=some r): ∃x t,args=[x]/\ts=[t]/\f x t s e=some r:=by
 unfold one1 at h;split at h
 .exact⟨_,_,rfl,rfl,h⟩
 .cases h
theorem delete_run(hs:Sim α s w)(he:EOk α s N e a){m k:Operand}{t t' ty:TypeId}{r:R}(h:oDelete m k t s e=some r): ∃v s' w',r= .v v s'/\(Builtin.delete_ #[t,t'] ty #[a.eval m,a.eval k]).run Ctx.P w= .ok (v.inst α) w'/\Stp α s w α s' w':=by
 obtain⟨f,hf,h1⟩:=bB h;cases h1;obtain⟨kt,hu,hm,hk,hksc,hget,hok,hfind⟩:=bAg hs he hf;have hb:=wM hs hget;have hsc:=hs.sc _ _ hget;have hfr:=bBf (w:=w) (α:=α) hok hfind;rw[hm,hk,qK];have hv:(V.t []).inst α= .tuple #[]:=by simp[inst_t]
 cases ha:f.at_ with
 |none=>
  rw[ha]at hfr;refine⟨_,_,_,rfl,?_,xT hs hget (es':=f.es) (c':=f.clock) hsc⟩;rw[hv];simp[Builtin.delete_,run_underlying hu,MapKept.run_getObj_map hb,nD hok,hfr,Result.andThen_ok,MapKept.run_setObj_map _ hb]
 |some q=>
  obtain⟨j,v0⟩:=q;rw[ha]at hfr;refine⟨_,_,_,rfl,?_,xT hs hget (es':=delE f.es j) (c':=f.clock) (λx hx=>hsc x (delE_mem hx))⟩;rw[hv,<-delE_map];simp[Builtin.delete_,run_underlying hu,MapKept.run_getObj_map hb,nD hok,hfr,Result.andThen_ok,MapKept.run_setObj_map _ hb]
theorem clear_run(hs:Sim α s w)(he:EOk α s N e a){x:Operand}{t ty:TypeId}{r:R}(h:oClear x t s e=some r): ∃v s' w',r= .v v s'/\(Builtin.clear_ #[t] ty #[a.eval x]).run Ctx.P w= .ok (v.inst α) w'/\Stp α s w α s' w':=by
 obtain⟨⟨q,el,sz⟩,hq,h1⟩:=bB h
 cases q with
 |some _=>cases h1
 |none=>
  obtain⟨u,hu,h2⟩:=bB (show ob (evX x e) _=some r from h1);obtain⟨hu0,hsz⟩:=kH hq;rw[(bV hs he hu).1];have hv:(V.t []).inst α= .tuple #[]:=by simp[inst_t]
  have h2:clearV el sz u s=some r:=h2
  cases u with
  |l0=>
   cases h2;refine⟨_,_,w,rfl,?_,Stp.refl hs⟩;rw[hv];simp[Builtin.clear_,run_underlying hu0,V.inst]
  |z k o o' c=>
   cases h2;refine⟨_,_,w,rfl,?_,Stp.refl hs⟩;rw[hv];simp[Builtin.clear_,run_underlying hu0,V.inst]
  |l k o n c=>
   have h2:sel (Nat.beq n 0) (some (R.v (.t []) s)) (clearX el sz k o n s)=some r:=h2;rw[cJ]at h2
   by_cases hn0:Nat.beq n 0=true
   .rw[if_pos hn0]at h2;cases h2;have hn0:n=0:=by simpa[Nat.beq_eq]using hn0
    subst hn0;refine⟨_,_,w,rfl,?_,Stp.refl hs⟩;rw[hv];simp[Builtin.clear_,run_underlying hu0,V.inst]
   .rw[if_neg hn0]at h2;have hn0:n≠0:=λe0=>hn0 (by rw[e0];rfl);obtain⟨z,hz,h3⟩:=bB h2;obtain⟨h4,h5⟩:=bL h3;obtain⟨s',hst,h6⟩:=bB h5;cases h6;rw[Bool.and_eq_true]at h4;obtain⟨hzl,h1c⟩:=h4;have hzl:z.cells.length=sz:=by simpa[Nat.beq_eq]using hzl
    obtain⟨w',hw,hstp⟩:=tM hs hst (λv hv=>(sU hz _ _).cells v (sW hv)) (λv hv=>all_one h1c v (sW hv));refine⟨_,_,w',rfl,?_,hstp⟩;rw[hv]
    have hzc:(Builtin.zeroCells (z.inst α).cells n).toList=(qE n z.cells).map (V.inst α):=by
     have e1:=wZ (α:=α) hzl n;have e2:(z.inst α).cells.size=sz:=by rw[gZ,<-hzl];simp
     unfold Builtin.zeroCells;rw[e2]at e1⊢;rw[e1]
    obtain⟨n,rfl⟩: ∃m,n=m+1:=⟨n-1,k7⟩
    simp[Builtin.clear_,run_underlying hu0,V.inst,uD hz w α,hzc,hw]
  |_=>cases h2
theorem copy_run(hs:Sim α s w)(he:EOk α s N e a){x y:Operand}{t t' ty:TypeId}{r:R}(h:oCopy x y t s e=some r): ∃v s' w',r= .v v s'/\(Builtin.copy_ #[t,t'] ty #[a.eval x,a.eval y]).run Ctx.P w= .ok (v.inst α) w'/\Stp α s w α s' w':=by
 obtain⟨⟨q,el,sz⟩,hq,h1⟩:=bB h
 cases q with
 |some _=>cases h1
 |none=>
  obtain⟨u,hu,h2⟩:=bB (show ob (evX x e) _=some r from h1);obtain⟨v,hv,h3⟩:=bB h2;obtain⟨hu0,hsz⟩:=kH hq;rw[(bV hs he hu).1,(bV hs he hv).1]
  cases u with
  |l k o m c=>
   have h3:copyX sz k o m v s=some r:=h3
   cases v with
   |l0=>
    cases h3;refine⟨_,_,w,rfl,?_,Stp.refl hs⟩;simp[Builtin.copy_,run_underlying hu0,V.inst,Builtin.lenOf,Builtin.firstCells,iA hsz,storeCells,goInt]
   |l k' o' m' c'=>
    obtain⟨cs,hc,h4⟩:=bB (show ob (bDs s k' o' ((Nat.min m' m)*sz)) _=some r from h3);obtain⟨s',hst,h5⟩:=bB h4;cases h5;have hsc:=row_sc hs hc;obtain⟨w',hw,hstp⟩:=tM hs hst (λu hu=>(hsc u hu).1) (λu hu=>(hsc u hu).2);refine⟨_,_,w',rfl,?_,hstp⟩;obtain⟨h6,h7⟩:=oP hs hc
    have hl:=run_loadCells_list (P:=Ctx.P) w ⟨α.blk k',o',none⟩ (cs.map (V.inst α)) (λj u hj=>by
     rw[List.getElem?_map]at hj
     cases hu:cs[j]? with
     |none=>rw[hu]at hj;cases hj
     |some u'=>
      rw[hu]at hj;cases hj;rw[lB]
      exact h7 j u' hu)
    rw[List.length_map,h6]at hl;simp[Builtin.copy_,run_underlying hu0,V.inst,Builtin.lenOf,Builtin.firstCells,iA hsz,hl,hw,goInt]
   |_=>cases h3
  |_=>cases h3
theorem builtin_run(hs:Sim α s w)(he:EOk α s N e a){b:Builtin}{args:Array Operand}{ts:Array TypeId}{ty:TypeId}{r:R}(h:oBuiltin b args.toList ts.toList s e=some r):
  ∃α' w' v s',r= .v v s'/\(do let d<-resolve a.eval ⟨.builtin b,args,ts⟩ ty;invoke d.target d.args:Sem Next).run Ctx.P w= .ok (.value (v.inst α')) w'/\Stp α s w α' s' w':=by
 have other:(ob (pCall b args.toList ts.toList s e) λv=>some (R.v v s))=some r-> ∃α' w' v s',r= .v v s'/\(do let d<-resolve a.eval ⟨.builtin b,args,ts⟩ ty;invoke d.target d.args:Sem Next).run Ctx.P w= .ok (.value (v.inst α')) w'/\Stp α s w α' s' w':=λh=>by
  obtain⟨v,hv,h1⟩:=bB h;cases h1;exact⟨α,w,v,s,rfl,call_run hs he hv ty,Stp.refl hs⟩
 cases b with
 |append=>
  obtain⟨x,y,t,t',h1,h2,h3⟩:=bCl (show two args.toList ts.toList oAppend s e=some r from h);obtain⟨α',w',v,s',h4,h5,h6⟩:=append_op (t':=t') (ty:=ty) hs he h3;refine⟨α',w',v,s',h4,?_,h6⟩;rw[mA,tV h1,ts_two h2];exact cO h5
 |unsafeString=>
  obtain⟨x,y,t,t',h1,h2,h3⟩:=bCl (show two args.toList ts.toList (λx y t _=>bLo x y t) s e=some r from h);obtain⟨v,s',w',h4,h5,h6⟩:=ustr_run (t':=t') (ty:=ty) hs he h3;refine⟨α,w',v,s',h4,?_,h6⟩;rw[mA,tV h1,ts_two h2];exact cO h5
 |delete=>
  obtain⟨x,y,t,t',h1,h2,h3⟩:=bCl (show two args.toList ts.toList (λm k t _=>oDelete m k t) s e=some r from h);obtain⟨v,s',w',h4,h5,h6⟩:=delete_run (t':=t') (ty:=ty) hs he h3;refine⟨α,w',v,s',h4,?_,h6⟩;rw[mA,tV h1,ts_two h2];exact cO h5
 |copy=>
  obtain⟨x,y,t,t',h1,h2,h3⟩:=bCl (show two args.toList ts.toList (λx y t _=>oCopy x y t) s e=some r from h);obtain⟨v,s',w',h4,h5,h6⟩:=copy_run (t':=t') (ty:=ty) hs he h3;refine⟨α,w',v,s',h4,?_,h6⟩;rw[mA,tV h1,ts_two h2];exact cO h5
 |clear=>
  obtain⟨x,t,h1,h2,h3⟩:=one1_some (show one1 args.toList ts.toList oClear s e=some r from h);obtain⟨v,s',w',h4,h5,h6⟩:=clear_run (ty:=ty) hs he h3;refine⟨α,w',v,s',h4,?_,h6⟩;have ets:ts= #[t]:=by apply Array.ext';simpa using h2
  rw[mA,bHs h1,ets];exact cO h5
 |_=>exact other h
theorem oPure_run(hs:Sim α s w)(he:EOk α s N e a){o:Oper}{r:R}(h:oPure o.op s e=some r):bHc o a α s w r:=by
 obtain⟨v,hv,h1⟩:=bB h;cases h1;exact⟨α,w,pure_run hs he hv,Stp.refl hs⟩
theorem op_run [Meths](hs:Sim α s w)(he:EOk α s N e a){o:Oper}{r:R}(h:opX o.op s e=some r):bHc o a α s w r:=by
 cases ho:o.op with
 |alloc t=>rw[ho]at h;exact alloc_run (e:=e) hs ho h
 |box t x=>rw[ho]at h;exact box_run hs he ho h
 |buildSlice t n parts=>rw[ho]at h;exact bMx hs he ho h
 |store t x y=>rw[ho]at h;exact storeOp_run hs he ho h
 |makeSlice t l c=>rw[ho]at h;exact bOb hs he ho h
 |makeMap t x=>rw[ho]at h;exact makeMap_run hs he ho h
 |mapUpdate t m k x=>
  rw[ho]at h;obtain⟨s',w',rfl,h1,h2⟩:=bLr hs he (show bKh t m k x s e=some r from h);refine⟨α,w',?_,h2⟩;unfold execOp;simp only[ho];exact bAw h1
 |insert t m k x=>
  rw[ho]at h;obtain⟨s',w',rfl,h1,h2⟩:=bLr hs he (show bKh t m k x s e=some r from h);refine⟨α,w',?_,h2⟩;unfold execOp;simp only[ho];exact bAw h1
 |mapEntry t m k=>rw[ho]at h;exact mapEntry_run hs he ho h
 |entryStore t m k x=>rw[ho]at h;exact bKm hs he ho h
 |range t x=>rw[ho]at h;exact range_run hs he ho h
 |next x str=>rw[ho]at h;exact next_run hs he ho h
 |call c=>
  rw[ho]at h;obtain⟨callee,args,ts⟩:=c
  cases callee with
  |builtin b=>
   obtain⟨α',w',v,s',rfl,h1,h2⟩:=builtin_run (ty:=o.type) hs he (show oBuiltin b args.toList ts.toList s e=some r from h);refine⟨α',w',?_,h2⟩;unfold execOp;simp only[ho];exact h1
  |value f=>
   obtain⟨g,vs,rfl,h1,h2⟩:=bRl (ts:=ts) (ty:=o.type) hs he (show oCallV f args.toList s e=some r from h);refine⟨rfl,?_,h2⟩;unfold execOp;simp only[ho];exact h1
  |invoke x name=>
   obtain⟨g,vs,rfl,h1,h2⟩:=invoke_run (ts:=ts) (ty:=o.type) hs he (show oInvoke x name args.toList s e=some r from h);refine⟨rfl,?_,h2⟩;unfold execOp;simp only[ho];exact h1
 |_=>exact oPure_run hs he (show oPure o.op s e=some r by rw[ho]at h⊢;exact h)
end
end X
end
end Go.Proofs.YtnfiadlonjediaaGreatDoor
