/- Texts of one proof, one behind the other: Str, Fun, RunC, RunD. -/
import Derived.Test.YtofjmphlpdhohaaGreatDoorM3
import Derived.Scope
namespace Go.Proofs.YtofjmphlpdhohaaGreatDoor
open Go.RowKit
abbrev Bs:=List UInt8
def bs (l:Bs):ByteArray:=⟨l.toArray⟩
section
variable {P : Program} {β : fZ} {n : Nat} {Γ : Env} {H : List bS} {F : List bR} {Q : Exit → Act → World → Prop} {K : Act → World → Prop} {T : Tab} {α : Type} {E : Flat α}
theorem dV.str(hT:dV P T){t sz:Nat}(ht:T.get t=some ⟨.string,sz⟩):P.underlying t=some .string:=by
  obtain⟨d,hu,hd⟩:=hT.any ht;cases d<;>simp [TD.of] at hd
  exact hu
def cutA (A:Option Addr)(l size c:Nat):Option Addr:=if c=l then A else A.map (·.add (l*size))
end
section
variable {P : Program} {β : fZ} {n : Nat} {Γ : Env} {H : List bS} {F : List bR} {Q : Exit → Act → World → Prop} {K : Act → World → Prop} {T : Tab} {α : Type} {E : Flat α}
theorem run_callv{o:Oper}{f:FuncId}{x:Operand}{first cap:Array Value}{ars:Array Operand}{ts:Array TypeId}{vs:List Value}{a:Act}(hcf: ∀(args:Array Value) (w:World),(callFunc f args).run P w= .ok (.enter f args) w)(ho:o.op= .call ⟨.value x,ars,ts⟩)(fi:jV n Γ a)
    (hx:Γ.ev x=some (.func (.func f) first cap)) (hv:Γ.evs ars.toList=some vs) (w:World):(execOp a.eval o).run P w= .ok (.enter f (first++vs.toArray++cap)) w:=by
  have hm:ars.map a.eval=vs.toArray:=by
    apply Array.ext'
    simpa using fi.evs hv
  unfold execOp;simp only [ho,resolve,fi.ev hx,Deferred.ofValue,Sem.run_bind,Sem.run_pure,Result.andThen_ok,invoke];simp [hm,hcf]
theorem xI{ι:Type}{ops:Array Oper}{rest:List Oper}{o:Oper}{d:Nat}{f:FuncId}{x:Operand}{first cap:Array Value}{ars:Array Operand}{ts:Array TypeId}{vs all:List Value}{Hin H2:List bS}{Pre:List bR}{val:ι→Value}{Hout:ι→List bS}{post:ι→List bR}
    (hcf: ∀(args:Array Value) (w:World),(callFunc f args).run P w= .ok (.enter f args) w) (hs:dS P f all Hin Pre val Hout post) (hw:want ops Γ o=some true) (ho:o.op= .call ⟨.value x,ars,ts⟩) (hx:Γ.ev x=some (.func (.func f) first cap)) (hd:o.dst=some d) (hn:Nat.blt d n=true)
    (hv:Γ.evs ars.toList=some vs) (hall:first.toList++vs++cap.toList=all) (hH:nM H Hin H2) (hF:bK F Pre) (k: ∀x,At β n ((d,val x)::Γ) (Hout x++H2) (post x++F) (wpList P ops Q rest)):At β n Γ H F (wpList P ops Q (o::rest)):=
  iT hw fun a w S f s hk=>by
    unfold Oper.wp;rw [run_callv hcf ho f hx hv w,Oper.upon_enter]
    have e:first++vs.toArray++cap=all.toArray:=by
      rw [←hall];apply Array.ext';simp
    rw [e];have s1:=s.perm hH.perm;refine(hs S w s1.enter (hF.all S w hk)).mono ?_;rintro e w' ⟨x,S',rfl,s',k'⟩;show wpList P ops Q rest (a.put o.dst (val x)) w';rw [hd];exact k x _ _ _ (f.put (by simpa [Nat.blt_eq] using hn) _) (s1.leave s') ((All.mono (fun _ h=> .inr h) (fun _ _=>rfl) k').append (All.leave s1 s' hk))
def resVal(a:Act):ResultVar→Sem Value
  | .tmp t=>pure (a.tmps.getD t undef)
  | .cell ad t=>do loadVar t (←asAddr (a.tmps.getD ad undef))
def RV (P:Program)(β:fZ)(n:Nat)(Γ:Env)(H:List bS)(F:List bR)(r:ResultVar)(v:Value):Prop:= ∀a w S,jV n Γ a→St β H S w→All F S w→(resVal a r).run P w= .ok v w
theorem bH{t:Nat}{v:Value}(h:Γ.get t=some v):RV P β n Γ H F (.tmp t) v:=fun a w S f _ _=>by
  have:=f.get t v h;simp [resVal,Array.getD_eq_getD_getElem?,this]
theorem oJ(hT:dV P T){t ty b q:Nat}{i:TI}{cs l:List Value}(hk:iN β H F b q cs)(h:Γ.get t=some (.pointer (some ⟨b,q,none⟩)))(ht:T.get ty=some i)(ha:aggD i.desc=true)(hv:cut cs 0 i.size=some l):RV P β n Γ H F (.cell t ty) (.agg l.toArray):=fun a w S f s k=>by
  have:=f.get t _ h;obtain⟨h1,h2,h3⟩:=pV hv;have hl:=run_loadCells_list (P:=P) w ⟨b,q,none⟩ l (fun j u hj=>by rw [Addr.add_mid];exact hk w S s k j u (by simpa using h3 j u hj));rw [h2] at hl;unfold resVal;simp only [Array.getD_eq_getD_getElem?,this,Option.getD_some,asAddr,Sem.run_bind,Sem.run_pure,Result.andThen_ok,loadVar,hT.agg ht,ha,if_true,hT.size ht,hl]
theorem rM(fn:Func)(a:Act):results fn a.tmps=(do let vs←fn.results.mapM (resVal a);pure (if h:vs.size=1 then vs[0] else .tuple vs)):=by
  have e:(fun x:ResultVar=>(match x with | .tmp t=>pure (a.tmps.getD t undef) | .cell ad t=>do loadVar t (←asAddr (a.tmps.getD ad undef)):Sem Value))=resVal a:=by
    funext x
    cases x<;>rfl
  unfold results;rw [←e];rfl
section
variable {ι : Type} {fn : Func} {val : ι → Value} {Hout : ι → List bS} {post : ι → List bR} {r1 r2 r3 : ResultVar} {v1 v2 v3 : Value}
theorem bD(x:ι)(hr:fn.results= #[r1])(h1:RV P β n Γ H F r1 v1)(hH:Sel H (Hout x))(hF:bK F (post x))(he:v1=val x):At β n Γ H F (bodyPost P fn (Done β val Hout post) .ret):=fun a w S f s k=>by
  refine⟨f.defers,v1,?_,x,S,by rw [he],s.sel hH,hF.all S w k⟩;rw [rM,hr];simp [h1 a w S f s k]
theorem mK(x:ι)(hr:fn.results= #[r1,r2])(h1:RV P β n Γ H F r1 v1)(h2:RV P β n Γ H F r2 v2)(hH:Sel H (Hout x))(hF:bK F (post x))(he: .tuple #[v1,v2]=val x):At β n Γ H F (bodyPost P fn (Done β val Hout post) .ret):=fun a w S f s k=>by
  refine⟨f.defers,.tuple #[v1,v2],?_,x,S,by rw [he],s.sel hH,hF.all S w k⟩;rw [rM,hr];simp [h1 a w S f s k,h2 a w S f s k]
end
end
end Go.Proofs.YtofjmphlpdhohaaGreatDoor
namespace Go.Proofs.YtofjmphlpdhohaaGreatDoor
namespace X
open Go.RowKit
def CallR (P:Program)(f:FuncId)(args:Array Value)(w:World)(R:Value→World→Prop):Prop:=
  (∃v w',(callFunc f args).run P w= .ok (.value v) w'∧R v w')∨((callFunc f args).run P w= .ok (.enter f args) w∧Calls P f args w fun e w'=> ∃v,e= .returned v∧R v w')
def exitOf:Ex→Exit
  | .nm=> .normal
  | .ex id=> .exit id
  | .rt=> .ret
section
variable [Ctx]
def nR (f:FuncId)(h:Orc):Prop:= ∀args s v s',h args s=some (v,s')→ ∀α w,Sim α s w→(∀x∈args,x.Sc s.n s.c)→CallR Ctx.P f (args.map (V.inst α)).toArray w fun u w'=> ∃α',u=v.inst α'∧Stp α s w α' s' w'
class Good:Prop extends Meths where
  mixed:Ctx.P.follows .mixedOrders=true
  gl: ∀g k,Ctx.gl g=some k→k<Ctx.n0
  valid: ∀f,Ctx.known f=true→ ∀fn c,Ctx.P.funcs[f]?=some fn→fn.body=some c→iB f c=true
  orc: ∀f h,Ctx.orc f=some h→nR f h
def Post (α:As)(s:St)(w:World)(N:Nat)(x:Ex)(e':E)(s':St)(ex:Exit)(a':Act)(w':World):Prop:=ex=exitOf x∧ ∃α',Stp α s w α' s' w'∧EOk α' s' N e' a'
def mR (rec:Rec):Prop:= ∀f N c e s x e' s',iB f c=true→rec f N c e s=some (x,e',s')→ ∀α w a,Sim α s w→EOk α s N e a→c.wp Ctx.P (Post α s w N x e' s') a w
section
variable {α α' : As} {s s' : St} {w w' : World} {N : Nat} {e e' : E} {a a' : Act} {rec : Rec}
theorem EOk.step(he:EOk α s N e a)(h:Stp α s w α' s' w'):EOk α' s' N e a:=⟨he.defers,he.size,fun i v hi=>by
  obtain⟨h1,h2⟩:=he.get i v hi
  exact⟨h1.mono h.n h.c,by rw [←h1.ext h.same];exact h2⟩⟩
omit [Ctx] in
theorem pQ(he:EOk α s N e a){d:Option Tmp}{v:V}(h:putX N d v s e=some (e',s')):s'=s∧EOk α s N e' (a.put d (v.inst α)):=by
  cases d with
  | none=>
    have h:some (e,s)=some (e',s'):=h;cases h;exact⟨rfl,he⟩
  | some d=>
    obtain⟨h1,h2⟩:=bT (show gd _ _=some (e',s') from h);cases h2;rw [Bool.and_eq_true] at h1;have hd:d<N:=by simpa [Nat.blt_eq] using h1.1
    refine⟨rfl,he.defers,by simpa [Act.put] using he.size,fun i u hi=>?_⟩;have hlt:d<a.tmps.size:=Nat.lt_of_lt_of_le hd he.size
    rcases T.get_set_fuel _ _ _ _ _ _ hi with ⟨rfl,e0⟩ | ⟨hne,hi⟩
    · cases e0;exact⟨V.Sc.of h1.2,by simp [Act.put,hlt]⟩
    · obtain⟨h3,h4⟩:=he.get i u hi;exact⟨h3,by simp [Act.put,Ne.symm hne,h4]⟩
omit [Ctx] in
theorem want_ok(he:EOk α s N e a){ops:Array Oper}{o:Oper}{t:Bool}(h:zV ops o e=some t):Region.wanted o (yielded ops a.tmps)=t:=by
  unfold zV at h;unfold Region.wanted
  cases hg:o.guard with
  | none=>
    rw [hg] at h;cases h;rfl
  | some q=>
    rw [hg] at h;obtain⟨j,c⟩:=q;obtain⟨p,hp,h1⟩:=bA (show wantG ops j c e=some t from h);obtain⟨d,hd,h2⟩:=bA h1;obtain⟨v,hv,h3⟩:=bA h2;rw [gP] at hp;have hp:ops[j]?=some p:=by simpa using hp
    have hr:=(he.get d v hv).2
    cases v with
    | b x=>
      cases h3;simp [yielded,hp,hd,hr,V.inst]
    | t vs=>
      cases h3;simp [yielded,hp,hd,hr,V.inst]
    | _=>cases h3
omit [Ctx] in
theorem args_ok{l:List V}(hl: ∀v∈l,v.Sc s.n s.c): ∀(n:Nat) (e:E) (L:List Value),(∀i v,e.get i=some v→v.Sc s.n s.c∧i<n∧L[i]?=some (v.inst α))→(∀i,n≤i→i<n+l.length→L[i]?=(l[i-n]?).map (V.inst α))→
    ∀i v,(argsE n l e).get i=some v→v.Sc s.n s.c∧i<n+l.length∧L[i]?=some (v.inst α):=by
  induction l with
  | nil=>
    intro n e L he _ i v h;have:=he i v h
    simpa using this
  | cons u l ih=>
    intro n e L he hL i v h;have h:(argsE (n+1) l (e.set (some u) fuelT n)).get i=some v:=h
    have:=ih (fun x hx=>hl x (List.mem_cons_of_mem _ hx)) (n+1) (e.set (some u) fuelT n) L (fun j x hj=>by
      rcases T.get_set_fuel _ _ _ _ _ _ hj with ⟨rfl,e0⟩ | ⟨_,hj⟩
      · cases e0;refine⟨hl _ (List.mem_cons_self ..),Nat.lt_succ_self _,?_⟩;have:=hL j (Nat.le_refl _) (by simp)
        simpa using this
      · obtain⟨h1,h2,h3⟩:=he j x hj
        exact⟨h1,by omega,h3⟩) (fun j h1 h2=>by
      have:=hL j (by omega) (by simp;omega);rw [this];rw [show j-n=(j-(n+1))+1 from by omega]
      rfl) i v h
    refine⟨this.1,by simp;omega,this.2.2⟩
omit [Ctx] in
theorem enter_ok{l:List V}(hl: ∀v∈l,v.Sc s.n s.c)(hN:l.length≤N):EOk α s N (argsE 0 l .lf) {tmps:=(l.map (V.inst α)).toArray++Array.replicate (N-(l.map (V.inst α)).toArray.size) undef,defers:=[]}:=by
  refine⟨rfl,by simp;omega,fun i v hi=>?_⟩;obtain⟨h1,h2,h3⟩:=args_ok (α:=α) hl 0 .lf (l.map (V.inst α)) (fun i v h=>by cases h) (fun i _ _=>by simp) i v hi;refine⟨h1,?_⟩;rw [Nat.zero_add] at h2;rw [Array.getElem?_append,if_pos (by simpa using h2)]
  simpa using h3
theorem res_run(hs:Sim α s w)(he:EOk α s N e a){fn:Func}{l:List V}(h:tB (resV e s) fn.results.toList=some l):(results fn a.tmps).run Ctx.P w= .ok ((oneRes l).inst α) w:=by
  have one: ∀(r:ResultVar) (v:V),resV e s r=some v→(resVal a r).run Ctx.P w= .ok (v.inst α) w:=fun r v hr=>by
    cases r with
    | tmp t=>
      have:=(he.get t v hr).2;simp [resVal,Array.getD_eq_getD_getElem?,this]
    | cell t q=>
      obtain⟨u,hu,h1⟩:=bA (show ob (e.get t) _=some v from hr);obtain⟨k,o,rfl,h2⟩:=jM h1;have:=(he.get t _ hu).2;simp [resVal,Array.getD_eq_getD_getElem?,this,V.inst,asAddr,xM hs h2]
  have all: ∀(rs:List ResultVar) (l:List V),tB (resV e s) rs=some l→(rs.mapM (resVal a)).run Ctx.P w= .ok (l.map (V.inst α)) w:=by
    intro rs
    induction rs with
    | nil=>intro l h;cases h;rfl
    | cons r rs ih=>
      intro l h;obtain⟨v,hv,h1⟩:=bA h;obtain⟨l',hl,h2⟩:=bA h1;cases h2;simp [List.mapM_cons,one r v hv,ih l' hl]
  rw [rM,Sem.run_bind,Array.mapM_eq_mapM_toList,Sem.run_map,all _ _ h];simp only [Result.andThen_ok,Sem.run_pure]
  match l with
  | []=>simp [oneRes,inst_t]
  | [v]=>simp [oneRes]
  | v::u::l=>simp [oneRes,inst_t]
variable [Good]
theorem sI(hrec:mR rec)(hs:Sim α s w){f:FuncId}{args:List V}{v:V}(h:yQ f rec args s=some (v,s'))(hargs: ∀x∈args,x.Sc s.n s.c):
    (callFunc f (args.map (V.inst α)).toArray).run Ctx.P w= .ok (.enter f (args.map (V.inst α)).toArray) w∧Calls Ctx.P f (args.map (V.inst α)).toArray w fun e w'=> ∃u,e= .returned u∧ ∃α',u=v.inst α'∧Stp α s w α' s' w':=by
  obtain⟨hk,h1⟩:=bT h;obtain⟨fn,hf,h2⟩:=bA h1;obtain⟨c,hb,h3⟩:=bA h2;obtain⟨h4,h5⟩:=bT h3;obtain⟨⟨x,e1,s1⟩,hr,h6⟩:=bA h5;obtain⟨h7,h8⟩:=bT h6;obtain⟨l,hl,h9⟩:=bA h8;cases h9;simp only [Bool.and_eq_true,Bool.not_eq_true'] at h4;refine⟨cN hf h4.2.2 (by rw [hb];rfl) _ _,?_⟩;refine calls_of_wp hf hb (Code.wp_mono (fun ex a' w' hp=>?_) (hrec f fn.ntmps c _ s x e1 s1 (Good.valid f hk fn c hf hb) hr α w _ hs (enter_ok hargs (dO h4.1))));obtain⟨rfl,α',hst,he'⟩:=hp;have hres:=res_run hst.sim he' hl
  cases x with
  | nm=>exact⟨he'.defers,_,hres,_,rfl,α',rfl,hst⟩
  | ex id=>cases h7
  | rt=>exact⟨he'.defers,_,hres,_,rfl,α',rfl,hst⟩
theorem call_ok(hrec:mR rec)(hs:Sim α s w){f:FuncId}{args:List V}{v:V}(h:callX f rec args s=some (v,s'))(hargs: ∀x∈args,x.Sc s.n s.c):
    CallR Ctx.P f (args.map (V.inst α)).toArray w fun u w'=> ∃α',u=v.inst α'∧Stp α s w α' s' w':=by
  unfold callX at h;rw [lY] at h
  cases ho:Ctx.orc f with
  | some g=>
    rw [ho] at h;exact Good.orc f g ho args s v s' h α w hs hargs
  | none=>
    rw [ho] at h;exact .inr (sI hrec hs h hargs)
theorem tP(hrec:mR rec)(hs:Sim α s w)(he:EOk α s N e a){ops:Array Oper}{o:Oper}(h:oneX rec N ops o e s=some (e',s')){K:Act→World→Prop}{Q:Exit→Act→World→Prop}
    (k: ∀α' a' w',Stp α s w α' s' w'→EOk α' s' N e' a'→K a' w'):if Region.wanted o (yielded ops a.tmps) then o.wp Ctx.P a w K Q else K (a.put o.dst undef) w:=by
  obtain⟨t,ht,h1⟩:=bA h;rw [want_ok he ht];rw [cE] at h1
  cases t with
  | false=>
    simp only [Bool.false_eq_true,if_false] at h1⊢;obtain⟨rfl,h2⟩:=pQ he h1;rw [rK] at h2;exact k α _ w (Stp.refl hs) h2
  | true=>
    simp only [if_true] at h1⊢;obtain⟨r,hr,h2⟩:=bA h1;have hrun:=op_run hs he hr;unfold Oper.wp
    cases r with
    | v v s1=>
      obtain⟨α',w',h3,h4⟩:=hrun;rw [h3,Oper.upon_value];obtain⟨rfl,h5⟩:=pQ (he.step h4) (show putX N o.dst v s1 e=some (e',s') from h2);exact k α' _ w' h4 h5
    | sk s1=>
      obtain⟨α',w',h3,h4⟩:=hrun;rw [h3,Oper.upon_skip];obtain⟨rfl,h5⟩:=pQ (he.step h4) (show putX N o.dst undefV s1 e=some (e',s') from h2);rw [rK] at h5;exact k α' _ w' h4 h5
    | call f args s1=>
      obtain⟨rfl,h3,hsc⟩:=hrun;obtain⟨⟨v,s2⟩,hc,h4⟩:=bA (show ob (callX f rec args s1) _=some (e',s') from h2)
      rcases call_ok hrec hs hc hsc with ⟨u,w',h5,α',rfl,h6⟩ | ⟨h5,h6⟩
      · rw [h3,h5,Oper.upon_value];obtain⟨rfl,h7⟩:=pQ (he.step h6) (show putX N o.dst v s2 e=some (e',s') from h4);exact k α' _ w' h6 h7
      · rw [h3,h5,Oper.upon_enter];refine h6.mono ?_;rintro ex w' ⟨u,rfl,α',rfl,h7⟩;obtain⟨rfl,h8⟩:=pQ (he.step h7) (show putX N o.dst v s2 e=some (e',s') from h4);exact k α' _ w' h7 h8
theorem ops_wp(hrec:mR rec){ops:Array Oper}{Q:Exit→Act→World→Prop}: ∀(l:List Oper) (e:E) (s:St) (α:As) (w:World) (a:Act),Sim α s w→EOk α s N e a→opsX rec N ops l e s=some (e',s')→
    (∀α' a' w',Stp α s w α' s' w'→EOk α' s' N e' a'→Q .normal a' w')→wpList Ctx.P ops Q l a w
  | [],e,s,α,w,a,hs,he,h,k=>by
    have h:some (e,s)=some (e',s'):=h;cases h;exact k α a w (Stp.refl hs) he
  | o::l,e,s,α,w,a,hs,he,h,k=>by
    obtain⟨⟨e1,s1⟩,h1,h2⟩:=bA (show ob (oneX rec N ops o e s) _=some (e',s') from h);have:=tP hrec hs he h1 (K:=wpList Ctx.P ops Q l) (Q:=Q) (fun α' a' w' h3 h4=>ops_wp hrec l e1 s1 α' w' a' h3.sim h4 h2 fun α'' a'' w'' h5 h6=>k α'' a'' w'' (h3.trans h5) h6);unfold wpList;split
    · rename_i hw;rw [hw] at this;exact .inl this
    · rename_i hw;simp only [hw] at this;exact this
end
end
end X
end Go.Proofs.YtofjmphlpdhohaaGreatDoor
namespace Go.Proofs.YtofjmphlpdhohaaGreatDoor
namespace X
open Go.RowKit
theorem jY{α:Type}{p:α→α→Bool}(hp: ∀x y,p x y=true→x=y): ∀{l m:List α},mI p l m=true→l=m
  | [],[],_=>rfl
  | [],_::_,h=>by cases h
  | _::_,[],h=>by cases h
  | x::l,y::m,h=>by
    simp only [mI,Bool.and_eq_true] at h;rw [hp x y h.1,jY hp h.2]
theorem fV{a b:Nat}(h:Nat.beq a b=true):a=b:=Nat.eq_of_beq_eq_true h
theorem cap_eq{a b:Cap}(h:capEq a b=true):a=b:=by
  cases a<;>cases b<;>simp only [capEq,Bool.and_eq_true,Nat.beq_eq] at h<;>first | cases h | skip
  · rfl
  · rename_i h1 h2;rw [h1,h2]
theorem qP: ∀(d:Nat) (u v:V),rI d u v=true→u=v:=by
  intro d
  induction d with
  | zero=>intro u v h;cases h
  | succ d ih=>
    intro u v h;cases u<;>cases v<;>try (cases h;done)
    case b.b x y=>
      have h:(x==y)=true:=h;rw [beq_iff_eq.1 h]
    case i.i k x k' y=>
      have h:(sameKind k k'&&ieq x y)=true:=h;rw [Bool.and_eq_true,tJ] at h;rw [iD h.1,beq_iff_eq.1 h.2]
    case s.s x y=>rw [jY (fun _ _=>fV) (show mI Nat.beq x y=true from h)]
    case p0.p0=>rfl
    case p.p k o k' o'=>
      have h:(Nat.beq k k'&&Nat.beq o o')=true:=h;rw [Bool.and_eq_true] at h;rw [fV h.1,fV h.2]
    case l0.l0=>rfl
    case l.l k o n c k' o' n' c'=>
      have h:(Nat.beq k k'&&(Nat.beq o o'&&(Nat.beq n n'&&capEq c c')))=true:=h;simp only [Bool.and_eq_true] at h;rw [fV h.1,fV h.2.1,fV h.2.2.1,cap_eq h.2.2.2]
    case z.z k o n c k' o' n' c'=>
      have h:(Nat.beq k k'&&(Nat.beq o o'&&(Nat.beq n n'&&Nat.beq c c')))=true:=h;simp only [Bool.and_eq_true] at h;rw [fV h.1,fV h.2.1,fV h.2.2.1,fV h.2.2.2]
    case y.y c c'=>rw [fV (show Nat.beq c c'=true from h)]
    case m0.m0=>rfl
    case m.m k k'=>rw [fV (show Nat.beq k k'=true from h)]
    case f.f fn x y fn' x' y'=>
      cases fn with
      | func f=>
        cases fn' with
        | func f'=>
          have h:(Nat.beq f f'&&(mI (rI d) x x'&&mI (rI d) y y'))=true:=h;simp only [Bool.and_eq_true] at h;rw [fV h.1,jY ih h.2.1,jY ih h.2.2]
        | _=>cases h
      | _=>cases fn'<;>cases h
    case f0.f0=>rfl
    case e0.e0=>rfl
    case e.e t u t' u'=>
      have h:(Nat.beq t t'&&rI d u u')=true:=h;rw [Bool.and_eq_true] at h;rw [fV h.1,ih _ _ h.2]
    case g.g x y=>rw [jY ih (show mI (rI d) x y=true from h)]
    case t.t x y=>rw [jY ih (show mI (rI d) x y=true from h)]
    all_goals (cases ‹Fn›<;>cases h)
theorem oeq_eq{a b:Option Nat}(h:oeq a b=true):a=b:=by
  cases a<;>cases b<;>first | rfl | cases h | rw [fV (show Nat.beq _ _=true from h)]
theorem blk_eq{x y:Blk}(h:x.beq y=true):x=y:=by
  cases x<;>cases y<;>try cases h
  case cells.cells cs t x ro cs' t' x' ro'=>
    have h:(Nat.beq t t'&&(oeq x x'&&((ro==ro')&&mI (rI 4) cs cs')))=true:=h;simp only [Bool.and_eq_true] at h;rw [fV h.1,oeq_eq h.2.1,beq_iff_eq.1 h.2.2.1,jY (qP 4) h.2.2.2]
  case map.map es c es' c'=>
    have h:(Nat.beq c c'&&mI entEq es es')=true:=h;rw [Bool.and_eq_true] at h
    rw [fV h.1,jY (fun x y h=>by
      simp only [entEq,Bool.and_eq_true] at h;obtain⟨x1,x2,x3⟩:=x;obtain⟨y1,y2,y3⟩:=y;simp only at h
      rw [qP 4 _ _ h.1,qP 4 _ _ h.2.1,fV h.2.2]) h.2]
  case win.win cs cs'=>rw [jY (qP 4) (show mI (rI 4) cs cs'=true from h)]
  case know.know n n'=>rw [fV (show Nat.beq n n'=true from h)]
section
variable [Ctx] {α α' α0 : As} {s s' : St} {w w' : World} {N : Nat} {e e' : E} {a a' : Act} {rec : Rec} {h0 : T Blk} {D : List Nat}
theorem Stp.of_grow(hs:Sim α s w)(hb:Below w.heap.size w w'):Stp α s w α s w':=
  ⟨jZ.refl _ _ _,Nat.le_refl _,Nat.le_refl _,hs.grow hb,⟨hb.os,hb.tape,hb.output,hb.size,fun b hlt _=>hb.block b hlt⟩,fun k x hk=> .inl ⟨k,x,hk,id,rfl⟩⟩
omit [Ctx] in
theorem lW(s:St): ∀(D:List Nat) (k:Nat) (x:Blk),(restX s D).get k=some x→k∈D∧s.h.get k=some x
  | [],_,_,h=>by cases h
  | d::D,k,x,h=>by
    have h:((restX s D).set (s.h.get d) fuelT d).get k=some x:=h
    rcases T.get_set_fuel _ _ _ _ _ _ h with ⟨rfl,e0⟩ | ⟨_,h⟩
    · exact⟨List.mem_cons_self ..,e0⟩
    · obtain⟨h1,h2⟩:=lW s D k x h;exact⟨List.mem_cons_of_mem _ h1,h2⟩
def Cls (α0:As)(h0:T Blk)(n0 c0:Nat)(w:World):Prop:=Sim α0 {h:=h0,n:=n0,c:=c0} w
theorem Cls.up{n0 c0:Nat}(h:Cls α0 h0 n0 c0 w)(hs:jZ n0 c0 α0 α)(hn:n0≤s.n)(hc:c0≤s.c):Sim α {s with h:=h0} w where
  gl:=fun g k hk=>by
    obtain⟨h1,h2⟩:=h.gl g k hk;exact⟨Nat.lt_of_lt_of_le h1 hn,by rw [←hs.blk k h1];exact h2⟩
  lt:=fun k x hk=>Nat.lt_of_lt_of_le (h.lt k x hk) hn
  sc:=fun k x hk=>(h.sc k x hk).mono hn hc
  is:=fun k x hk=>by
    rw [←hs.blk k (h.lt k x hk)];exact(h.is k x hk).ext (h.sc k x hk) hs rfl
  ne:=fun k k' x x' hk hk' e=>h.ne k k' x x' hk hk' (by rw [hs.blk k (h.lt k x hk),hs.blk k' (h.lt k' x' hk')];exact e)
theorem Cls.keep{n0 c0:Nat}(h:Cls α0 h0 n0 c0 w)(hD: ∀k x,h0.get k=some x→k∈D)(hs:jZ n0 c0 α0 α)(hsim:Sim α s w')(hk:yO h0 D s=true):Cls α0 h0 n0 c0 w' where
  gl:=h.gl
  lt:=h.lt
  sc:=h.sc
  is:=fun k x hx=>by
    unfold yO at hk;rw [fM,List.all_eq_true] at hk;have h1:=hk k (hD k x hx);rw [hx] at h1;have h1:oc (s.h.get k) false (fun b=>x.beq b)=true:=h1;rw [lY] at h1
    cases hy:s.h.get k with
    | none=>rw [hy] at h1;cases h1
    | some y=>
      rw [hy] at h1;have:=blk_eq h1;subst this;have h2:=hsim.is k x hy;rw [←hs.blk k (h.lt k x hx)] at h2;exact h2.ext (h.sc k x hx) ⟨fun i hi=>(hs.blk i hi).symm,fun i hi=>(hs.room i hi).symm,fun i hi=>(hs.place i hi).symm⟩ rfl
  ne:=h.ne
theorem Sim.rest(hs:Sim α s w)(D:List Nat):Cls α (restX s D) s.n s.c w where
  gl:=hs.gl
  lt:=fun k x hk=>hs.lt k x (lW s D k x hk).2
  sc:=fun k x hk=>hs.sc k x (lW s D k x hk).2
  is:=fun k x hk=>hs.is k x (lW s D k x hk).2
  ne:=fun k k' x x' hk hk'=>hs.ne k k' x x' (lW s D k x hk).2 (lW s D k' x' hk').2
omit [Ctx] in
theorem EOk.at_(he:EOk α s N e a):EOk α {s with h:=h0} N e a:=⟨he.defers,he.size,he.get⟩
theorem quiet_some{o:Op}{f:FuncId}{args:List Operand}(h:vL o=some (f,args)): ∃xs ts,o= .call ⟨.value (.func f),xs,ts⟩∧args=xs.toList:=by
  unfold vL at h;split at h
  · rename_i g xs ts;obtain⟨_,h1⟩:=bT h;cases h1;exact⟨xs,ts,rfl,rfl⟩
  · cases h
variable [Good]
theorem look_ok(hrec:mR rec){C:World→Prop}(hC: ∀w,C w→Sim α {s with h:=h0} w)(he:EOk α s N e a){o:Oper}{v:V}(h:lookX rec o.op {s with h:=h0} e=some v):looksAt Ctx.P o a C (v.inst α):=fun w hw=>by
  have hs:=hC w hw;have he':EOk α {s with h:=h0} N e a:=he.at_;unfold lookX at h;rw [lY] at h
  cases hq:vL o.op with
  | none=>
    rw [hq] at h;rw [pure_run hs he' h];exact⟨rfl,rfl⟩
  | some q=>
    rw [hq] at h;obtain⟨f,args⟩:=q;obtain⟨xs,ts,ho,rfl⟩:=quiet_some hq;obtain⟨vs,hvs,h1⟩:=bA (show ob (evsX xs.toList e) _=some v from h);obtain⟨h2,h3⟩:=bT h1;obtain⟨⟨u,s1⟩,h4,h5⟩:=bA h3;obtain⟨h6,h7⟩:=bT h5;cases h7;rw [fM,List.all_eq_true] at h2
    have hcall:oCallV (.func f) xs.toList {s with h:=h0} e=some (.call f ([]++(vs++[])) {s with h:=h0}):=by
      show ob (evsX xs.toList e) _=_;rw [hvs];rfl
    obtain⟨g,vs',h8,h9,_⟩:=bAb (ts:=ts) (ty:=o.type) hs he' hcall;cases h8;simp only [List.nil_append,List.append_nil] at h9
    have hrun:(execOp a.eval o).run Ctx.P w=(callFunc f (vs.map (V.inst α)).toArray).run Ctx.P w:=by
      unfold execOp;simp only [ho];exact h9
    have h0':Sim α emptyS w:=⟨fun g k hk=>⟨Good.gl g k hk,(hs.gl g k hk).2⟩,fun k x hk=>(by cases hk),fun k x hk=>(by cases hk),fun k x hk=>(by cases hk),fun k k' x x' hk=>(by cases hk)⟩
    obtain⟨h10,h11⟩:=sI hrec h0' h4 (fun x hx=>(V.Sc.of (h2 x hx)).mono (Nat.zero_le _) (Nat.zero_le _));rw [hrun,h10];refine⟨rfl,h11.mono ?_⟩;rintro ex w' ⟨y,rfl,α',rfl,hst⟩;refine⟨?_,hst.fr.os,hst.fr.tape,hst.fr.output,hst.fr.size,fun b hb=>hst.fr.block b hb fun k x hk=>(by cases hk)⟩;rw [(V.Sc.of h6).ext (⟨fun k hk=>absurd hk (Nat.not_lt_zero _),fun k hk=>absurd hk (Nat.not_lt_zero _),fun k hk=>absurd hk (Nat.not_lt_zero _)⟩:jZ 0 0 α α')]
omit [Ctx] in
theorem oI{md:Region.Mode}{ops:Array Oper}{ls:List Nat}: ∀{od:List (Bool×Nat)} {listed:Array Bool},jK md ops ls od listed=true→jW ops od=true
  | [],_,_=>rfl
  | (true,k)::r,listed,h=>by
    simp only [jK,Bool.and_eq_true] at h;exact oI (od:=r) h.2.2.2
  | (false,k)::r,listed,h=>by
    by_cases hk:k<4096
    · simp only [jK,hk,if_true,Bool.and_eq_true] at h;simp only [jW,hk,if_true];exact oI h.2
    · simp only [jK,hk,if_false,Bool.and_eq_true] at h;simp only [jW,hk,if_false,Bool.and_eq_true];exact⟨(rU h.1).1,oI h.2⟩
omit [Good] in
theorem Stp.adopt{α1:As}{s1:St}{w2:World}{el:TypeId}{cs:List V}(hs:Sim α s w)(hc: ∀v∈cs,v.Sc s.n s.c∧v.one=true)(h:Stp α s (w.alloc (.cells (cs.map (V.inst α)).toArray el)) α1 s1 w2):
    Stp α s w (α1.new s1.n w.heap.size s1.c 0) (s1.new (.cells cs el none false)) w2:=by
  have hsz:(w.alloc (.cells (cs.map (V.inst α)).toArray el)).heap.size=w.heap.size+1:=by
    show(w.heap.push _).size=_;exact Array.size_push ..
  have hb0:(α1.new s1.n w.heap.size s1.c 0).blk s1.n=w.heap.size:=by simp [As.new]
  have hbk: ∀k,k<s1.n→(α1.new s1.n w.heap.size s1.c 0).blk k=α1.blk k:=fun k hk=>by simp [As.new];omega
  have hsame:jZ s.n s.c α (α1.new s1.n w.heap.size s1.c 0):=h.same.trans (jT _ _ _ _ _) h.n h.c
  have hne: ∀k x,s1.h.get k=some x→α1.blk k≠w.heap.size:=fun k x hk e=>by
    rcases h.new k x hk with ⟨k0,x0,h1,_,h3⟩ | h1
    · have:=(hs.is k0 x0 h1).lt;omega
    · omega
  refine⟨hsame,Nat.le_trans h.n (Nat.le_succ _),h.c,⟨fun g k hk=>?_,fun k x hk=>?_,fun k x hk=>?_,fun k x hk=>?_,fun k k' x x' hk hk' e=>?_⟩,⟨h.fr.os,h.fr.tape,h.fr.output,by have:=h.fr.size;omega,fun b hb hn=>?_⟩,fun k x hk=>?_⟩
  · obtain⟨h1,h2⟩:=h.sim.gl g k hk;exact⟨Nat.lt_succ_of_lt h1,by rw [hbk k h1];exact h2⟩
  · rcases fL hk with ⟨rfl,_⟩ | ⟨_,hk⟩
    · exact Nat.lt_succ_self _
    · exact Nat.lt_succ_of_lt (h.sim.lt k x hk)
  · rcases fL hk with ⟨rfl,e⟩ | ⟨_,hk⟩
    · injection e with e
      subst e;exact⟨fun v hv=>⟨(hc v hv).1.mono (Nat.le_trans h.n (Nat.le_succ _)) h.c,(hc v hv).2⟩,fun k hk=>by cases hk⟩
    · exact(h.sim.sc k x hk).mono (Nat.le_succ _) (Nat.le_refl _)
  · rcases fL hk with ⟨rfl,e⟩ | ⟨_,hk⟩
    · injection e with e
      subst e;rw [hb0];have hm:cs.map (V.inst α)=cs.map (V.inst (α1.new s1.n w.heap.size s1.c 0)):=List.map_congr_left fun v hv=>(hc v hv).1.ext hsame;show w2.heap[w.heap.size]?=_;rw [h.fr.block _ (by omega) (fun k x hk _ e=>by have:=(hs.is k x hk).lt;omega),heap_alloc_new,hm]
    · have hlt:=h.sim.lt k x hk;rw [hbk k hlt];exact(h.sim.is k x hk).ext (h.sim.sc k x hk) (jT _ _ _ _ _) rfl
  · rcases fL hk with ⟨rfl,_⟩ | ⟨_,h1⟩<;>rcases fL hk' with ⟨rfl,_⟩ | ⟨_,h1'⟩
    · rfl
    · rw [hb0,hbk _ (h.sim.lt _ _ h1')] at e;exact absurd e.symm (hne _ _ h1')
    · rw [hb0,hbk _ (h.sim.lt _ _ h1)] at e;exact absurd e (hne _ _ h1)
    · rw [hbk _ (h.sim.lt _ _ h1),hbk _ (h.sim.lt _ _ h1')] at e;exact h.sim.ne _ _ _ _ h1 h1' e
  · exact(h.fr.block b (by omega) hn).trans (heap_alloc_old w _ hb)
  · rcases fL hk with ⟨rfl,_⟩ | ⟨_,hk⟩
    · exact .inr (by rw [hb0];exact Nat.le_refl _)
    · rcases h.new k x hk with ⟨k0,x0,h1,h2,h3⟩ | h1
      · exact .inl ⟨k0,x0,h1,h2,by rw [hbk k (h.sim.lt k x hk)];exact h3⟩
      · exact .inr (by rw [hbk k (h.sim.lt k x hk)];omega)
omit [Ctx] [Good] in
theorem same_bs{b b':TypeId×Option Nat×List V}(h:sameBs b b'=true):b=b':=by
  unfold sameBs at h;simp only [Bool.and_eq_true] at h;obtain⟨b1,b2,b3⟩:=b;obtain⟨c1,c2,c3⟩:=b';have h1:b1=c1:=fV h.1;have h2:b2=c2:=oeq_eq h.2.1;have h3:b3=c3:=jY (qP 4) h.2.2;rw [h1,h2,h3]
theorem pair_wp(hrec:mR rec){ops:Array Oper}{n0 c0 j l:Nat}(hD: ∀k x,h0.get k=some x→k∈D)(hlate:wQ ops j l=true)(hsel:Region.noSelect ops=true)(hs:Sim α s w)(he:EOk α s N e a)(hsame:jZ n0 c0 α0 α)(hn:n0≤s.n)(hc:c0≤s.c)(hC:Cls α0 h0 n0 c0 w)
    (h:pairX rec N ops D h0 j l e s=some (e',s')) {K:Act→World→Prop} (k: ∀α' a' w',Stp α s w α' s' w'→EOk α' s' N e' a'→Cls α0 h0 n0 c0 w'→K a' w'):
    fOp Ctx.P ops j (fun a w=> ∀w',Below w.heap.size w w'→Cls α0 h0 n0 c0 w'∧fOp Ctx.P ops l K a w') a w∧fOp Ctx.P ops l (fun a w=> ∀w',Below w.heap.size w w'→Cls α0 h0 n0 c0 w'∧fOp Ctx.P ops j K a w') a w:=by
  obtain⟨oj,ol,hj,hl,hlo,hap,hjl⟩:=zZ hlate;obtain⟨oj',hj',h1⟩:=bA h;obtain⟨ol',hl',h2⟩:=bA h1;have hj':ops[j]?=some oj':=by rw [gP] at hj';simpa using hj'
  have hl':ops[l]?=some ol':=by rw [gP] at hl';simpa using hl'
  obtain rfl:oj'=oj:=Option.some.inj (hj'.symm.trans hj);obtain rfl:ol'=ol:=Option.some.inj (hl'.symm.trans hl);obtain⟨b,hb,h3⟩:=bA h2;obtain⟨⟨e1,s1⟩,hA,h4⟩:=bA h3;obtain⟨hk1,h5⟩:=bT h4;obtain⟨b',hb',h6⟩:=bA h5;obtain⟨hbb,h7⟩:=bT h6;obtain⟨⟨e2,s2⟩,hB,h8⟩:=bA h7;obtain⟨hk2,h9⟩:=bT h8;cases h9;obtain rfl:=same_bs hbb;refine⟨fun o ho=>?_,?_⟩
  ·
    obtain rfl:o=oj':=Option.some.inj (ho.symm.trans hj);refine iR (tP hrec hs he hA fun α1 a1 w1 g1 g2=>?_);have hsame1:=hsame.trans g1.same hn hc;have hC1:=Cls.keep hC hD hsame1 g1.sim hk1;intro w2 hb2;have hC2:Cls α0 h0 n0 c0 w2:=Sim.grow hC1 hb2;refine⟨hC2,fun o' ho'=>?_⟩;obtain rfl:o'=ol':=Option.some.inj (ho'.symm.trans hl);have hst:=Stp.of_grow g1.sim hb2;refine iR (tP hrec hst.sim g2 hB fun α2 a2 w3 g3 g4=>?_);exact k α2 a2 w3 ((g1.trans hst).trans g3) g4 (Cls.keep hC2 hD (hsame1.trans g3.same (Nat.le_trans hn g1.n) (Nat.le_trans hc g1.c)) g3.sim hk2)
  ·
    have hgd:ol'.guard=none∧ ∃d,ol'.dst=some d:=by
      unfold lateO at hlo;split at hlo
      all_goals first
        | cases hlo
        | (simp only [Bool.and_eq_true,Option.isNone_iff_eq_none,Option.isSome_iff_exists] at hlo
           exact hlo)
    obtain⟨hg,d,hd⟩:=hgd;obtain⟨hrun,hbsc⟩:=late_alloc hs he hb;intro o ho;obtain rfl:o=ol':=Option.some.inj (ho.symm.trans hl);apply iR
    have hw:Region.wanted o (yielded ops a.tmps)=true:=by
      unfold Region.wanted;rw [hg]
    rw [hw,if_pos rfl];unfold Oper.wp;rw [hrun];intro w2 hb2;have hal:Below w.heap.size w (w.alloc (.cells (b.2.2.map (V.inst α)).toArray b.1)):=(Below.refl _ _).alloc (Nat.le_refl _) _;have hbl:=kV hal hb2;refine⟨Sim.grow hC hbl,fOp_unput hj hap (fun cs q=>Region.noSelect_spec hsel j oj' cs q hj) ?_⟩;intro o2 ho2;obtain rfl:o2=oj':=Option.some.inj (ho2.symm.trans hj);refine iR (tP hrec (hs.grow hbl) he hA fun α1 a1 w3 g1 g2=>?_);have hfr:Stp α s (w.alloc (.cells (b.2.2.map (V.inst α)).toArray b.1)) α1 s1 w3:=(Stp.of_grow (hs.grow hal) hb2).trans g1;have had:=Stp.adopt hs hbsc hfr;have hB':=hB;obtain⟨tt,hwt,hB1⟩:=bA hB';have hwt:zV ops o e1=some tt:=hwt;unfold zV at hwt;rw [hg] at hwt;have hwt:some true=some tt:=hwt;cases hwt;obtain⟨rr,hop2,hB2⟩:=bA (show ob (opX o.op s1 e1) (doneX rec N o.dst e1)=some (e',s') from hB1);rw [late_op (s:=s1) hb'] at hop2;cases hop2;have hB3:putX N o.dst (lateV s1.n b.2.1) (s1.new (.cells b.2.2 b.1 none false)) e1=some (e',s'):=hB2
    have he1:EOk (α1.new s1.n w.heap.size s1.c 0) (s1.new (.cells b.2.2 b.1 none false)) N e1 a1:=⟨g2.defers,g2.size,fun i v hi=>by
      obtain⟨q1,q2⟩:=g2.get i v hi
      exact⟨q1.mono (Nat.le_succ _) (Nat.le_refl _),by rw [q2,q1.ext (jT _ _ _ _ _)]⟩⟩
    obtain⟨rfl,he2⟩:=pQ he1 hB3
    have hv:(lateV s1.n b.2.1).inst (α1.new s1.n w.heap.size s1.c 0)=vJ w.heap.size b.2.1:=by
      obtain⟨b1,b2,b3⟩:=b;cases b2<;>simp [lateV,oc,vJ,V.inst,Cap.inst,As.new]
    rw [hv] at he2;exact k _ _ w3 had he2 (Cls.keep hC hD (hsame.trans had.same hn hc) had.sim hk2)
theorem wR(hrec:mR rec){ops:Array Oper}{n0 c0:Nat}(hsel:Region.noSelect ops=true)(hD: ∀k x,h0.get k=some x→k∈D){K:Act→World→Prop}: ∀(l:List (Bool×Nat)) (e:E) (s:St) (α:As) (w:World) (a:Act),Sim α s w→EOk α s N e a→jZ n0 c0 α0 α→n0≤s.n→c0≤s.c→Cls α0 h0 n0 c0 w→jW ops l=true→
    mixX rec N ops D h0 l e s=some (e',s')→(∀α' a' w',Stp α s w α' s' w'→EOk α' s' N e' a'→K a' w')→rQ Ctx.P ops (Cls α0 h0 n0 c0) K l a w
  | [],e,s,α,w,a,hs,he,hsame,hn,hc,hC,hP,h,k=>fun w' hb=>by
    have h:some (e,s)=some (e',s'):=h;cases h;exact⟨Sim.grow hC hb,k α a w' (Stp.of_grow hs hb) he⟩
  | (true,j)::l,e,s,α,w,a,hs,he,hsame,hn,hc,hC,hP,h,k=>by
    obtain⟨o,ho,h1⟩:=bA (show ob (nthL ops.toList j) (fun o=>ob (lookL rec N ops o h0 e s) fun q=>mixX rec N ops D h0 l q.1 q.2)=some (e',s') from h);obtain⟨⟨e1,s1⟩,h2,h3⟩:=bA h1;obtain⟨t,ht,h4⟩:=bA h2;have ho:ops[j]?=some o:=by rw [gP] at ho;simpa using ho
    rw [cE] at h4
    cases t with
    | false=>
      simp only [Bool.false_eq_true,if_false] at h4;obtain⟨rfl,h5⟩:=pQ he h4;rw [rK] at h5;exact⟨o,undef,ho,.inr ⟨want_ok he ht,rfl⟩,wR hrec hsel hD l e1 s1 α w _ hs h5 hsame hn hc hC hP h3 k⟩
    | true=>
      simp only [if_true] at h4;obtain⟨v,hv,h5⟩:=bA h4;obtain⟨rfl,h6⟩:=pQ he h5;exact⟨o,v.inst α,ho,.inl ⟨want_ok he ht,look_ok hrec (fun w' hw'=>Cls.up hw' hsame hn hc) he hv⟩,wR hrec hsel hD l e1 s1 α w _ hs h6 hsame hn hc hC hP h3 k⟩
  | (false,j)::l,e,s,α,w,a,hs,he,hsame,hn,hc,hC,hP,h,k=>fun w' hb=>by
    have h:sel (Nat.blt j 4096) (ob (nthL ops.toList j) fun o=>ob (oneX rec N ops o e s) fun q=>gd (yO h0 D q.2) (mixX rec N ops D h0 l q.1 q.2))
      (ob (pairX rec N ops D h0 (Nat.mod j 4096) (Nat.pred (Nat.div j 4096)) e s) fun q=>mixX rec N ops D h0 l q.1 q.2)=some (e',s'):=h
    have hC':Cls α0 h0 n0 c0 w':=Sim.grow hC hb;have hst:=Stp.of_grow hs hb;rw [cE] at h
    by_cases hj:j<4096
    · rw [if_pos (by simpa [Nat.blt_eq] using hj)] at h;rw [if_pos hj];have hP:jW ops l=true:=by simpa only [jW,hj,if_true] using hP
      obtain⟨o,ho,h1⟩:=bA h;obtain⟨⟨e1,s1⟩,h2,h3⟩:=bA h1;obtain⟨h4,h5⟩:=bT h3;have ho:ops[j]?=some o:=by rw [gP] at ho;simpa using ho
      refine⟨hC',fun o' ho'=>?_⟩;have:o'=o:=Option.some.inj (ho'.symm.trans ho);subst this;refine iR (tP hrec hst.sim he h2 fun α1 a1 w1 h6 h7=>?_);have hsame1:jZ n0 c0 α0 α1:=hsame.trans h6.same hn hc;exact wR hrec hsel hD l e1 s1 α1 w1 a1 h6.sim h7 hsame1 (Nat.le_trans hn h6.n) (Nat.le_trans hc h6.c) (Cls.keep hC' hD hsame1 h6.sim h4) hP h5 fun α2 a2 w2 h8 h9=>k α2 a2 w2 ((hst.trans h6).trans h8) h9
    · rw [if_neg (by simpa [Nat.blt_eq] using hj)] at h;rw [if_neg hj];have hP:wQ ops (j%4096) (j/4096-1)=true∧jW ops l=true:=by simpa only [jW,hj,if_false,Bool.and_eq_true] using hP
      obtain⟨⟨e1,s1⟩,h2,h3⟩:=bA h
      exact⟨hC',pair_wp hrec hD hP.1 hsel hst.sim he hsame hn hc hC' h2 fun α1 a1 w1 h6 h7 h8=>
        wR hrec hsel hD l e1 s1 α1 w1 a1 h6.sim h7 (hsame.trans h6.same hn hc) (Nat.le_trans hn h6.n) (Nat.le_trans hc h6.c) h8 hP.2 h3 fun α2 a2 w2 h9 h10=>k α2 a2 w2 ((hst.trans h6).trans h9) h10⟩
theorem tail_wp(hrec:mR rec){ops:Array Oper}{K:Act→World→Prop}: ∀(ls:List Nat) (e:E) (s:St) (α:As) (w:World) (a:Act),Sim α s w→EOk α s N e a→lastR rec N ops ls e s=some (e',s')→(∀α' a' w',Stp α s w α' s' w'→EOk α' s' N e' a'→K a' w')→wT Ctx.P ops K ls a w
  | [],e,s,α,w,a,hs,he,h,k=>by
    have h:some (e,s)=some (e',s'):=h;cases h;exact k α a w (Stp.of_grow hs (Below.refl _ _)) he
  | l::ls,e,s,α,w,a,hs,he,h,k=>fun o' ho'=>by
    obtain⟨o,ho,h1⟩:=bA (show ob (nthL ops.toList l) (fun o=>ob (oneX rec N ops o e s) fun q=>lastR rec N ops ls q.1 q.2)=some (e',s') from h);obtain⟨⟨e1,s1⟩,h2,h3⟩:=bA h1;have ho:ops[l]?=some o:=by rw [gP] at ho;simpa using ho
    have:o'=o:=Option.some.inj (ho'.symm.trans ho);subst this;exact iR (tP hrec hs he h2 fun α1 a1 w1 h6 h7=>tail_wp hrec ls e1 s1 α1 w1 a1 h6.sim h7 h3 fun α2 a2 w2 h8 h9=>k α2 a2 w2 (h6.trans h8) h9)
theorem reg_wp(hrec:mR rec){f id:Nat}{ops:Array Oper}{draw:Bool}(hv:iB f (.region id ops draw)=true)(hs:Sim α s w)(he:EOk α s N e a)(h:regX rec f N id ops draw e s=some (e',s')){Q:Exit→Act→World→Prop}
    (k: ∀α' a' w',Stp α s w α' s' w'→EOk α' s' N e' a'→Q .normal a' w'):(Code.region id ops draw).wp Ctx.P Q a w:=by
  cases draw with
  | false=>exact wp_region_list (ops_wp hrec ops.toList e s α w a hs he h k)
  | true=>
    obtain⟨⟨od,ls⟩,hp,h1⟩:=bA (show ob (Ctx.plan f id) (fun q=>drawX rec N ops q.1 q.2 (zA N s ops q.1 e) e s)=some (e',s') from h);obtain⟨⟨e1,s1⟩,h2,h3⟩:=bA h1;have hv:oc (Ctx.plan f id) true (planOk ops)=true:=hv;rw [hp] at hv;have hb:Below w.heap.size w w.drew:=(Below.refl _ _).drew;have hst:=Stp.of_grow hs hb;have hD: ∀k x,(restX s (zA N s ops od e)).get k=some x→k∈zA N s ops od e:=fun k x hk=>(lW s _ k x hk).1;have hv0:Region.noSelect ops=true∧Nat.beq (yF od+ls.length) ops.size=true∧jK .any ops ls od (Array.replicate ops.size false)=true:=by simpa only [planOk,oc,tK,Bool.and_eq_true] using hv
    exact region_tail Good.mixed (show tK ls od ops=true from hv) (wR hrec hv0.1 hD od e s α w.drew a hst.sim he (jZ.refl _ _ _) (Nat.le_refl _) (Nat.le_refl _) (hst.sim.rest _) (oI hv0.2.2) h2 fun α1 a1 w1 h4 h5=>
      tail_wp hrec ls e1 s1 α1 w1 a1 h4.sim h5 h3 fun α2 a2 w2 h7 h8=>k α2 a2 w2 ((hst.trans h4).trans h7) h8)
omit [Good] in
theorem Post.behind{α1:As}{s1 s2:St}{w1:World}{x:Ex}(h:Stp α s w α1 s1 w1){ex:Exit}{a':Act}{w':World}(hp:Post α1 s1 w1 N x e' s2 ex a' w'):Post α s w N x e' s2 ex a' w':=by
  obtain⟨h1,α2,h2,h3⟩:=hp;exact⟨h1,α2,h.trans h2,h3⟩
omit [Good] in
theorem qK(hs:Sim α s w)(he:EOk α s N e a)(x:Ex):Post α s w N x e s (exitOf x) a w:=⟨rfl,α,Stp.refl hs,he⟩
def LoopOk(n:Nat):Prop:= ∀f N c e s x e' s',iB f c=true→qU n f N (.loop c) e s=some (x,e',s')→ ∀α w a,Sim α s w→EOk α s N e a→Code.rounds Ctx.P c (Post α s w N x e' s') n a w
omit [Ctx] [Good] in
theorem rounds_mono{P:Program}{c:Code}{Q Q':Exit→Act→World→Prop}(hq: ∀e a w,Q e a w→Q' e a w): ∀(n:Nat) (a:Act) (w:World),Code.rounds P c Q n a w→Code.rounds P c Q' n a w
  | 0,_,_,h=>h
  | n+1,a,w,h=>by
    refine Code.wp_mono (fun e a w h=>?_) h
    cases e with
    | normal=>exact rounds_mono hq n a w h
    | _=>exact hq _ _ _ h
omit [Good] in
theorem loop_ok{n:Nat}(hrec:mR (qU n))(hl:LoopOk n):LoopOk (n+1):=fun f N c e s x e' s' hv h α w a hs he=>by
  obtain⟨⟨y,e1,s1⟩,h1,h2⟩:=bA (show ob (qU n f N c e s) (seqX (qU n) f N (.loop c))=some (x,e',s') from h);rw [rounds_succ];refine Code.wp_mono (fun ex a' w' hp=>?_) (hrec f N c e s y e1 s1 hv h1 α w a hs he);obtain⟨rfl,α1,h3,h4⟩:=hp
  cases y with
  | nm=>exact rounds_mono (fun _ _ _ hp=>hp.behind h3) n _ _ (hl f N c e1 s1 x e' s' hv h2 α1 w' a' h3.sim h4)
  | ex id=>
    have h2:some (Ex.ex id,e1,s1)=some (x,e',s'):=h2;cases h2;exact⟨rfl,α1,h3,h4⟩
  | rt=>
    have h2:some (Ex.rt,e1,s1)=some (x,e',s'):=h2;cases h2;exact⟨rfl,α1,h3,h4⟩
theorem step_ok{n:Nat}(hrec:mR (qU n))(hl:LoopOk (n+1)):mR (qU (n+1)):=fun f N c e s x e' s' hv h α w a hs he=>by
  have h:stepX (qU n) f N c e s=some (x,e',s'):=h
  cases c with
  | skip=>cases h;exact wp_skip (qK hs he .nm)
  | label l=>cases h;exact wp_label (qK hs he .nm)
  | exit id=>cases h;exact wp_exit (qK hs he (.ex id))
  | ret=>cases h;exact wp_ret (qK hs he .rt)
  | region id ops draw=>
    obtain⟨⟨e1,s1⟩,h1,h2⟩:=bA (show ob (regX (qU n) f N id ops draw e s) nmX=some (x,e',s') from h);cases h2
    exact reg_wp hrec hv hs he h1 fun α1 a1 w1 h3 h4=>⟨rfl,α1,h3,h4⟩
  | seq c1 c2=>
    obtain⟨⟨y,e1,s1⟩,h1,h2⟩:=bA (show ob (qU n f N c1 e s) (seqX (qU n) f N c2)=some (x,e',s') from h);have hv:(iB f c1&&iB f c2)=true:=hv;rw [Bool.and_eq_true] at hv;refine wp_seq (Code.wp_mono (fun ex a' w' hp=>?_) (hrec f N c1 e s y e1 s1 hv.1 h1 α w a hs he));obtain⟨rfl,α1,h3,h4⟩:=hp
    cases y with
    | nm=>exact Code.wp_mono (fun _ _ _ hp=>hp.behind h3) (hrec f N c2 e1 s1 x e' s' hv.2 h2 α1 w' a' h3.sim h4)
    | ex id=>
      have h2:some (Ex.ex id,e1,s1)=some (x,e',s'):=h2;cases h2;exact⟨rfl,α1,h3,h4⟩
    | rt=>
      have h2:some (Ex.rt,e1,s1)=some (x,e',s'):=h2;cases h2;exact⟨rfl,α1,h3,h4⟩
  | cond c0 c1 c2=>
    obtain⟨v,h1,h2⟩:=bA (show ob (evX c0 e) _=some (x,e',s') from h);obtain⟨t,rfl,h3⟩:=wO h2;have hc:=(bY hs he h1).1;have hv:(iB f c1&&iB f c2)=true:=hv;rw [Bool.and_eq_true] at hv
    cases t with
    | true=>exact wp_cond_true hc (hrec f N c1 e s x e' s' hv.1 h3 α w a hs he)
    | false=>exact wp_cond_false hc (hrec f N c2 e s x e' s' hv.2 h3 α w a hs he)
  | block id c=>
    obtain⟨⟨y,e1,s1⟩,h1,h2⟩:=bA (show ob (qU n f N c e s) (blockX id)=some (x,e',s') from h);refine wp_block (Code.wp_mono (fun ex a' w' hp=>?_) (hrec f N c e s y e1 s1 hv h1 α w a hs he));obtain⟨rfl,α1,h3,h4⟩:=hp
    cases y with
    | nm=>
      have h2:some (Ex.nm,e1,s1)=some (x,e',s'):=h2;cases h2;exact⟨rfl,α1,h3,h4⟩
    | ex i=>
      have h2:some (sel (Nat.beq i id) (Ex.nm,e1,s1) (Ex.ex i,e1,s1))=some (x,e',s'):=h2;show if i=id then _ else _
      rw [cE] at h2;split
      · rename_i hi;subst hi;rw [if_pos (Nat.beq_refl i)] at h2;cases h2;exact⟨rfl,α1,h3,h4⟩
      · rename_i hi;rw [if_neg (fun hb=>hi (Nat.eq_of_beq_eq_true hb))] at h2;cases h2;exact⟨rfl,α1,h3,h4⟩
    | rt=>
      have h2:some (Ex.rt,e1,s1)=some (x,e',s'):=h2;cases h2;exact⟨rfl,α1,h3,h4⟩
  | loop c=>exact wp_loop_rounds (n+1) (hl f N c e s x e' s' hv h α w a hs he)
  | scope c=>
    refine wp_scope_straight (Code.wp_mono (fun ex a' w' hp=>?_) (hrec f N c e s x e' s' hv h α w a hs he));have h1:=hp.1;cases x<;>subst h1<;>exact hp
  | _=>cases h
theorem run_both: ∀n,mR (qU n)∧LoopOk n
  | 0=>⟨fun _ _ _ _ _ _ _ _ _ h=>(by cases h),fun _ _ _ _ _ _ _ _ _ h=>(by cases h)⟩
  | n+1=>by
    obtain⟨h1,h2⟩:=run_both n;have h3:=loop_ok h1 h2;exact⟨step_ok h1 h3,h3⟩
theorem run_ok(n:Nat):mR (qU n):=(run_both n).1
end
end X
end Go.Proofs.YtofjmphlpdhohaaGreatDoor
