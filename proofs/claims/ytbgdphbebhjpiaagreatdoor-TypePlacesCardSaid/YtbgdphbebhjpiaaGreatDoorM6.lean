/- Texts of one proof, one behind the other: BackE, BackC, BackD, BackR, BackN. -/
import Derived.Test.YtbgdphbebhjpiaaGreatDoorM5
namespace Go.Proofs.YtbgdphbebhjpiaaGreatDoor
open Go.RowKit
def Sep (c:UInt8):Prop:=c=32∨c=41∨c=10
theorem Sep.word{c:UInt8}(h:Sep c):lM c=false:=by rcases h with rfl | rfl | rfl<;>decide
theorem Sep.digit{c:UInt8}(h:Sep c):dH c=false:=by rcases h with rfl | rfl | rfl<;>decide
theorem bMu: ∀w∈verbWords,w≠[47]∧w≠[92]∧w≠[46]:=by decide
theorem kindW_is(w:Bs):tC w=1∨tC w=3:=by
  cases w with
  | nil=>exact .inr rfl
  | cons b r=>
    simp only [tC];split
    · exact .inl rfl
    · exact .inr rfl
theorem kindW_2(w:Bs):tC w≠2:=by rcases kindW_is w with h | h<;>rw [h]<;>decide
theorem zJ(w:Bs):tC w≠4:=by rcases kindW_is w with h | h<;>rw [h]<;>decide
theorem bLb{w:Bs}{two:Bool}{f:Int}(h:fY w two=f)(hf:f≠0):nY w=true:=by
  unfold nY
  cases two with
  | false=>
    have:lV w≠0:=by rw [show lV w=f from h];exact hf
    simp [this]
  | true=>
    have:gQ w≠0:=by rw [show gQ w=f from h];exact hf
    simp [this]
theorem isOk_00:kS (0,0)=true:=rfl
section
variable {x : dN} {w : Bs}
theorem vb_one{two:Bool}(hw:w∈verbWords)(hf:fY w two=x.fn)(h0:x.fn≠0)(hh:x.how=if two then 4 else 3)(hn:x.nums=[])(hm:x.name=[]):Vb [⟨tC w,w,0⟩] x two where
  head:=⟨_,[],rfl,kindW_2 w,zJ w,bLb hf h0,fun h=>by
    obtain⟨h1,h2,h3⟩:=bMu w hw
    rcases h.2 with h | h | h
    · exact h1 h
    · exact h2 h
    · exact h3 h⟩
  phrase:=fun{toks k e R} hF hR=>by
    have hF':iY toks k (⟨tC w,w,0⟩::R):=hF
    have hneg: ¬((bP toks (k+1)).kind=3∧((bP toks (k+1)).word=[47]∨(bP toks (k+1)).word=[92]∨(bP toks (k+1)).word=[46])):=by
      have:=hF'.next
      cases R with
      | nil=>rw [this.nil.1];simp
      | cons t R=>
        rw [this.kind,this.word];exact hR t rfl
    have e0:fY (bP toks k).word two=x.fn:=by rw [hF'.word];exact hf
    unfold bS;rw [if_neg hneg];simp only [e0,h0,if_false];refine⟨isOk_00,rfl,?_⟩;simp only [Phr.it,dN.un,hn,hm,hh]
theorem vb_two{c:UInt8}(hc:x.how=5∧c=47∨x.how=6∧c=92∨x.how=7∧c=46)(hw:w∈verbWords)(hf:fY w true=x.fn)(h0:x.fn≠0)(h17:x.fn≤17)(hn:x.nums=[])(hm:x.name=[]):Vb [⟨tC w,w,0⟩,⟨3,[c],0⟩] x (pL x.how) where
  head:=⟨_,_,rfl,kindW_2 w,zJ w,bLb hf h0,fun h=>by
    obtain⟨h1,h2,h3⟩:=bMu w hw
    rcases h.2 with h | h | h
    · exact h1 h
    · exact h2 h
    · exact h3 h⟩
  phrase:=fun{toks k e R} hF hR=>by
    have hF':iY toks k (⟨tC w,w,0⟩::(⟨3,[c],0⟩::R)):=hF;have hk:=hF'.next.kind
    have hwd:=hF'.next.word
    have e0:gQ (bP toks k).word=x.fn:=by rw [hF'.word];exact hf
    have h17': ¬17<x.fn:=by omega
    unfold bS;rw [if_pos ⟨hk,by rw [hwd];rcases hc with ⟨_,rfl⟩ | ⟨_,rfl⟩ | ⟨_,rfl⟩<;>simp⟩];simp only [e0,hwd]
    rcases hc with ⟨hh,rfl⟩ | ⟨hh,rfl⟩ | ⟨hh,rfl⟩<;>
      (rw [hh,if_neg (by simp [h17',pL])]
       simp only [h0,if_false]
       exact⟨isOk_00,rfl,by simp [Phr.it,dN.un,hn,hm,hh]⟩)
end
def xN (T:List Tk):Prop:= ∀t∈T,t.kind≠4
theorem xN.append{A B:List Tk}(h:xN A)(k:xN B):xN (A++B):=fun t ht=>(List.mem_append.1 ht).elim (h t) (k t)
theorem xN.one{t:Tk}(h:t.kind≠4):xN [t]:=fun u hu=>by rw [List.mem_singleton.1 hu];exact h
theorem verb_vb{x:dN}(h3:3≤x.how)(h7:x.how≤7)(hn:x.nums=[])(hm:x.name=[])(hv:(verbR x).1≠[]): ∃V,Vb V x (pL x.how)∧V.length=(verbR x).2∧xN V∧ ∀r,Lx (verbR x).1 V (32::r):=by
  unfold verbR at hv⊢;rw [uQ] at hv⊢
  by_cases hbad:iQ (x.how !=3) x.fn=[]∨x.how≠3∧x.how≠4∧takesB x.fn=false
  · simp only [hbad,if_true] at hv;simp at hv
  · simp only [hbad,if_false];rw [not_or] at hbad;obtain⟨hne,ht⟩:=hbad;obtain⟨hw,hf,h0⟩:=bCp hne
    by_cases h5:5≤x.how
    · have e3:(x.how !=3)=true:=by simp;omega
      rw [e3] at hw hf hne⊢
      have h17:x.fn≤17:=by
        have:=bKk hne;rw [this] at ht;have ht': ¬decide (x.fn≤17)=false:=fun h=>ht ⟨by omega,by omega,h⟩
        simpa using ht'
      obtain⟨c,hc,hmk⟩: ∃c:UInt8,(x.how=5∧c=47∨x.how=6∧c=92∨x.how=7∧c=46)∧markS x.how=[c]:=by
        have:x.how=5∨x.how=6∨x.how=7:=by omega
        rcases this with h | h | h
        · exact⟨47,.inl ⟨h,rfl⟩,by rw [h];rfl⟩
        · exact⟨92,.inr (.inl ⟨h,rfl⟩),by rw [h];rfl⟩
        · exact⟨46,.inr (.inr ⟨h,rfl⟩),by rw [h];rfl⟩
      refine⟨_,vb_two hc hw hf h0 h17 hn hm,by simp [h5],xN.append (A:=[_]) (B:=[_]) (.one (zJ _)) (.one (show(3:Int)≠4 by decide)),fun r=>?_⟩;rw [hmk];exact Lx.append (A:=[_]) (B:=[_]) (verb_lx hw (by rcases hc with ⟨_,rfl⟩ | ⟨_,rfl⟩ | ⟨_,rfl⟩<;>decide)) (bFg (by rcases hc with ⟨_,rfl⟩ | ⟨_,rfl⟩ | ⟨_,rfl⟩<;>decide))
    · have hcase:x.how=3∨x.how=4:=by omega
      rcases hcase with h | h
      · have e3:(x.how !=3)=false:=by simp [h]
        rw [e3] at hw hf hne⊢;refine⟨[⟨tC (iQ false x.fn),iQ false x.fn,0⟩],?_,by simp [h5],.one (zJ _),fun r=>?_⟩
        · rw [show pL x.how=false from by rw [h];rfl];exact vb_one hw hf h0 (by simp [h]) hn hm
        · rw [show markS x.how=[] from by rw [h];rfl,List.append_nil];exact verb_lx hw (by decide)
      · have e3:(x.how !=3)=true:=by simp [h]
        rw [e3] at hw hf hne⊢;refine⟨[⟨tC (iQ true x.fn),iQ true x.fn,0⟩],?_,by simp [h5],.one (zJ _),fun r=>?_⟩
        · rw [show pL x.how=true from by rw [h];rfl];exact vb_one hw hf h0 (by simp [h]) hn hm
        · rw [show markS x.how=[] from by rw [h];rfl,List.append_nil];exact verb_lx hw (by decide)
def Rng (n:Int):Prop:= -9223372036854775808≤n∧n≤9223372036854775807
def Rd (s:Bs)(I:List dN)(tokens nest:Nat)(plain:Bool):Prop:= ∃T,(∀c r,Sep c→Lx s T (c::r))∧T.length=tokens∧Hd T∧xN T∧Ps T I nest plain
inductive Rds:List uN→List dN→Prop
  | nil:Rds [] []
  | cons {p l I J}:Rd p.s I p.tokens p.nest p.plain→Rds l J→Rds (p::l) (J++I)
theorem Lx.gap{s rest:Bs}{T:List Tk}(h:Lx s T (32::rest)):Lx (s++[32]) T rest:=by
  have:=Lx.append (a:=s) (b:=[32]) (A:=T) (B:=[]) h Lx.blank;rw [List.append_nil] at this;exact this
theorem nums_lx: ∀(ns:List Int),ns≠[]→(∀n∈ns,Rng n)→ ∀c r,Sep c→Lx (joinSp (ns.map fJ)) (ns.map fun n=>⟨2,[],n⟩) (c::r)
  | [],h,_,_,_,_=>absurd rfl h
  | [n],_,h,c,r,hc=>bHf (h n (by simp)).1 (h n (by simp)).2 hc.digit
  | n::m::ns,_,h,c,r,hc=>by
    have h1:=nums_lx (m::ns) (by simp) (fun x hx=>h x (by simp [hx])) c r hc;have h2:Lx (fJ n) [⟨2,[],n⟩] (32::(joinSp ((m::ns).map fJ)++c::r)):=bHf (h n (by simp)).1 (h n (by simp)).2 (by decide);have h3:=Lx.append h2.gap h1;rw [List.map_cons,jB _ (by simp)]
    simpa using h3
theorem operand_rd{x:dN}(hx: ∀n∈x.nums,Rng n)(ho:x.how=1∨x.how=2)(ht:0<(operandR x).tokens):Rd (operandR x).s [x] (operandR x).tokens (operandR x).nest (operandR x).plain:=by
  unfold operandR at ht⊢
  by_cases hf:x.fn=0
  · rw [if_neg (by simp [hf])] at ht⊢
    by_cases h2:x.how=2
    · rw [if_pos h2] at ht⊢
      by_cases hb:x.nums≠[]∨dX x.name=false
      · rw [if_pos hb] at ht;simp [pX] at ht
      · rw [if_neg hb] at ht⊢;simp only [not_or,ne_eq,Bool.not_eq_false,Classical.not_not] at hb;refine⟨[⟨1,x.name,0⟩],fun c r hc=>wY (lW hb.2) hc.word,rfl,⟨_,[],rfl,fun h=>absurd (show(1:Int)=3 from h.1) (by decide)⟩,.one (show(1:Int)≠4 by decide),?_⟩;have:Ps [⟨1,x.name,0⟩] [⟨2,x.at_,0,x.name,[]⟩] 0 true:=Ps.name hb.2
        have e1:x=⟨2,x.at_,0,x.name,[]⟩:=by
          cases x
          simp_all
        rw [←e1] at this;exact @this
    · rw [if_neg h2] at ht⊢
      by_cases hb:x.name≠[]∨256<x.nums.length
      · rw [if_pos hb] at ht;simp [pX] at ht
      · rw [if_neg hb] at ht⊢;simp only [not_or,ne_eq,Classical.not_not] at hb;have hne:x.nums≠[]:=List.length_pos_iff.1 ht;refine⟨x.nums.map fun n=>⟨2,[],n⟩,fun c r hc=>?_,by simp,?_,fun t ht=>by obtain⟨n,_,rfl⟩:=List.mem_map.1 ht;exact(by decide:(2:Int)≠4),?_⟩
        · rw [bDr];exact nums_lx _ hne hx c r hc
        · cases hn:x.nums with
          | nil=>exact absurd hn hne
          | cons n ns=>exact⟨_,_,rfl,fun h=>absurd h.1 (by simp)⟩
        · have:Ps (x.nums.map fun n=>⟨2,[],n⟩) [⟨1,x.at_,0,[],x.nums⟩] 0 true:=Ps.nums hne
          have e1:x=⟨1,x.at_,0,[],x.nums⟩:=by
            have:x.how=1:=by omega
            cases x
            simp_all
          rw [←e1] at this;exact @this
  · rw [if_pos hf] at ht;simp [pX] at ht
theorem brk_rd{p:uN}{I:List dN}(h:Rd p.s I p.tokens p.nest p.plain):Rd (brkR p).s I (brkR p).tokens (brkR p).nest true:=by
  unfold brkR
  cases hp:p.plain with
  | true=>
    rw [hp] at h;exact h
  | false=>
    obtain⟨T,h1,h2,h3,h5,h4⟩:=h;refine⟨OpenT::(T++[CloseT]),fun c r hc=>?_,by simp [h2],⟨OpenT,_,rfl,fun h=>by simp [Mark,OpenT] at h⟩,xN.append (A:=[OpenT]) (.one (show(3:Int)≠4 by decide)) (h5.append (.one (show(3:Int)≠4 by decide))),Ps.brk h4⟩;have ha:Lx [41] [CloseT] (c::r):=bFg (by decide);have hb:=h1 41 (c::r) (.inr (.inl rfl));have hc:Lx [40] [OpenT] (p.s++41::c::r):=bFg (by decide);have hd:=Lx.append (Lx.append (rest:=41::c::r) hc hb) (rest:=c::r) ha
    simpa using hd
theorem step_rd{l l':List uN}{x:dN}{I:List dN}(h:Rds l I)(hx: ∀n∈x.nums,Rng n)(hs:bHl l x=some l'):Rds l' (I++[x]):=by
  unfold bHl at hs
  by_cases ho:x.how=1∨x.how=2
  · rw [if_pos ho] at hs;split at hs
    · rename_i ht;cases hs;exact .cons (operand_rd hx ho ht) h
    · cases hs
  · rw [if_neg ho] at hs
    by_cases hbad:x.how<3∨7<x.how∨x.nums≠[]∨x.name≠[]
    · rw [if_pos hbad] at hs;cases hs
    · rw [if_neg hbad] at hs;simp only [not_or,ne_eq,Classical.not_not] at hbad;obtain⟨h3,h7,hn,hm⟩:=hbad
      by_cases hv:(verbR x).1=[]
      · rw [if_pos hv] at hs;cases hs
      · rw [if_neg hv] at hs;obtain⟨V,v1,v2,v4,v3⟩:=verb_vb (by omega) (by omega) hn hm hv;obtain⟨t,V',hV,_,_,_,hmk⟩:=v1.head
        cases ht:pL x.how with
        | false=>
          rw [ht] at hs v1;simp only [Bool.false_eq_true,if_false] at hs
          cases h with
          | nil=>cases hs
          | cons hp hl=>
            rename_i p l I J;cases hs;obtain⟨T,h1,h2,h3,h5,h4⟩:=hp;rw [show J++I++[x]=J++(I++[x]) from List.append_assoc ..];refine .cons ⟨V++T,fun c r hc=>?_,by simp [v2,h2],⟨t,V'++T,by rw [hV];rfl,hmk⟩,v4.append h5,Ps.mono v1 h3 h4⟩ hl;exact Lx.append (v3 _).gap (h1 c r hc)
        | true=>
          rw [ht] at hs v1;simp only [if_true] at hs
          cases h with
          | nil=>cases hs
          | cons hp hl=>
            cases hl with
            | nil=>cases hs
            | cons hq hl=>
              rename_i p I q l J' J;cases hs;obtain⟨T,h1,h2,h3,h5,h4⟩:=hp;obtain⟨Q,q1,q2,q3,q5,q4⟩:=brk_rd hq;obtain⟨u,Q',hQ,hu⟩:=q3;rw [show J++J'++I++[x]=J++(J'++I++[x]) from by simp];refine .cons ⟨Q++(V++T),fun c r hc=>?_,by simp [v2,h2,q2];omega,⟨u,Q'++(V++T),by rw [hQ];rfl,hu⟩,q5.append (v4.append h5),Ps.dyad q4 v1 h3 h4⟩ hl;have a1:=Lx.append (v3 _).gap (h1 c r hc);have a2:=Lx.append (q1 32 _ (.inl rfl)).gap a1;simp only [List.append_assoc,List.cons_append,List.nil_append] at a2⊢;exact a2
theorem steps_rd: ∀{xs:List dN} {l l':List uN} {I:List dN},Rds l I→(∀x∈xs,∀n∈x.nums,Rng n)→bCu xs l=some l'→Rds l' (I++xs)
  | [],l,l',I,h,_,hs=>by
    cases hs;rw [List.append_nil];exact h
  | x::xs,l,l',I,h,hx,hs=>by
    rw [bCu] at hs
    cases h1:bHl l x with
    | none=>rw [h1] at hs;cases hs
    | some l1=>
      rw [h1] at hs;have:=steps_rd (step_rd h (hx x (by simp)) h1) (fun y hy=>hx y (by simp [hy])) hs;rw [List.append_assoc] at this;exact this
def tokS (l:List dN):Nat:=match fS l [] with
  | some [p]=>p.tokens
  | _=>0
theorem expr_rd{l:List dN}{k:Nat}{t:Bs}(hk:k≤256)(hl: ∀x∈l,∀n∈x.nums,Rng n)(h:gE l (256-k)=some t): ∃T,(∀c r,Sep c→Lx t T (c::r))∧T.length=tokS l∧tokS l+k≤256∧xN T∧ ∀{toks:List TokV} {e:Int} {j:Nat},iY toks j T→jS (lG toks e j).1=jS l∧(lG toks e j).2=(0,0):=by
  have hlike:=bJk l .nil
  have hS: ∃q,fS l []=some [q]∧q.tokens+k≤256∧q.nest≤32∧joinSp q.words=t:=by
    unfold gE at h;split at h
    · cases h
    · split at h
      · rename_i q hq;split at h
        · cases h
        · cases h;exact⟨q,hq,by omega,by omega,rfl⟩
      · cases h
  obtain⟨q,hq,h1,h2,h3⟩:=hS;rw [hq] at hlike
  cases hR:bCu l [] with
  | none=>rw [hR] at hlike;exact hlike.elim
  | some a=>
    rw [hR] at hlike
    cases hlike with
    | cons hp hr=>
      cases hr;have:=steps_rd .nil hl hR;rw [List.nil_append] at this;generalize hJ:l=J at this
      cases this with
      | cons hp' hl'=>
        cases hl';obtain⟨T,a1,a2,a3,a5,a4⟩:=hp';have ht:tokS l=q.tokens:=by unfold tokS;rw [hq]
        rw [hJ,List.nil_append] at ht;refine⟨T,?_,by rw [List.nil_append,ht,a2,hp.tokens],by rw [List.nil_append,ht];exact h1,a5,fun{toks e j} hF=>?_⟩
        · rw [←h3,←hp.s];exact a1
        · rw [List.nil_append];exact Ps.whole a4 (by rw [hp.nest];exact h2) hF
def jR.un (l:jR):jR:=⟨l.name,0,jS l.items⟩
def fX.un (x:fX):fX:=⟨x.name,0,x.sides⟩
def gG.un (p:gG):gG:=⟨p.inputs.map fX.un,p.lines.map jR.un⟩
def costI (x:fX):Nat:=x.sides.length+3
def bLo (l:jR):Nat:=tokS l.items+if l.name=[] then 2 else 3
def wB (p:gG):Nat:=(p.inputs.map costI).sum+(p.lines.map bLo).sum
def NL:Tk:=⟨4,[],0⟩
def WT (w:Bs):Tk:=⟨1,w,0⟩
theorem bCi{toks:List TokV}{T:List Tk}(h:toks.map TokV.tk=T):iY toks 0 T:=⟨Nat.zero_le _,h⟩
theorem own_of: ∀{T:List Tk} {R:List Tk} {toks:List TokV},toks.map TokV.tk=T++NL::R→xN T→(ownP toks).map TokV.tk=T∧(ownP toks).length=T.length∧(toks.drop (T.length+1)).map TokV.tk=R
  | [],R,[],h,_=>by simp at h
  | [],R,t::toks,h,_=>by
    simp only [List.map_cons,List.nil_append,List.cons.injEq] at h
    have h4:(t.kind !=4)=false:=by
      have:t.tk.kind=4:=by rw [h.1];rfl
      simpa [TokV.tk] using this
    unfold ownP;rw [List.takeWhile_cons_of_neg (by rw [h4];simp)];exact⟨rfl,rfl,h.2⟩
  | u::T,R,[],h,_=>by simp at h
  | u::T,R,t::toks,h,hn=>by
    simp only [List.map_cons,List.cons_append,List.cons.injEq] at h
    have h4:(t.kind !=4)=true:=by
      have:t.tk.kind≠4:=by rw [h.1];exact hn u (by simp)
      simpa [TokV.tk] using this
    obtain⟨a,b,c⟩:=own_of h.2 fun x hx=>hn x (by simp [hx]);unfold ownP at a b⊢;rw [List.takeWhile_cons_of_pos (p:=fun t:TokV=>t.kind !=4) h4];exact⟨by rw [List.map_cons,a,h.1],by simp [b],c⟩
theorem bBv{r:gG×Flt}{len:Int}{toks:List TokV}{p:gG}{n:Nat}{over:Bool}{T R:List Tk}{Good:gG→Prop}(h:yF r len toks p n over)(ht:toks.map TokV.tk=T++NL::R)(hT:xN T)(hne:T≠[])
    (hq: ∀own e,own.map TokV.tk=T→ ∃q,fW own e p n over=(q,(0,0))∧Good q): ∃q toks',Good q∧toks'.map TokV.tk=R∧yF r len toks' q (n+1) (nX q):=by
  obtain⟨a,b,c⟩:=own_of ht hT;obtain⟨q,h1,h2⟩:=hq (ownP toks) (bKg toks len) a
  have h0:toks≠[]:=by
    rintro rfl;simp at ht
  have hon:ownP toks≠[]:=by
    intro e;rw [e] at a;exact hne a.symm
  exact⟨q,_,h2,by rw [b];exact c,(bIm h h0 hon h1).1 rfl⟩
structure bCm (d:nS):Prop where
  ok:d.name=[]∨d.n=0∧dX d.name=true
def oL (d:nS):Tk:=if d.name=[] then ⟨2,[],d.n⟩ else ⟨1,d.name,0⟩
theorem bAz{s:Bs}(h:dX s=true):s≠[]∧s≠[105,110]∧s≠[111,117,116]:=by
  refine⟨?_,?_,?_⟩
  · rintro rfl;obtain⟨b,r,e,_⟩:=(lW h).head;cases e
  · rintro rfl;simp [dX] at h
  · rintro rfl;simp [dX] at h
theorem bHg: ∀(ds:List nS) {toks:List TokV} {acc:List nS},(∀d∈ds,bCm d)→toks.map TokV.tk=ds.map oL→acc.length+ds.length≤4→kF toks acc=(acc++ds,(0,0))
  | [],[],acc,_,_,_=>by simp [kF]
  | [],t::toks,acc,_,h,_=>by simp at h
  | d::ds,[],acc,_,h,_=>by simp at h
  | d::ds,t::toks,acc,hd,h,hl=>by
    simp only [List.map_cons,List.cons.injEq] at h;simp only [List.length_cons] at hl;have ht:t.kind=(oL d).kind∧t.word=(oL d).word∧t.n=(oL d).n:=by rw [←h.1];exact⟨rfl,rfl,rfl⟩
    have hs:(t.kind=2∨t.kind=1∧dX t.word=true)∧(⟨t.word,t.n⟩:nS)=d:=by
      obtain⟨h1,h2,h3⟩:=ht;unfold oL at h1 h2 h3
      rcases (hd d (by simp)).ok with he | ⟨hn,hb⟩
      · rw [if_pos he] at h1 h2 h3;refine⟨.inl h1,?_⟩;cases d
        simp_all
      · have:=(bAz hb).1;rw [if_neg this] at h1 h2 h3;refine⟨.inr ⟨h1,by rw [h2];exact hb⟩,?_⟩;cases d
        simp_all
    rw [kF,if_neg,if_neg (by omega),hs.2,bHg ds (fun x hx=>hd x (by simp [hx])) h.2 (by simp;omega)]
    · simp
    · rintro⟨a,b⟩
      rcases hs.1 with c | ⟨c,d⟩
      · exact a c
      · rcases b with b | b
        · exact b c
        · rw [d] at b;cases b
theorem bHi: ∀(ds:List nS) {acc t:Bs} {A:List Tk},(∀d∈ds,Rng d.n)→(∀c r,Sep c→Lx acc A (c::r))→kG ds acc=some t→(∀d∈ds,bCm d)∧ ∀c r,Sep c→Lx t (A++ds.map oL) (c::r)
  | [],acc,t,A,_,h,hs=>by
    cases hs;exact⟨by simp,by simpa using h⟩
  | d::ds,acc,t,A,hr,h,hs=>by
    rw [kG] at hs;split at hs
    · rename_i he;have hst:oL d=⟨2,[],d.n⟩:=by unfold oL;rw [if_pos he]
      obtain⟨a,b⟩:=bHi ds (acc:=acc++([32]++fJ d.n)) (A:=A++[oL d]) (fun x hx=>hr x (by simp [hx])) (fun c r hc=>by
        rw [←List.append_assoc,hst]
        exact Lx.append (h 32 _ (.inl rfl)).gap (bHf (hr d (by simp)).1 (hr d (by simp)).2 hc.digit)) hs
      exact⟨fun x hx=>(List.mem_cons.1 hx).elim (fun e=>e▸⟨.inl he⟩) (a x),fun c r hc=>by simpa using b c r hc⟩
    · split at hs
      · rename_i he hb;have hst:oL d=⟨1,d.name,0⟩:=by unfold oL;rw [if_neg he]
        obtain⟨a,b⟩:=bHi ds (acc:=acc++([32]++d.name)) (A:=A++[oL d]) (fun x hx=>hr x (by simp [hx])) (fun c r hc=>by
          rw [←List.append_assoc,hst]
          exact Lx.append (h 32 _ (.inl rfl)).gap (wY (lW hb.2) hc.word)) hs
        exact⟨fun x hx=>(List.mem_cons.1 hx).elim (fun e=>e▸⟨.inr hb⟩) (a x),fun c r hc=>by simpa using b c r hc⟩
      · cases hs
theorem in_word:WordB [105,110]:=⟨⟨105,[110],rfl,by decide⟩,by decide,by decide⟩
theorem out_word:WordB [111,117,116]:=⟨⟨111,[117,116],rfl,by decide⟩,by decide,by decide⟩
theorem side_nl(d:nS):(oL d).kind≠4:=by
  unfold oL;split<;>simp
theorem bHh{toks:List TokV}{k:Nat}{t:Tk}{T:List Tk}(h:iY toks k (t::T))(w:Bs):isW (bP toks k) w=(t.kind==1&&t.word==w):=by unfold isW;rw [h.kind,h.word]
theorem input_into{x:fX}(hb:dX x.name=true)(hl:x.sides.length≤4)(hd: ∀d∈x.sides,bCm d){own:List TokV}{e:Int}{ins:List fX}{n:Nat}(hn:n<64)(ho:own.map TokV.tk=WT [105,110]::WT x.name::x.sides.map oL):
    ∃q,fW own e ⟨ins,[]⟩ n false=(q,(0,0))∧ ∃y,q=⟨ins++[y],[]⟩∧y.un=x.un:=by
  have hlen:own.length=x.sides.length+2:=by
    have:=congrArg List.length ho
    simpa using this
  have f0:iY own 0 _:=bCi ho;have f1:=f0.next
  have f2:=f1.next
  have i0:isW (bP own 0) [105,110]=true:=by rw [bHh f0];rfl
  have hk1:=f1.kind;have hw1:=f1.word
  have hin:jM own e=(⟨x.name,atP own 1 e,x.sides⟩,(0,0)):=by
    unfold jM;rw [if_neg (by omega),if_neg,hw1,bHg x.sides hd f2.2 (by simpa using hl)]
    · rfl
    · rw [hk1,hw1];rintro(h | h)
      · exact h rfl
      · rw [show(WT x.name).word=x.name from rfl,hb] at h;cases h
  refine⟨_,?_,⟨x.name,atP own 1 e,x.sides⟩,rfl,rfl⟩;unfold fW;rw [if_neg (by omega),if_neg (by omega),if_neg (by simp),if_pos i0,hin]
theorem bLs: ∀(xs:List fX) {o o':Bs},(∀x∈xs,∀d∈x.sides,Rng d.n)→iO xs o=(o',true)→ ∃t T,o'=o++t∧(∀rest,Lx t T rest)∧T.length=(xs.map costI).sum∧
    ∀{r:gG×Flt} {len:Int} {toks:List TokV} {R:List Tk} {ins:List fX} {n:Nat},yF r len toks ⟨ins,[]⟩ n false→toks.map TokV.tk=T++R→n+xs.length≤64→
      ∃toks' ins',toks'.map TokV.tk=R∧ins'.map fX.un=xs.map fX.un∧yF r len toks' ⟨ins++ins',[]⟩ (n+xs.length) false
  | [],o,o',_,h=>by
    simp only [iO,Prod.mk.injEq,and_true] at h;subst h;exact⟨[],[],by simp,fun _=>Lx.nil,rfl,fun{r len toks R ins n} hP ht _=>⟨toks,[],by simpa using ht,rfl,by simpa using hP⟩⟩
  | x::xs,o,o',hr,h=>by
    rw [iO] at h
    cases hi:mN x with
    | none=>rw [hi] at h;simp at h
    | some t=>
      rw [hi] at h;simp only at h;obtain⟨u,U,h1,h2,h3,h4⟩:=bLs xs (fun y hy=>hr y (by simp [hy])) h;unfold mN at hi;split at hi
      · cases hi
      · rename_i hbad;simp only [not_or,Bool.not_eq_false,Nat.not_lt] at hbad;obtain⟨s1,s2⟩:=bHi x.sides (acc:=x.name) (A:=[WT x.name]) (hr x (by simp)) (fun c r hc=>wY (lW hbad.1) hc.word) hi
        have hlx: ∀rest,Lx (([105,110,32]++t)++[10]) ((WT [105,110]::WT x.name::x.sides.map oL)++[NL]) rest:=fun rest=>by
          have a1:Lx ([105,110]++[32]) [WT [105,110]] (t++10::rest):=Lx.gap (wY in_word (by decide));have a2:=s2 10 rest (.inr (.inr rfl));have a3:=Lx.append (rest:=rest) (Lx.append (rest:=10::rest) a1 a2) nl_lx;exact a3
        refine⟨(([105,110,32]++t)++[10])++u,(WT [105,110]::WT x.name::x.sides.map oL)++[NL]++U,by rw [h1];simp,fun rest=>Lx.append (hlx _) (h2 rest),?_,fun{r len toks R ins n} hP ht hn=>?_⟩
        · simp [h3,costI];omega
        · simp only [List.length_cons] at hn;have ht':toks.map TokV.tk=(WT [105,110]::WT x.name::x.sides.map oL)++NL::(U++R):=by rw [ht];simp
          obtain⟨q,toks',⟨y,rfl,hy⟩,k1,k2⟩:=bBv hP ht' (by
            intro t ht;simp only [List.mem_cons,List.mem_map] at ht
            rcases ht with rfl | rfl | ⟨d,_,rfl⟩
            · decide
            · exact(by decide:(1:Int)≠4)
            · exact side_nl d) (by simp) fun own e ho=>input_into (ins:=ins) hbad.1 hbad.2 s1 (by omega) ho
          obtain⟨toks'',ins',e1,e2,e3⟩:=h4 k2 k1 (by omega);refine⟨toks'',y::ins',e1,by rw [List.map_cons,List.map_cons,hy,e2],?_⟩;rw [List.append_assoc] at e3;rw [List.length_cons,show n+(xs.length+1)=n+1+xs.length from by omega];exact e3
theorem wQ(ins:List fX)(lns:List jR)(l:jR):nX ⟨ins,lns++[l]⟩=(l.name==[]):=by simp [nX]
theorem out_into{its:List dN}{T:List Tk}(hl:T.length+1≤256)(hx: ∀{toks:List TokV} {e:Int} {j:Nat},iY toks j T→jS (lG toks e j).1=jS its∧(lG toks e j).2=(0,0)){own:List TokV}{e:Int}{ins:List fX}{lns:List jR}{n:Nat}(hn:n<64)(ho:own.map TokV.tk=WT [111,117,116]::T):
    ∃q,fW own e ⟨ins,lns⟩ n false=(q,(0,0))∧ ∃y,q=⟨ins,lns++[y]⟩∧y.un=⟨[],0,jS its⟩:=by
  have hlen:own.length=T.length+1:=by
    have:=congrArg List.length ho
    simpa using this
  have f0:iY own 0 _:=bCi ho;have i0:isW (bP own 0) [105,110]=false:=by rw [bHh f0];rfl
  have i1:isW (bP own 0) [111,117,116]=true:=by rw [bHh f0];rfl
  obtain⟨h1,h2⟩:=hx (e:=e) f0.next
  refine⟨_,?_,⟨[],(bP own 0).at_,(lG own e 1).1⟩,rfl,by rw [jR.un,h1]⟩;unfold fW;rw [if_neg (by omega),if_neg (by omega),if_neg (by rw [i0];simp),i0,if_neg (by simp),if_pos i1];simp only [qD];rw [h2]
theorem line_into{its:List dN}{T:List Tk}{nm:Bs}(hb:dX nm=true)(hl:T.length+2≤256)(hx: ∀{toks:List TokV} {e:Int} {j:Nat},iY toks j T→jS (lG toks e j).1=jS its∧(lG toks e j).2=(0,0)){own:List TokV}{e:Int}{ins:List fX}{lns:List jR}{n:Nat}(hn:n<64)(ho:own.map TokV.tk=WT nm::⟨3,[58],0⟩::T):
    ∃q,fW own e ⟨ins,lns⟩ n false=(q,(0,0))∧ ∃y,q=⟨ins,lns++[y]⟩∧y.un=⟨nm,0,jS its⟩:=by
  have hlen:own.length=T.length+2:=by
    have:=congrArg List.length ho
    simpa using this
  obtain⟨n1,n2,n3⟩:=bAz hb;have f0:iY own 0 _:=bCi ho;have i0:isW (bP own 0) [105,110]=false:=by rw [bHh f0];simp [WT,n2]
  have i1:isW (bP own 0) [111,117,116]=false:=by rw [bHh f0];simp [WT,n3]
  have f1:=f0.next
  obtain⟨h1,h2⟩:=hx (e:=e) f1.next
  have hw0:(bP own 0).word=nm:=f0.word;refine⟨_,?_,⟨nm,(bP own 0).at_,(lG own e 2).1⟩,rfl,by rw [jR.un,h1]⟩;unfold fW;rw [if_neg (by omega),if_neg (by omega),if_neg (by rw [i0];simp),i0,if_neg (by simp),i1,if_neg (by simp),if_neg,if_neg,hw0]
  · simp only [qD];rw [h2]
  · rw [f1.kind,f1.word];simp
  · rw [f0.kind,hw0,hb];simp [WT]
theorem lines_rd: ∀(ls:List jR) {o o':Bs},ls≠[]→(∀l∈ls,∀x∈l.items,∀n∈x.nums,Rng n)→fL ls o=(o',true)→ ∃t T,o'=o++t∧(∀rest,Lx t T rest)∧T.length=(ls.map bLo).sum∧
    ∀{r:gG×Flt} {len:Int} {toks:List TokV} {ins:List fX} {lns:List jR} {n:Nat},yF r len toks ⟨ins,lns⟩ n false→toks.map TokV.tk=T→n+ls.length≤64→
      ∃lns',lns'.map jR.un=ls.map jR.un∧r=(⟨ins,lns++lns'⟩,(0,0))
  | [],_,_,h,_,_=>absurd rfl h
  | [l],o,o',_,hr,h=>by
    simp only [fL] at h
    cases hx:gE l.items 255 with
    | none=>rw [hx] at h;simp at h
    | some t=>
      rw [hx] at h;simp only at h;split at h
      · simp at h
      · rename_i hnm;simp only [ne_eq,Classical.not_not] at hnm;simp only [Prod.mk.injEq,and_true] at h;obtain⟨T,a1,a2,a3,a4,a5⟩:=expr_rd (k:=1) (by omega) (hr l (by simp)) hx;refine⟨([111,117,116,32]++t)++[10],(WT [111,117,116]::T)++[NL],h.symm,fun rest=>?_,by simp [bLo,hnm,a2],fun{r len toks ins lns n} hP ht hn=>?_⟩
        · have b1:Lx ([111,117,116]++[32]) [WT [111,117,116]] (t++10::rest):=Lx.gap (wY out_word (by decide));exact Lx.append (rest:=rest) (Lx.append (rest:=10::rest) b1 (a1 10 rest (.inr (.inr rfl)))) nl_lx
        · obtain⟨q,toks',⟨y,rfl,hy⟩,k1,k2⟩:=bBv (R:=[]) hP ht (xN.append (A:=[_]) (.one (show(1:Int)≠4 by decide)) a4) (by simp) fun own e ho=>out_into (ins:=ins) (lns:=lns) (by omega) (fun hF=>a5 hF) (by simp only [List.length_singleton] at hn;omega) ho;have hy':y.un=l.un:=by rw [hy,jR.un,hnm]
          have hov:y.name=[]:=by
            have:=congrArg jR.name hy;exact this
          refine⟨[y],by simp [hy'],?_⟩;have:=p_end k2 (List.map_eq_nil_iff.1 k1);rw [wQ,hov,if_pos (by decide)] at this;exact this
  | l::m::ls,o,o',_,hr,h=>by
    have h':(match gE l.items 254 with
        | none=>(o,false)
        | some t=>if dX l.name=false then (o,false) else fL (m::ls) (o++(((l.name++[58,32])++t)++[10])))=(o',true):=h
    cases hx:gE l.items 254 with
    | none=>rw [hx] at h';simp at h'
    | some t=>
      rw [hx] at h';simp only at h';split at h'
      · simp at h'
      · rename_i hb;simp only [Bool.not_eq_false] at hb;obtain⟨u,U,h1,h2,h3,h4⟩:=lines_rd (m::ls) (by simp) (fun y hy=>hr y (List.mem_cons_of_mem _ hy)) h';obtain⟨T,a1,a2,a3,a4,a5⟩:=expr_rd (k:=2) (by omega) (hr l (by simp)) hx;refine⟨(((l.name++[58,32])++t)++[10])++u,((WT l.name::⟨3,[58],0⟩::T)++[NL])++U,by rw [h1];simp,fun rest=>Lx.append ?_ (h2 rest),?_,fun{r len toks ins lns n} hP ht hn=>?_⟩
        · have b0:Lx l.name [WT l.name] (58::32::(t++10::(u++rest))):=wY (lW hb) (by decide);have b1:Lx ([58]++[32]) [⟨3,[58],0⟩] (t++10::(u++rest)):=Lx.gap (bFg (by decide));exact Lx.append (rest:=u++rest) (Lx.append (rest:=10::(u++rest)) (Lx.append (rest:=t++10::(u++rest)) b0 b1) (a1 10 _ (.inr (.inr rfl)))) nl_lx
        · have:=(bAz hb).1;simp [bLo,this,a2,h3];omega
        · have ht':toks.map TokV.tk=(WT l.name::⟨3,[58],0⟩::T)++NL::U:=by rw [ht];simp
          obtain⟨q,toks',⟨y,rfl,hy⟩,k1,k2⟩:=bBv hP ht' (xN.append (A:=[_,_]) (xN.append (A:=[_]) (B:=[_]) (.one (show(1:Int)≠4 by decide)) (.one (show(3:Int)≠4 by decide))) a4) (by simp) fun own e ho=>line_into (ins:=ins) (lns:=lns) hb (by omega) (fun hF=>a5 hF) (by simp only [List.length_cons] at hn;omega) ho
          have hov:nX ⟨ins,lns++[y]⟩=false:=by
            have:y.un.name=l.name:=by rw [hy]
            have:y.name=l.name:=this;rw [wQ,this]
            simpa using (bAz hb).1
          rw [hov] at k2;obtain⟨lns',e1,e2⟩:=h4 k2 k1 (by simp only [List.length_cons] at hn⊢;omega);refine⟨y::lns',by rw [List.map_cons,e1,hy];rfl,?_⟩;rw [e2];simp
structure RngP (p:gG):Prop where
  ins: ∀x∈p.inputs,∀d∈x.sides,Rng d.n
  lns: ∀l∈p.lines,∀x∈l.items,∀n∈x.nums,Rng n
theorem lex_whole{t:Bs}{T:List Tk}(h:Lx t T [])(hl:t.length≤65536): ∃toks,lexP t=(toks,(0,0))∧toks.map TokV.tk=T:=by
  obtain⟨L,h1,h2⟩:=h 0 [];refine⟨L,?_,h1⟩;unfold lexP;rw [if_neg (by omega)];rw [List.append_nil] at h2;rw [h2];rfl
theorem shown_read{p:gG}{t:Bs}(hr:RngP p)(h:dF p=(t,true))(hl:t.length≤65536):(∃q,fZ t=(q,(0,0))∧q.un=p.un)∧(lexP t).2=(0,0)∧(lexP t).1.length=wB p:=by
  unfold dF at h;split at h
  · cases h
  · rename_i hbad;simp only [not_or,Nat.not_lt] at hbad
    cases hi:iO p.inputs [] with
    | mk o b=>
      rw [hi] at h
      cases b with
      | false=>cases h
      | true=>
        simp only at h;obtain⟨a,A,a1,a2,a3,a4⟩:=bLs p.inputs hr.ins hi;obtain⟨b,B,b1,b2,b3,b4⟩:=lines_rd p.lines hbad.1 hr.lns h;rw [a1] at b1;rw [List.nil_append] at b1
        have hlx:Lx t (A++B) []:=by
          rw [b1];exact Lx.append (a2 _) (b2 _)
        obtain⟨toks,t1,t2⟩:=lex_whole hlx hl
        have hlen:toks.length=wB p:=by
          have:=congrArg List.length t2;rw [List.length_map,List.length_append,a3,b3] at this;exact this
        refine⟨?_,by rw [t1],by rw [t1];exact hlen⟩
        have hP:yF (fZ t) t.length toks ⟨[],[]⟩ 0 false:=⟨toks.length+1,by omega,by unfold fZ;rw [t1];rfl⟩
        obtain⟨toks',ins',c1,c2,c3⟩:=a4 hP t2 (by omega);obtain⟨lns',d1,d2⟩:=b4 c3 c1 (by omega);exact⟨_,d2,by simp only [gG.un,List.nil_append];rw [c2,d1]⟩
def oX:Stk→Nat
  | []=>0
  | none::r=>oX r+1
  | some _::r=>oX r
def VbOk (it:dN):Prop:= ¬(it.how<3∨7<it.how∨it.nums≠[]∨it.name≠[]∨(verbS it).1=[])
inductive bBi:Stk→List fM→Nat→Prop
  | nil:bBi [] [] 0
  | brk {st P c}:bBi st P c→bBi (none::st) P (c+1)
  | one {it st P c}:VbOk it→pL it.how=false→bBi st P c→bBi (some it::st) P (c+(verbS it).2)
  | two {it st q P c}:VbOk it→pL it.how=true→(leftS q).nest+oX st≤32→bBi st P c→bBi (some it::st) (q::P) (c+(verbS it).2+(leftS q).tokens)
theorem qJ: ∀(a b:List dN) (st:List fM),fS (a++b) st=(fS a st).bind (fS b)
  | [],b,st=>rfl
  | x::a,b,st=>by
    rw [List.cons_append,fS,fS]
    cases hZ st x with
    | none=>rfl
    | some s=>exact qJ a b s
theorem steps_snoc{a:List dN}{x:dN}{st P P':List fM}(h:fS a st=some P)(hx:hZ P x=some P'):fS (a++[x]) st=some P':=by
  rw [qJ,h];show fS [x] P=_;rw [fS,hx];rfl
theorem bKy{it:dN}(h:VbOk it)(st:List fM):hZ st it=oA it st:=by
  have h3: ¬(it.how=1∨it.how=2):=fun e=>h (.inl (by omega));unfold hZ;rw [if_neg h3,if_neg h]
theorem fin_pend{st:Stk}{P:List fM}{c:Nat}(h:bBi st P c): ∀{p:fM},p.nest+oX st≤32→ ∃p' P' c',fS (mS st).1 (p::P)=some (p'::P')∧bBi (mS st).2 P' c'∧p'.tokens+c'=p.tokens+c∧p'.nest+oX st≤32:=by
  induction h with
  | nil=>exact fun{p} hp=>⟨p,[],0,rfl,.nil,rfl,hp⟩
  | brk h _=>exact fun{p} hp=>⟨p,_,_,rfl,.brk h,rfl,hp⟩
  | one hv ht h ih=>
    rename_i it st P c;intro p hp;obtain⟨p',P',c',h1,h2,h3,h4⟩:=ih (p:=⟨(verbS it).1::p.words,p.nest,p.tokens+(verbS it).2,false⟩) hp;refine⟨p',P',c',?_,h2,by rw [h3];simp only;omega,h4⟩;rw [mS];simp only [fS];rw [bKy hv];unfold oA;rw [ht];exact h1
  | two hv ht hn h ih=>
    rename_i it st q P c;intro p hp
    obtain⟨p',P',c',h1,h2,h3,h4⟩:=ih (p:=⟨(leftS q).words++(verbS it).1::p.words,max p.nest (leftS q).nest,p.tokens+(verbS it).2+(leftS q).tokens,false⟩) (by
      have:p.nest+oX st≤32:=hp;simp only
      omega)
    refine⟨p',P',c',?_,h2,by rw [h3];simp only;omega,h4⟩;rw [mS];simp only [fS];rw [bKy hv];unfold oA;rw [ht];exact h1
theorem bFw: ∀st:Stk,((mS st).2=[]∧oX st=0)∨ ∃r,(mS st).2=none::r∧oX st=oX r+1
  | []=> .inl ⟨rfl,rfl⟩
  | none::r=> .inr ⟨r,rfl,rfl⟩
  | some _::r=>bFw r
theorem isOk_43{a:Int}:kS (a,43)=false:=by simp [kS,oK]
theorem iH{a c:Int}(hc:c≠0):kS (a,c)=false:=by
  have:(c==0)=false:=by simpa using hc
  simp [kS,oK,this]
theorem two_mem{w:Bs}(h:gQ w≠0):w∈verbWords:=by
  refine Classical.byContradiction fun hn=>h ?_;simp only [verbWords,List.mem_cons,not_or] at hn;unfold gQ;simp only [hn,if_false]
theorem one_mem{w:Bs}(h:lV w≠0):w∈verbWords:=by
  refine Classical.byContradiction fun hn=>h ?_;simp only [verbWords,List.mem_cons,not_or] at hn;unfold lV;simp only [hn,or_self,if_false]
theorem verb_mem{w:Bs}{two:Bool}(h:fY w two≠0):w∈verbWords:=by
  cases two with
  | false=>exact one_mem h
  | true=>exact two_mem h
theorem bIc{two:Bool}{f:Int}{w:Bs}(hf:fY w two=f)(h0:f≠0): ∀l:List Bs,w∈l→(∀s∈l,s≠[])→mE two f l≠[]
  | [],h,_=>by simp at h
  | s::r,h,hne=>by
    rw [mE]
    by_cases hs:(fY s two !=0&&fY s two==f)=true
    · rw [if_pos hs];exact hne s (by simp)
    · rw [if_neg hs];refine bIc hf h0 r ?_ fun x hx=>hne x (by simp [hx])
      rcases List.mem_cons.1 h with rfl | h
      · exact absurd (by simp [hf,h0]) hs
      · exact h
theorem bKv{two:Bool}{w:Bs}{f:Int}(hf:fY w two=f)(h0:f≠0):iQ two f≠[]:=by
  rw [←uQ];exact bIc hf h0 _ (verb_mem (by rw [hf];exact h0)) (by decide)
theorem bLx{toks:List TokV}{k:Nat}{e:Int}{two:Bool}(h:kS (bS toks k e two).flt=true):VbOk (bS toks k e two).it∧pL (bS toks k e two).it.how=two∧(verbS (bS toks k e two).it).2+k≤(bS toks k e two).next:=by
  unfold bS at h⊢;split at h
  · rename_i hm;rw [if_pos hm];split at h
    · simp only [isOk_43] at h;cases h
    · rename_i hb;rw [if_neg hb];rw [not_or] at hb;obtain⟨h17,hl⟩:=hb
      by_cases h0:gQ (bP toks k).word=0
      · simp only [h0,if_true,isOk_43] at h;cases h
      · have ht:=bKv (two:=true) (w:=(bP toks k).word) rfl h0;have ht':iQ true (gQ (bP toks k).word)≠[]:=ht;simp only [ne_eq,Classical.not_not] at hl;obtain⟨hm1,hm2⟩:=hm
        rcases hm2 with hw | hw | hw
        all_goals
          rw [hw] at hl;simp only [hw] at*;subst hl;refine⟨?_,rfl,?_⟩
          · simp [VbOk,Phr.it,verbS,ht',h17]
          · simp [Phr.it,verbS,ht',h17];omega
  · rename_i hm;rw [if_neg hm]
    by_cases h0:fY (bP toks k).word two=0
    · simp only [h0,if_true,isOk_43] at h;cases h
    · have ht:=bKv (two:=two) (w:=(bP toks k).word) rfl h0
      cases two with
      | false=>
        refine⟨?_,rfl,?_⟩
        · simp [VbOk,Phr.it,verbS,ht]
        · simp [Phr.it,verbS];omega
      | true=>
        refine⟨?_,rfl,?_⟩
        · simp [VbOk,Phr.it,verbS,ht]
        · simp [Phr.it,verbS];omega
structure bIv (t:TokV):Prop where
  num:t.kind=2→t.word=[]
  word:t.kind=1→t.n=0
  rng:Rng t.n
def RngI (l:List dN):Prop:= ∀x∈l,∀n∈x.nums,Rng n
theorem RngI.append{a b:List dN}(h:RngI a)(k:RngI b):RngI (a++b):=fun x hx=>(List.mem_append.1 hx).elim (h x) (k x)
def vC (l:List dN)(m:Nat):Prop:=(∃p,fS l []=some [p]∧p.tokens≤m∧p.nest≤32)∧RngI l
def RngS (st:Stk):Prop:= ∀x,some x∈st→x.nums=[]
theorem fin_rng: ∀{st:Stk},RngS st→RngI (mS st).1∧RngS (mS st).2
  | [],_=>⟨fun x hx=>by simp [mS] at hx,fun x hx=>by simp [mS] at hx⟩
  | none::r,h=>⟨fun x hx=>by simp [mS] at hx,h⟩
  | some y::r,h=>by
    obtain⟨a,b⟩:=fin_rng (st:=r) fun x hx=>h x (List.mem_cons_of_mem _ hx);refine⟨fun x hx=>?_,b⟩;rw [mS] at hx
    rcases List.mem_cons.1 hx with rfl | hx
    · rw [h x (List.mem_cons_self ..)];simp
    · exact a x hx
theorem vI(p:fM):p.tokens≤(leftS p).tokens∧(leftS p).tokens≤p.tokens+2∧p.nest≤(leftS p).nest∧(leftS p).nest≤p.nest+1:=by
  unfold leftS;split<;>simp
theorem pend_none{P:List fM}{c:Nat}(h:bBi [] P c):P=[]∧c=0:=by
  cases h;exact⟨rfl,rfl⟩
theorem pend_brk{st:Stk}{P:List fM}{c:Nat}(h:bBi (none::st) P c): ∃d,c=d+1∧bBi st P d:=by
  cases h with
  | brk h=>exact⟨_,rfl,h⟩
theorem nums_mem{toks:List TokV}(ht: ∀t∈toks,bIv t){k:Nat}{n:Int}(h:n∈gH toks k):Rng n:=by
  unfold gH at h;obtain⟨t,h1,rfl⟩:=List.mem_map.1 h;exact(ht t (List.mem_of_mem_drop (List.takeWhile_sublist _ |>.subset h1))).rng
section
variable {toks : List TokV} {e : Int} {l : List dN} {flt : Flt} {k0 : Nat}
structure StB (toks:List TokV) (k0 k:Nat) (out:List dN) (st:Stk) (o:Nat) (p:fM) (P:List fM) (c:Nat):Prop where
  steps:fS out []=some (p::P)
  pend:bBi st P c
  cost:c+(leftS p).tokens+k0≤k
  nest:oX st+(leftS p).nest≤32
  opens:oX st=o
  rng:RngI out
  rngS:RngS st
  le:k≤toks.length
structure StA (toks:List TokV) (k0 k:Nat) (out:List dN) (st:Stk) (o:Nat) (P:List fM) (c:Nat):Prop where
  steps:fS out []=some P
  pend:bBi st P c
  cost:c+k0≤k
  opens:oX st=o
  rng:RngI out
  rngS:RngS st
  le:k≤toks.length
theorem bCz(toks:List TokV)(k:Nat)(e:Int)(b:Bool):(bS toks k e b).it.nums=[]:=rfl
theorem StB.verb{k:Nat}{out:List dN}{st:Stk}{o:Nat}{p:fM}{P:List fM}{c:Nat}(h:StB toks k0 k out st o p P c)(hok:kS (bS toks k e true).flt=true)(hk:k<toks.length):
    StA toks k0 (bS toks k e true).next out (some (bS toks k e true).it::st) o (p::P) (c+(verbS (bS toks k e true).it).2+(leftS p).tokens):=by
  obtain⟨v1,v2,v3⟩:=bLx hok;refine⟨h.steps,.two v1 v2 (by have:=h.nest;omega) h.pend,by have:=h.cost;omega,h.opens,h.rng,fun x hx=>?_,wV hk⟩
  rcases List.mem_cons.1 hx with e1 | hx
  · cases e1;exact bCz ..
  · exact h.rngS x hx
theorem StA.verb{k:Nat}{out:List dN}{st:Stk}{o:Nat}{P:List fM}{c:Nat}(h:StA toks k0 k out st o P c)(hok:kS (bS toks k e false).flt=true)(hk:k<toks.length):
    StA toks k0 (bS toks k e false).next out (some (bS toks k e false).it::st) o P (c+(verbS (bS toks k e false).it).2):=by
  obtain⟨v1,v2,v3⟩:=bLx hok;refine⟨h.steps,.one v1 v2 h.pend,by have:=h.cost;omega,h.opens,h.rng,fun x hx=>?_,wV hk⟩
  rcases List.mem_cons.1 hx with e1 | hx
  · cases e1;exact bCz ..
  · exact h.rngS x hx
theorem StA.operand{k m:Nat}{out:List dN}{st:Stk}{o:Nat}{P:List fM}{c:Nat}{x:dN}{p:fM}(h:StA toks k0 k out st o P c)(hx:hZ P x=some (p::P))(hp:p.plain=true)(hn:p.nest=0)(ht:p.tokens≤m)(ho:o≤32)(hr: ∀n∈x.nums,Rng n)(hl:k+m≤toks.length):
    StB toks k0 (k+m) (out++[x]) st o p P c:=by
  have e1:leftS p=p:=by unfold leftS;rw [if_pos hp]
  exact⟨steps_snoc h.steps hx,h.pend,by rw [e1];have:=h.cost;omega,by rw [e1,hn,h.opens];exact ho,h.opens,h.rng.append fun y hy=>by rw [List.mem_singleton.1 hy];exact hr,h.rngS,hl⟩
theorem StB.close{k:Nat}{out:List dN}{st:Stk}{o:Nat}{p:fM}{P:List fM}{c:Nat}(h:StB toks k0 k out st (o+1) p P c)(hk:k<toks.length):
    ∃p' P' c',StB toks k0 (k+1) (out++(mS st).1) (mS st).2.tail o p' P' c':=by
  have hn:=h.nest;have hc:=h.cost;have ho:=h.opens;obtain⟨l1,l2,l3,l4⟩:=vI p;obtain⟨p',P',c',h1,h2,h3,h4⟩:=fin_pend h.pend (p:=p) (by omega)
  rcases bFw st with ⟨_,h0⟩ | ⟨r,e1,e2⟩
  · omega
  · rw [e1] at h2;obtain⟨d,rfl,h5⟩:=pend_brk h2;obtain⟨m1,m2,m3,m4⟩:=vI p';obtain⟨r1,r2⟩:=fin_rng h.rngS;refine⟨p',P',d,by rw [qJ,h.steps];exact h1,by rw [e1];exact h5,by omega,by rw [e1];simp only [List.tail_cons];omega,by rw [e1];simp only [List.tail_cons];omega,h.rng.append r1,?_,by omega⟩;intro x hx;rw [e1] at r2 hx;exact r2 x (List.mem_cons_of_mem _ hx)
theorem StB.done{k:Nat}{out:List dN}{st:Stk}{p:fM}{P:List fM}{c:Nat}(h:StB toks k0 k out st 0 p P c):vC (out++(mS st).1) (toks.length-k0):=by
  have hn:=h.nest;have hc:=h.cost;have ho:=h.opens;have hle:=h.le;obtain⟨l1,l2,l3,l4⟩:=vI p;obtain⟨p',P',c',h1,h2,h3,h4⟩:=fin_pend h.pend (p:=p) (by omega)
  rcases bFw st with ⟨e1,_⟩ | ⟨r,_,e2⟩
  · rw [e1] at h2;obtain⟨rfl,rfl⟩:=pend_none h2;exact⟨⟨p',by rw [qJ,h.steps];exact h1,by omega,by omega⟩,h.rng.append (fin_rng h.rngS).1⟩
  · omega
theorem bLz{rec:Nat→List dN→Stk→Nat→uW}{kk:Nat}(hrec: ∀{k out st o P c},kk<k→StA toks k0 k out st o P c→o≤32→rec k out st o=(l,flt)→vC l (toks.length-k0))(hok:kS flt=true):
    ∀(o:Nat) {k:Nat} {out:List dN} {st:Stk} {p:fM} {P:List fM} {c:Nat},kk≤k→StB toks k0 k out st o p P c→rZ toks e rec o k out st=(l,flt)→vC l (toks.length-k0):=by
  have rest: ∀(o:Nat) {k:Nat} {out:List dN} {st:Stk} {p:fM} {P:List fM} {c:Nat},kk≤k→StB toks k0 k out st o p P c→bBj toks e rec o k out st=(l,flt)→vC l (toks.length-k0):=by
    intro o k out st p P c hkk h hr;unfold bBj at hr;split at hr
    · split at hr
      · cases hr;rw [iH (by decide)] at hok;cases hok
      · rename_i h0;cases hr;obtain rfl:o=0:=by omega
        exact h.done
    · rename_i h4;split at hr
      · cases hr;rw [iH (by decide)] at hok;cases hok
      · split at hr
        · rename_i hp;have:=dQ toks k e true;exact hrec (by omega) (h.verb hp (iR h4)) (by have:=h.nest;have:=h.opens;omega) hr
        · rename_i hp;cases hr;exact absurd hok hp
  intro o
  induction o with
  | zero=>exact fun hkk h hr=>rest 0 hkk h hr
  | succ o ih=>
    intro k out st p P c hkk h hr;rw [rZ] at hr;split at hr
    · rename_i hc;obtain⟨p',P',c',h'⟩:=h.close (iR (by rw [hc.1];decide));exact ih (by omega) h' hr
    · exact rest _ hkk h hr
theorem go_ok(ht: ∀t∈toks,bIv t)(h256:toks.length≤256)(hok:kS flt=true): ∀(f:Nat) {k:Nat} {out:List dN} {st:Stk} {o:Nat} {P:List fM} {c:Nat},toks.length+1≤f+k→StA toks k0 k out st o P c→o≤32→lU toks e f k out st o=(l,flt)→vC l (toks.length-k0)
  | 0,k,out,st,o,P,c,hf,h,_,_=>by have:=h.le;omega
  | f+1,k,out,st,o,P,c,hf,h,ho,hg=>by
    have hrec: ∀(k':Nat),k<k'→ ∀{out st o P c},StA toks k0 k' out st o P c→o≤32→lU toks e f k' out st o=(l,flt)→vC l (toks.length-k0):=fun k' hk'=>go_ok ht h256 hok f (by omega);rw [lU] at hg;split at hg
    · rename_i hv;split at hg
      · rename_i hp;have:=dQ toks k e false;exact hrec _ (by omega) (h.verb hp (iR hv.2.1)) ho hg
      · rename_i hp;cases hg;exact absurd hok hp
    · split at hg
      · rename_i hb;split at hg
        · cases hg;rw [iH (by decide)] at hok;cases hok
        · rename_i h32;have hk:=iR (toks:=toks) (k:=k) (by rw [hb.1];decide);refine hrec (k+1) (by omega) (P:=P) (c:=c+1) ⟨h.steps,.brk h.pend,by have:=h.cost;omega,by rw [oX,h.opens],h.rng,fun x hx=>h.rngS x (by simpa using hx),hk⟩ (by omega) hg
      · split at hg
        · rename_i h2;have hn:=tI h2;have hl:=nums_le toks k;have hk:=iR (toks:=toks) (k:=k) (by rw [h2];decide)
          have hst:hZ P (xK toks k)=some (⟨(gH toks k).map fJ,0,(gH toks k).length,true⟩::P):=by
            have hne:gH toks k≠[]:=by rw [hn];simp
            have h3: ¬256<(gH toks k).length:=by omega
            simp [hZ,xK,operandS,hne,h3]
          have hB:=h.operand (m:=(gH toks k).length) hst rfl rfl (Nat.le_refl _) ho (fun n hn=>nums_mem ht hn) (by omega);exact bLz (kk:=k) (fun hk'=>hrec _ hk') hok o (by omega) hB hg
        · split at hg
          · rename_i hnm;have hk:=iR (toks:=toks) (k:=k) (by rw [hnm.1];decide);have hst:hZ P (qT toks k)=some (⟨[(bP toks k).word],0,1,true⟩::P):=by simp [hZ,qT,operandS,hnm.2]
            have hB:=h.operand (m:=1) hst rfl rfl (Nat.le_refl _) ho (fun n hn=>by simp [qT] at hn) (by omega);exact bLz (kk:=k) (fun hk'=>hrec _ hk') hok o (by omega) hB hg
          · split at hg
            · cases hg;rw [iH (by decide)] at hok;cases hok
            · cases hg;rw [iH (by decide)] at hok;cases hok
end
theorem bFn: ∀(f i:Nat) (s:Bs) (out:List Tok),(∀t∈out,bIv t)→ ∀t∈(lexGo f i s out).1,bIv t
  | 0,_,_,out,h=>h
  | _+1,_,[],out,h=>h
  | f+1,i,b::r,out,h=>by
    unfold lexGo;split
    · exact bFn f _ _ _ h
    · split
      · exact bFn f _ _ _ h
      · split
        · exact fun t ht=>by simp at ht
        · rename_i ht;refine bFn f _ _ _ fun t hm=>?_
          rcases List.mem_append.1 hm with hm | hm
          · exact h t hm
          · rw [List.mem_singleton.1 hm];have h1:=bBs ht;obtain⟨_,h2,h3⟩:=bLc ht;exact⟨h1.num,h1.word,h2,h3⟩
theorem tkOk(s:Bs): ∀t∈(lexP s).1,bIv t:=by
  unfold lexP;split
  · exact fun t ht=>by simp at ht
  · exact bFn _ _ _ _ fun t ht=>by simp at ht
theorem expr_ok{toks:List TokV}{e:Int}{k:Nat}(ht: ∀t∈toks,bIv t)(h256:toks.length≤256)(hk:k≤toks.length)(hok:kS (lG toks e k).2=true):vC (lG toks e k).1 (toks.length-k):=
  go_ok (k0:=k) (e:=e) (l:=(lG toks e k).1) (flt:=(lG toks e k).2) ht h256 hok (toks.length+1) (k:=k) (o:=0) (P:=[]) (c:=0) (by omega) ⟨rfl,.nil,by omega,rfl,fun x hx=>by simp at hx,fun x hx=>by simp at hx,hk⟩ (by omega) rfl
def InOk (x:fX):Prop:=dX x.name=true∧x.sides.length≤4∧ ∀d∈x.sides,bCm d∧Rng d.n
def LnOk (l:jR):Prop:=dX l.name=true∧vC l.items 254
def LastOk(l:jR):Prop:=l.name=[]∧vC l.items 255
theorem vC.mono{l:List dN}{a b:Nat}(h:vC l a)(hab:a≤b):vC l b:=by
  obtain⟨⟨p,h1,h2,h3⟩,h4⟩:=h;exact⟨⟨p,h1,by omega,h3⟩,h4⟩
theorem vC.tok{l:List dN}{a:Nat}(h:vC l a):tokS l≤a:=by
  obtain⟨⟨p,h1,h2,h3⟩,h4⟩:=h;unfold tokS;rw [h1];exact h2
theorem vC.expr{l:List dN}{a:Nat}(h:vC l a): ∃t,gE l a=some t:=by
  obtain⟨⟨p,h1,h2,h3⟩,h4⟩:=h;have:=bAs h1;simp at this;refine⟨joinSp p.words,?_⟩;unfold gE;rw [if_neg (by omega),h1];simp only;rw [if_neg (by omega)]
def LinesOk(ls:List jR)(over:Bool):Prop:=(over=false∧ ∀l∈ls,LnOk l)∨(over=true∧ ∃L z,ls=L++[z]∧(∀l∈L,LnOk l)∧LastOk z)
structure PSt (p:gG) (n:Nat) (over:Bool):Prop where
  ins: ∀x∈p.inputs,InOk x
  lns:LinesOk p.lines over
  num:p.inputs.length+p.lines.length≤n
  le:n≤64
theorem bGq: ∀(toks:List TokV) (acc:List nS),(∀t∈toks,bIv t)→acc.length≤4→kS (kF toks acc).2=true→ ∃ds,(kF toks acc).1=acc++ds∧ds.length=toks.length∧(acc++ds).length≤4∧ ∀d∈ds,bCm d∧Rng d.n
  | [],acc,_,ha,_=>⟨[],by simp [kF],rfl,by simpa using ha,by simp⟩
  | t::r,acc,ht,ha,h=>by
    rw [kF] at h⊢;split at h
    · rw [iH (by decide)] at h;cases h
    · rename_i hk;rw [if_neg hk];split at h
      · rw [iH (by decide)] at h;cases h
      · rename_i h4;rw [if_neg h4];obtain⟨ds,h1,h2,h3,h5⟩:=bGq r (acc++[⟨t.word,t.n⟩]) (fun x hx=>ht x (by simp [hx])) (by simp;omega) h;refine⟨⟨t.word,t.n⟩::ds,by rw [h1];simp,by simp [h2],by simpa using h3,fun d hd=>?_⟩
        rcases List.mem_cons.1 hd with rfl | hd
        · have hto:=ht t (by simp);refine⟨⟨?_⟩,hto.rng⟩
          by_cases h2:t.kind=2
          · exact .inl (hto.num h2)
          · have: ¬(t.kind≠1∨dX t.word=false):=fun hh=>hk ⟨h2,hh⟩;simp only [not_or,ne_eq,Classical.not_not,Bool.not_eq_false] at this;exact .inr ⟨hto.word this.1,this.2⟩
        · exact h5 d hd
theorem input_conv{own:List TokV}{e:Int}(h0:own≠[])(ht: ∀t∈own,bIv t)(hok:kS (jM own e).2=true):InOk (jM own e).1∧(jM own e).1.sides.length+2=own.length:=by
  have hpos:0<own.length:=List.length_pos_iff.2 h0;unfold jM at hok⊢;split at hok
  · rw [iH (by decide)] at hok;cases hok
  · rename_i h1;rw [if_neg h1];split at hok
    · rw [iH (by decide)] at hok;cases hok
    · rename_i h2;rw [if_neg h2];simp only [not_or,ne_eq,Classical.not_not,Bool.not_eq_false] at h2;obtain⟨ds,s1,s2,s3,s4⟩:=bGq (own.drop 2) [] (fun t hm=>ht t (List.mem_of_mem_drop hm)) (by simp) hok;rw [List.nil_append] at s1 s3;refine⟨⟨h2.2,by rw [s1];exact s3,by rw [s1];exact s4⟩,?_⟩;rw [s1,s2,List.length_drop];omega
theorem into_conv{own:List TokV}{e:Int}{p:gG}{n:Nat}{over:Bool}(h0:own≠[])(ht: ∀t∈own,bIv t)(h:PSt p n over)(hok:kS (fW own e p n over).2=true):PSt (fW own e p n over).1 (n+1) (nX (fW own e p n over).1)∧wB (fW own e p n over).1≤wB p+own.length+1:=by
  have hpos:0<own.length:=List.length_pos_iff.2 h0;obtain⟨ins,lns⟩:=p;obtain⟨h1,h2,h3,h4⟩:=h;unfold fW at hok⊢;split at hok
  · rw [iH (by decide)] at hok;cases hok
  · rename_i c1;rw [if_neg c1];split at hok
    · rw [iH (by decide)] at hok;cases hok
    · rename_i c2;rw [if_neg c2];split at hok
      · rw [iH (by decide)] at hok;cases hok
      · rename_i c3;rw [if_neg c3];simp only [not_or,Bool.not_eq_true,not_and,ne_eq,Classical.not_not] at c3;obtain⟨rfl,c3⟩:=c3
        have hL: ∀l∈lns,LnOk l:=by
          rcases h2 with ⟨_,h⟩ | ⟨h,_⟩
          · exact h
          · cases h
        split at hok
        · rename_i c4;rw [if_pos c4];have hl:lns=[]:=c3 c4;subst hl;obtain⟨i1,i2⟩:=input_conv h0 ht hok;refine⟨⟨fun x hx=>?_,.inl ⟨rfl,fun l hl=>by simp at hl⟩,by simp at h3⊢;omega,by omega⟩,?_⟩
          · rcases List.mem_append.1 hx with hx | hx
            · exact h1 x hx
            · rw [List.mem_singleton.1 hx];exact i1
          · simp only [wB,List.map_append,List.sum_append,List.map_cons,List.map_nil,List.sum_cons,List.sum_nil,costI];omega
        · rename_i c4;rw [if_neg c4];split at hok
          · rename_i c5;rw [if_pos c5];have hx:vC (lG own e 1).1 (own.length-1):=expr_ok ht (by omega) hpos hok;have htk:=hx.tok;refine⟨⟨h1,.inr ⟨by rw [wQ];rfl,lns,_,rfl,hL,rfl,hx.mono (by omega)⟩,by simp only [List.length_append,List.length_singleton] at h3⊢;omega,by omega⟩,?_⟩;simp only [wB,List.map_append,List.sum_append,List.map_cons,List.map_nil,List.sum_cons,List.sum_nil,bLo,qD,if_true];omega
          · rename_i c5;rw [if_neg c5];split at hok
            · rw [iH (by decide)] at hok;cases hok
            · rename_i c6;rw [if_neg c6];simp only [not_or,ne_eq,Classical.not_not,Bool.not_eq_false] at c6;split at hok
              · rw [iH (by decide)] at hok;cases hok
              · rename_i c7;rw [if_neg c7];simp only [not_or,ne_eq,Classical.not_not] at c7;have hk:=iR (toks:=own) (k:=1) (by rw [c7.1];decide);have hx:vC (lG own e 2).1 (own.length-2):=expr_ok ht (by omega) (by omega) hok;have htk:=hx.tok;have hne:=(bAz c6.2).1
                have hov:nX ⟨ins,lns++[(qD own e (bP own 0).word 2).1]⟩=false:=by
                  rw [wQ]
                  simpa [qD] using hne
                refine⟨⟨h1,.inl ⟨hov,fun l hl=>?_⟩,by simp only [List.length_append,List.length_singleton] at h3⊢;omega,by omega⟩,?_⟩
                · rcases List.mem_append.1 hl with hl | hl
                  · exact hL l hl
                  · rw [List.mem_singleton.1 hl];exact⟨c6.2,hx.mono (by omega)⟩
                · simp only [wB,List.map_append,List.sum_append,List.map_cons,List.map_nil,List.sum_cons,List.sum_nil,bLo,qD,hne,if_false];omega
theorem sQ{len:Int}{tot:Nat}: ∀(f:Nat) {toks:List TokV} {p q:gG} {n:Nat} {over:Bool} {flt:Flt},toks.length+1≤f→(∀t∈toks,bIv t)→PSt p n over→wB p+toks.length≤tot+(if toks=[] then 1 else 0)→qF len f toks p n over=(q,flt)→kS flt=true→PSt q 64 true∧wB q≤tot+1
  | 0,toks,_,_,_,_,_,hf,_,_,_,_,_=>by omega
  | f+1,toks,p,q,n,over,flt,hf,ht,hp,hc,h,hok=>by
    rw [qF] at h
    by_cases h0:toks=[]
    · rw [if_pos h0] at h;rw [if_pos h0] at hc;split at h
      · rename_i ho;cases h;subst ho;have:toks.length=0:=by rw [h0];rfl
        exact⟨⟨hp.ins,hp.lns,by have:=hp.num;have:=hp.le;omega,by omega⟩,by omega⟩
      · cases h;rw [iH (by decide)] at hok;cases hok
    · rw [if_neg h0] at h;rw [if_neg h0] at hc;have hpos:0<toks.length:=List.length_pos_iff.2 h0;split at h
      · refine sQ f (by rw [List.length_drop];omega) (fun t hm=>ht t (List.mem_of_mem_drop hm)) hp ?_ h hok;rw [List.length_drop];split<;>omega
      · rename_i hon;split at h
        · rename_i hi;have hsub: ∀t∈ownP toks,bIv t:=fun t hm=>ht t (by rw [←bAq] at hm;exact List.mem_of_mem_take hm);obtain⟨a,b⟩:=into_conv hon hsub hp hi;have hle:=bHn toks;refine sQ f (by rw [List.length_drop];omega) (fun t hm=>ht t (List.mem_of_mem_drop hm)) a ?_ h hok;rw [List.length_drop];split
          · omega
          · rename_i hd;have:(toks.drop ((ownP toks).length+1)).length≠0:=fun e=>hd (List.eq_nil_of_length_eq_zero e);rw [List.length_drop] at this;omega
        · rename_i hi;cases h;exact absurd hok hi
theorem parse_conv{text:Bs}{p:gG}{flt:Flt}(h:fZ text=(p,flt))(hok:kS flt=true):PSt p 64 true∧wB p≤(lexP text).1.length+1:=by
  unfold fZ at h;split at h
  · refine sQ _ (Nat.le_refl _) (tkOk text) ⟨fun x hx=>by simp at hx,.inl ⟨rfl,fun l hl=>by simp at hl⟩,by simp,by omega⟩ ?_ h hok;simp [wB]
  · rename_i hl;cases h;exact absurd hok hl
theorem yL: ∀(ds:List nS) (acc:Bs),(∀d∈ds,bCm d)→ ∃t,kG ds acc=some t
  | [],acc,_=>⟨acc,rfl⟩
  | d::ds,acc,h=>by
    rw [kG];split
    · exact yL ds _ fun x hx=>h x (by simp [hx])
    · rename_i he;rw [if_pos ((h d (by simp)).ok.resolve_left he)];exact yL ds _ fun x hx=>h x (by simp [hx])
theorem bEm: ∀(xs:List fX) (o:Bs),(∀x∈xs,InOk x)→ ∃o',iO xs o=(o',true)
  | [],o,_=>⟨o,rfl⟩
  | x::xs,o,h=>by
    obtain⟨h1,h2,h3⟩:=h x (by simp);obtain⟨t,ht⟩:=yL x.sides x.name fun d hd=>(h3 d hd).1
    have hi:mN x=some t:=by
      unfold mN;rw [if_neg (by rw [h1];simp;omega),ht]
    rw [iO,hi];exact bEm xs _ fun y hy=>h y (by simp [hy])
theorem bGg{z:jR}(hz:LastOk z): ∀(L:List jR) (o:Bs),(∀l∈L,LnOk l)→ ∃o',fL (L++[z]) o=(o',true)
  | [],o,_=>by
    obtain⟨t,ht⟩:=hz.2.expr;refine⟨o++(([111,117,116,32]++t)++[10]),?_⟩;show fL [z] o=_;simp only [fL];rw [ht];simp only [hz.1,ne_eq,not_true_eq_false,if_false]
  | l::L,o,h=>by
    obtain⟨h1,h2⟩:=h l (by simp);obtain⟨t,ht⟩:=h2.expr;obtain⟨o',ho⟩:=bGg hz L (o++(((l.name++[58,32])++t)++[10])) fun y hy=>h y (by simp [hy]);refine⟨o',?_⟩
    obtain⟨m,M,hM⟩: ∃m M,L++[z]=m::M:=by
      cases L with
      | nil=>exact⟨z,[],rfl⟩
      | cons m M=>exact⟨m,M++[z],rfl⟩
    rw [List.cons_append];rw [hM] at ho⊢
    have:fL (l::m::M) o=match gE l.items 254 with
        | none=>(o,false)
        | some t=>if dX l.name=false then (o,false) else fL (m::M) (o++(((l.name++[58,32])++t)++[10])):=rfl
    rw [this,ht];simp only;rw [if_neg (by rw [h1];simp)];exact ho
theorem PSt.lines_ne{p:gG}{n:Nat}(h:PSt p n true):p.lines≠[]:=by
  rcases h.lns with ⟨h,_⟩ | ⟨_,L,z,h,_⟩
  · cases h
  · rw [h];simp
theorem PSt.right{p:gG}(h:PSt p 64 true):(dF p).2=true:=by
  unfold dF;rw [if_neg]
  · obtain⟨o,ho⟩:=bEm p.inputs [] h.ins;rw [ho]
    rcases h.lns with ⟨h,_⟩ | ⟨_,L,z,hl,hL,hz⟩
    · cases h
    · obtain⟨o',ho'⟩:=bGg hz L o hL;simp only [hl,ho']
  · have:=h.num;rintro(h' | h')
    · exact h.lines_ne h'
    · omega
theorem PSt.rng{p:gG}{n:Nat}(h:PSt p n true):RngP p:=by
  refine⟨fun x hx d hd=>((h.ins x hx).2.2 d hd).2,fun l hl=>?_⟩
  rcases h.lns with ⟨h,_⟩ | ⟨_,L,z,e,hL,hz⟩
  · cases h
  · rw [e] at hl
    rcases List.mem_append.1 hl with hl | hl
    · exact(hL l hl).2.2
    · rw [List.mem_singleton.1 hl];exact hz.2.2
theorem steps_un: ∀(l:List dN) (st:List fM),fS (jS l) st=fS l st
  | [],_=>rfl
  | x::l,st=>by
    show(match hZ st x with
      | none=>none
      | some st'=>fS (jS l) st')=_
    rw [fS]
    cases hZ st x with
    | none=>rfl
    | some s=>exact steps_un l s
theorem expr_un(l:List dN)(m:Nat):gE (jS l) m=gE l m:=by
  unfold gE;rw [steps_un];simp [jS]
theorem bKz: ∀(xs:List fX) (o:Bs),iO (xs.map fX.un) o=iO xs o
  | [],_=>rfl
  | x::xs,o=>by
    rw [List.map_cons,iO,iO]
    show(match mN x with
      | none=>(o,false)
      | some t=>iO (xs.map fX.un) (o++(([105,110,32]++t)++[10])))=_
    cases mN x with
    | none=>rfl
    | some t=>exact bKz xs _
theorem lines_un: ∀(ls:List jR) (o:Bs),fL (ls.map jR.un) o=fL ls o
  | [],_=>rfl
  | [l],o=>by
    show fL [l.un] o=_;simp only [fL]
    show(match gE (jS l.items) 255 with
      | none=>(o,false)
      | some t=>_)=_
    rw [expr_un];rfl
  | l::m::ls,o=>by
    show(match gE (jS l.items) 254 with
        | none=>(o,false)
        | some t=>if dX l.name=false then (o,false) else fL ((m::ls).map jR.un) (o++(((l.name++[58,32])++t)++[10])))=match gE l.items 254 with
        | none=>(o,false)
        | some t=>if dX l.name=false then (o,false) else fL (m::ls) (o++(((l.name++[58,32])++t)++[10]))
    rw [expr_un]
    cases gE l.items 254 with
    | none=>rfl
    | some t=>
      simp only;split
      · rfl
      · exact lines_un (m::ls) _
theorem program_un(p:gG):dF p.un=dF p:=by
  unfold dF gG.un;simp only [List.map_eq_nil_iff,List.length_map,bKz,lines_un]
theorem show_ok{p:gG}(h:(lR p).2=0):dF p=((lR p).1,true)∧(lR p).1.length≤65536:=by
  unfold lR at h⊢;split at h
  · cases h
  · rename_i h1;split at h
    · cases h
    · rename_i h2;rw [if_neg h1,if_neg h2];simp only [Bool.not_eq_false] at h1;exact⟨Prod.ext rfl h1,by simp only;omega⟩
theorem isOk_iff{f:Flt}:kS f=true↔f=(0,0):=by
  constructor
  · intro h;simp only [kS,oK,Bool.and_eq_true,beq_iff_eq] at h;exact Prod.ext h.1 h.2
  · rintro rfl;rfl
theorem back_law{p:gG}(hr:RngP p)(h:(lR p).2=0):(dF p).2=true∧(fZ (lR p).1).2=(0,0)∧(fZ (lR p).1).1.un=p.un:=by
  obtain⟨h1,h2⟩:=show_ok h;obtain⟨⟨q,h3,h4⟩,_⟩:=shown_read hr h1 h2;exact⟨by rw [h1],by rw [h3],by rw [h3];exact h4⟩
theorem bCn{text:Bs}(h:(fZ text).2=(0,0)):(dF (fZ text).1).2=true∧RngP (fZ text).1:=by
  have:=parse_conv (text:=text) (p:=(fZ text).1) (flt:=(fZ text).2) rfl (isOk_iff.2 h);exact⟨this.1.right,this.1.rng⟩
end Go.Proofs.YtbgdphbebhjpiaaGreatDoor
