/- Texts of one proof, one behind the other: MeanU, NamesP, MapS, Ints, Full, TysM, SlI, WordS. -/
import Derived.Test.YtbgdphbebhjpiaaGreatDoorM9
import Derived.Test.YtbgdphbebhjpiaaGreatDoorM6
import Derived.Test.YtbgdphbebhjpiaaGreatDoorM7
import Derived.Deep.AppendSrc
import Derived.Deep.Upon
namespace Go.Proofs.YtbgdphbebhjpiaaGreatDoor
open Go.RowKit
theorem line_un(N:hJ): ∀(l:List dN) (st:List Arr) (w:Nat),hX N (gL l) st w=match hX N l st w with
    | .error f=> .error (0,f.2)
    | .ok r=> .ok r
  | [],st,w=>rfl
  | x::l,st,w=>by
    have e:hX N (gL (x::l)) st w=match nB N x st w with
        | .error e=> .error (0,e)
        | .ok (st',w')=>hX N (gL l) st' w':=rfl
    rw [e,hX]
    cases nB N x st w with
    | error e=>rfl
    | ok r=>exact line_un N l r.1 r.2
theorem bMo: ∀(ls:List lK) (N:hJ) (w:Nat) (out:List Arr),lV N (ls.map lK.un) w out=((lV N ls w out).1,(0,(lV N ls w out).2.2))
  | [],N,w,out=>rfl
  | l::ls,N,w,out=>by
    have e:lV N ((l::ls).map lK.un) w out=match hX N (gL l.items) [] w with
        | .error f=>([],f)
        | .ok (st,w')=>lV ((l.name,st.getLastD kF)::N) (ls.map lK.un) w' (out++[st.getLastD kF]):=rfl
    rw [e,line_un,lV]
    cases hX N l.items [] w with
    | error f=>rfl
    | ok r=>exact bMo ls _ _ _
theorem allSides_un(l:List dX):gY (l.map dX.un)=gY l:=by
  unfold gY;rw [List.flatMap_map];rfl
theorem vars_un(p:Prog):varsP p.un=varsP p:=by
  unfold varsP Prog.un;rw [allSides_un]
theorem bDu(vars:List Bs)(dims:List Int): ∀(xs:List dX) (ar:List Arr) (N:hJ),iC vars dims (xs.map dX.un) ar N=((iC vars dims xs ar N).1,(0,(iC vars dims xs ar N).2.2))
  | [],ar,N=>rfl
  | x::xs,[],N=>rfl
  | x::xs,a::ar,N=>by
    have e:iC vars dims ((x::xs).map dX.un) (a::ar) N=if bBb vars dims x a=false then ([],((0:Int),(82:Int))) else iC vars dims (xs.map dX.un) ar ((x.name,a)::N):=rfl
    rw [e,iC];split
    · rfl
    · exact bDu vars dims xs ar _
theorem find_un(vars:List Bs): ∀xs:List dX,(xs.map dX.un).find? (vO vars)=(xs.find? (vO vars)).map dX.un
  | []=>rfl
  | x::xs=>by
    have e:vO vars x.un=vO vars x:=rfl;rw [List.map_cons,List.find?_cons,List.find?_cons,e,find_un vars xs];cases vO vars x<;>rfl
theorem begin_un(p:Prog)(dims:List Int)(ins:List Arr):dZ p.un dims ins=((dZ p dims ins).1,(0,(dZ p dims ins).2.2)):=by
  unfold dZ;rw [yN,vars_un];have e:p.un.inputs=p.inputs.map dX.un:=rfl;rw [e,find_un,List.length_map];split
  · rfl
  · cases p.inputs.find? (vO (varsP p)) with
    | some x=>rfl
    | none=>
      simp only [Option.map_none];split
      · rfl
      · split
        · rfl
        · exact bDu _ _ _ _ _
theorem mean_un(p:Prog)(dims:List Int)(ins:List Arr):gB p.un dims ins=((gB p dims ins).1,(0,(gB p dims ins).2.2)):=by
  unfold gB;rw [begin_un]
  by_cases h:(dZ p dims ins).2.2=0
  · have e:=uH h;rw [e];exact bMo _ _ _ _
  · have e1:isOk (dZ p dims ins).2=false:=Bool.eq_false_iff.2 fun k=>h (by rw [pU.1 k]);have e2:isOk ((0:Int),(dZ p dims ins).2.2)=false:=Bool.eq_false_iff.2 fun k=>h (congrArg Prod.snd (pU.1 k));rw [if_pos e1,if_pos e2]
def nUnused:Bs:=[117,110,117,115,101,100]
def SameBut(N' N:hJ):Prop:= ∀k,k≠nUnused→look k N'=look k N
theorem SameBut.cons{N' N:hJ}(h:SameBut N' N)(s:Bs)(a:Arr):SameBut ((s,a)::N') ((s,a)::N):=fun k hk=>by
  unfold look;split
  · rfl
  · exact h k hk
end Go.Proofs.YtbgdphbebhjpiaaGreatDoor
namespace Go.Proofs.YtbgdphbebhjpiaaGreatDoor
open Go.RowKit
theorem own_all{toks:List TokV}(h:rR (toks.map TokV.tk)):ownP toks=toks:=by
  induction toks with
  | nil=>rfl
  | cons t r ih=>
    unfold ownP;rw [List.takeWhile_cons_of_pos (by have:=h t.tk (by simp);simpa [TokV.tk] using this)];exact congrArg (t:: ·) (ih fun u hu=>h u (List.mem_cons_of_mem _ hu))
theorem cut_nl: ∀T:List Tk,∃A B,T=A++B∧rR A∧(B=[]∨ ∃t B',B=t::B'∧t.kind=4)
  | []=>⟨[],[],rfl,fun _ h=>by simp at h,.inl rfl⟩
  | t::T=>by
    by_cases h:t.kind=4
    · exact⟨[],t::T,rfl,fun _ h=>by simp at h,.inr ⟨t,T,rfl,h⟩⟩
    · obtain⟨A,B,e,h1,h2⟩:=cut_nl T;exact⟨t::A,B,by rw [e];rfl,fun u hu=>by rcases List.mem_cons.1 hu with rfl | hu;exact h;exact h1 u hu,h2⟩
theorem own_split: ∀{T R:List Tk} {toks:List TokV},toks.map TokV.tk=T++R→rR T→(R=[]∨ ∃t R',R=t::R'∧t.kind=4)→(ownP toks).map TokV.tk=T
  | T,R,toks,h,hT,hR=>by
    rcases hR with rfl | ⟨t,R',rfl,h4⟩
    · rw [List.append_nil] at h;rw [own_all (by rw [h];exact hT)];exact h
    · induction T generalizing toks with
      | nil=>
        cases toks with
        | nil=>simp at h
        | cons x r=>
          simp only [List.map_cons,List.nil_append,List.cons.injEq] at h;unfold ownP
          rw [List.takeWhile_cons_of_neg (by have:x.kind=t.kind:=by rw [←h.1];rfl
                                             simp [this,h4])]
          rfl
      | cons u T ih=>
        cases toks with
        | nil=>simp at h
        | cons x r=>
          simp only [List.map_cons,List.cons_append,List.cons.injEq] at h
          have hx:x.kind≠4:=by
            have:=hT u (by simp);rw [←h.1] at this;exact this
          unfold ownP;rw [List.takeWhile_cons_of_pos (by simpa using hx),List.map_cons,h.1];exact congrArg (u:: ·) (ih r (fun v hv=>hT v (by simp [hv])) h.2)
section
variable {p P q : Prog} {len : Int} {toks : List TokV} {n : Nat} {over : Bool} {T R : List Tk}
theorem isOk_eq{f:Flt}(h:isOk f=true):f=(0,0):=pU.1 h
theorem zX(h:sU (p,(0,0)) len toks P n over)(ht:toks.map TokV.tk=T++R)(hT:rR T)(hne:T≠[])(hR:R=[]∨ ∃t R',R=t::R'∧t.kind=4):
    ∃own e q toks',own.map TokV.tk=T∧intoP own e P n over=(q,(0,0))∧sU (p,(0,0)) len toks' q (n+1) (nC q)∧toks'.map TokV.tk=R.drop 1:=by
  have ho:=own_split ht hT hR
  have h0:toks≠[]:=by
    rintro rfl;simp at ht;exact hne ht.1
  have hon:ownP toks≠[]:=by
    intro e;rw [e] at ho;exact hne ho.symm
  cases hi:intoP (ownP toks) (endP toks len) P n over with
  | mk q f=>
    obtain⟨a,b⟩:=yA h h0 hon hi
    cases hf:isOk f with
    | false=>
      have:=b hf;injection this with _ this
      rw [←this] at hf;cases hf
    | true=>
      rw [isOk_eq hf] at hi;refine⟨_,_,q,_,ho,hi,a hf,?_⟩
      have hl:(ownP toks).length=T.length:=by
        have:=congrArg List.length ho
        simpa using this
      rw [hl,List.map_drop,ht,List.drop_append,List.drop_of_length_le (by omega)];simp
theorem bIj: ∀(m:Nat) {toks:List TokV},toks.length≤m→sU (p,(0,0)) len toks P n true→p=P
  | m,[],_,h=>by
    have:=p_end h rfl;rw [if_pos rfl] at this;injection this
  | 0,t::toks,hm,_=>by simp at hm
  | m+1,t::toks,hm,h=>by
    by_cases hon:ownP (t::toks)=[]
    · exact bIj m (by simp at hm⊢;omega) (p_skip h (by simp) hon)
    · exfalso
      obtain⟨q,f,hi,hf⟩: ∃q f,intoP (ownP (t::toks)) (endP (t::toks) len) P n true=(q,f)∧isOk f=false:=by
        unfold intoP;split
        · exact⟨_,_,rfl,fX (by decide)⟩
        · split
          · exact⟨_,_,rfl,fX (by decide)⟩
          · rw [if_pos (.inl rfl)];exact⟨_,_,rfl,fX (by decide)⟩
      have:=(yA h (by simp) hon hi).2 hf;injection this with _ this
      rw [←this] at hf;cases hf
variable {own : List TokV} {e : Int} {ins : List dX} {lns : List lK}
theorem into_named{nm:Bs}(hb:dW nm=true)(ho:own.map TokV.tk=WT nm::⟨3,[58],0⟩::T)(h:intoP own e ⟨ins,lns⟩ n false=(q,(0,0))):
    fP own 2 T∧(iK own e 2).2=(0,0)∧ ∃a,q=⟨ins,lns++[⟨nm,a,(iK own e 2).1⟩]⟩:=by
  obtain⟨n1,n2,n3⟩:=name_ne hb;have f0:fP own 0 _:=bBr ho;have i0:isW (bQ own 0) [105,110]=false:=by rw [bJf f0];simp [WT,n2]
  have i1:isW (bQ own 0) [111,117,116]=false:=by rw [bJf f0];simp [WT,n3]
  have f1:=f0.next
  refine⟨f1.next,?_⟩;unfold intoP at h;split at h
  · injection h with _ h
    injection h with _ h
    cases h
  · split at h
    · injection h with _ h
      injection h with _ h
      cases h
    · rw [if_neg (by rw [i0];simp),i0,if_neg (by simp),i1,if_neg (by simp),if_neg (by rw [f0.kind,f0.word];show ¬((1:Int)≠1∨dW nm=false);simp [hb]),if_neg (by rw [f1.kind,f1.word];simp),f0.word] at h;injection h with h1 h2
      exact⟨h2,_,h1.symm⟩
theorem bFw(ho:own.map TokV.tk=WT [111,117,116]::T)(h:intoP own e ⟨ins,lns⟩ n false=(q,(0,0))):
    fP own 1 T∧(iK own e 1).2=(0,0)∧ ∃a,q=⟨ins,lns++[⟨[],a,(iK own e 1).1⟩]⟩:=by
  have f0:fP own 0 _:=bBr ho;have i0:isW (bQ own 0) [105,110]=false:=by rw [bJf f0];rfl
  have i1:isW (bQ own 0) [111,117,116]=true:=by rw [bJf f0];rfl
  refine⟨f0.next,?_⟩;unfold intoP at h;split at h
  · injection h with _ h
    injection h with _ h
    cases h
  · split at h
    · injection h with _ h
      injection h with _ h
      cases h
    · simp only [i0,Bool.false_eq_true,false_and,or_self,if_false] at h;injection h with h1 h2
      exact⟨h2,_,h1.symm⟩
end
section
variable {toks1 toks2 : List TokV} {e1 e2 : Int} {k1 k2 : Nat} {T R : List Tk}
theorem open_fails(h1:fP toks1 k1 T)(hn:rR T)(ho:(iK toks1 e1 k1).2=(0,0))(h2:fP toks2 k2 (OpenT::T)):(iK toks2 e2 k2).2≠(0,0):=by
  intro hok;have hE:=(bCb (bAi (e:=e2) h2.1) h2.kind h2.word).1 (by decide);have hs:=sim_e (toks1:=toks1) (toks2:=toks2) (e1:=e1) (e2:=e2) (r2:=iK toks2 e2 k2) (R:=[]) (B:=[]) (C:=[]) (I:=(iK toks1 e1 k1).1) (base:=[none]) (ob:=1) (by simp) (toks1.length+1)
    k1 [] [] 0 T (k2+1) [] [] h1 (by rw [List.append_nil];exact h2.next) hn rfl rfl rfl (by rw [←ho];rfl) (by have:=congrArg List.length h1.2;simp at this;omega) hE
  rcases hs with hs | ⟨out',S,I',_,_,hB⟩
  · rw [hok] at hs;cases hs
  · have hend:fP toks2 (k2+1+T.length) []:=fP.skip T (by rw [List.append_nil];exact h2.next);have:=bJp hB (by rw [hend.nil.1]) (by decide);rw [this] at hok;injection hok with _ hok
    cases hok
theorem name_fin(S:List dN):jA (S.map some++[none])=(S,[none]):=by rw [wU];simp [jA]
theorem two_reads{toks3:List TokV}{e3:Int}{k3:Nat}{A B:List Tk}{nm:Bs}(hb:dW nm=true)(h1:fP toks1 k1 A)(hA:rR A)(ho1:(iK toks1 e1 k1).2=(0,0))
    (h2:fP toks2 k2 (WT nm::B)) (hB:rR B) (ho2:(iK toks2 e2 k2).2=(0,0))
    (h3:fP toks3 k3 (OpenT::(A++CloseT::B))) (ho3:(iK toks3 e3 k3).2=(0,0)):
    ∃x V,(iK toks2 e2 k2).1=x::V∧x.un=⟨2,0,0,nm,[]⟩∧gL (iK toks3 e3 k3).1=gL (iK toks1 e1 k1).1++gL V:=by
  have hE:=(bCb (bAi (e:=e3) h3.1) h3.kind h3.word).1 (by decide);have hs:=sim_e (toks1:=toks1) (toks2:=toks3) (e1:=e1) (e2:=e3) (r2:=iK toks3 e3 k3) (R:=CloseT::B) (B:=[]) (C:=[]) (I:=(iK toks1 e1 k1).1) (base:=[none]) (ob:=1)
    (by intro u hu;simp only [List.head?_cons,Option.mem_def,Option.some.injEq] at hu;subst hu;exact⟨by decide,by unfold Mark CloseT;simp⟩) (toks1.length+1)
    k1 [] [] 0 A (k3+1) [] [] h1 h3.next hA rfl rfl rfl (by rw [←ho1];rfl) (by have:=congrArg List.length h1.2;simp at this;omega) hE
  rcases hs with hs | ⟨out',S,I',hI,hu,hBi⟩
  · rw [ho3] at hs;cases hs
  · rw [List.nil_append] at hI;have hc:fP toks3 (k3+1+A.length) (CloseT::B):=fP.skip A h3.next
    have hcl:=bFl hBi (by decide) hc.kind hc.word;rw [name_fin] at hcl;simp only [List.nil_append,List.tail_cons,Nat.sub_self] at hcl;have hn:=e_name (bAi (e:=e2) h2.1) (by rw [h2.kind];rfl) (by rw [h2.word];exact hb);obtain⟨hk,f,hf,hg⟩:=hn;have hBl:=congrArg List.length h2.next.2
    simp only [List.length_map,List.length_drop] at hBl;have hs2:=sim_b (toks1:=toks2) (toks2:=toks3) (e1:=e2) (e2:=e3) (r2:=iK toks3 e3 k3) (R:=[]) (B:=out'++S) (C:=[lA toks2 k2]) (I:=(iK toks2 e2 k2).1) (base:=[]) (ob:=0) (by simp) (sim_e (by simp) f) 0 (k2+1) [] [] B
      (k3+1+A.length+1) [] [] h2.next (by rw [List.append_nil];exact hc.next) hB rfl rfl rfl (by rw [List.append_nil,←ho2];exact hg) (by omega) (by rw [List.append_nil];exact hcl)
    rcases hs2 with hs2 | ⟨out2,S2,V,hI2,hu2,hB2⟩
    · rw [ho3] at hs2;cases hs2
    · have hend:fP toks3 (k3+1+A.length+1+B.length) []:=fP.skip B (by rw [List.append_nil];exact hc.next);have hr:=r_end hB2 (by rw [hend.nil.1]) (by decide);rw [wU] at hr;refine⟨lA toks2 k2,V,hI2,by simp [lA,dN.un,h2.word,WT],?_⟩;rw [hr];simp only [jA,List.append_nil];rw [List.append_assoc,iB,hu,hu2,hI]
end
theorem line_app(N:hJ): ∀(a b:List dN) (st:List Arr) (w:Nat),hX N (a++b) st w=match hX N a st w with
    | .error f=> .error f
    | .ok (st',w')=>hX N b st' w'
  | [],b,st,w=>rfl
  | x::a,b,st,w=>by
    rw [List.cons_append,hX,hX]
    cases nB N x st w with
    | error e=>rfl
    | ok r=>exact line_app N a b r.1 r.2
theorem bMc{N:hJ}{k:Bs}{v:Arr}: ∀{l:List dN} {st:List Arr} {w' w:Nat},(∀x∈l,x.name≠k)→w≤w'→
    (∀s1 w1,hX ((k,v)::N) l st w'= .ok (s1,w1)→ ∃w2,hX N l st w= .ok (s1,w2))∧ ∀f,hX ((k,v)::N) l st w'= .error f→hX N l st w= .error f∨f.2=84
  | [],st,w',w,_,hw=>⟨fun s1 w1 e=>by
      simp only [hX,Except.ok.injEq,Prod.mk.injEq] at e;obtain⟨rfl,rfl⟩:=e
      exact⟨w,rfl⟩,fun f e=>by cases e⟩
  | x::l,st,w',w,hn,hw=>by
    have hv:fQ ((k,v)::N) x st=fQ N x st:=by
      unfold fQ;rw [look,if_neg (hn x (List.mem_cons_self ..))]
    have hn': ∀y∈l,y.name≠k:=fun y hy=>hn y (List.mem_cons_of_mem _ hy);rw [hX,hX];unfold nB;rw [hv]
    by_cases h0:(fQ N x st).2≠0
    · rw [if_pos h0,if_pos h0];exact⟨fun s1 w1 e=>(by cases e),fun f e=> .inl e⟩
    · rw [if_neg h0,if_neg h0]
      by_cases h1:1048576<w'+(fQ N x st).1.data.length
      · rw [if_pos h1];refine⟨fun s1 w1 e=>?_,fun f e=>?_⟩
        · cases e
        · injection e with e
          rw [←e];exact .inr rfl
      · rw [if_neg h1,if_neg (by omega)];exact bMc hn' (by omega)
theorem names_mean{X:List dX}{nm:Bs}{U V:List dN}{x:dN}(hx:x=⟨2,0,0,nm,[]⟩)(hV: ∀y∈V,y.name≠nm)(hp:(dS ⟨X,[⟨nm,0,U⟩,⟨[],0,x::V⟩]⟩).2=true)(hq:(dS ⟨X,[⟨[],0,U++V⟩]⟩).2=true)(dims:List Int)(ins:List Arr):
    ((gB ⟨X,[⟨nm,0,U⟩,⟨[],0,x::V⟩]⟩ dims ins).2=(0,0)→(gB ⟨X,[⟨[],0,U++V⟩]⟩ dims ins).2=(0,0)∧ ∃v r,(gB ⟨X,[⟨nm,0,U⟩,⟨[],0,x::V⟩]⟩ dims ins).1=[v,r]∧(gB ⟨X,[⟨[],0,U++V⟩]⟩ dims ins).1=[r])∧
    ((gB ⟨X,[⟨nm,0,U⟩,⟨[],0,x::V⟩]⟩ dims ins).2≠(0,0)→(gB ⟨X,[⟨nm,0,U⟩,⟨[],0,x::V⟩]⟩ dims ins).2.2=(gB ⟨X,[⟨[],0,U++V⟩]⟩ dims ins).2.2∨(gB ⟨X,[⟨nm,0,U⟩,⟨[],0,x::V⟩]⟩ dims ins).2.2=84):=by
  have hb:dZ ⟨X,[⟨nm,0,U⟩,⟨[],0,x::V⟩]⟩ dims ins=dZ ⟨X,[⟨[],0,U++V⟩]⟩ dims ins:=by
    unfold dZ;rw [hp,hq];rfl
  have hdep:mO U 0=some 1:=vI hp ⟨nm,0,U⟩ (by simp);have hN:=vC ⟨X,[⟨[],0,U++V⟩]⟩ dims ins;unfold gB;rw [hb];generalize hbe:dZ ⟨X,[⟨[],0,U++V⟩]⟩ dims ins=be at*;obtain⟨N,f⟩:=be
  by_cases hf:isOk f=false
  · rw [if_pos hf,if_pos hf];refine⟨fun h=>?_,fun _=> .inl rfl⟩;have h:f=(0,0):=h;rw [h] at hf;cases hf
  · rw [if_neg hf,if_neg hf];simp only [lV];rw [line_app]
    cases hl:hX N U [] 0 with
    | error g=>exact⟨fun h=>absurd (congrArg Prod.snd h) (line_code hl),fun _=> .inl rfl⟩
    | ok s=>
      obtain⟨st,w⟩:=s;obtain⟨hlen,_⟩:=yE hN (fun a ha=>by simp at ha) (by simpa using hdep) hl;obtain⟨v,rfl,hv⟩:=bEg hlen;simp only [hv]
      have hi:hX ((nm,v)::N) (x::V) [] w=if 1048576<w+v.data.length then .error (0,84) else hX ((nm,v)::N) V [v] (w+v.data.length):=by
        rw [hX,hx];unfold nB;have:fQ ((nm,v)::N) ⟨2,0,0,nm,[]⟩ []=(v,0):=by simp [fQ,look]
        rw [this]
        by_cases h:1048576<w+v.data.length
        · simp [h]
        · simp [h,iY]
      rw [hi]
      by_cases h84:1048576<w+v.data.length
      · rw [if_pos h84];refine⟨fun h=>?_,fun _=> .inr rfl⟩;injection h with _ h
        cases h
      · rw [if_neg h84];obtain⟨a,b⟩:=bMc (N:=N) (k:=nm) (v:=v) (l:=V) (st:=[v]) (w':=w+v.data.length) (w:=w) hV (by omega)
        cases hl2:hX ((nm,v)::N) V [v] (w+v.data.length) with
        | error g=>
          refine⟨fun h=>absurd (congrArg Prod.snd h) (line_code hl2),fun _=>?_⟩
          rcases b g hl2 with e | e
          · rw [e];exact .inl rfl
          · exact .inr e
        | ok r=>
          obtain⟨s1,w1⟩:=r;obtain⟨w2,e2⟩:=a s1 w1 hl2;rw [e2];exact⟨fun _=>⟨rfl,v,s1.getLastD kF,rfl,rfl⟩,fun h=>absurd rfl h⟩
def bGy:List Bs:=[[107],[108],[109],[110]]
def inX (j:Nat):dX:=⟨[120],0,(bGy.take j).map fun c=>⟨c,0⟩⟩
def inB (j:Nat):Bs:=[105,110,32,120]++(bGy.take j).flatMap fun c=>32::c
def tY:Bs:=[10,121,58,32]
def tOutY:Bs:=[10,111,117,116,32,121,32,45,32]
def tOutO:Bs:=[10,111,117,116,32,40]
def tClose:Bs:=[41,32,45,32]
def oQ (j:Nat)(a b:Bs):Bs:=inB j++tY++a++tOutY++b
def mV (j:Nat)(a b:Bs):Bs:=inB j++tOutO++a++tClose++b
theorem in_shown(j:Nat)(hj:j≤4):iO [inX j] []=(inB j++[10],true):=by
  match j,hj with
  | 0,_=>rfl
  | 1,_=>rfl
  | 2,_=>rfl
  | 3,_=>rfl
  | 4,_=>rfl
def xJ:Tk:=⟨3,[45],0⟩
def ColonT:Tk:=⟨3,[58],0⟩
theorem y_word:bKs [121]:=⟨⟨121,[],rfl,by decide⟩,by decide,by decide⟩
theorem dash_lx{r:Bs}:Lx [45,32] [xJ] r:=Lx.gap (s:=[45]) (verb_lx (w:=[45]) (by decide) (by decide))
theorem lx_y{r:Bs}:Lx [121,58,32] [WT [121],ColonT] r:=
  Lx.append (a:=[121]) (b:=[58,32]) (tU y_word (by decide)) (Lx.gap (s:=[58]) (sign_lx (by decide)))
theorem lx_outY{r:Bs}:Lx [111,117,116,32,121,32,45,32] [WT [111,117,116],WT [121],xJ] r:=
  Lx.append (a:=[111,117,116,32]) (A:=[WT [111,117,116]]) (b:=[121,32,45,32]) (Lx.gap (s:=[111,117,116]) (tU out_word (by decide)))
    (Lx.append (a:=[121,32]) (A:=[WT [121]]) (b:=[45,32]) (Lx.gap (s:=[121]) (tU y_word (by decide))) dash_lx)
theorem lx_outO{r:Bs}:Lx [111,117,116,32,40] [WT [111,117,116],OpenT] r:=
  Lx.append (a:=[111,117,116,32]) (A:=[WT [111,117,116]]) (b:=[40]) (Lx.gap (s:=[111,117,116]) (tU out_word (by decide))) (sign_lx (by decide))
theorem lx_close{r:Bs}:Lx [41,32,45,32] [CloseT,xJ] r:=
  Lx.append (a:=[41,32]) (A:=[CloseT]) (b:=[45,32]) (Lx.gap (s:=[41]) (sign_lx (by decide))) dash_lx
theorem in_rd(j:Nat)(hj:j≤4): ∃T,(∀rest,Lx (inB j++[10]) T rest)∧ ∀{r:Prog×Flt} {len:Int} {toks:List TokV} {R:List Tk},sU r len toks ⟨[],[]⟩ 0 false→toks.map TokV.tk=T++R→
    ∃toks' ins',toks'.map TokV.tk=R∧ins'.map dX.un=[(inX j).un]∧sU r len toks' ⟨ins',[]⟩ 1 false:=by
  obtain⟨t,T,h1,h2,_,h4⟩:=bLy [inX j] (by
    intro x hx d hd;simp only [List.mem_singleton] at hx;subst hx;obtain⟨c,_,rfl⟩:=List.mem_map.1 hd
    exact⟨(by decide:(-9223372036854775808:Int)≤0),(by decide:(0:Int)≤9223372036854775807)⟩) (in_shown j hj)
  rw [List.nil_append] at h1;subst h1;refine⟨T,h2,fun{r len toks R} hP ht=>?_⟩;obtain⟨toks',ins',k1,k2,k3⟩:=h4 hP ht (by show 0+1≤64;decide);exact⟨toks',ins',k1,k2,k3⟩
theorem lex_of{t:Bs}(h:(gI t).2=(0,0)):isOk (lexP t).2=true:=by
  unfold gI at h;split at h
  · assumption
  · rename_i k;simp only at h;rw [h] at k;exact absurd bFm k
theorem lex_go{t:Bs}(h:isOk (lexP t).2=true):t.length≤65536∧isOk (lexGo t.length 0 t []).2=true:=by
  unfold lexP at h;split at h
  · exact absurd h (by rw [fX (by decide)];simp)
  · exact⟨by omega,h⟩
theorem bKl{s r:Bs}{T:List Tk}(h:Lx s T r)(hok:isOk (lexGo (s++r).length 0 (s++r) []).2=true): ∃U,Lx r U []:=by
  rcases lex_one _ r (Nat.le_refl _) with k | k
  · exact k
  · rw [h.fails k] at hok;cases hok
theorem p_inv{t:Bs}{p:Prog}{T:List Tk}(h:gI t=(p,(0,0)))(hT:Lx t T []): ∃toks,sU (p,(0,0)) t.length toks ⟨[],[]⟩ 0 false∧toks.map TokV.tk=T:=by
  have h1:=lex_of (t:=t) (by rw [h]);obtain⟨toks,e,k⟩:=lex_whole hT (lex_go h1).1;refine⟨toks,?_,k⟩;unfold gI at h;rw [if_pos h1,e] at h;exact⟨_,Nat.le_refl _,h⟩
theorem over_out{ins:List dX}{lns:List lK}{a:Int}{I:List dN}:nC ⟨ins,lns++[⟨[],a,I⟩]⟩=true:=by rw [wS];rfl
theorem Lx.fin{s r:Bs}{T U:List Tk}(h:Lx s T r)(k:Lx r U []):Lx (s++r) (T++U) []:=Lx.append (by rw [List.append_nil];exact h) k
def Brk (R:List Tk):Prop:=R=[]∨ ∃t R',R=t::R'∧t.kind=4
theorem names_lexed{j:Nat}{a b:Bs}{Ti:List Tk}(hLi: ∀rest,Lx (inB j++[10]) Ti rest)(hp:isOk (lexP (oQ j a b)).2=true)(hq:isOk (lexP (mV j a b)).2=true):
    ∃TA TB,Lx (oQ j a b) (Ti++([WT [121],ColonT]++(TA++(NL::([WT [111,117,116],WT [121],xJ]++TB))))) []∧
      (Lx (mV j a b) (Ti++([WT [111,117,116],OpenT]++(TA++(CloseT::xJ::TB)))) []∨ ∃R,Brk R∧Lx (mV j a b) (Ti++([WT [111,117,116],OpenT]++(TA++R))) []):=by
  have hgp:=(lex_go hp).2;have hgq:=(lex_go hq).2;have ep:oQ j a b=(inB j++[10])++([121,58,32]++(a++(10::([111,117,116,32,121,32,45,32]++b)))):=by simp [oQ,tY,tOutY]
  have eq:mV j a b=(inB j++[10])++([111,117,116,32,40]++(a++(41::([32,45,32]++b)))):=by simp [mV,tOutO,tClose]
  have hA: ∃TA,Lx a TA (10::([111,117,116,32,121,32,45,32]++b))∧(Lx a TA (41::([32,45,32]++b))∨ ∃s R,a++41::([32,45,32]++b)=s++R∧(R=[]∨ ∃r,R=10::r)∧Lx s TA R):=by
    rcases bFk ([111,117,116,32,121,32,45,32]++b) ([32,45,32]++b) _ a (Nat.le_refl _) with ⟨T,h1,h2⟩ | ⟨T,s,R,h1,h2,h3,h4⟩ | h
    · exact⟨T,h1,.inl h2⟩
    · exact⟨T,h1,.inr ⟨s,R,h2,h3,h4⟩⟩
    · exfalso
      have k:=(Lx.append (hLi _) (lx_y (r:=a++10::([111,117,116,32,121,32,45,32]++b)))).fails h 0 [];rw [List.append_assoc,←ep,hgp] at k;cases k
  obtain⟨TA,h1,h2⟩:=hA
  have P1:Lx ((inB j++[10])++([121,58,32]++(a++([10]++[111,117,116,32,121,32,45,32])))) (Ti++([WT [121],ColonT]++(TA++([NL]++[WT [111,117,116],WT [121],xJ])))) b:=
    Lx.append (hLi _) (Lx.append lx_y (Lx.append h1 (Lx.append nl_lx lx_outY)))
  have ep1:oQ j a b=((inB j++[10])++([121,58,32]++(a++([10]++[111,117,116,32,121,32,45,32]))))++b:=by simp [oQ,tY,tOutY]
  obtain⟨TB,hB⟩:=bKl P1 (by rw [←ep1];exact hgp);refine⟨TA,TB,?_,?_⟩
  · have:=P1.fin hB;rw [←ep1] at this
    simpa [List.append_assoc] using this
  · rcases h2 with h2 | ⟨s,R,e,hR,h2⟩
    · refine .inl ?_
      have Q1:Lx ((inB j++[10])++([111,117,116,32,40]++(a++[41,32,45,32]))) (Ti++([WT [111,117,116],OpenT]++(TA++[CloseT,xJ]))) b:=
        Lx.append (hLi _) (Lx.append lx_outO (Lx.append h2 lx_close))
      have:=Q1.fin hB;rw [show((inB j++[10])++([111,117,116,32,40]++(a++[41,32,45,32])))++b=mV j a b by simp [mV,tOutO,tClose]] at this
      simpa [List.append_assoc] using this
    · refine .inr ?_;rw [e] at eq
      rcases hR with rfl | ⟨r,rfl⟩
      · refine⟨[],.inl rfl,?_⟩;have Q1:Lx ((inB j++[10])++([111,117,116,32,40]++s)) (Ti++([WT [111,117,116],OpenT]++TA)) []:=Lx.append (hLi _) (Lx.append lx_outO h2);rw [List.append_nil] at eq;rw [←eq] at Q1
        simpa using Q1
      · have Q1:Lx ((inB j++[10])++([111,117,116,32,40]++(s++[10]))) (Ti++([WT [111,117,116],OpenT]++(TA++[NL]))) r:=Lx.append (hLi _) (Lx.append lx_outO (Lx.append h2 nl_lx));have eq1:mV j a b=((inB j++[10])++([111,117,116,32,40]++(s++[10])))++r:=by rw [eq];simp
        obtain⟨U,hU⟩:=bKl Q1 (by rw [←eq1];exact hgq);refine⟨NL::U,.inr ⟨NL,U,rfl,rfl⟩,?_⟩;have:=Q1.fin hU;rw [←eq1] at this
        simpa [List.append_assoc] using this
theorem nonl2{t u:Tk}{T:List Tk}(h1:t.kind≠4)(h2:u.kind≠4)(h:rR T):rR (t::u::T):=fun x hx=>by
  rcases List.mem_cons.1 hx with rfl | hx
  · exact h1
  · rcases List.mem_cons.1 hx with rfl | hx
    · exact h2
    · exact h x hx
theorem names_read{j:Nat}(hj:j≤4){a b:Bs}{p q:Prog}(hp:gI (oQ j a b)=(p,(0,0)))(hq:gI (mV j a b)=(q,(0,0))):
    ∃U x V W,p.un=⟨[(inX j).un],[⟨[121],0,gL U⟩,⟨[],0,gL (x::V)⟩]⟩∧q.un=⟨[(inX j).un],[⟨[],0,gL W⟩]⟩∧x.un=⟨2,0,0,[121],[]⟩∧gL W=gL U++gL V∧
      ∃l1 l2,p.lines=[l1,l2]∧l2.items=x::V:=by
  obtain⟨Ti,hLi,hRi⟩:=in_rd j hj;obtain⟨TA,TB,hLp,hLq⟩:=names_lexed hLi (lex_of (by rw [hp])) (lex_of (by rw [hq]));obtain⟨A,A2,eA,hA,hA2⟩:=cut_nl TA;obtain⟨t0,hP0,ht0⟩:=p_inv hp hLp;obtain⟨t1,ins,ht1,hins,hP1⟩:=hRi hP0 ht0
  obtain⟨o1,e1,q1,t2,ho1,hi1,hP2,ht2⟩:=zX (T:=WT [121]::ColonT::A) (R:=A2++(NL::([WT [111,117,116],WT [121],xJ]++TB))) hP1 (by rw [ht1,eA];simp) (nonl2 (by decide) (by decide) hA) (by simp) (by
    rcases hA2 with rfl | ⟨t,B',rfl,h4⟩
    · exact .inr ⟨_,_,rfl,rfl⟩
    · exact .inr ⟨t,_,rfl,h4⟩)
  obtain⟨f1,ok1,a1,rfl⟩:=into_named (nm:=[121]) (by decide+kernel) ho1 hi1
  have brk: ∀{R:List Tk} {toks:List TokV} {ins':List dX},Brk R→toks.map TokV.tk=WT [111,117,116]::OpenT::A++R→sU (q,(0,0)) (mV j a b).length toks ⟨ins',[]⟩ 1 false→False:=fun{R toks ins'} hR ht hP=>by
    obtain⟨o,e,q',_,ho,hi,_⟩:=zX (T:=WT [111,117,116]::OpenT::A) hP ht (nonl2 (by decide) (by decide) hA) (by simp) hR;obtain⟨f,ok,_⟩:=bFw ho hi;exact open_fails f1 hA ok1 f ok
  rcases hLq with hLq | ⟨R,hR,hLq⟩
  · obtain⟨u0,hQ0,hu0⟩:=p_inv hq hLq;obtain⟨u1,insq,hu1,hinsq,hQ1⟩:=hRi hQ0 hu0
    rcases hA2 with rfl | ⟨t,B',rfl,h4⟩
    · rw [List.append_nil] at eA;subst eA;obtain⟨B,B2,eB,hB,hB2⟩:=cut_nl TB;subst eB;have hov:nC (⟨ins,[]++[⟨[121],a1,(iK o1 e1 2).1⟩]⟩:Prog)=false:=by rw [wS];rfl
      rw [hov] at hP2;obtain⟨o2,e2,q2,t3,ho2,hi2,hP3,ht3⟩:=zX (T:=WT [111,117,116]::WT [121]::xJ::B) (R:=B2) hP2 (by rw [ht2];simp) (nonl2 (by decide) (by decide) (fun x hx=>by rcases List.mem_cons.1 hx with rfl | hx;decide;exact hB x hx)) (by simp) hB2;obtain⟨f2,ok2,a2,rfl⟩:=bFw ho2 hi2;obtain⟨o3,e3,q3,u2,ho3,hi3,hQ2,hu2⟩:=zX (T:=WT [111,117,116]::OpenT::(TA++CloseT::xJ::B)) (R:=B2) hQ1 (by rw [hu1];simp) (nonl2 (by decide) (by decide) (rR.append hA (nonl2 (by decide) (by decide) hB))) (by simp) hB2;obtain⟨f3,ok3,a3,rfl⟩:=bFw ho3 hi3;rw [over_out] at hP3 hQ2;have ep:=bIj _ (Nat.le_refl _) hP3;have eq:=bIj _ (Nat.le_refl _) hQ2;obtain⟨x,V,hV,hx,hW⟩:=two_reads (nm:=[121]) (by decide+kernel) f1 hA ok1 f2 (fun x hx=>by rcases List.mem_cons.1 hx with rfl | hx;decide;exact hB x hx) ok2 f3 ok3;refine⟨(iK o1 e1 2).1,x,V,(iK o3 e3 1).1,?_,?_,hx,hW,_,_,by rw [ep];rfl,hV⟩
      · rw [ep,←hV];simp only [Prog.un,hins];rfl
      · rw [eq];simp only [Prog.un,hinsq];rfl
    · exact(brk (.inr ⟨t,_,rfl,h4⟩) (by rw [hu1,eA];simp;rfl) hQ1).elim
  · obtain⟨u0,hQ0,hu0⟩:=p_inv hq hLq;obtain⟨u1,insq,hu1,hinsq,hQ1⟩:=hRi hQ0 hu0;refine(brk (R:=A2++R) ?_ (by rw [hu1,eA];simp) hQ1).elim
    rcases hA2 with rfl | ⟨t,B',rfl,h4⟩
    · exact hR
    · exact .inr ⟨t,_,rfl,h4⟩
theorem names_law{j:Nat}(hj:j≤4){a b:Bs}{p q:Prog}(hp:gI (oQ j a b)=(p,(0,0)))(hq:gI (mV j a b)=(q,(0,0)))(dims:List Int)(ins:List Arr):
    ∃l1 l2 m x V,p.lines=[l1,l2]∧q.lines=[m]∧l2.items=x::V∧((∀y∈V,y.name≠[121])→
      ((gB p dims ins).2=(0,0)→(gB q dims ins).2=(0,0)∧ ∃v r,(gB p dims ins).1=[v,r]∧(gB q dims ins).1=[r])∧
      ((gB p dims ins).2≠(0,0)→(gB p dims ins).2.2=(gB q dims ins).2.2∨(gB p dims ins).2.2=84)):=by
  obtain⟨U,x,V,W,h1,h2,h3,h4,l1,l2,h5,h6⟩:=names_read hj hp hq
  have hlq: ∃m,q.lines=[m]:=by
    have:=congrArg (fun p:Prog=>p.lines.length) h2;simp only [Prog.un,List.length_map,List.length_cons,List.length_nil] at this
    match q.lines,this with
    | [m],_=>exact⟨m,rfl⟩
  obtain⟨m,hm⟩:=hlq;refine⟨l1,l2,m,x,V,h5,hm,h6,fun hV=>?_⟩;have rp:=(xH (text:=oQ j a b) (by rw [hp])).1;have rq:=(xH (text:=mV j a b) (by rw [hq])).1;rw [hp] at rp;rw [hq] at rq;rw [←yN,h1] at rp;rw [←yN,h2,h4] at rq;have hx:x.un=⟨2,0,0,[121],[]⟩:=h3
  have hl:=names_mean (X:=[(inX j).un]) (nm:=[121]) (U:=gL U) (V:=gL V) hx (fun y hy=>by
    obtain⟨z,hz,rfl⟩:=List.mem_map.1 hy
    exact hV z hz) rp rq dims ins
  have mp:=mean_un p dims ins;have mq:=mean_un q dims ins;rw [h1] at mp;rw [h2,h4] at mq;have e:gL (x::V)=x.un::gL V:=rfl;rw [e] at mp;rw [mp,mq] at hl;have code: ∀r:Prog,(gB r dims ins).2.2=0→(gB r dims ins).2=(0,0):=fun r h=>(xR.1 h).1;refine⟨fun h=>?_,fun h=>?_⟩
  · obtain⟨k1,v,r,k2,k3⟩:=hl.1 (by rw [h]);simp only at k1 k2 k3;exact⟨code q (congrArg Prod.snd k1),v,r,k2,k3⟩
  · exact hl.2 fun k=>h (code p (congrArg Prod.snd k))
end Go.Proofs.YtbgdphbebhjpiaaGreatDoor
namespace Go.Proofs.YtbgdphbebhjpiaaGreatDoor
open Go.RowKit
open Go.ChangeMaps (setBlock)
theorem bs_beq(a b:Bs):(bs a==bs b)=(a==b):=by
  have h:(bs a==bs b)=(a.toArray==b.toArray):=rfl;rw [h];simp
abbrev KVS:=List (Bs×Value)
def bIg (kv:KVS):List (Value×Value):=kv.map fun p=>(Value.string (bs p.1),p.2)
def bIn (kv:KVS)(o:Option Obj):Prop:= ∃es clock,o=some (.map es clock)∧es.toList.map tH=bIg kv
def sV (r:Nat)(kv:KVS):bW:= .gen (some r) (bIn kv)
def pH (k:Bs):KVS→Nat→Option (Nat×Value)
  | [],_=>none
  | p::r,i=>if k==p.1 then some (i,p.2) else pH k r (i+1)
def mS (k:Bs):KVS→Option Value
  | []=>none
  | p::r=>if k==p.1 then some p.2 else mS k r
def nE (k:Bs)(v:Value):KVS→KVS
  | []=>[(k,v)]
  | p::r=>if k==p.1 then (k,v)::r else p::nE k v r
theorem bBk(k:Bs): ∀(kv:KVS) (i:Nat),(pH k kv i).map (·.2)=mS k kv
  | [],_=>rfl
  | p::r,i=>by
    unfold pH mS;split
    · rfl
    · exact bBk k r (i+1)
theorem bGr{k:Bs}{v:Value}: ∀{kv:KVS} {i:Nat},pH k kv i=none→nE k v kv=kv++[(k,v)]
  | [],_,_=>rfl
  | p::r,i,h=>by
    unfold pH at h;unfold nE;split at h
    · cases h
    · rename_i hk;rw [if_neg hk,bGr h];rfl
theorem bGp{k:Bs}{v:Value}{j:Nat}{u:Value}: ∀{kv:KVS} {i:Nat},pH k kv i=some (j,u)→ ∃d,j=i+d∧ ∃p,kv[d]?=some p∧k=p.1∧nE k v kv=kv.set d (k,v)
  | [],_,h=>by cases h
  | p::r,i,h=>by
    unfold pH at h;split at h
    · rename_i hk;simp only [Option.some.injEq,Prod.mk.injEq] at h;exact⟨0,by omega,p,rfl,by simpa using hk,by simp [nE,hk]⟩
    · rename_i hk;obtain⟨d,h1,q,h2,h3,h4⟩:=bGp (v:=v) h;exact⟨d+1,by omega,q,h2,h3,by rw [nE,if_neg hk,h4];rfl⟩
section
variable {P : Program} {k : Bs} {w : World} {t kt et : TypeId}
theorem yX(k:Bs): ∀(es:List MapEntry) (kv:KVS) (i:Nat),es.map tH=bIg kv→Instr.findNow (.string) (.string (bs k)) es i=some (pH k kv i)
  | [],[],_,_=>rfl
  | [],_::_,_,h=>by simp [bIg] at h
  | _::_,[],_,h=>by simp [bIg] at h
  | e::es,p::kv,i,h=>by
    simp only [List.map_cons,List.cons.injEq,bIg,tH,Prod.mk.injEq] at h;obtain⟨⟨h1,h2⟩,h3⟩:=h;have ih:=yX k es kv (i+1) h3;unfold Instr.findNow;rw [h1];simp only [Instr.sameNow,pH,bs_beq];cases hk:k==p.1
    · simpa using ih
    · simp [h2]
theorem pL(hk:P.underlying kt=some (.string)){es:List MapEntry}{kv:KVS}(h:es.map tH=bIg kv):(Instr.findKey kt (.string (bs k)) es).run P w= .ok (pH k kv 0) w:=by
  unfold Instr.findKey;simp only [Sem.run_bind,run_underlying hk,Result.andThen_ok,yX k es kv 0 h,Sem.run_pure]
theorem oK(hk:P.underlying kt=some (.string))(b:Bool):(Instr.checkKey b 10000 kt (.string (bs k))).run P w= .ok () w:=by
  have: ∀n,(Instr.checkKey b (n+1) kt (.string (bs k))).run P w= .ok () w:=fun n=>by simp [Instr.checkKey,run_underlying hk]
  exact this 9999
theorem run_staysIS:(Instr.keyThatStays (.string (bs k)) (.string (bs k))).run P w= .ok (.string (bs k)) w:=by
  have: ∀n,Instr.sameBits (n+1) (.string (bs k)) (.string (bs k))=true:=fun n=>by simp [Instr.sameBits,bs_beq]
  unfold Instr.keyThatStays;rw [this 9999];simp
theorem run_lookupIS(ht:P.underlying t=some (.map kt et))(hk:P.underlying kt=some (.string)){z:Value}(hz:(zeroValue et).run P w= .ok z w){r:Nat}{kv:KVS}(h:bIn kv (w.heap[r]?)):
    (Instr.lookup t (.map (some r)) (.string (bs k)) false).run P w= .ok ((mS k kv).getD z) w:=by
  obtain⟨es,clock,hb,hkv⟩:=h;unfold Instr.lookup;simp only [Sem.run_bind,run_underlying ht,Result.andThen_ok,MapKept.run_getObj_map hb,Sem.run_pure,oK hk,pL hk hkv];rw [←bBk k kv 0]
  cases pH k kv 0 with
  | none=>simp [hz]
  | some p=>simp
theorem bEm(ht:P.underlying t=some (.map kt et))(hk:P.underlying kt=some (.string)){r:Nat}{kv:KVS}(v:Value)(h:bIn kv (w.heap[r]?)):
    ∃o,(Instr.mapUpdate t (.map (some r)) (.string (bs k)) v).run P w= .ok () (setBlock w r o)∧bIn (nE k v kv) ((setBlock w r o).heap[r]?):=by
  obtain⟨es,clock,hb,hkv⟩:=h
  cases hf:pH k kv 0 with
  | none=>
    refine⟨.map (es.push ⟨.string (bs k),v,clock⟩) (clock+1),?_,⟨_,_,ChangeMaps.heap_setBlock_same hb _,?_⟩⟩
    · unfold Instr.mapUpdate;simp only [Sem.run_bind,run_underlying ht,Result.andThen_ok,MapKept.run_getObj_map hb,oK hk,pL hk hkv,hf];rw [MapKept.run_setObj_map _ hb];simp [setBlock]
    · rw [bGr hf];simp [hkv,bIg,tH]
  | some p=>
    obtain⟨j,u⟩:=p;obtain⟨d,h1,q,h2,h3,h4⟩:=bGp (v:=v) hf;obtain rfl:j=d:=by omega
    have hlen:es.size=kv.length:=by
      have:=congrArg List.length hkv
      simpa [bIg] using this
    have hjl:j<es.size:=by rw [hlen];exact(List.getElem?_eq_some_iff.1 h2).1
    obtain⟨e,he⟩: ∃e,es[j]?=some e:=⟨es[j],Array.getElem?_eq_getElem hjl⟩
    have hek:e.key= .string (bs k):=by
      have h1:(es.toList.map tH)[j]?=some (tH e):=by simp [he]
      rw [hkv,bIg,List.getElem?_map,h2] at h1;simp only [Option.map_some,Option.some.injEq,tH,Prod.mk.injEq] at h1;rw [←h1.1,h3]
    refine⟨.map (es.modify j fun e=>{e with key:= .string (bs k),val:=v}) clock,?_,⟨_,_,ChangeMaps.heap_setBlock_same hb _,?_⟩⟩
    · unfold Instr.mapUpdate;simp only [Sem.run_bind,run_underlying ht,Result.andThen_ok,MapKept.run_getObj_map hb,oK hk,pL hk hkv,hf,he,Option.map_some,Option.getD_some,hek,run_staysIS];rw [MapKept.run_setObj_map _ hb];simp [setBlock]
    · rw [h4];apply List.ext_getElem?;intro i;have hi:(es.toList.map tH)[i]?=(bIg kv)[i]?:=by rw [hkv]
      simp only [bIg,List.getElem?_map,Array.toList_modify,List.getElem?_modify,List.getElem?_set] at hi⊢
      by_cases e':j=i
      · subst e';have:j<kv.length:=by omega
        have he':es.toList[j]?=some e:=by simpa using he
        simp [this,he',tH]
      · simp only [e',if_false] at hi⊢
        simpa using hi
end
section
variable {P : Program} {β : fG} {n : Nat} {Γ : Env} {H : List bW} {F : List Fact} {Q : Exit → Act → World → Prop} {K : Act → World → Prop} {T : Tab} {ops : Array Oper} {rest : List Oper} {o : Oper}
theorem bEf{d:Nat}{t:TypeId}(hw:want ops Γ o=some true)(ho:o.op= .makeMap t none)(hd:o.dst=some d)(hn:Nat.blt d n=true)(k: ∀b,At β n ((d,.map (some b))::Γ) (sV b []::H) F (wpList P ops Q rest)):At β n Γ H F (wpList P ops Q (o::rest)):=
  iM hw fun a w S f s hk=>by
    have hr:(execOp a.eval o).run P w= .ok (.value (.map (some w.heap.size))) (w.alloc (.map #[] 0)):=by
      unfold execOp;simp only [ho,Instr.makeMap];rfl
    unfold Oper.wp;rw [hr,Oper.upon_value,hd];have s2:=s.alloc (.map #[] 0);refine k w.heap.size _ _ S (f.put (by simpa [Nat.blt_eq] using hn) _) ⟨s2.kept,fun c hc=>?_,fun c hc b hb=>?_,?_,s2.zone⟩ (All.alloc s hk _)
    · rcases List.mem_cons.1 hc with rfl | hc
      · exact⟨#[],0,heap_alloc_new _ _,rfl⟩
      · exact s2.ok c (List.mem_cons_of_mem _ hc)
    · rcases List.mem_cons.1 hc with rfl | hc
      · exact s2.own (.obj w.heap.size (.map #[] 0)) (List.mem_cons_self ..) b hb
      · exact s2.own c (List.mem_cons_of_mem _ hc) b hb
    · have hp:=List.pairwise_cons.1 s2.sep;exact List.pairwise_cons.2 ⟨fun d hd b hb=>hp.1 d hd b hb,hp.2⟩
theorem lI{r:Nat}{kv:KVS}{H':List bW}(hH:dM H (sV r kv) H'){t kt et:TypeId}{m x y:Operand}{k:Bs}{v:Value}(hw:want ops Γ o=some true)(ho:o.op= .mapUpdate t m x y∨o.op= .insert t m x y)(hd:o.dst=none)(ht:P.underlying t=some (.map kt et))(hk:P.underlying kt=some (.string))
    (hm:Γ.ev m=some (.map (some r))) (hx:Γ.ev x=some (.string (bs k))) (hy:Γ.ev y=some v) (K':At β n Γ (sV r (nE k v kv)::H') F (wpList P ops Q rest)):At β n Γ H F (wpList P ops Q (o::rest)):=
  iM hw fun a w S f s hF=>by
    have hok:bIn kv (w.heap[r]?):=s.ok _ hH.mem;obtain⟨ob,hr0,hm0⟩:=bEm (k:=k) ht hk v hok
    have hr:(execOp a.eval o).run P w= .ok .skip (setBlock w r ob):=by
      unfold execOp
      rcases ho with ho | ho
      · simp only [ho,f.ev hm,f.ev hx,f.ev hy,Sem.run_bind,hr0];rfl
      · simp only [ho,f.ev hm,f.ev hx,f.ev hy,Sem.run_bind,hr0];rfl
    unfold Oper.wp;rw [hr,Oper.upon_skip,hd];have s2:=s.perm hH.perm;exact K' _ _ S (f.put_none _) (s2.swap pK rfl rfl hm0) (All.mono (fun _ h=>h) (s.agree pK (fun c hc e=>by subst e;exact(s2.own _ (List.mem_cons_self ..) _ rfl).2.2 hc)) hF)
def bBx (β:fG)(H:List bW)(F:List Fact)(r:Nat)(kv:KVS):Prop:= ∀w S,St β H S w→All F S w→bIn kv (w.heap[r]?)
theorem vS{r:Nat}{kv:KVS}{H':List bW}(hH:dM H (sV r kv) H'):bBx β H F r kv:=fun _ _ s _=>s.ok _ hH.mem
theorem sti_lookupS{r:Nat}{kv:KVS}{t kt et:TypeId}{m x:Operand}{k:Bs}{z v:Value}(hkm:bBx β H F r kv)(ho:o.op= .lookup t m x false)(ht:P.underlying t=some (.map kt et))(hk:P.underlying kt=some (.string))(hz: ∀w,(zeroValue et).run P w= .ok z w)
    (hm:Γ.ev m=some (.map (some r))) (hx:Γ.ev x=some (.string (bs k))) (hv:(mS k kv).getD z=v):Sti P β n Γ H F o v:=fun a w S f s hF=>by
  have:=run_lookupIS (k:=k) ht hk (hz w) (hkm w S s hF);unfold execOp;simp only [ho,f.ev hm,f.ev hx];rw [Sem.run_bind,this,hv];rfl
end
section
variable {P : Program} {β : fG} {n : Nat} {Γ : Env} {H : List bW} {F : List Fact} {o : Oper}
theorem run_lookupOk{w:World}{t kt et:TypeId}{k:Bs}(ht:P.underlying t=some (.map kt et))(hk:P.underlying kt=some .string){z:Value}(hz:(zeroValue et).run P w= .ok z w){r:Nat}{kv:KVS}(h:bIn kv (w.heap[r]?)):
    (Instr.lookup t (.map (some r)) (.string (bs k)) true).run P w= .ok (.tuple #[(mS k kv).getD z,.bool (mS k kv).isSome]) w:=by
  obtain⟨es,clock,hb,hkv⟩:=h;unfold Instr.lookup;simp only [Sem.run_bind,run_underlying ht,Result.andThen_ok,MapKept.run_getObj_map hb,Sem.run_pure,oK hk,pL hk hkv];rw [←bBk k kv 0]
  cases pH k kv 0 with
  | none=>simp [hz]
  | some p=>simp
theorem zN{r:Nat}{kv:KVS}{t kt et:TypeId}{m x:Operand}{k:Bs}{z v:Value}(hkm:bBx β H F r kv)(ho:o.op= .lookup t m x true)(ht:P.underlying t=some (.map kt et))(hk:P.underlying kt=some .string)(hz: ∀w,(zeroValue et).run P w= .ok z w)
    (hm:Γ.ev m=some (.map (some r))) (hx:Γ.ev x=some (.string (bs k))) (hv:(.tuple #[(mS k kv).getD z,.bool (mS k kv).isSome]:Value)=v):Sti P β n Γ H F o v:=fun a w S f s hF=>by
  have:=run_lookupOk (k:=k) ht hk (hz w) (hkm w S s hF);unfold execOp;simp only [ho,f.ev hm,f.ev hx];rw [Sem.run_bind,this,hv];rfl
end
end Go.Proofs.YtbgdphbebhjpiaaGreatDoor
namespace Go.Proofs.YtbgdphbebhjpiaaGreatDoor
open Go.RowKit
section
variable {P : Program} {β : fG} {n : Nat} {Γ : Env} {H : List bW} {F : List Fact} {o : Oper}
theorem sY{t tt:TypeId}{x y:Operand}{k:IntKind}{a b:Int}(ho:o.op= .binOp .quo t x y tt)(hx:Γ.ev x=some (.int k a))(hy:Γ.ev y=some (.int k b))(hb:b≠0):Sti P β n Γ H F o (.int k (k.wrap (a.tdiv b))):=fun c w S f s _=>by
  unfold execOp;simp only [ho,f.ev hx,f.ev hy];simp [eqGuard,binOp,Op.intDiv,hb]
theorem bIh{t tt:TypeId}{x y:Operand}{k:IntKind}{a b:Int}(ho:o.op= .binOp .rem t x y tt)(hx:Γ.ev x=some (.int k a))(hy:Γ.ev y=some (.int k b))(hb:b≠0):Sti P β n Γ H F o (.int k (a.tmod b)):=fun c w S f s _=>by
  unfold execOp;simp only [ho,f.ev hx,f.ev hy];simp [eqGuard,binOp,Op.intDiv,hb]
theorem sti_half{t tt:TypeId}{x y:Operand}{k k':IntKind}{a:Int}(ho:o.op= .binOp .shr t x y tt)(hx:Γ.ev x=some (.int k a))(hy:Γ.ev y=some (.int k' 1))(hk:1≤k.bits):Sti P β n Γ H F o (.int k (a.fdiv 2)):=fun c w S f s _=>by
  unfold execOp;simp only [ho,f.ev hx,f.ev hy];have e:min 1 k.bits=1:=by omega
  simp [eqGuard,binOp,Op.shift,e]
theorem sti_xorI{t tt:TypeId}{x y:Operand}{k:IntKind}{a b:Int}(ho:o.op= .binOp .xor t x y tt)(hx:Γ.ev x=some (.int k a))(hy:Γ.ev y=some (.int k b)):Sti P β n Γ H F o (.int k (k.wrap ((BitVec.ofInt k.bits a^^^BitVec.ofInt k.bits b).toNat:Nat))):=fun c w S f s _=>by
  unfold execOp;simp only [ho,f.ev hx,f.ev hy];simp [eqGuard,binOp,Op.intBits]
end
theorem halfN(a:Nat):((a:Int).fdiv 2)=((a/2:Nat):Int):=by
  rw [Int.fdiv_eq_ediv_of_nonneg _ (by omega)];omega
end Go.Proofs.YtbgdphbebhjpiaaGreatDoor
namespace Go.Proofs.YtbgdphbebhjpiaaGreatDoor
open Go.RowKit
section
variable {P : Program} {β : fG} {n : Nat} {Γ : Env} {H : List bW} {F : List Fact} {Q : Exit → Act → World → Prop} {K : Act → World → Prop} {T : Tab} {α : Type} {E : Flat α}
theorem cR.cells{A:Option Addr}{xs:List α}{w:World}{S:lD}(hr:cR β H F E A xs)(s:St β H S w)(hF:All F S w)(h0:0<xs.length):
    ∃b off,A=some ⟨b,off,none⟩∧ ∀j u,(E.all xs)[j]?=some u→w.cell? ((⟨b,off,none⟩:Addr).add j)=some u:=by
  obtain⟨⟨b,off,rfl⟩,_⟩:=hr w S s hF 0 _ (List.getElem?_eq_getElem h0);refine⟨b,off,rfl,fun j u hj=>?_⟩;have hlt:=(List.getElem?_eq_some_iff.1 hj).1;rw [E.all_length] at hlt;have hk:j/E.size<xs.length:=Nat.div_lt_of_lt_mul (by rwa [Nat.mul_comm] at hlt);have hm:j%E.size<E.size:=Nat.mod_lt _ E.pos;have hx':=List.getElem?_eq_getElem hk;have hu':=List.getElem?_eq_getElem (l:=E.cells xs[j/E.size]) (i:=j%E.size) (by rw [E.len];exact hm);have e:j/E.size*E.size+j%E.size=j:=by rw [Nat.mul_comm];exact Nat.div_add_mod j E.size
  have h1:=(hr w S s hF _ _ hx').2 _ _ hu';have h2:=E.all_get hx' hu';rw [e,hj] at h2;injection h2 with h2
  have h3:=h1.trans (congrArg some h2.symm);rw [Nat.add_assoc,e] at h3;rw [Addr.add_mid];exact h3
theorem cR.tail{A:Option Addr}{xs:List α}{c:bW}(hr:cR β H F E A xs):cR β (c::H) F E A xs:=fun w S s hF=>hr w S s.tail hF
theorem bBv{A:Option Addr}{xs:List α}{w:World}{S:lD}(hr:cR β H F E A xs)(s:St β H S w)(hF:All F S w)(c:Nat){size:Nat}(hs:size=E.size):(Builtin.firstCells size xs.length (.slice A xs.length c)).run P w.drew= .ok (E.all xs).toArray w.drew:=by
  subst hs
  by_cases h0:0<xs.length
  · obtain⟨b,off,rfl,h⟩:=hr.cells s hF h0;exact run_firstCells_some w.drew E.size xs.length ⟨b,off,none⟩ xs.length c (E.all xs) (E.all_length xs) h
  · have:xs=[]:=List.eq_nil_of_length_eq_zero (by omega);subst this
    cases A with
    | none=>exact run_firstCells_none w.drew E.size 0 0 c
    | some a=>exact run_firstCells_some w.drew E.size 0 a 0 c [] (by simp) (fun j u hj=>by simp at hj)
theorem bIv{ops:Array Oper}{rest:List Oper}{o:Oper}{d:Nat}{x y:Operand}{t e:TypeId}{i:TypeInfo}{z:Value}{by_ c q m:Nat}{A B:Option Addr}{xs ys:List α}(hr:cR β H F E A xs)(hs:cR β H F E B ys)(hw:want ops Γ o=some true)
    (ho:o.op= .call {callee:= .builtin .append,args:= #[x,y],argTypes:= #[t,t]}) (hd:o.dst=some d) (hn:Nat.blt d n=true) (hu:P.underlying t=some (.slice e)) (hi:P.info? e=some i) (hz:i.zero=some z) (hsize:i.size=E.size) (hby:i.bytes=by_) (hzs:z.cells.size=E.size)
    (hx:Γ.ev x=some (.slice A m m)) (hm:m=xs.length) (hy:Γ.ev y=some (.slice B q c)) (hq:q=ys.length) (h0:0<ys.length) (hbytes:(xs.length+ys.length)*by_≤140737488355328) (hpos:0<by_)
    (k: ∀A' cap',At β n ((d,.slice A' (xs++ys).length cap')::Γ) (E.row (.slice A' (xs++ys).length cap') e (xs++ys)::H) F (wpList P ops Q rest)):At β n Γ H F (wpList P ops Q (o::rest)):=by
  subst hm hq;refine dQ (t:=e) E ?_;refine iM hw fun a w S f s hF=>?_;have hle:xs.length+ys.length≤(xs.length+ys.length)*by_:=Nat.le_mul_of_pos_right _ hpos
  have h63:xs.length+ys.length≤maxLen:=by
    simp only [maxLen];omega
  have s1:St β H S w:=s.tail;obtain⟨b,off,rfl,hb⟩:=hs.cells s1 hF h0;have hcap:=nextslicecap_le (need:=xs.length+ys.length) (old:=xs.length) (by omega)
  have hbig:Builtin.nextslicecap (xs.length+ys.length) xs.length*i.bytes≤281474976710656:=by
    have:=Nat.mul_le_mul_right i.bytes hcap;rw [hby] at this⊢;rw [Nat.mul_assoc] at this;omega
  have hfc:=bBv (P:=P) hr s1 hF xs.length hsize;have hrun:=run_append_grow_src (P:=P) w t t o.type e i z hu hi hz A xs.length xs.length (E.all xs) hfc (.slice (some ⟨b,off,none⟩) ys.length c) ys.length (E.all ys)
    (Src.ofSlice w hu ⟨b,off,none⟩ ys.length c (E.all ys) (by rw [E.all_length,hsize]) hb E.all_one) (by omega) (by simp only [maxLen] at h63;omega) hbig
  have hr':(execOp a.eval o).run P w= .ok (.value (.slice (some ⟨w.heap.size,0,none⟩) (xs.length+ys.length) (grownCap w (xs.length+ys.length) xs.length e)))
      (w.drew.alloc (.cells ((E.all xs++E.all ys).toArray++Builtin.zeroCells z.cells (grownCap w (xs.length+ys.length) xs.length e-(xs.length+ys.length))) e)):=by
    unfold execOp;simp only [ho,resolve,invoke,builtin,Sem.run_bind,Sem.run_pure,Result.andThen_ok,List.map_toArray,List.map_cons,List.map_nil,f.ev hx,f.ev hy,hrun]
  have hall:E.all xs++E.all ys=E.all (xs++ys):=by simp [Flat.all]
  have hge:=grownCap_ge w (xs.length+ys.length) xs.length e;have hcm:=grownCap_le_maxLen w (xs.length+ys.length) xs.length e h63;unfold Oper.wp;rw [hr',Oper.upon_value,hd];have hK:=k (some ⟨w.heap.size,0,none⟩) (grownCap w (xs.length+ys.length) xs.length e);rw [List.length_append] at hK;refine hK _ _ S (f.put (by simpa [Nat.blt_eq] using hn) _) ?_ ?_
  · refine s.swap_row (v':= .slice (some ⟨w.heap.size,0,none⟩) (xs.length+ys.length) (grownCap w (xs.length+ys.length) xs.length e)) (lW ⟨rfl,rfl,rfl,by simp,fun k hk _=>heap_alloc_old w.drew _ hk⟩) (.inr rfl) ?_;show World.ownsRow _ 0 e E.size _ (xs++ys).length (E.all (xs++ys));rw [List.length_append];refine⟨by rw [E.all_length,List.length_append],.inr ⟨w.heap.size,_,_,rfl,Nat.zero_le _,heap_alloc_new w.drew _,hge,hcm,?_,?_⟩⟩
    · have e1:(E.all xs++E.all ys).length=(xs.length+ys.length)*E.size:=by rw [hall,E.all_length,List.length_append]
      simp only [Array.size_append,List.size_toArray,size_zeroCells,hzs,e1,←Nat.add_mul]
      congr 1
      omega
    · have e1:(E.all (xs++ys)).length=(xs.length+ys.length)*E.size:=by rw [E.all_length,List.length_append]
      simp only [Array.toList_append];rw [hall,←e1];exact List.take_left
  · exact All.mono (w:=w) (fun _ h=>h) (fun b hb=>heap_alloc_old w.drew _ (s.zone b hb).1) hF
end
end Go.Proofs.YtbgdphbebhjpiaaGreatDoor
namespace Go.Proofs.YtbgdphbebhjpiaaGreatDoor
open Go.RowKit Go.ChangeShapes Go.WideShapes
def jN:Flat (Sl Int):=(intTy.slice 8).E
section
variable {α H : Type} {enc : TypeId × Value → H} {P : Program} {w : World} {t e : TypeId}
def Ty.slicec(T:Ty α)(b:Nat):Ty (Sl α):=⟨slE α,fun s=>((T.slice b).deep s).and (Fact.pure (s.list.length≤s.cap))⟩
theorem bNj{deep:Sl α→Fact}(hu:P.underlying t=some (.slice e))(he:rI enc P w t (slE α).cells deep):rI enc P w t (slE α).cells (fun s=>(deep s).and (Fact.pure (s.list.length≤s.cap))):=fun fuel cs x h hw=>by
  obtain⟨a,e0,d⟩:=he fuel cs x h hw;refine⟨a,e0,d,?_⟩;have e0':cs=[.slice a.addr a.list.length a.cap]:=e0;show a.list.length≤a.cap
  rcases Deep.open_slice hu h with ⟨e1,_⟩ | ⟨a',len,cap,m,n,D,Pl,e1,_,hl,_⟩
  · rw [e0'] at e1;simp only [List.cons.injEq,and_true,Value.slice.injEq] at e1;omega
  · rw [e0'] at e1;simp only [List.cons.injEq,and_true,Value.slice.injEq] at e1;omega
end
structure ArrV where
  sides:(Sl Int)
  data:(Sl Int)
  deriving Inhabited
def kE:Flat ArrV where
  size:=2
  cells:=fun x=>[.slice x.sides.addr x.sides.list.length x.sides.cap,.slice x.data.addr x.data.list.length x.data.cap]
  len:=fun _=>rfl
  one:=fun x u hu=>by
    simp at hu
    rcases hu with rfl | rfl<;>rfl
  pos:=by decide
def arrTy:Ty ArrV:=⟨kE,fun x=>(((intTy.slicec 8)).deep x.sides).and ((((intTy.slicec 8)).deep x.data).and (Fact.true))⟩
set_option maxRecDepth 100000 in
theorem opens_arr{H:Type}{enc:TypeId×Value→H}{w:World}:rI enc Tryz.prog w 42 kE.cells arrTy.deep:=fun fuel cs x h hw=>by
  obtain⟨xs,n,_,rfl,hlen,hxl,hf⟩:=DataW.trod_struct Tryz.underlying42 h;have hc:Tryz.prog.cellsOf 42=2:=by kernel_rfl
  rw [hc] at hlen;have hxl':xs.length=2:=hxl
  match cs,hlen with
  | [c0,c1],_=>
    have h0:DataW.trod enc Tryz.prog w 0 (fun _=>true) true n 30 (([c0,c1].drop 0).take (Tryz.prog.cellsOf 30))=xs[0]?:=hf 0 _ rfl;have h1:DataW.trod enc Tryz.prog w 0 (fun _=>true) true n 30 (([c0,c1].drop 1).take (Tryz.prog.cellsOf 30))=xs[1]?:=hf 1 _ rfl;rw [List.getElem?_eq_getElem (by omega)] at h0;obtain⟨a0,e0,d0⟩:=(bNj Tryz.underlying30 (zU (T:=intTy) (b:=8) Tryz.underlying30 (by kernel_rfl) (by kernel_rfl) (bNt Tryz.underlying2))) _ _ _ h0 (wB Tryz.underlying42 hw (j:=0) rfl (by rw [List.getElem?_map,List.getElem?_eq_getElem (by omega)];rfl))
    have q0:[c0]=[.slice a0.addr a0.list.length a0.cap]:=by
      have hk:Tryz.prog.cellsOf 30=1:=by kernel_rfl
      rw [hk] at e0;exact e0
    clear e0;simp only [List.cons.injEq,and_true] at q0;rw [List.getElem?_eq_getElem (by omega)] at h1;obtain⟨a1,e1,d1⟩:=(bNj Tryz.underlying30 (zU (T:=intTy) (b:=8) Tryz.underlying30 (by kernel_rfl) (by kernel_rfl) (bNt Tryz.underlying2))) _ _ _ h1 (wB Tryz.underlying42 hw (j:=1) rfl (by rw [List.getElem?_map,List.getElem?_eq_getElem (by omega)];rfl))
    have q1:[c1]=[.slice a1.addr a1.list.length a1.cap]:=by
      have hk:Tryz.prog.cellsOf 30=1:=by kernel_rfl
      rw [hk] at e1;exact e1
    clear e1;simp only [List.cons.injEq,and_true] at q1;obtain rfl:=q0;obtain rfl:=q1;exact⟨⟨a0,a1⟩,rfl,d0,d1,trivial⟩
def meanT:Tab:=[(3,⟨.int .i64,1⟩),(2,⟨.int .i64,1⟩),(5,⟨.int .u8,1⟩),(9,⟨.string,1⟩),(4,⟨.bool,1⟩),(50,⟨.int .u8,1⟩),(34,⟨.int .i64,1⟩),(30,⟨.slice 2,1⟩),(27,⟨.slice 9,1⟩),(104,⟨.struct [(3,0),(3,1),(9,2),(2,3)],4⟩),(97,⟨.slice 104,1⟩),(36,⟨.struct [(3,0),(34,1)],2⟩),(63,⟨.struct [(9,0),(2,1)],2⟩),(59,⟨.slice 63,1⟩),(61,⟨.struct [(9,0),(3,1),(59,2)],3⟩),(22,⟨.slice 61,1⟩),(52,⟨.struct [(3,0),(3,1),(50,2),(9,3),(30,4)],5⟩),(47,⟨.slice 52,1⟩),(49,⟨.struct [(9,0),(3,1),(47,2)],3⟩),(23,⟨.slice 49,1⟩),(25,⟨.struct [(22,0),(23,1)],2⟩),(102,⟨.struct [(97,0),(3,1),(3,2)],3⟩),(42,⟨.struct [(30,0),(30,1)],2⟩),(31,⟨.slice 42,1⟩),(189,⟨.slice 30,1⟩),(100,⟨.other,1⟩),(208,⟨.slice 1,1⟩),(1,⟨.other,1⟩),(196,⟨.other,1⟩),(80,⟨.other,1⟩),(247,⟨.other,1⟩),(248,⟨.slice 247,1⟩),(243,⟨.int .u64,1⟩),(78,⟨.map 9 4,1⟩),(85,⟨.map 9 42,1⟩),(244,⟨.other,1⟩),(246,⟨.struct [(244,0),(34,1)],2⟩),(87,⟨.struct [(85,0),(3,1)],2⟩)]
theorem dA:gA Tryz.prog meanT:=vP.ok
  ⟨⟨by rw [Tryz.underlying3];rfl,by kernel_rfl⟩,
    ⟨by rw [Tryz.underlying2];rfl,by kernel_rfl⟩,
    ⟨by rw [Tryz.underlying5];rfl,by kernel_rfl⟩,
    ⟨by rw [Tryz.underlying9];rfl,by kernel_rfl⟩,
    ⟨by rw [Tryz.underlying4];rfl,by kernel_rfl⟩,
    ⟨by rw [Tryz.underlying50];rfl,by kernel_rfl⟩,
    ⟨by rw [Tryz.underlying34];rfl,by kernel_rfl⟩,
    ⟨by rw [Tryz.underlying30];rfl,by kernel_rfl⟩,
    ⟨by rw [Tryz.underlying27];rfl,by kernel_rfl⟩,
    ⟨by rw [Tryz.underlying104];rfl,by kernel_rfl⟩,
    ⟨by rw [Tryz.underlying97];rfl,by kernel_rfl⟩,
    ⟨by rw [Tryz.underlying36];rfl,by kernel_rfl⟩,
    ⟨by rw [Tryz.underlying63];rfl,by kernel_rfl⟩,
    ⟨by rw [Tryz.underlying59];rfl,by kernel_rfl⟩,
    ⟨by rw [Tryz.underlying61];rfl,by kernel_rfl⟩,
    ⟨by rw [Tryz.underlying22];rfl,by kernel_rfl⟩,
    ⟨by rw [Tryz.underlying52];rfl,by kernel_rfl⟩,
    ⟨by rw [Tryz.underlying47];rfl,by kernel_rfl⟩,
    ⟨by rw [Tryz.underlying49];rfl,by kernel_rfl⟩,
    ⟨by rw [Tryz.underlying23];rfl,by kernel_rfl⟩,
    ⟨by rw [Tryz.underlying25];rfl,by kernel_rfl⟩,
    ⟨by rw [Tryz.underlying102];rfl,by kernel_rfl⟩,
    ⟨by rw [Tryz.underlying42];rfl,by kernel_rfl⟩,
    ⟨by rw [Tryz.underlying31];rfl,by kernel_rfl⟩,
    ⟨by rw [Tryz.underlying189];rfl,by kernel_rfl⟩,
    ⟨by rw [Tryz.underlying100];rfl,by kernel_rfl⟩,
    ⟨by rw [Tryz.underlying208];rfl,by kernel_rfl⟩,
    ⟨by rw [Tryz.underlying1];rfl,by kernel_rfl⟩,
    ⟨by rw [Tryz.underlying196];rfl,by kernel_rfl⟩,
    ⟨by rw [Tryz.underlying80];rfl,by kernel_rfl⟩,
    ⟨by rw [Tryz.underlying247];rfl,by kernel_rfl⟩,
    ⟨by rw [Tryz.underlying248];rfl,by kernel_rfl⟩,
    ⟨by rw [Tryz.underlying243];rfl,by kernel_rfl⟩,
    ⟨by rw [Tryz.underlying78];rfl,by kernel_rfl⟩,
    ⟨by rw [Tryz.underlying85];rfl,by kernel_rfl⟩,
    ⟨by rw [Tryz.underlying244];rfl,by kernel_rfl⟩,
    ⟨by rw [Tryz.underlying246];rfl,by kernel_rfl⟩,
    ⟨by rw [Tryz.underlying87];rfl,by kernel_rfl⟩,trivial⟩
theorem arrInfo: ∃i:TypeInfo,Tryz.prog.info? 42=some i∧i.zero=some (.agg #[.slice none 0 0,.slice none 0 0])∧i.size=2∧i.bytes=48:=by
  have h:(Tryz.prog.info? 42).map (fun i=>(i.zero,i.size,i.bytes))=some (some (.agg #[.slice none 0 0,.slice none 0 0]),2,48):=by kernel_rfl
  cases hi:Tryz.prog.info? 42 with
  | none=>simp [hi] at h
  | some i=>simp [hi] at h;exact⟨i,rfl,h.1,h.2.1,h.2.2⟩
theorem iI{β:fG}{n:Nat}{Γ:Env}{H:List bW}{F:List Fact}{Q:Exit→Act→World→Prop}{ops:Array Oper}{rest:List Oper}{o:Oper}{d:Nat}{x:Operand}{m:ArrV}(hw:want ops Γ o=some true)(ho:o.op= .buildSlice 31 1 #[(0,x)])(hd:o.dst=some d)(hn:Nat.blt d n=true)
    (hx:Γ.ev x=some (.agg #[.slice m.sides.addr m.sides.list.length m.sides.cap,.slice m.data.addr m.data.list.length m.data.cap])) (k: ∀b,At β n ((d,.slice (some ⟨b,0,none⟩) 1 1)::Γ) (.obj b (.cells (kE.all [m]).toArray 42)::H) F (wpList Tryz.prog ops Q rest)):At β n Γ H F (wpList Tryz.prog ops Q (o::rest)):=by
  obtain⟨i,hi,hz,hs,_⟩:=arrInfo;refine kI hw ho hd hn hx Tryz.underlying31 hi hz (by omega) (by omega) ?_ k;rw [hs]
  kernel_rfl
theorem at_app_arr{β:fG}{n:Nat}{Γ:Env}{H:List bW}{F:List Fact}{Q:Exit→Act→World→Prop}{ops:Array Oper}{rest:List Oper}{o:Oper}{d:Nat}{x y:Operand}{c q:Nat}{v:Value}{A:Option Addr}{xs ys:List ArrV}{H':List bW}(hH:dM H (kE.row v 42 xs) H')(hr:cR β H F kE A ys)(hg:o.guard=none)
    (ho:o.op= .call {callee:= .builtin .append,args:= #[x,y],argTypes:= #[31,31]}) (hd:o.dst=some d) (hn:Nat.blt d n=true)
    (hx:Γ.ev x=some v) (hy:Γ.ev y=some (.slice A q c)) (hq:q=ys.length) (hl:xs.length+ys.length≤2932031007402)
    (k: ∀A' cap',At β n ((d,.slice A' (xs++ys).length cap')::Γ) (kE.row (.slice A' (xs++ys).length cap') 42 (xs++ys)::H') F (wpList Tryz.prog ops Q rest)):At β n Γ H F (wpList Tryz.prog ops Q (o::rest)):=by
  obtain⟨i,hi,hz,hs,hb⟩:=arrInfo;exact gP hH hr hg ho hd hn Tryz.underlying31 hi hz hs hb rfl hx hy hq (by omega) (by decide) k
theorem bGo: ∃i:TypeInfo,Tryz.prog.info? 30=some i∧i.zero=some (.slice none 0 0)∧i.size=1∧i.bytes=24:=by
  have h:(Tryz.prog.info? 30).map (fun i=>(i.zero,i.size,i.bytes))=some (some (.slice none 0 0),1,24):=by kernel_rfl
  cases hi:Tryz.prog.info? 30 with
  | none=>simp [hi] at h
  | some i=>simp [hi] at h;exact⟨i,rfl,h.1,h.2.1,h.2.2⟩
theorem bDz{β:fG}{n:Nat}{Γ:Env}{H:List bW}{F:List Fact}{Q:Exit→Act→World→Prop}{ops:Array Oper}{rest:List Oper}{o:Oper}{d:Nat}{x:Operand}{m:(Sl Int)}(hw:want ops Γ o=some true)(ho:o.op= .buildSlice 189 1 #[(0,x)])(hd:o.dst=some d)(hn:Nat.blt d n=true)
    (hx:Γ.ev x=some (.slice m.addr m.list.length m.cap)) (k: ∀b,At β n ((d,.slice (some ⟨b,0,none⟩) 1 1)::Γ) (.obj b (.cells (jN.all [m]).toArray 30)::H) F (wpList Tryz.prog ops Q rest)):At β n Γ H F (wpList Tryz.prog ops Q (o::rest)):=by
  obtain⟨i,hi,hz,hs,_⟩:=bGo;refine kI hw ho hd hn hx Tryz.underlying189 hi hz (by omega) (by omega) ?_ k;rw [hs]
  kernel_rfl
theorem bDs{β:fG}{n:Nat}{Γ:Env}{H:List bW}{F:List Fact}{Q:Exit→Act→World→Prop}{ops:Array Oper}{rest:List Oper}{o:Oper}{d:Nat}{x y:Operand}{c q:Nat}{v:Value}{A:Option Addr}{xs ys:List (Sl Int)}{H':List bW}(hH:dM H (jN.row v 30 xs) H')(hr:cR β H F jN A ys)(hg:o.guard=none)
    (ho:o.op= .call {callee:= .builtin .append,args:= #[x,y],argTypes:= #[189,189]}) (hd:o.dst=some d) (hn:Nat.blt d n=true)
    (hx:Γ.ev x=some v) (hy:Γ.ev y=some (.slice A q c)) (hq:q=ys.length) (hl:xs.length+ys.length≤5864062014805)
    (k: ∀A' cap',At β n ((d,.slice A' (xs++ys).length cap')::Γ) (jN.row (.slice A' (xs++ys).length cap') 30 (xs++ys)::H') F (wpList Tryz.prog ops Q rest)):At β n Γ H F (wpList Tryz.prog ops Q (o::rest)):=by
  obtain⟨i,hi,hz,hs,hb⟩:=bGo;exact gP hH hr hg ho hd hn Tryz.underlying189 hi hz hs hb rfl hx hy hq (by omega) (by decide) k
def ArrV.arr(x:ArrV):Arr:=⟨x.sides.list,x.data.list⟩
end Go.Proofs.YtbgdphbebhjpiaaGreatDoor
namespace Go.Proofs.YtbgdphbebhjpiaaGreatDoor
open Go.RowKit
section
variable {P : Program} {β : fG} {n : Nat} {Γ : Env} {H : List bW} {F : List Fact} {o : Oper} {x : Operand} {t tt e : TypeId} {A : Option Addr} {q c : Nat}
theorem sti_isnil(ht:P.underlying t=some (.slice e))(ho:o.op= .binOp .eql t x (.const (.slice none 0 0)) tt)(hx:Γ.ev x=some (.slice A q c)):Sti P β n Γ H F o (.bool A.isNone):=fun a w S f s k=>by
  have h1: ∀d,(Op.equalIn (d+1) t (.slice A q c) (.slice none 0 0)).run P w= .ok A.isNone w:=fun d=>by cases A<;>simp [Op.equalIn,run_underlying ht]
  unfold execOp;have e:a.eval (.const (.slice none 0 0))= .slice none 0 0:=rfl;simp only [ho,f.ev hx,e]
  have hb:(binOp .eql t (.slice A q c) (.slice none 0 0)).run P w= .ok (.bool A.isNone) w:=by
    simp only [binOp];have h2:(Op.equal t (.slice A q c) (.slice none 0 0)).run P w= .ok A.isNone w:=h1 9999;rw [Sem.run_bind,h2];rfl
  have hg:(eqGuard .eql t x (.const (.slice none 0 0)) (.slice A q c) (.slice none 0 0)).run P w= .ok () w:=by
    unfold eqGuard;simp
  rw [Sem.run_bind,Sem.run_bind,hg,Result.andThen_ok,hb];rfl
end
theorem has_isnil{α:Type}{E:Flat α}{F:List Fact}{A:Option Addr}{m c:Nat}{l:List α}(h:Has F (E.sl (.slice A m c) l)):Has F (Fact.pure (A.isNone=true→l=[])):=fun S w k hA=>by
  obtain⟨A',c',e,h⟩:=h S w k
  cases l with
  | nil=>rfl
  | cons x r=>
    obtain⟨b,o,cs,e1,_⟩:=h 0 x rfl;injection e with e
    subst e;subst e1;cases hA
def bKi (k:Int):List Int→Int→Int
  | [],_=> -1
  | s::r,i=>if k=s then i else bKi k r (i+1)
section
variable {k x : Int} {l : List Int} {i : Nat} {r : Int}
theorem bLj(h:r=bKi k (l.drop i) i)(hx:l[i]?=some x):(k=x→r=i)∧(k≠x→r=bKi k (l.drop (i+1)) ((i+1:Nat):Int)):=by
  rw [fY hx,bKi] at h;refine⟨fun e=>by rw [if_pos e] at h;exact h,fun e=>by rw [if_neg e] at h;rw [h];rfl⟩
theorem idxI_end(h:r=bKi k (l.drop i) i)(hi:l.length≤i):r= -1:=by
  rw [List.drop_of_length_le hi] at h;exact h
end
theorem xP(k:Int): ∀(l:List Int) (i:Int),0≤i→decide (0≤bKi k l i)=l.contains k
  | [],i,_=>rfl
  | s::r,i,h=>by
    rw [bKi,List.contains_cons]
    by_cases e:k=s
    · subst e;simp [h]
    · rw [if_neg e,xP k r (i+1) (by omega)];simp [e]
def bKd (p:Int→Bool):List Int→Int→Int
  | [],_=> -1
  | s::r,i=>if p s=true then i else bKd p r (i+1)
section
variable {p : Int → Bool} {x : Int} {l : List Int} {i : Nat} {r : Int}
theorem bLp(h:r=bKd p (l.drop i) i)(hx:l[i]?=some x):(p x=true→r=i)∧(p x=false→r=bKd p (l.drop (i+1)) ((i+1:Nat):Int)):=by
  rw [fY hx,bKd] at h;refine⟨fun e=>by rw [if_pos e] at h;exact h,fun e=>by rw [if_neg (by rw [e];simp)] at h;rw [h];rfl⟩
theorem idxB_end(h:r=bKd p (l.drop i) i)(hi:l.length≤i):r= -1:=by
  rw [List.drop_of_length_le hi] at h;exact h
end
theorem idxB_any(p:Int→Bool): ∀(l:List Int) (i:Int),0≤i→decide (0≤bKd p l i)=l.any p
  | [],i,_=>rfl
  | s::r,i,h=>by
    rw [bKd,List.any_cons]
    cases e:p s with
    | true=>simp [h]
    | false=>
      rw [if_neg (by simp),idxB_any p r (i+1) (by omega)];simp
section
variable {k x : Bs} {l : List Bs} {i : Nat} {r : Int}
theorem bIi(h:r=lE k (l.drop i) i)(hx:l[i]?=some x):(k=x→r=i)∧(k≠x→r=lE k (l.drop (i+1)) ((i+1:Nat):Int)):=by
  rw [fY hx,lE] at h;refine⟨fun e=>by rw [if_pos e.symm] at h;exact h,fun e=>by rw [if_neg (Ne.symm e)] at h;rw [h];rfl⟩
theorem idxOf_end(h:r=lE k (l.drop i) i)(hi:l.length≤i):r= -1:=by
  rw [List.drop_of_length_le hi] at h;exact h
end
theorem rZ{a b:List Int}(h:a≠b):Value.bool false= .bool (decide (a=b)):=by simp [h]
theorem bHx{a b:List Int}(h:a=b):Value.bool true= .bool (decide (a=b)):=by simp [h]
set_option maxRecDepth 100000 in
theorem dK(A:Option Addr)(c:Nat)(l:List Int)(hl:l.length≤17592186044416):dH Tryz.prog 33 [.slice A l.length c] [] [cT.sl (.slice A l.length c) l] (fun(x:Option Addr×Nat)=> .slice x.1 l.length x.2) (fun(x:Option Addr×Nat)=>[cT.row (.slice x.1 l.length x.2) 2 l]) (fun _=>[]):=by
  have hT:=dA;refine cQ Tryz.func33 rfl Tryz.ntmps33 rfl ?_;intro β hM;refine sr<|sp hT ?_;refine nn<|bA<|sr<|sp hT ?_;refine ss (sti_isnil Tryz.underlying30 rfl rfl) ?_;refine nn<|bH rfl (fun hc4=>?_) (fun hc4=>?_)
  · refine bA<|bV (Fact.pure (A.isNone=true→l=[])) (has_isnil (Has.of mT0)) ?_;refine cD (Has.of mT0) fun hnil=>?_;have hl0:=hnil (by assumption);subst hl0;refine dQ (t:=2) cT ?_;refine bE<|sp hT ?_;refine nn<|bG<|bC ?_;exact bR (_,_) rfl (bD rfl) (.cons .head .nil) trivial rfl
  refine bK<|bB<|sr<|bCw rfl rfl rfl rfl fun b1=>?_;refine sp hT ?_;refine jW .head (bJ (Has.of mT0)) rfl rfl rfl rfl rfl rfl rfl (by simp;omega) fun A2 c3=>?_;rw [List.nil_append];refine sp hT ?_;refine nn<|bG ?_;exact bR (_,_) rfl (bD rfl) (.cons .head .nil) trivial rfl
set_option maxRecDepth 100000 in
theorem index_spec(A:Option Addr)(c:Nat)(l:List Int)(hl:l.length≤140737488355328)(k:Int):dH Tryz.prog 128 [.slice A l.length c,.int .i64 k] [] [cT.sl (.slice A l.length c) l] (fun(_:Unit)=> .int .i64 (bKi k l 0)) (fun _=>[]) (fun _=>[]):=by
  have hT:=dA;generalize hR:bKi k l 0=r;refine cQ Tryz.func128 rfl Tryz.ntmps128 rfl ?_;intro β hM;refine sr<|sp hT ?_;refine nn<|bA<|sr<|sp3 hT ?_;refine nn<|bT<|dD (ι:=Nat) [(0,_),(1,_),(7,_)] ⟨rfl,rfl,rfl,trivial⟩ (fun i=>[(8,.int .i64 (i:Nat))]) (fun _=>[]) (fun i=>[Fact.pure (i≤l.length∧r=bKi k (l.drop i) i)]) (fun i=>l.length-i) 0 ⟨rfl,trivial⟩ .nil ⟨Has.pure (⟨by omega,hR.symm⟩),trivial⟩ ?_;rintro i;refine cD (Has.of mT0) fun hinv2=>?_;refine sr<|sp hT ?_;refine nn<|bA<|bH rfl (fun hc9=>?_) (fun hc9=>?_)
  · have hc9:=of_decide_eq_true hc9;refine bK<|bB<|bA<|bT<|sr<|sp2 hT ?_;refine nn<|sr<|sp3 hT ?_
    obtain⟨x1,hx2⟩: ∃x',l[i]?=some x':=⟨_,List.getElem?_eq_getElem (by omega)⟩
    refine ss (bS hT (k:=i) (bJ (Has.of mT1)) rfl rfl rfl rfl rfl rfl rfl (by omega)) ?_;refine ss (bZ hT (cR.knows (bJ (Has.of mT1)) (k:=i) (x:=x1) hx2 0) rfl rfl rfl rfl rfl) ?_;refine sp hT ?_;refine nn<|bH rfl (fun hc16=>?_) (fun hc16=>?_)
    · have hc16:=eq_of_beq hc16;refine sr<|sp2 hT ?_;refine nn<|bG<|bI<|bC<|bC<|bI<|bC ?_;have hr:=(bLj hinv2.2 hx2).1 (by assumption);subst hr;exact bR () rfl (bD rfl) .nil trivial rfl
    have hc16:=beq_eq_false_iff_ne.1 hc16;refine bK<|cA<|bB<|bE<|sp hT ?_;refine bP (z':=(((i+1):Nat):Int)) (cL (by omega) (by omega)) ?_;refine sp hT ?_;refine nn ?_;exact cP (i+1) (by omega) ⟨rfl,trivial⟩ ⟨rfl,rfl,rfl,trivial⟩ .nil ⟨Has.pure (⟨by omega,(bLj hinv2.2 hx2).2 (by assumption)⟩),trivial⟩ (bF.drop 1)
  have hc9:=Int.not_lt.1 (of_decide_eq_false hc9);refine cW<|cM<|cM<|cX<|bB<|sr<|sp hT ?_;refine nn<|bG ?_;have hr:=idxI_end hinv2.2 (by omega);subst hr;exact bR () rfl (bD rfl) .nil trivial rfl
set_option maxRecDepth 100000 in
theorem wA(A:Option Addr)(c:Nat)(l:List Bs)(hl:l.length≤140737488355328)(k:Bs):dH Tryz.prog 42 [.slice A l.length c,.string (bs k)] [] [lP.sl (.slice A l.length c) l] (fun(_:Unit)=> .int .i64 (lE k l 0)) (fun _=>[]) (fun _=>[]):=by
  have hT:=dA;generalize hR:lE k l 0=r;refine cQ Tryz.func42 rfl Tryz.ntmps42 rfl ?_;intro β hM;refine sr<|sp hT ?_;refine nn<|bA<|sr<|sp3 hT ?_;refine nn<|bT<|dD (ι:=Nat) [(0,_),(1,_),(7,_)] ⟨rfl,rfl,rfl,trivial⟩ (fun i=>[(8,.int .i64 (i:Nat))]) (fun _=>[]) (fun i=>[Fact.pure (i≤l.length∧r=lE k (l.drop i) i)]) (fun i=>l.length-i) 0 ⟨rfl,trivial⟩ .nil ⟨Has.pure (⟨by omega,hR.symm⟩),trivial⟩ ?_;rintro i;refine cD (Has.of mT0) fun hinv2=>?_;refine sr<|sp hT ?_;refine nn<|bA<|bH rfl (fun hc9=>?_) (fun hc9=>?_)
  · have hc9:=of_decide_eq_true hc9;refine bK<|bB<|bA<|bT<|sr<|sp2 hT ?_;refine nn<|sr<|sp3 hT ?_
    obtain⟨x1,hx2⟩: ∃x',l[i]?=some x':=⟨_,List.getElem?_eq_getElem (by omega)⟩
    refine ss (bS hT (k:=i) (bJ (Has.of mT1)) rfl rfl rfl rfl rfl rfl rfl (by omega)) ?_;refine ss (bZ hT (cR.knows (bJ (Has.of mT1)) (k:=i) (x:=x1) hx2 0) rfl rfl rfl rfl rfl) ?_;refine sp hT ?_;refine nn<|bH rfl (fun hc16=>?_) (fun hc16=>?_)
    · have hc16:k=x1:=eq_of_beq hc16;refine sr<|sp2 hT ?_;refine nn<|bG<|bI<|bC<|bC<|bI<|bC ?_;have hr:=(bIi hinv2.2 hx2).1 (by assumption);subst hr;exact bR () rfl (bD rfl) .nil trivial rfl
    have hc16:k≠x1:=fun h=>absurd (beq_iff_eq.2 h) (by rw [show(k==x1)=false from hc16];simp);refine bK<|cA<|bB<|bE<|sp hT ?_;refine bP (z':=(((i+1):Nat):Int)) (cL (by omega) (by omega)) ?_;refine sp hT ?_;refine nn ?_;exact cP (i+1) (by omega) ⟨rfl,trivial⟩ ⟨rfl,rfl,rfl,trivial⟩ .nil ⟨Has.pure (⟨by omega,(bIi hinv2.2 hx2).2 (by assumption)⟩),trivial⟩ (bF.drop 1)
  have hc9:=Int.not_lt.1 (of_decide_eq_false hc9);refine cW<|cM<|cM<|cX<|bB<|sr<|sp hT ?_;refine nn<|bG ?_;have hr:=idxOf_end hinv2.2 (by omega);subst hr;exact bR () rfl (bD rfl) .nil trivial rfl
set_option maxRecDepth 100000 in
theorem bHk(A:Option Addr)(c:Nat)(l:List Int)(hl:l.length≤140737488355328)(k:Int):dH Tryz.prog 69 [.slice A l.length c,.int .i64 k] [] [cT.sl (.slice A l.length c) l] (fun(_:Unit)=> .bool (l.contains k)) (fun _=>[]) (fun _=>[]):=by
  have hT:=dA;refine cQ Tryz.func69 rfl Tryz.ntmps69 rfl ?_;intro β hM;refine sr<|sp hT ?_;refine nn<|sr<|sp2 hT ?_;refine bO Tryz.func128 (index_spec _ _ _ hl _) rfl rfl .nil ⟨Has.of mT0,trivial⟩ fun _=>?_;refine sp2 hT ?_;refine nn<|bG ?_;exact bR () rfl (bD rfl) .nil trivial (congrArg Value.bool (xP k l 0 (by decide)))
set_option maxRecDepth 100000 in
theorem indexF_spec(A:Option Addr)(c:Nat)(l:List Int)(hl:l.length≤140737488355328)(f:FuncId)(p:Int→Bool)(hcf: ∀(args:Array Value) (w:World),(callFunc f args).run Tryz.prog w= .ok (.enter f args) w)(hf: ∀b:Int,dH Tryz.prog f [.int .i64 b] [] [] (fun _:Unit=> .bool (p b)) (fun _=>[]) (fun _=>[])):dH Tryz.prog 104 [.slice A l.length c,.func (.func f) #[] #[]] [] [cT.sl (.slice A l.length c) l] (fun(_:Unit)=> .int .i64 (bKd p l 0)) (fun _=>[]) (fun _=>[]):=by
  have hT:=dA;generalize hR:bKd p l 0=r;refine cQ Tryz.func104 rfl Tryz.ntmps104 rfl ?_;intro β hM;refine sr<|sp hT ?_;refine nn<|bA<|sr<|sp3 hT ?_;refine nn<|bT<|dD (ι:=Nat) [(0,_),(1,_),(7,_)] ⟨rfl,rfl,rfl,trivial⟩ (fun i=>[(8,.int .i64 (i:Nat))]) (fun _=>[]) (fun i=>[Fact.pure (i≤l.length∧r=bKd p (l.drop i) i)]) (fun i=>l.length-i) 0 ⟨rfl,trivial⟩ .nil ⟨Has.pure (⟨by omega,hR.symm⟩),trivial⟩ ?_;rintro i;refine cD (Has.of mT0) fun hinv2=>?_;refine sr<|sp hT ?_;refine nn<|bA<|bH rfl (fun hc9=>?_) (fun hc9=>?_)
  · have hc9:=of_decide_eq_true hc9;refine bK<|bB<|bA<|bT<|sr<|sp2 hT ?_;refine nn<|sr<|sp3 hT ?_
    obtain⟨x1,hx2⟩: ∃x',l[i]?=some x':=⟨_,List.getElem?_eq_getElem (by omega)⟩
    refine ss (bS hT (k:=i) (bJ (Has.of mT1)) rfl rfl rfl rfl rfl rfl rfl (by omega)) ?_;refine ss (bZ hT (cR.knows (bJ (Has.of mT1)) (k:=i) (x:=x1) hx2 0) rfl rfl rfl rfl rfl) ?_;refine gZ hcf (hf x1) rfl rfl rfl rfl rfl rfl rfl .nil trivial fun _=>?_;refine nn<|bH rfl (fun hc16=>?_) (fun hc16=>?_)
    · refine sr<|sp2 hT ?_;refine nn<|bG<|bI<|bC<|bC<|bI<|bC ?_;have hr:=(bLp hinv2.2 hx2).1 (by assumption);subst hr;exact bR () rfl (bD rfl) .nil trivial rfl
    refine bK<|cA<|bB<|bE<|sp hT ?_;refine bP (z':=(((i+1):Nat):Int)) (cL (by omega) (by omega)) ?_;refine sp hT ?_;refine nn ?_;exact cP (i+1) (by omega) ⟨rfl,trivial⟩ ⟨rfl,rfl,rfl,trivial⟩ .nil ⟨Has.pure (⟨by omega,(bLp hinv2.2 hx2).2 (by assumption)⟩),trivial⟩ (bF.drop 1)
  have hc9:=Int.not_lt.1 (of_decide_eq_false hc9);refine cW<|cM<|cM<|cX<|bB<|sr<|sp hT ?_;refine nn<|bG ?_;have hr:=idxB_end hinv2.2 (by omega);subst hr;exact bR () rfl (bD rfl) .nil trivial rfl
set_option maxRecDepth 100000 in
theorem rM(A:Option Addr)(c:Nat)(l:List Int)(hl:l.length≤140737488355328)(f:FuncId)(p:Int→Bool)(hcf: ∀(args:Array Value) (w:World),(callFunc f args).run Tryz.prog w= .ok (.enter f args) w)(hf: ∀b:Int,dH Tryz.prog f [.int .i64 b] [] [] (fun _:Unit=> .bool (p b)) (fun _=>[]) (fun _=>[])):dH Tryz.prog 59 [.slice A l.length c,.func (.func f) #[] #[]] [] [cT.sl (.slice A l.length c) l] (fun(_:Unit)=> .bool (l.any p)) (fun _=>[]) (fun _=>[]):=by
  have hT:=dA;refine cQ Tryz.func59 rfl Tryz.ntmps59 rfl ?_;intro β hM;refine sr<|sp hT ?_;refine nn<|sr<|sp2 hT ?_;refine bO Tryz.func104 (indexF_spec _ _ _ hl f p hcf hf) rfl rfl .nil ⟨Has.of mT0,trivial⟩ fun _=>?_;refine sp2 hT ?_;refine nn<|bG ?_;exact bR () rfl (bD rfl) .nil trivial (congrArg Value.bool (idxB_any p l 0 (by decide)))
set_option maxRecDepth 100000 in
theorem rB(A B:Option Addr)(ca cb:Nat)(a b:List Int)(hl:a.length≤140737488355328):dH Tryz.prog 121 [.slice A a.length ca,.slice B b.length cb] [] [cT.sl (.slice A a.length ca) a,cT.sl (.slice B b.length cb) b] (fun(_:Unit)=> .bool (decide (a=b))) (fun _=>[]) (fun _=>[]):=by
  have hT:=dA;refine cQ Tryz.func121 rfl Tryz.ntmps121 rfl ?_;intro β hM;refine sr<|sp hT ?_;refine nn<|bA<|sr<|sp4 hT ?_;refine sp hT ?_;refine nn<|bH rfl (fun hc10=>?_) (fun hc10=>?_)
  · have hc10:=bne_iff_ne.1 hc10;refine sr<|sp hT ?_;refine nn<|bG<|bC ?_;exact bR () rfl (bD rfl) .nil trivial (rZ (fun e=>by have:=congrArg List.length e;omega))
  have hc10:=bne_eq_false_iff_eq.1 hc10;refine bK<|bB<|bA<|sr<|sp3 hT ?_;refine nn<|bT<|dD (ι:=Nat) [(0,_),(1,_),(12,_)] ⟨rfl,rfl,rfl,trivial⟩ (fun i=>[(13,.int .i64 (i:Nat))]) (fun _=>[]) (fun i=>[Fact.pure (i≤a.length∧a.take i=b.take i)]) (fun i=>a.length-i) 0 ⟨rfl,trivial⟩ .nil ⟨Has.pure (⟨by omega,rfl⟩),trivial⟩ ?_;rintro i;refine cD (Has.of mT0) fun hinv4=>?_;refine sr<|sp hT ?_;refine nn<|bA<|bH rfl (fun hc14=>?_) (fun hc14=>?_)
  · have hc14:=of_decide_eq_true hc14;refine bK<|bB<|bA<|bT<|sr<|sp2 hT ?_;refine nn<|bA<|cU _ _ [(true,0),(true,1),(true,2),(true,3),(true,4),(true,5),(true,6),(true,7),(true,8)] cY (by decide+kernel) .nil bF.self ?_;refine puM hT ?_;refine puM hT ?_
    obtain⟨x1,hx2⟩: ∃x',a[i]?=some x':=⟨_,List.getElem?_eq_getElem (by omega)⟩
    refine stM rfl (bS hT (k:=i) (bJ (Has.of mT1)) rfl rfl rfl rfl rfl rfl rfl (by omega)) ?_;refine stM rfl (bZ hT (cR.knows (bJ (Has.of mT1)) (k:=i) (x:=x1) hx2 0) rfl rfl rfl rfl rfl) ?_;refine puM hT ?_;refine puM hT ?_
    obtain⟨x3,hx4⟩: ∃x',b[i]?=some x':=⟨_,List.getElem?_eq_getElem (by omega)⟩
    refine stM rfl (bS hT (k:=i) (bJ (Has.of mT2)) rfl rfl rfl rfl rfl rfl rfl (by omega)) ?_;refine stM rfl (bZ hT (cR.knows (bJ (Has.of mT2)) (k:=i) (x:=x3) hx4 0) rfl rfl rfl rfl rfl) ?_;refine puM hT ?_;refine cK<|bB<|bH rfl (fun hc24=>?_) (fun hc24=>?_)
    · have hc24:=bne_iff_ne.1 hc24;refine sr<|sp hT ?_;refine nn<|bG<|bI<|bC<|bC<|bI<|bC ?_;exact bR () rfl (bD rfl) .nil trivial (rZ (not_take hx2 hx4 (by assumption)))
    have hc24:=bne_eq_false_iff_eq.1 hc24;refine bK<|cA<|bB<|bE<|sp hT ?_;refine bP (z':=(((i+1):Nat):Int)) (cL (by omega) (by omega)) ?_;refine sp hT ?_;refine nn ?_;exact cP (i+1) (by omega) ⟨rfl,trivial⟩ ⟨rfl,rfl,rfl,trivial⟩ .nil ⟨Has.pure (⟨by omega,bLl hinv4.2 hx2 hx4 (by assumption)⟩),trivial⟩ (bF.drop 1)
  have hc14:=Int.not_lt.1 (of_decide_eq_false hc14);refine cW<|cM<|cM<|cX<|bB<|sr<|sp hT ?_;refine nn<|bG ?_;exact bR () rfl (bD rfl) .nil trivial (bHx (take_all hinv4.2 (by omega) (by omega)))
end Go.Proofs.YtbgdphbebhjpiaaGreatDoor
namespace Go.Proofs.YtbgdphbebhjpiaaGreatDoor
open Go.RowKit
section
variable {f a b : Int} {two : Bool}
theorem pM(h:f<1∨17<f):Value.bool false= .bool (gD f two):=by rw [gD,if_pos h]
theorem zT(_h1: ¬f<1)(_h2: ¬17<f)(h:f=16):Value.bool (!two)= .bool (gD f two):=by rw [gD,if_neg (by omega),if_pos h]
theorem bAr(h1: ¬f<1)(h2: ¬17<f)(h:f≠16)(ht:two=true):Value.bool true= .bool (gD f two):=by rw [gD,if_neg (by omega),if_neg h,ht];rfl
theorem zH(h1: ¬f<1)(h2: ¬17<f)(h:f≠16)(ht:two=false):Value.bool (decide (f≤7))= .bool (gD f two):=by rw [gD,if_neg (by omega),if_neg h,ht];rfl
theorem rest_a(h:a.tmod b≠0)(h2:decide (a.tmod b<0)≠decide (b<0)):Value.int .i64 (w64 (a.tmod b+b))= .int .i64 (sP a b):=by rw [sP,if_pos ⟨h,h2⟩]
theorem rest_b(h2:decide (a.tmod b<0)=decide (b<0)):Value.int .i64 (a.tmod b)= .int .i64 (sP a b):=by rw [sP,if_neg (fun h=>h.2 h2)]
theorem rest_c(h:a.tmod b=0):Value.int .i64 (a.tmod b)= .int .i64 (sP a b):=by rw [sP,if_neg (fun h'=>h'.1 h)]
theorem nz4(hr:gQ f a b=false)(h:f=4):b≠0:=by
  rw [gQ,if_pos h] at hr
  simpa using hr
theorem nn17(hr:gQ f a b=false)(h:f=17):0≤b:=by
  rw [gQ,if_neg (by omega),if_pos h] at hr
  simpa using hr
theorem big1_t(h:1<IntKind.u64.wrap a):big1 a=true:=decide_eq_true h
theorem big1_g(h:IntKind.u64.wrap a≤1):big1 a=false:=decide_eq_false (by omega)
theorem dy1(h:f=1):Value.int .i64 (w64 (a+b))= .int .i64 (qG f a b):=by subst h;rfl
theorem dy2(h:f=2):Value.int .i64 (w64 (a-b))= .int .i64 (qG f a b):=by subst h;rfl
theorem dy3(h:f=3):Value.int .i64 (w64 (a*b))= .int .i64 (qG f a b):=by subst h;rfl
theorem dy4a(h:f=4)(hn:sP a b≠a.tmod b):Value.int .i64 (w64 (w64 (a.tdiv b)-1))= .int .i64 (qG f a b):=by
  subst h;show _=Value.int .i64 (divW a b);rw [divW,if_pos hn]
theorem dy4b(h:f=4)(hn:sP a b=a.tmod b):Value.int .i64 (w64 (a.tdiv b))= .int .i64 (qG f a b):=by
  subst h;show _=Value.int .i64 (divW a b);rw [divW,if_neg (fun e=>e hn)]
theorem dy5a(h:f=5)(h0:a=0):Value.int .i64 b= .int .i64 (qG f a b):=by subst h h0;rfl
theorem dy5b(h:f=5)(h0:a≠0):Value.int .i64 (sP b a)= .int .i64 (qG f a b):=by
  subst h;show _=Value.int .i64 (if a=0 then b else sP b a);rw [if_neg h0]
theorem dy6(h:f=6):Value.int .i64 (if b<a then b else a)= .int .i64 (qG f a b):=by subst h;rfl
theorem dy7(h:f=7):Value.int .i64 (if b>a then b else a)= .int .i64 (qG f a b):=by subst h;rfl
theorem dy14(h:f=14):Value.int .i64 (andW a b)= .int .i64 (qG f a b):=by subst h;rfl
theorem dy15(h:f=15):Value.int .i64 (orW a b)= .int .i64 (qG f a b):=by subst h;rfl
theorem dy17(h:f=17):Value.int .i64 (yY a b)= .int .i64 (qG f a b):=by subst h;rfl
theorem dyE(h1:f≠1)(h2:f≠2)(h3:f≠3)(h4:f≠4)(h5:f≠5)(h6:f≠6)(h7:f≠7)(h8:f≠14)(h9:f≠15)(h10:f≠17):Value.int .i64 (uQ (uJ f a b))= .int .i64 (qG f a b):=by
  simp only [qG,h1,h2,h3,h4,h5,h6,h7,h8,h9,h10,if_false]
theorem mo1(h:gD f false=false):Value.tuple #[.int .i64 0,.int .i64 10]= .tuple #[.int .i64 (gW f a).1,.int .i64 (gW f a).2]:=by simp [gW,h]
theorem mo2(h:f=2):Value.tuple #[.int .i64 (w64 (0-a)),.int .i64 0]= .tuple #[.int .i64 (gW f a).1,.int .i64 (gW f a).2]:=by subst h;rfl
theorem mo3(h:f=3):Value.tuple #[.int .i64 (w64 (uQ (decide (0<a))-uQ (decide (a<0)))),.int .i64 0]= .tuple #[.int .i64 (gW f a).1,.int .i64 (gW f a).2]:=by subst h;rfl
theorem mo4(h:f=4):Value.tuple #[.int .i64 (oP f 1 a).1,.int .i64 (oP f 1 a).2]= .tuple #[.int .i64 (gW f a).1,.int .i64 (gW f a).2]:=by subst h;rfl
theorem mo5(h:f=5):Value.tuple #[.int .i64 (if w64 (0-a)>a then w64 (0-a) else a),.int .i64 0]= .tuple #[.int .i64 (gW f a).1,.int .i64 (gW f a).2]:=by subst h;rfl
theorem mo16a(h:f=16)(hb:big1 a=true):Value.tuple #[.int .i64 0,.int .i64 11]= .tuple #[.int .i64 (gW f a).1,.int .i64 (gW f a).2]:=by
  subst h;have e:gW 16 a=if big1 a=true then (0,11) else (xorW a 1,0):=rfl
  rw [e,if_pos hb]
theorem mo16b(h:f=16)(hb:big1 a=false):Value.tuple #[.int .i64 (xorW a 1),.int .i64 0]= .tuple #[.int .i64 (gW f a).1,.int .i64 (gW f a).2]:=by
  subst h;have e:gW 16 a=if big1 a=true then (0,11) else (xorW a 1,0):=rfl
  rw [e,if_neg (by rw [hb];simp)]
theorem moE(ht:gD f false=true)(h2:f≠2)(h3:f≠3)(h4:f≠4)(h5:f≠5)(h6:f≠16):Value.tuple #[.int .i64 a,.int .i64 0]= .tuple #[.int .i64 (gW f a).1,.int .i64 (gW f a).2]:=by
  simp only [gW,ht,h2,h3,h4,h5,h6,if_false,Bool.true_eq_false]
end
theorem and_one(m:Nat):w64 (((BitVec.ofInt 64 (m:Int))&&&(BitVec.ofInt 64 1)).toNat:Nat)=((m%2:Nat):Int):=by
  have e1:(BitVec.ofInt 64 (m:Int))=BitVec.ofNat 64 m:=by simp
  have e2:(BitVec.ofInt 64 1)=BitVec.ofNat 64 1:=by decide
  rw [e1,e2,BitVec.toNat_and,BitVec.toNat_ofNat,BitVec.toNat_ofNat];have e3:(m%2^64)&&&(1%2^64)=(m%2^64)%2:=Nat.and_one_is_mod _;rw [e3];have e4:(m%2^64)%2=m%2:=by omega
  rw [e4];exact vG (by omega) (by omega)
section
variable {k m : Nat} {p a r : Int}
theorem raised_end(h:lB k p a m=r)(hm:m=0):r=p:=by
  cases k with
  | zero=>exact h.symm
  | succ k=>
    rw [lB,if_pos hm] at h;exact h.symm
theorem bCy(h:lB k p a m=r)(hk:m<k)(hm:0<m):lB (k-1) (if m%2=1 then w64 (p*a) else p) (w64 (a*a)) (m/2)=r:=by
  obtain⟨k,rfl⟩: ∃j,k=j+1:=⟨k-1,by omega⟩
  rw [lB,if_neg (by omega)] at h;exact h
theorem bHn(h:lB k p a m=r)(hk:m<k)(hm:0<m)(h1:m%2=1):lB (k-1) (w64 (p*a)) (w64 (a*a)) (m/2)=r:=by
  have:=bCy h hk hm;rw [if_pos h1] at this;exact this
theorem bEi(h:lB k p a m=r)(hk:m<k)(hm:0<m)(h1: ¬m%2=1):lB (k-1) p (w64 (a*a)) (m/2)=r:=by
  have:=bCy h hk hm;rw [if_neg h1] at this;exact this
end
set_option maxRecDepth 100000 in
theorem lQ(f:Int)(two:Bool):dH Tryz.prog 112 [.int .u8 f,.bool two] [] [] (fun(_:Unit)=> .bool (gD f two)) (fun _=>[]) (fun _=>[]):=by
  have hT:=dA;refine cQ Tryz.func112 rfl Tryz.ntmps112 rfl ?_;intro β hM;refine sr<|sp hT ?_;refine nn<|bA<|bT<|sr<|sp3 hT ?_;refine cF (fun hg8=>?_) (fun hg8=>?_)
  · have hg8:=of_decide_eq_true hg8;refine sk2 ?_;refine sp2 hT ?_;refine nn<|cI rfl rfl ?_;refine sr<|sp hT ?_;refine nn<|bG<|bI<|bC ?_;exact bR () rfl (bD rfl) .nil trivial (by first | exact pM (.inl (by omega)) | exact pM (.inr (by omega)) | exact zT (by omega) (by omega) (by omega) | exact bAr (by omega) (by omega) (by omega) (by assumption) | exact zH (by omega) (by omega) (by omega) (by assumption))
  have hg8:=Int.not_lt.1 (of_decide_eq_false hg8);refine sp4 hT ?_;refine nn<|bH rfl (fun hc5=>?_) (fun hc5=>?_)
  · have hc5:=of_decide_eq_true hc5;refine sr<|sp hT ?_;refine nn<|bG<|bI<|bC ?_;exact bR () rfl (bD rfl) .nil trivial (by first | exact pM (.inl (by omega)) | exact pM (.inr (by omega)) | exact zT (by omega) (by omega) (by omega) | exact bAr (by omega) (by omega) (by omega) (by assumption) | exact zH (by omega) (by omega) (by omega) (by assumption))
  have hc5:=Int.not_lt.1 (of_decide_eq_false hc5);refine sr<|sp3 hT ?_;refine nn<|bH rfl (fun hc12=>?_) (fun hc12=>?_)
  · have hc12:=eq_of_beq hc12;refine sr<|sp3 hT ?_;refine nn<|bG<|bI<|bC ?_;exact bR () rfl (bD rfl) .nil trivial (by first | exact pM (.inl (by omega)) | exact pM (.inr (by omega)) | exact zT (by omega) (by omega) (by omega) | exact bAr (by omega) (by omega) (by omega) (by assumption) | exact zH (by omega) (by omega) (by omega) (by assumption))
  have hc12:=beq_eq_false_iff_ne.1 hc12;refine bK<|cA<|bB<|sr<|sp2 hT ?_;refine cF (fun hg18=>?_) (fun hg18=>?_)
  · refine sk2 ?_;refine sp2 hT ?_;refine nn<|bG ?_;exact bR () rfl (bD rfl) .nil trivial (by first | exact pM (.inl (by omega)) | exact pM (.inr (by omega)) | exact zT (by omega) (by omega) (by omega) | exact bAr (by omega) (by omega) (by omega) (by assumption) | exact zH (by omega) (by omega) (by omega) (by assumption))
  refine sp4 hT ?_;refine nn<|bG ?_;exact bR () rfl (bD rfl) .nil trivial (by first | exact pM (.inl (by omega)) | exact pM (.inr (by omega)) | exact zT (by omega) (by omega) (by omega) | exact bAr (by omega) (by omega) (by omega) (by assumption) | exact zH (by omega) (by omega) (by omega) (by assumption))
set_option maxRecDepth 100000 in
theorem bNi(a b:Int)(hb:b≠0):dH Tryz.prog 262 [.int .i64 a,.int .i64 b] [] [] (fun(_:Unit)=> .int .i64 (sP a b)) (fun _=>[]) (fun _=>[]):=by
  have hT:=dA;refine cQ Tryz.func262 rfl Tryz.ntmps262 rfl ?_;intro β hM;refine sr<|sp hT ?_;refine nn<|sr<|sp2 hT ?_;refine ss (bIh rfl rfl rfl (hb)) ?_;refine sp hT ?_;refine nn<|bA<|sr<|sp3 hT ?_;refine cF (fun hg11=>?_) (fun hg11=>?_)
  · have hg11:=bne_iff_ne.1 hg11;refine sp4 hT ?_;refine sp2 hT ?_;refine nn<|bH rfl (fun hc17=>?_) (fun hc17=>?_)
    · have hc17:=bne_iff_ne.1 hc17;refine bE<|sp4 hT ?_;refine nn<|sr<|sp2 hT ?_;refine nn<|bG ?_;exact bR () rfl (bD rfl) .nil trivial (by first | exact rest_a (by assumption) (by assumption) | exact rest_b (by assumption) | exact rest_c (by assumption))
    have hc17:=bne_eq_false_iff_eq.1 hc17;refine bK<|bB<|sr<|sp2 hT ?_;refine nn<|bG ?_;exact bR () rfl (bD rfl) .nil trivial (by first | exact rest_a (by assumption) (by assumption) | exact rest_b (by assumption) | exact rest_c (by assumption))
  have hg11:=bne_eq_false_iff_eq.1 hg11;refine sk4 ?_;refine sk ?_;refine sp hT ?_;refine nn<|cN rfl rfl ?_;refine bK<|bB<|sr<|sp2 hT ?_;refine nn<|bG ?_;exact bR () rfl (bD rfl) .nil trivial (by first | exact rest_a (by assumption) (by assumption) | exact rest_b (by assumption) | exact rest_c (by assumption))
set_option maxRecDepth 100000 in
theorem xT(t:Bool):dH Tryz.prog 177 [.bool t] [] [] (fun(_:Unit)=> .int .i64 (uQ t)) (fun _=>[]) (fun _=>[]):=by
  have hT:=dA;refine cQ Tryz.func177 rfl Tryz.ntmps177 rfl ?_;intro β hM;refine sr<|sp hT ?_;refine nn<|bA<|sr<|sp hT ?_;refine nn<|bH rfl (fun hc3=>?_) (fun hc3=>?_)
  · refine sr<|sp hT ?_;refine nn<|bG<|bC ?_;exact bR () rfl (bD rfl) .nil trivial (by simp [uQ, *])
  refine bK<|bB<|sr<|sp hT ?_;refine nn<|bG ?_;exact bR () rfl (bD rfl) .nil trivial (by simp [uQ, *])
set_option maxRecDepth 100000 in
theorem refuses_spec(f a b:Int):dH Tryz.prog 229 [.int .u8 f,.int .i64 a,.int .i64 b] [] [] (fun(_:Unit)=> .bool (gQ f a b)) (fun _=>[]) (fun _=>[]):=by
  have hT:=dA;refine cQ Tryz.func229 rfl Tryz.ntmps229 rfl ?_;intro β hM;refine sr<|sp hT ?_;refine nn<|bA<|sr<|sp hT ?_;refine nn<|bT<|sr<|sp2 hT ?_;refine nn<|bH rfl (fun hc8=>?_) (fun hc8=>?_)
  · have hc8_r:=hc8;have hc8:=eq_of_beq hc8;refine sr<|sp3 hT ?_;refine nn<|bG<|bI<|bC ?_;exact bR () rfl (bD rfl) .nil trivial (by first | (simp [gQ, *];done) | (simp [gQ, *];rfl))
  have hc8_r:=hc8;have hc8:=beq_eq_false_iff_ne.1 hc8;refine sr<|sp2 hT ?_;refine nn<|bH rfl (fun hc12=>?_) (fun hc12=>?_)
  · have hc12_r:=hc12;have hc12:=eq_of_beq hc12;refine sr<|sp3 hT ?_;refine nn<|bG<|bI<|bC ?_;exact bR () rfl (bD rfl) .nil trivial (by first | (simp [gQ, *];done) | (simp [gQ, *];rfl))
  have hc12_r:=hc12;have hc12:=beq_eq_false_iff_ne.1 hc12;refine bA<|sr<|sp2 hT ?_;refine nn<|bH rfl (fun hc16=>?_) (fun hc16=>?_)
  · have hc16_r:=hc16;have hc16:=eq_of_beq hc16;refine bK<|bB<|cI rfl hc16_r ?_;refine sr<|sp4 hT ?_;refine cF (fun hg22=>?_) (fun hg22=>?_)
    · have hg22:=of_decide_eq_true hg22;have hb1:=big1_t (a:=a) (by assumption);refine sk3 ?_;refine sp2 hT ?_;refine nn<|bG<|bI<|bC ?_;exact bR () rfl (bD rfl) .nil trivial (by first | (simp [gQ, *];done) | (simp [gQ, *];rfl))
    have hg22:=Int.not_lt.1 (of_decide_eq_false hg22);have hb1:=big1_g (a:=a) (by assumption);refine sp4 hT ?_;refine sp hT ?_;refine nn<|bG<|bI<|bC ?_;exact bR () rfl (bD rfl) .nil trivial (by first | (simp [gQ, *];done) | (simp [gQ, *];rfl))
  have hc16_r:=hc16;have hc16:=beq_eq_false_iff_ne.1 hc16;refine bE<|sp2 hT ?_;refine nn<|bH rfl (fun hc16_1=>?_) (fun hc16_1=>?_)
  · have hc16_1_r:=hc16_1;have hc16_1:=eq_of_beq hc16_1;refine sr<|sp4 hT ?_;refine cF (fun hg22=>?_) (fun hg22=>?_)
    · have hg22:=of_decide_eq_true hg22;have hb1:=big1_t (a:=a) (by assumption);refine sk3 ?_;refine sp2 hT ?_;refine nn<|bG<|bI<|bC ?_;exact bR () rfl (bD rfl) .nil trivial (by first | (simp [gQ, *];done) | (simp [gQ, *];rfl))
    have hg22:=Int.not_lt.1 (of_decide_eq_false hg22);have hb1:=big1_g (a:=a) (by assumption);refine sp4 hT ?_;refine sp hT ?_;refine nn<|bG<|bI<|bC ?_;exact bR () rfl (bD rfl) .nil trivial (by first | (simp [gQ, *];done) | (simp [gQ, *];rfl))
  have hc16_1_r:=hc16_1;have hc16_1:=beq_eq_false_iff_ne.1 hc16_1;refine bK<|cA<|bB<|sr<|sp hT ?_;refine nn<|bG ?_;exact bR () rfl (bD rfl) .nil trivial (by first | (simp [gQ, *];done) | (simp [gQ, *];rfl))
set_option maxRecDepth 100000 in
theorem raised_spec(a:Int)(m:Nat):dH Tryz.prog 263 [.int .i64 a,.int .i64 (m:Nat)] [] [] (fun(_:Unit)=> .int .i64 (yY a (m:Nat))) (fun _=>[]) (fun _=>[]):=by
  have hT:=dA;generalize hR:yY a (m:Nat)=r;refine cQ Tryz.func263 rfl Tryz.ntmps263 rfl ?_;intro β hM;refine sr<|sp hT ?_;refine nn<|sr<|sp hT ?_;refine nn<|bA<|bT<|dD (ι:=Nat×Int×Int×Nat) [] trivial (fun⟨k,p,a,m⟩=>[(0,.int .i64 a),(1,.int .i64 (m:Nat)),(5,.int .i64 p)]) (fun _=>[]) (fun⟨k,p,a,m⟩=>[Fact.pure (m<k∧lB k p a m=r)]) (fun⟨k,p,a,m⟩=>m) (m+1,1,a,m) ⟨rfl,rfl,rfl,trivial⟩ .nil ⟨Has.pure (⟨by omega,by rw [←hR,yY,Int.toNat_natCast]⟩),trivial⟩ ?_;rintro⟨k,p,a,m⟩;dsimp only;refine cD (Has.of mT0) fun hinv2=>?_;refine bA<|sr<|sp2 hT ?_;refine nn<|bH rfl (fun hc7=>?_) (fun hc7=>?_)
  · have hc7:=of_decide_eq_true hc7;refine bK<|bB<|bA<|bT<|bA<|sr<|sp2 hT ?_;refine bP (z':=((m%2:Nat):Int)) (and_one m) ?_;refine sp hT ?_;refine nn<|bH rfl (fun hc12=>?_) (fun hc12=>?_)
    · have hc12:=eq_of_beq hc12;refine bE<|sp4 hT ?_;refine nn<|bE<|sp4 hT ?_;refine dU<|cA<|bB<|bE<|sp hT ?_;refine ss (sti_half rfl rfl rfl (by decide)) ?_;refine bP (z':=((m/2:Nat):Int)) (halfN m) ?_;refine sp hT ?_;refine nn ?_;exact cP (k-1,_,_,m/2) (by dsimp only;omega) ⟨rfl,rfl,rfl,trivial⟩ trivial .nil ⟨Has.pure (⟨by dsimp only;omega,by first | exact bHn hinv2.2 hinv2.1 (by omega) (by omega) | exact bEi hinv2.2 hinv2.1 (by omega) (by omega)⟩),trivial⟩ (bF.drop 1)
    have hc12:=beq_eq_false_iff_ne.1 hc12;refine bK<|bB<|bE<|sp4 hT ?_;refine dU<|cA<|bB<|bE<|sp hT ?_;refine ss (sti_half rfl rfl rfl (by decide)) ?_;refine bP (z':=((m/2:Nat):Int)) (halfN m) ?_;refine sp hT ?_;refine nn ?_;exact cP (k-1,_,_,m/2) (by dsimp only;omega) ⟨rfl,rfl,rfl,trivial⟩ trivial .nil ⟨Has.pure (⟨by dsimp only;omega,by first | exact bHn hinv2.2 hinv2.1 (by omega) (by omega) | exact bEi hinv2.2 hinv2.1 (by omega) (by omega)⟩),trivial⟩ (bF.drop 1)
  have hc7:=Int.not_lt.1 (of_decide_eq_false hc7);refine cW<|cM<|cM<|cX<|bB<|sr<|sp2 hT ?_;refine nn<|bG ?_;have hr:=raised_end hinv2.2 (by omega);subst hr;exact bR () rfl (bD rfl) .nil trivial rfl
set_option maxRecDepth 100000 in
theorem holds_spec(f a b:Int):dH Tryz.prog 264 [.int .u8 f,.int .i64 a,.int .i64 b] [] [] (fun(_:Unit)=> .bool (uJ f a b)) (fun _=>[]) (fun _=>[]):=by
  have hT:=dA;refine cQ Tryz.func264 rfl Tryz.ntmps264 rfl ?_;intro β hM;refine sr<|sp hT ?_;refine nn<|bA<|sr<|sp hT ?_;refine nn<|bT<|sr<|sp2 hT ?_;refine nn<|bH rfl (fun hc8=>?_) (fun hc8=>?_)
  · have hc8:=eq_of_beq hc8;refine sr<|sp4 hT ?_;refine nn<|bG<|bI<|bC ?_;exact bR () rfl (bD rfl) .nil trivial (by simp [uJ, *])
  have hc8:=beq_eq_false_iff_ne.1 hc8;refine sr<|sp2 hT ?_;refine nn<|bH rfl (fun hc13=>?_) (fun hc13=>?_)
  · have hc13:=eq_of_beq hc13;refine sr<|sp4 hT ?_;refine nn<|bG<|bI<|bC ?_;exact bR () rfl (bD rfl) .nil trivial (by simp [uJ, *])
  have hc13:=beq_eq_false_iff_ne.1 hc13;refine sr<|sp2 hT ?_;refine nn<|bH rfl (fun hc18=>?_) (fun hc18=>?_)
  · have hc18:=eq_of_beq hc18;refine sr<|sp4 hT ?_;refine nn<|bG<|bI<|bC ?_;exact bR () rfl (bD rfl) .nil trivial (by simp [uJ, *])
  have hc18:=beq_eq_false_iff_ne.1 hc18;refine sr<|sp2 hT ?_;refine nn<|bH rfl (fun hc23=>?_) (fun hc23=>?_)
  · have hc23:=eq_of_beq hc23;refine sr<|sp4 hT ?_;refine nn<|bG<|bI<|bC ?_;exact bR () rfl (bD rfl) .nil trivial (by simp [uJ, *])
  have hc23:=beq_eq_false_iff_ne.1 hc23;refine sr<|sp2 hT ?_;refine nn<|bH rfl (fun hc28=>?_) (fun hc28=>?_)
  · have hc28:=eq_of_beq hc28;refine sr<|sp4 hT ?_;refine nn<|bG<|bI<|bC ?_;exact bR () rfl (bD rfl) .nil trivial (by simp [uJ, *])
  have hc28:=beq_eq_false_iff_ne.1 hc28;refine bK<|cA<|bB<|sr<|sp4 hT ?_;refine nn<|bG ?_;exact bR () rfl (bD rfl) .nil trivial (by simp [uJ, *])
set_option maxRecDepth 100000 in
theorem dyad_spec(f a b:Int)(hr:gQ f a b=false):dH Tryz.prog 230 [.int .u8 f,.int .i64 a,.int .i64 b] [] [] (fun(_:Unit)=> .int .i64 (qG f a b)) (fun _=>[]) (fun _=>[]):=by
  have hT:=dA;refine cQ Tryz.func230 rfl Tryz.ntmps230 rfl ?_;intro β hM;refine sr<|sp hT ?_;refine nn<|bA<|sr<|sp hT ?_;refine nn<|bT<|sr<|sp2 hT ?_;refine nn<|bH rfl (fun hc9=>?_) (fun hc9=>?_)
  · have hc9:=eq_of_beq hc9;refine sr<|sp4 hT ?_;refine nn<|bG<|bI<|bC ?_;exact bR () rfl (bD rfl) .nil trivial (dy1 (by assumption))
  have hc9:=beq_eq_false_iff_ne.1 hc9;refine sr<|sp2 hT ?_;refine nn<|bH rfl (fun hc14=>?_) (fun hc14=>?_)
  · have hc14:=eq_of_beq hc14;refine sr<|sp4 hT ?_;refine nn<|bG<|bI<|bC ?_;exact bR () rfl (bD rfl) .nil trivial (dy2 (by assumption))
  have hc14:=beq_eq_false_iff_ne.1 hc14;refine sr<|sp2 hT ?_;refine nn<|bH rfl (fun hc19=>?_) (fun hc19=>?_)
  · have hc19:=eq_of_beq hc19;refine sr<|sp4 hT ?_;refine nn<|bG<|bI<|bC ?_;exact bR () rfl (bD rfl) .nil trivial (dy3 (by assumption))
  have hc19:=beq_eq_false_iff_ne.1 hc19;refine sr<|sp2 hT ?_;refine nn<|bH rfl (fun hc24=>?_) (fun hc24=>?_)
  · have hc24:=eq_of_beq hc24;refine sr<|sp2 hT ?_;refine ss (sY rfl rfl rfl (nz4 hr (by assumption))) ?_;refine sp hT ?_;refine nn<|bA<|bA<|cU _ _ [(true,0),(true,1),(true,3),(true,4),(true,5),(false,2),(true,6)] cY (by decide+kernel) .nil bF.self ?_;refine puM hT ?_;refine puM hT ?_;refine puM hT ?_;refine puM hT ?_;refine stM rfl (bIh rfl rfl rfl (nz4 hr (by assumption))) ?_;refine cC (o:=_) rfl ?_;refine bO Tryz.func262 (bNi _ _ (nz4 hr (by assumption))) rfl rfl .nil trivial fun _=>?_;refine cB .nil trivial ?_;refine puM hT ?_;refine cK<|bB<|bH rfl (fun hc35=>?_) (fun hc35=>?_)
    · have hc35:=bne_iff_ne.1 hc35;refine bE<|sp3 hT ?_;refine nn<|sr<|sp2 hT ?_;refine nn<|bG<|bI<|bC ?_;exact bR () rfl (bD rfl) .nil trivial (dy4a (by assumption) (by assumption))
    have hc35:=bne_eq_false_iff_eq.1 hc35;refine bK<|bB<|sr<|sp2 hT ?_;refine nn<|bG<|bI<|bC ?_;exact bR () rfl (bD rfl) .nil trivial (dy4b (by assumption) (by assumption))
  have hc24:=beq_eq_false_iff_ne.1 hc24;refine sr<|sp2 hT ?_;refine nn<|bH rfl (fun hc39=>?_) (fun hc39=>?_)
  · have hc39:=eq_of_beq hc39;refine bA<|sr<|sp2 hT ?_;refine nn<|bH rfl (fun hc42=>?_) (fun hc42=>?_)
    · have hc42:=eq_of_beq hc42;refine sr<|sp2 hT ?_;refine nn<|bG<|bC<|bI<|bC ?_;exact bR () rfl (bD rfl) .nil trivial (dy5a (by assumption) (by assumption))
    have hc42:=beq_eq_false_iff_ne.1 hc42;refine bK<|bB<|sr<|sp2 hT ?_;refine bO Tryz.func262 (bNi _ _ (by assumption)) rfl rfl .nil trivial fun _=>?_;refine sp hT ?_;refine nn<|bG<|bI<|bC ?_;exact bR () rfl (bD rfl) .nil trivial (dy5b (by assumption) (by assumption))
  have hc39:=beq_eq_false_iff_ne.1 hc39;refine sr<|sp2 hT ?_;refine nn<|bH rfl (fun hc47=>?_) (fun hc47=>?_)
  · have hc47:=eq_of_beq hc47;refine sr<|sp4 hT ?_;refine nn<|bG<|bI<|bC ?_;exact bR () rfl (bD rfl) .nil trivial (dy6 (by assumption))
  have hc47:=beq_eq_false_iff_ne.1 hc47;refine sr<|sp2 hT ?_;refine nn<|bH rfl (fun hc52=>?_) (fun hc52=>?_)
  · have hc52:=eq_of_beq hc52;refine sr<|sp4 hT ?_;refine nn<|bG<|bI<|bC ?_;exact bR () rfl (bD rfl) .nil trivial (dy7 (by assumption))
  have hc52:=beq_eq_false_iff_ne.1 hc52;refine sr<|sp2 hT ?_;refine nn<|bH rfl (fun hc57=>?_) (fun hc57=>?_)
  · have hc57:=eq_of_beq hc57;refine sr<|sp4 hT ?_;refine nn<|bG<|bI<|bC ?_;exact bR () rfl (bD rfl) .nil trivial (dy14 (by assumption))
  have hc57:=beq_eq_false_iff_ne.1 hc57;refine sr<|sp2 hT ?_;refine nn<|bH rfl (fun hc62=>?_) (fun hc62=>?_)
  · have hc62:=eq_of_beq hc62;refine sr<|sp4 hT ?_;refine nn<|bG<|bI<|bC ?_;exact bR () rfl (bD rfl) .nil trivial (dy15 (by assumption))
  have hc62:=beq_eq_false_iff_ne.1 hc62;refine sr<|sp2 hT ?_;refine nn<|bH rfl (fun hc67=>?_) (fun hc67=>?_)
  · have hc67:=eq_of_beq hc67;refine bA ?_
    obtain⟨m,hm⟩: ∃m:Nat,b=(m:Int):=⟨b.toNat,by have:=nn17 hr (by assumption);omega⟩
    subst hm;refine bE<|sp2 hT ?_;refine bO Tryz.func263 (raised_spec a m) rfl rfl .nil trivial fun _=>?_;refine sp hT ?_;refine nn<|bG<|bI<|bC ?_;exact bR () rfl (bD rfl) .nil trivial (dy17 (by assumption))
  have hc67:=beq_eq_false_iff_ne.1 hc67;refine bK<|cA<|bB<|sr<|sp3 hT ?_;refine bO Tryz.func264 (holds_spec _ _ _) rfl rfl .nil trivial fun _=>?_;refine bO Tryz.func177 (xT _) rfl rfl .nil trivial fun _=>?_;refine sp hT ?_;refine nn<|bG ?_;exact bR () rfl (bD rfl) .nil trivial (dyE (by assumption) (by assumption) (by assumption) (by assumption) (by assumption) (by assumption) (by assumption) (by assumption) (by assumption) (by assumption))
set_option maxRecDepth 100000 in
theorem bNp(f a b:Int):dH Tryz.prog 178 [.int .u8 f,.int .i64 a,.int .i64 b] [] [] (fun(_:Unit)=> .tuple #[.int .i64 (oP f a b).1,.int .i64 (oP f a b).2]) (fun _=>[]) (fun _=>[]):=by
  have hT:=dA;refine cQ Tryz.func178 rfl Tryz.ntmps178 rfl ?_;intro β hM;refine sr<|sp2 hT ?_;refine nn<|bA<|sr<|sp hT ?_;refine bO Tryz.func112 (lQ _ _) rfl rfl .nil trivial fun _=>?_;refine sp hT ?_;refine nn<|bH rfl (fun hc10=>?_) (fun hc10=>?_)
  · have hc10:=gC hc10;refine sr<|sp2 hT ?_;refine nn<|bG<|bC ?_;exact bM () rfl (bD rfl) (bD rfl) .nil trivial (by simp [oP, *])
  have hc10:=fN hc10;refine bK<|bB<|bA<|sr<|sp3 hT ?_;refine bO Tryz.func229 (refuses_spec _ _ _) rfl rfl .nil trivial fun _=>?_;refine nn<|bH rfl (fun hc14=>?_) (fun hc14=>?_)
  · refine sr<|sp2 hT ?_;refine nn<|bG<|bC ?_;exact bM () rfl (bD rfl) (bD rfl) .nil trivial (by simp [oP, *])
  refine bK<|bB<|sr<|sp3 hT ?_;refine bO Tryz.func230 (dyad_spec _ _ _ (by assumption)) rfl rfl .nil trivial fun _=>?_;refine sp2 hT ?_;refine nn<|bG ?_;exact bM () rfl (bD rfl) (bD rfl) .nil trivial (by simp [oP, *])
set_option maxRecDepth 100000 in
theorem Monad_spec(f a:Int):dH Tryz.prog 113 [.int .u8 f,.int .i64 a] [] [] (fun(_:Unit)=> .tuple #[.int .i64 (gW f a).1,.int .i64 (gW f a).2]) (fun _=>[]) (fun _=>[]):=by
  have hT:=dA;refine cQ Tryz.func113 rfl Tryz.ntmps113 rfl ?_;intro β hM;refine sr<|sp2 hT ?_;refine nn<|bA<|sr<|sp hT ?_;refine bO Tryz.func112 (lQ _ _) rfl rfl .nil trivial fun _=>?_;refine sp hT ?_;refine nn<|bH rfl (fun hc8=>?_) (fun hc8=>?_)
  · have hc8:=gC hc8;refine sr<|sp2 hT ?_;refine nn<|bG<|bC ?_;exact bM () rfl (bD rfl) (bD rfl) .nil trivial (mo1 (by assumption))
  have hc8:=fN hc8;refine bK<|bB<|bA<|sr<|sp hT ?_;refine nn<|bT<|sr<|sp2 hT ?_;refine nn<|bH rfl (fun hc10=>?_) (fun hc10=>?_)
  · have hc10:=eq_of_beq hc10;refine sr<|sp4 hT ?_;refine nn<|bG<|bI<|bC ?_;exact bM () rfl (bD rfl) (bD rfl) .nil trivial (mo2 (by assumption))
  have hc10:=beq_eq_false_iff_ne.1 hc10;refine sr<|sp2 hT ?_;refine nn<|bH rfl (fun hc14=>?_) (fun hc14=>?_)
  · have hc14:=eq_of_beq hc14;refine sr<|sp2 hT ?_;refine bO Tryz.func177 (xT _) rfl rfl .nil trivial fun _=>?_;refine sp2 hT ?_;refine bO Tryz.func177 (xT _) rfl rfl .nil trivial fun _=>?_;refine sp3 hT ?_;refine nn<|bG<|bI<|bC ?_;exact bM () rfl (bD rfl) (bD rfl) .nil trivial (mo3 (by assumption))
  have hc14:=beq_eq_false_iff_ne.1 hc14;refine sr<|sp2 hT ?_;refine nn<|bH rfl (fun hc23=>?_) (fun hc23=>?_)
  · have hc23:=eq_of_beq hc23;refine sr<|sp2 hT ?_;refine bO Tryz.func178 (bNp _ _ _) rfl rfl .nil trivial fun _=>?_;refine sp4 hT ?_;refine nn<|bG<|bI<|bC ?_;exact bM () rfl (bD rfl) (bD rfl) .nil trivial (mo4 (by assumption))
  have hc23:=beq_eq_false_iff_ne.1 hc23;refine sr<|sp2 hT ?_;refine nn<|bH rfl (fun hc30=>?_) (fun hc30=>?_)
  · have hc30:=eq_of_beq hc30;refine sr<|sp4 hT ?_;refine sp2 hT ?_;refine nn<|bG<|bI<|bC ?_;exact bM () rfl (bD rfl) (bD rfl) .nil trivial (mo5 (by assumption))
  have hc30:=beq_eq_false_iff_ne.1 hc30;refine sr<|sp2 hT ?_;refine nn<|bH rfl (fun hc36=>?_) (fun hc36=>?_)
  · have hc36:=eq_of_beq hc36;refine bA<|sr<|sp3 hT ?_;refine nn<|bH rfl (fun hc40=>?_) (fun hc40=>?_)
    · have hc40:=of_decide_eq_true hc40;have hb1:=big1_t (a:=a) (by assumption);refine sr<|sp2 hT ?_;refine nn<|bG<|bC<|bI<|bC ?_;exact bM () rfl (bD rfl) (bD rfl) .nil trivial (mo16a (by assumption) (by assumption))
    have hc40:=Int.not_lt.1 (of_decide_eq_false hc40);have hb1:=big1_g (a:=a) (by assumption);refine bK<|bB<|sr<|sp hT ?_;refine ss (sti_xorI rfl rfl rfl) ?_;refine sp2 hT ?_;refine nn<|bG<|bI<|bC ?_;exact bM () rfl (bD rfl) (bD rfl) .nil trivial (mo16b (by assumption) (by assumption))
  have hc36:=beq_eq_false_iff_ne.1 hc36;refine bK<|cA<|bB<|sr<|sp3 hT ?_;refine nn<|bG ?_;exact bM () rfl (bD rfl) (bD rfl) .nil trivial (moE (by assumption) (by assumption) (by assumption) (by assumption) (by assumption) (by assumption))
set_option maxRecDepth 100000 in
theorem Unit_spec(f:Int):dH Tryz.prog 115 [.int .u8 f] [] [] (fun(_:Unit)=> .tuple #[.int .i64 (pV f).1,.bool (pV f).2]) (fun _=>[]) (fun _=>[]):=by
  have hT:=dA;refine cQ Tryz.func115 rfl Tryz.ntmps115 rfl ?_;intro β hM;refine sr<|sp2 hT ?_;refine nn<|bA<|sr<|sp hT ?_;refine nn<|bT<|sr<|sp2 hT ?_;refine nn<|bH rfl (fun hc5=>?_) (fun hc5=>?_)
  · have hc5_r:=hc5;have hc5:=eq_of_beq hc5;refine sr<|sp2 hT ?_;refine nn<|bG<|bI<|bC ?_;exact bM () rfl (bD rfl) (bD rfl) .nil trivial (by simp [pV, *])
  have hc5_r:=hc5;have hc5:=beq_eq_false_iff_ne.1 hc5;refine sr<|sp2 hT ?_;refine nn<|bH rfl (fun hc7=>?_) (fun hc7=>?_)
  · have hc7_r:=hc7;have hc7:=eq_of_beq hc7;refine sr<|sp2 hT ?_;refine nn<|bG<|bI<|bC ?_;exact bM () rfl (bD rfl) (bD rfl) .nil trivial (by simp [pV, *])
  have hc7_r:=hc7;have hc7:=beq_eq_false_iff_ne.1 hc7;refine bA<|sr<|sp2 hT ?_;refine nn<|bH rfl (fun hc9=>?_) (fun hc9=>?_)
  · have hc9_r:=hc9;have hc9:=eq_of_beq hc9;refine bK<|bB<|cI rfl hc9_r ?_;refine sr<|sp2 hT ?_;refine nn<|bG<|bI<|bC ?_;exact bM () rfl (bD rfl) (bD rfl) .nil trivial (by simp [pV, *])
  have hc9_r:=hc9;have hc9:=beq_eq_false_iff_ne.1 hc9;refine sr<|sp2 hT ?_;refine nn<|bH rfl (fun hc9_1=>?_) (fun hc9_1=>?_)
  · have hc9_1_r:=hc9_1;have hc9_1:=eq_of_beq hc9_1;refine bK<|bB<|cI rfl hc9_1_r ?_;refine sr<|sp2 hT ?_;refine nn<|bG<|bI<|bC ?_;exact bM () rfl (bD rfl) (bD rfl) .nil trivial (by simp [pV, *])
  have hc9_1_r:=hc9_1;have hc9_1:=beq_eq_false_iff_ne.1 hc9_1;refine sr<|sp2 hT ?_;refine nn<|bH rfl (fun hc9_2=>?_) (fun hc9_2=>?_)
  · have hc9_2_r:=hc9_2;have hc9_2:=eq_of_beq hc9_2;refine bK<|bB<|cI rfl hc9_2_r ?_;refine sr<|sp2 hT ?_;refine nn<|bG<|bI<|bC ?_;exact bM () rfl (bD rfl) (bD rfl) .nil trivial (by simp [pV, *])
  have hc9_2_r:=hc9_2;have hc9_2:=beq_eq_false_iff_ne.1 hc9_2;refine sr<|sp2 hT ?_;refine nn<|bH rfl (fun hc9_3=>?_) (fun hc9_3=>?_)
  · have hc9_3_r:=hc9_3;have hc9_3:=eq_of_beq hc9_3;refine bK<|bB<|cI rfl hc9_3_r ?_;refine sr<|sp2 hT ?_;refine nn<|bG<|bI<|bC ?_;exact bM () rfl (bD rfl) (bD rfl) .nil trivial (by simp [pV, *])
  have hc9_3_r:=hc9_3;have hc9_3:=beq_eq_false_iff_ne.1 hc9_3;refine sr<|sp2 hT ?_;refine nn<|bH rfl (fun hc9_4=>?_) (fun hc9_4=>?_)
  · have hc9_4_r:=hc9_4;have hc9_4:=eq_of_beq hc9_4;refine bK<|bB<|cI rfl hc9_4_r ?_;refine sr<|sp2 hT ?_;refine nn<|bG<|bI<|bC ?_;exact bM () rfl (bD rfl) (bD rfl) .nil trivial (by simp [pV, *])
  have hc9_4_r:=hc9_4;have hc9_4:=beq_eq_false_iff_ne.1 hc9_4;refine sr<|sp2 hT ?_;refine nn<|bH rfl (fun hc9_5=>?_) (fun hc9_5=>?_)
  · have hc9_5_r:=hc9_5;have hc9_5:=eq_of_beq hc9_5;refine bK<|bB<|cI rfl hc9_5_r ?_;refine sr<|sp2 hT ?_;refine nn<|bG<|bI<|bC ?_;exact bM () rfl (bD rfl) (bD rfl) .nil trivial (by simp [pV, *])
  have hc9_5_r:=hc9_5;have hc9_5:=beq_eq_false_iff_ne.1 hc9_5;refine bE<|sp2 hT ?_;refine nn<|bH rfl (fun hc9_6=>?_) (fun hc9_6=>?_)
  · have hc9_6_r:=hc9_6;have hc9_6:=eq_of_beq hc9_6;refine sr<|sp2 hT ?_;refine nn<|bG<|bI<|bC ?_;exact bM () rfl (bD rfl) (bD rfl) .nil trivial (by simp [pV, *])
  have hc9_6_r:=hc9_6;have hc9_6:=beq_eq_false_iff_ne.1 hc9_6;refine bK<|cA<|bB<|sr<|sp hT ?_;refine bO Tryz.func112 (lQ _ _) rfl rfl .nil trivial fun _=>?_;refine sp2 hT ?_;refine nn<|bG ?_;exact bM () rfl (bD rfl) (bD rfl) .nil trivial (by simp [pV, *])
end Go.Proofs.YtbgdphbebhjpiaaGreatDoor
