/- Conditions of the program: placed, values, extensions. · Con -/
import Derived.Test.YthalajhajpjjeaaGreatZgAF
import Derived.Test.YthalajhajpjjeaaGreatZgAA
import Derived.Test.YthalajhajpjjeaaGreatZgAR
import Derived.Test.YthalajhajpjjeaaGreatZgAQ
import Derived.Test.YthalajhajpjjeaaGreatZgAS
set_option linter.unusedVariables false
set_option linter.unusedSimpArgs false
section
set_option maxRecDepth 100000
set_option maxHeartbeats 4000000
open Go Go.Proofs
namespace Go.Abs
def scnC (t:Types)(h:Host)(inj:Bool):List D:=[.list (t.nodes.map NodeTy.c),.list (t.edges.map EdgeTy.c),dLI h.graph.nodes,.list (h.graph.edges.map Edge.c),.list (h.values.map cL),.bool inj]
def RS (n i:Nat):List Bool:=List.replicate i true++List.replicate (n - i) false
theorem Tn {n i:Nat}(h:i<=n):(RS n i).length=n:=by simp [RS];omega
theorem Tm {n i:Nat}(h:i<n):(RS n i).set i true=RS n (i+1):=by
 unfold RS
 rw [mG _ _ bW,dM,xO,show n - i=(n - (i+1))+1 by omega,s5,uU,List.replicate_succ',List.append_assoc];rfl
theorem vP (n:Nat)(o:n<=1000)(a b:List Int)(q:∀ x∈a,0<=x/\x<n)(v:a.length<=b.length):Pure Tryz.prog 457 [dI n,dLI a,dLI b] (dLI (yQ n a b)):=by
 refine Tz.pK ⟨λt=>t==12,λ_=>[]⟩ Tryz.func457 rfl (λQ p=>?_)
 have Y:=trivial
 refine wv (h:=lY (FO (-1) n o) wl ?_)
 refine wv (h:=?_)
 repeat first|intro _|refine ⟨eL,?_⟩
 refine bD (λk e H=>(e 0=dI n/\e 1=dLI a/\e 2=dLI b/\e 7=.own 0 n/\e 13=dLI a/\e 14=dI a.length/\e 15=dI k)/\(H.get 0=some ⟨3,1,(Mq a b n k).map cI,false⟩)/\(0<H.next)/\(k<=a.length)/\((Mq a b n k).length=n)) (λk=>a.length - k) 0 ⟨wg,(by simp [go_sem,Y,Mq,cI]),wn,wi,(by exact BX _ _ _ _)⟩ λw m k e H c=>?_
 obtain ⟨r,g,d,s,i⟩:=c
 have Y:=wa Y (wa r (wa g (wa (b8 d) i)))
 refine dP (λf=>?_) λf=>?_
 .have hki:k<b.length:=aD
  have u:=q _ (aC f)
  have l:a[k]?.getD 0=a[k]:=by rw [aA f];rfl
  have c:b[k]?.getD 0=b[k]:=by rw [aA hki];rfl
  have j:a[k].toNat<(Mq a b n k).length:=aD
  have Y:=wa Y (wa f (wa (aA f) (wa (aA hki) (aA j))))
  refine wv (h:=?_)
  repeat first|intro _|refine ⟨eL,?_⟩
  exact wx m (k+1) ⟨wg,(by simp [go_sem,Y,Gg,bY,l,c,cI]),wn,wj,(by exact BX _ _ _ _)⟩
 .have hP:yQ n a b=Mq a b n k:=by unfold yQ Mq;rw [(aD:k=a.length)]
  exact wv (h:=p _ _ (by simp [go_sem,Y,hP,dLI]))
theorem J4 (t:Types)(C:Bool)(p:Pattern)(h:Host)(m:Part)(U:SOk p h m)(vs:List Int)(hl:vs.length<=p.vars.toNat)(hs:∀ v∈vs,-2000000<=v/\v<=2000000) :
  Pure Tryz.prog 459 [.agg (scnC t h C),p.d,m.d,dLI vs] (.tup [dLI (fB p h m vs).1,.bool (decide ((fB p h m vs).2=0))]):=by
 have hv:=U.vars
 have h0:=LG hv.1 hl hs
 have J:JT p vs=(Hn vs p.vars.toNat,KB vs.length p.vars.toNat):=by unfold JT;rw [KA _ _ hl];rfl
 have a4:(p.vars - (vs.length:Int)).toNat=p.vars.toNat - vs.length:=aD
 have a3:vs.length+(p.vars.toNat - vs.length)=p.vars.toNat:=aD
 have b0:(vs.map cI++List.replicate (p.vars.toNat - vs.length) [D.int .i64 0])=(Hn vs p.vars.toNat).map cI:=by simp [Hn,cI]
 refine PH (by first|rfl|(simp [go_sem];done)) (λQ hQ=>ACalls.bump 1 (aJ (cfg:=⟨λt=>t==22||t==11||t==14||t==20,λr=>match r with|1=>[(1,2),(1,3),(1,5)]|_=>[]⟩) Tz.mixed Tryz.func459 rfl rfl (aF rfl) (by kernel_rfl) ?_))
 have Y:=wa a4 (wa a3 (wa @Pattern.d.eq_1 (wa @Pattern.c.eq_1 (wa @scnC.eq_1 (wa @Part.d.eq_1 (wa @Part.c.eq_1 @Term.c.eq_1))))))
 refine wv (h:=?_)
 repeat first|intro _|refine ⟨eL,?_⟩
 refine Ed 0 (jG vs aD) (by first|rfl|(simp [go_sem];done)) rfl (by first|omega|simp [go_sem]) (by simp [pH,sX,JF,Hh]) (by first|trivial|(simp [go_sem];done)|simp [go_sem,chk]) ?_
 refine wv (h:=?_)
 repeat first|intro _|refine ⟨eL,?_⟩
 refine bD (λi e H=>(e 4=.adr (scnC t h C)/\e 5=.adr p.c/\e 6=.adr m.c/\e 3=dLI vs/\e 10=.own 0 p.vars.toNat/\e 11=.own 10 p.vars.toNat/\e 33=dI vs.length/\e 34=dI i)/\(H.get 0=some ⟨3,1,(Hn vs p.vars.toNat).map cI,false⟩)/\(0<H.next)/\(H.get 10=some ⟨4,1,(RS p.vars.toNat i).map cB,false⟩)/\(10<H.next)/\(i<=vs.length)) (λi=>vs.length - i) 0 ⟨wg,(by simp [go_sem,Y,b0]),wn,(by simp [go_sem,RS,cB]),wn,wi⟩ λI0 b9 i e H b3=>?_
 obtain ⟨E0,a8,a2,Z,M,hi⟩:=b3
 have Y:=wa Y (wa E0 (wa a8 (wa (b8 a2) (wa Z (b8 M)))))
 refine dP (λh4=>?_) λh4=>?_
 .have hTl:=Tn (n:=p.vars.toNat) (i:=i) aD
  have b5:i<(RS p.vars.toNat i).length:=aD
  have b4:((RS p.vars.toNat i).map cB).set i [.bool true]=(RS p.vars.toNat (i+1)).map cB:=by rw [<- Tm aD,bY];rfl
  have Y:=wa Y (wa h4 (wa hTl (wa (aA b5) b4)))
  refine wv (h:=?_)
  repeat first|intro _|refine ⟨eL,?_⟩
  exact wx b9 (i+1) ⟨wg,wn,wn,(by simp [go_sem,Y]),wn,wj⟩
 .have hie:i=vs.length:=aD
  have b6:RS p.vars.toNat i=KB vs.length p.vars.toNat:=by rw [hie,KA _ _ hl];rfl
  have Y:=wa Y b6
  refine wv (h:=?_)
  repeat first|intro _|refine ⟨eL,?_⟩
  refine bD (λi e H=>∃ l:List Int × List Bool,(e 4=.adr (scnC t h C)/\e 5=.adr p.c/\e 6=.adr m.c/\e 3=dLI vs/\e 10=.own 0 p.vars.toNat/\e 11=.own 10 p.vars.toNat/\e 42=.list (p.slots.map Slot.c)/\e 43=dI p.slots.length/\e 44=dI i)/\(H.get 0=some ⟨3,1,l.1.map cI,false⟩)/\(0<H.next)/\(H.get 10=some ⟨4,1,l.2.map cB,false⟩)/\(10<H.next)/\(i<=p.slots.length)/\(StOk p.vars.toNat l)/\(jA h m (JT p vs) (p.slots.take i)=some l)) (λi=>p.slots.length - i) 0 ⟨((Hn vs p.vars.toNat,KB vs.length p.vars.toNat)),wg,(by simp [go_sem,Y]),wn,(by simp [go_sem,Y]),wn,wi,(by rw [<- J];exact h0),(by rw [J];rfl)⟩ λI2 G i e H b2=>?_
  obtain ⟨l,E2,a7,a1,X,L,hi,s,O⟩:=b2
  have Y:=wa Y (wa E2 (wa a7 (wa (b8 a1) (wa X (b8 L)))))
  refine dP (λI=>?_) λI=>?_
  .obtain ⟨x,hx⟩:=cW (p.slots[i])
   have E:x∈p.slots:=hx ▸ aC I
   have hn:=U.node x E
   have u:x.node.toNat<m.nodes.length:=aD
   have hk:=U.img _ (aC u)
   have A:(m.nodes[x.node.toNat]).toNat<h.values.length:=aD
   have ha:=U.attr x E
   rw [aA u,Option.getD_some,aA A,Option.getD_some] at ha
   have F:x.attr.toNat<(h.values[(m.nodes[x.node.toNat]).toNat]).length:=aD
   have hV:lT h m x=h.values[(m.nodes[x.node.toNat]).toNat][x.attr.toNat]:=by unfold lT;rw [aA u,Option.getD_some,aA A,Option.getD_some,aA F];rfl
   have hb:=U.have_ E
   have S:=U.term x E
   have z:=s.l1
   have P:=s.l2
   have c1:=S.1
   have c2:=S.2
   have o:=tE I O
   rw [<- hx] at o
   obtain ⟨q,f⟩:∃ y,y=l3 h m l x:=⟨_,rfl⟩
   have j:StOk p.vars.toNat q:=f ▸ yD s hb S
   rw [<- f] at o
   have g:¬ 0<=x.term.var->q=l:=λhn=>by rw [f];unfold l3 kY;rw [if_neg (by simp [hn])]
   have K:0<=x.term.var->x.term.var.toNat<l.2.length:=λhn=>by omega
   obtain ⟨kb,a5⟩:=cW (l.2[x.term.var.toNat]?.getD false)
   have R:0<=x.term.var\/(¬ 0<=x.term.var/\l.2[x.term.var.toNat]?=none)\/(¬ 0<=x.term.var/\l.2[x.term.var.toNat]?=some kb):=by
    by_cases N:0<=x.term.var
    .exact .inl N
    .right
     cases ho:l.2[x.term.var.toNat]? with
     | none=>exact .inl ⟨N,rfl⟩
     | some b=>rw [ho] at a5;exact .inr ⟨N,by rw [a5];rfl⟩
   rcases R with hc|hc|hc
   .have Y:=wa Y (wa I (wa (aA I) (wa (Eq.symm hx) (wa (aA u) (wa (aA A) (wa (aA F) (wa (Eq.symm hV) (wa @Slot.c.eq_1 (wa @cL.eq_1 (wa z (wa P (wa @j7 (wa @cB.eq_1 (wa hc ((aA (K hc)))))))))))))))))
    refine wv (h:=?_)
    repeat first|intro _|refine ⟨eL,?_⟩
    refine wq (λW=>?_) λW=>?_
    .have hF:kY l x=true:=by simp only [kY,aQ,decide_eq_true_eq,c9];exact ⟨hc,by simpa [aA (K hc)] using W⟩
     unfold l3 at f
     rw [if_pos hF] at f
     have a9:x.term.var.toNat<l.1.length:=aD
     have e1:q.1.map cI=(l.1.map cI).set x.term.var.toNat (cI (lT h m x - x.term.add)):=by rw [f,bY]
     have e2:q.2.map cB=(l.2.map cB).set x.term.var.toNat (cB true):=by rw [f,bY]
     have c0:D.clLL ((l.1.map cI).set x.term.var.toNat [D.int .i64 (lT h m x - x.term.add)])=true:=by have:=qK q.1;rw [e1] at this;exact this
     have Y:=wa Y (wa e1 (wa e2 (wa @dLI.eq_1 (wa @cI.eq_1 (wa (aA a9) c0)))))
     refine wv (h:=?_)
     repeat first|intro _|refine ⟨eL,?_⟩
     refine dX (mT x.term q.1 (by rw [j.l1];exact S) j.big) wr wl rfl ?_
     refine wv (h:=?_)
     repeat first|intro _|refine ⟨eL,?_⟩
     refine wq (λa=>?_) λa=>?_
     .have hR:=eF (o.2 (by first|simpa using a|simpa [g hc.1] using a|simpa [f] using a))
      exact wv (h:=hQ _ _ (by simp [go_sem,hR]))
     .have hstep:=o.1 (by first|simpa using a|simpa [g hc.1] using a|simpa [f] using a)
      refine wv (h:=?_)
      repeat first|intro _|refine ⟨eL,?_⟩
      exact wx G (i+1) ⟨q,wg,(by simp [go_sem,Y]),wn,(by simp [go_sem,Y]),wn,wj,(by exact j),(by exact hstep)⟩
    .have hF:¬ kY l x=true:=by simp only [kY,aQ,decide_eq_true_eq,c9];rintro ⟨_,hk⟩;simp [aA (K hc)] at hk;simp [hk] at W
     unfold l3 at f
     rw [if_neg hF] at f
     have Y:=wa Y f
     refine wv (h:=dX (mT x.term q.1 (by rw [j.l1];exact S) j.big) wr wl rfl ?_)
     refine wv (h:=?_)
     repeat first|intro _|refine ⟨eL,?_⟩
     refine wq (λa=>?_) λa=>?_
     .have hR:=eF (o.2 (by first|simpa using a|simpa [g hc.1] using a|simpa [f] using a))
      exact wv (h:=hQ _ _ (by simp [go_sem,hR]))
     .have hstep:=o.1 (by first|simpa using a|simpa [g hc.1] using a|simpa [f] using a)
      refine wv (h:=?_)
      repeat first|intro _|refine ⟨eL,?_⟩
      exact wx G (i+1) ⟨q,wg,(by simp [go_sem,Y]),wn,(by simp [go_sem,Y]),wn,wj,(by exact j),(by exact hstep)⟩
   .have Y:=wa Y (wa I (wa (aA I) (wa (Eq.symm hx) (wa (aA u) (wa (aA A) (wa (aA F) (wa (Eq.symm hV) (wa @Slot.c.eq_1 (wa @cL.eq_1 (wa z (wa P (wa @j7 (wa @cB.eq_1 (wa hc.1 (wa hc.2 (g hc.1))))))))))))))))
    refine wv (h:=?_)
    repeat first|intro _|refine ⟨eL,?_⟩
    refine dX (mT x.term q.1 (by rw [j.l1];exact S) j.big) wr wl rfl ?_
    refine wv (h:=?_)
    repeat first|intro _|refine ⟨eL,?_⟩
    refine wq (λa=>?_) λa=>?_
    .have hR:=eF (o.2 (by first|simpa using a|simpa [g hc.1] using a|simpa [f] using a))
     exact wv (h:=hQ _ _ (by simp [go_sem,hR]))
    .have hstep:=o.1 (by first|simpa using a|simpa [g hc.1] using a|simpa [f] using a)
     refine wv (h:=?_)
     repeat first|intro _|refine ⟨eL,?_⟩
     exact wx G (i+1) ⟨q,wg,(by simp [go_sem,Y]),wn,(by simp [go_sem,Y]),wn,wj,(by exact j),(by exact hstep)⟩
   .have Y:=wa Y (wa I (wa (aA I) (wa (Eq.symm hx) (wa (aA u) (wa (aA A) (wa (aA F) (wa (Eq.symm hV) (wa @Slot.c.eq_1 (wa @cL.eq_1 (wa z (wa P (wa @j7 (wa @cB.eq_1 (wa hc.1 (wa hc.2 (g hc.1))))))))))))))))
    refine wv (h:=?_)
    repeat first|intro _|refine ⟨eL,?_⟩
    refine dX (mT x.term q.1 (by rw [j.l1];exact S) j.big) wr wl rfl ?_
    refine wv (h:=?_)
    repeat first|intro _|refine ⟨eL,?_⟩
    refine wq (λa=>?_) λa=>?_
    .have hR:=eF (o.2 (by first|simpa using a|simpa [g hc.1] using a|simpa [f] using a))
     exact wv (h:=hQ _ _ (by simp [go_sem,hR]))
    .have hstep:=o.1 (by first|simpa using a|simpa [g hc.1] using a|simpa [f] using a)
     refine wv (h:=?_)
     repeat first|intro _|refine ⟨eL,?_⟩
     exact wx G (i+1) ⟨q,wg,(by simp [go_sem,Y]),wn,(by simp [go_sem,Y]),wn,wj,(by exact j),(by exact hstep)⟩
  .rw [aG aD] at O
   have T:=oT O
   have z:=s.l1
   have Y:=wa Y z
   refine wv (h:=?_)
   repeat first|intro _|refine ⟨eL,?_⟩
   refine bD (λk e H=>(e 4=.adr (scnC t h C)/\e 5=.adr p.c/\e 6=.adr m.c/\e 3=dLI vs/\e 10=.own 0 p.vars.toNat/\e 102=.list (p.tests.map Test.c)/\e 103=dI p.tests.length/\e 104=dI k)/\(H.get 0=some ⟨3,1,l.1.map cI,false⟩)/\(0<H.next)/\(k<=p.tests.length)/\((p.tests.take k).all (λx=>Aj x l.1)=true)) (λk=>p.tests.length - k) 0 ⟨wg,wn,wn,wi,(by rfl)⟩ λI4 b7 k e H b1=>?_
   obtain ⟨E4,a6,a0,hk,B⟩:=b1
   have Y:=wa Y (wa E4 (wa a6 (b8 a0)))
   refine dP (λw=>?_) λw=>?_
   .have hX:=U.test _ (aC w)
    have Y:=wa Y (wa w (wa (aA w) @Test.c.eq_1))
    refine wv (h:=?_)
    repeat first|intro _|refine ⟨eL,?_⟩
    refine dX (vO p.tests[k] l.1 (by rw [s.l1];exact hX) s.big) wr wl rfl ?_
    refine wv (h:=?_)
    repeat first|intro _|refine ⟨eL,?_⟩
    refine wq (λV=>?_) λV=>?_
    .have hR:fB p h m vs=([],16):=by
      rw [T,if_neg]
      intro ha
      rw [cJ] at ha
      have:=ha _ (aC w)
      simp [this] at V
     exact wv (h:=hQ _ _ (by simp [go_sem,hR]))
    .refine wv (h:=?_)
     repeat first|intro _|refine ⟨eL,?_⟩
     exact wx b7 (k+1) ⟨wg,wn,wn,wj,(by rw [aE w,Bt,B];simp;simpa using V)⟩
   .rw [aG aD] at B
    rw [if_pos B] at T
    exact wv (h:=hQ _ _ (by simp [go_sem,Y,T,dLI]))
theorem C0 (t:Types)(L:t.ok)(p:Pattern)(c:Cond)(w:ExOk t p c.map c.pattern)(h:Host)(M:HostOk t h)(m:Mat)(z:MatOk t p h m)(b:Bool) :
  Pure Tryz.prog 439 [.agg (scnC t h b),.agg c.c,m.d] (.tup [.list ((xL t c.map c.pattern h m b).1.map Mat.c),dI (xL t c.map c.pattern h m b).2]):=by
 obtain ⟨⟨S,R⟩,E,D⟩:=w.img
 have l:=bS w.pq.gg
 have O:=z.mok.len
 have N:=z.mok.elen
 refine Tz.pK ⟨λt=>t==8||t==9||t==12||t==14,λr=>match r with|2=>[(0,21),(1,21),(2,21),(3,21),(4,21),(5,21),(6,21),(7,21),(8,21),(9,21),(10,21),(11,21),(12,21),(13,21),(14,21),(15,21),(16,21),(17,21),(18,21),(19,21)]|_=>[]⟩ Tryz.func439 rfl (λQ I=>?_)
 obtain ⟨X,A⟩:=cW (nJ t c.pattern.graph h.graph (o6 c.map c.pattern m.m) b)
 have G:∀ x∈X.1,MOk t c.pattern.graph h.graph x:=λx K=>GO (A ▸ K)
 have T:X.1.length<=5000:=A ▸ P1 _ _ _ _ _
 have B:m.vars.length<=c.pattern.vars.toNat:=by have:=z.vl;have:=w.pv;have:=w.p0;omega
 have j:xL t c.map c.pattern h m b=if X.2≠0 then ([],X.2) else (At c.pattern h m.vars X.1,0):=by unfold xL;rw [<- A]
 have Y:=wa @Cond.c_eq (wa @scnC.eq_1 (wa @Mat.d.eq_1 @Mat.c.eq_1))
 refine wp (h:=aI (vP c.pattern.graph.nodes.length aD c.map.nodes m.m.nodes E aD) wl ?_)
 refine wp (h:=aI (vP c.pattern.graph.edges.length aD c.map.edges m.m.edges D aD) wl ?_)
 refine wp (h:=aB ((by have l:=HD t L c.pattern.graph h.graph (o6 c.map c.pattern m.m) b;rw [<- A] at l;unfold o6 Types.d Types.c Graph.d Graph.c Part.d Part.c dLI at l;exact l)) wl ?_)
 refine rT (λJ=>?_) λJ=>?_
 .rw [if_pos J] at j
  exact wv (h:=I _ _ (by simp [go_sem,j]))
 .rw [if_neg aD] at j
  refine wp (h:=bD (λi e H=>∃ k:List Mat,(e 3=.adr (scnC t h b)/\e 4=.adr c.c/\e 5=.adr m.c/\e 57=.list (X.1.map Part.c)/\e 58=dI X.1.length/\e 12=.own 24 k.length/\e 59=dI i)/\(H.get 24=some ⟨46,3,k.map Mat.c,false⟩)/\(24<H.next)/\(i<=X.1.length)/\(k=At c.pattern h m.vars (X.1.take i))/\(k.length<=i)) (λi=>X.1.length - i) 0 ⟨([]),wg,wn,wn,wi,(by rfl),(by simp)⟩ λW u i e H F=>?_)
  obtain ⟨k,U,q,n,V,g,P⟩:=F
  have Y:=wa Y (wa U (wa q (b8 n)))
  refine dP (λs=>?_) λs=>?_
  .obtain ⟨v,C⟩:=cW (fB c.pattern h X.1[i] m.vars)
   obtain ⟨f,a⟩:∃ y,y=k++if v.2=0 then [(⟨X.1[i],v.1⟩:Mat)] else []:=⟨_,rfl⟩
   have Y:=wa Y (wa s (wa (aA s) (wa @Part.c.eq_1 @Pattern.c.eq_1)))
   refine wp (h:=aB ((by have l:=J4 t b c.pattern h X.1[i] (US w.pq M (G _ (aC s))) m.vars B z.vs;rw [<- C] at l;unfold scnC Pattern.d Pattern.c Part.d Part.c dLI at l;exact l)) wl ?_)
   refine rT (λo=>?_) λo=>?_
   .have hm3:f=k++[⟨X.1[i],v.1⟩]:=by rw [a,if_pos (bX o)]
    have Y:=wa Y hm3
    exact wp (h:=wx u (i+1) ⟨f,wg,wn,wn,wj,(by rw [aE s,vW,<- g,<- C];exact a),(by rw [a];split<;>simp<;>omega)⟩)
   .have hm3:f=k:=by rw [a,if_neg (bX o),dE]
    have Y:=wa Y hm3
    exact wp (h:=wx u (i+1) ⟨f,wg,wn,wn,wj,(by rw [aE s,vW,<- g,<- C];exact a),(by rw [a];split<;>simp<;>omega)⟩)
  .rw [aG aD] at g
   exact wv (h:=I _ _ (by simp [go_sem,Y,j,<- g]))
def NQ (t:Types)(h:Host)(inj:Bool)(c:Cond)(m:Mat):Prf × Int:=if (oO t h inj c m).2=0 then oO t h inj c m else (jP,(oO t h inj c m).2)
def Hr (W:Prf × Int):Prf × Int:=if W.2=0 then W else (jP,W.2)
theorem RI (t:Types)(h:Host)(inj:Bool)(c:Cond)(m:Mat):NQ t h inj c m=Hr (oO t h inj c m):=rfl
theorem CR (t:Types)(h:Host)(d:Bool)(c:Cond)(m:Mat):∃ wc wm wk we,NQ t h d c m=(Prf.mk wc wm wk,we)/\(oO t h d c m).2=we/\(we=0->oO t h d c m=(Prf.mk wc wm wk,we)):=by
 cases e:NQ t h d c m with
 | mk a b =>
  cases a with
  | mk wc wm wk =>
   refine ⟨wc,wm,wk,b,rfl,?_,?_⟩
   .unfold NQ at e
    split at e
    .rw [e]
    .exact congrArg Prod.snd e
   .intro h0
    unfold NQ at e
    split at e
    .exact e
    .rename_i h1
     have:=congrArg Prod.snd e
     simp only at this
     exact absurd (this.trans h0) h1
theorem FE (t:Types)(ht:t.ok)(h:Host)(N:HostOk t h)(a:Bool)(c:Cond)(p:Pattern)(R:CondV t p c)(hp:PatOk t p)(g:c.kind=5)
  (Z:∀ k∈c.kids,∀ m:Mat,MatOk t c.pattern h m->Pure Tryz.prog 332 [.agg (scnC t h a),.agg k.c,m.d] (.tup [.agg (NQ t h a k m).1.c,dI (NQ t h a k m).2])) (m:Mat) (O:MatOk t p h m) :
  Pure Tryz.prog 388 [.agg (scnC t h a),.agg c.c,m.d] (.tup [.agg (NQ t h a c m).1.c,dI (NQ t h a c m).2]):=by
 obtain ⟨K,a0⟩:=R.kinds
 have q:=JL t h a c m
 rw [RI]
 obtain ⟨W,J⟩:=cW (oO t h a c m)
 rw [<- J] at q ⊢
 obtain ⟨P,a1⟩:=R.ex g hp
 have D:0<c.kids.length:=by have:=K (.inr g);omega
 obtain ⟨y,f⟩:∃ k,k=c.kids[0]:=⟨_,rfl⟩
 have E:y∈c.kids:=f ▸ aC D
 obtain ⟨X,I⟩:=cW (xL t c.map c.pattern h m a)
 have G:∀ x∈X.1,MatOk t c.pattern h x:=I ▸ P2 P N O
 rw [if_neg aD,if_neg aD,if_neg aD,if_pos g,zZ D,<- f,<- I] at q
 refine uF (by first|rfl|(simp [go_sem];done)) (λQ z=>(aJ (cfg:=⟨λt=>t==6||t==11||t==12,λr=>match r with|7=>[(0,10),(1,10),(2,10),(3,10),(4,10),(5,10),(6,10)]|_=>[]⟩) Tz.mixed Tryz.func388 rfl rfl (aF rfl) (by kernel_rfl) ?_))
 have Y:=wa @Cond.c_eq (wa @scnC.eq_1 (wa @Mat.d.eq_1 (wa @Mat.c.eq_1 (wa @Prf.c_eq (wa (aA D) (wa (Eq.symm f) g))))))
 refine wv (h:=aB ((by have j:=C0 t ht p c P h N m O a;rw [<- I,Cond.c_eq,g] at j;unfold scnC Mat.d Mat.c dLI dI at j;exact j)) wl ?_)
 refine dP (λB=>?_) λB=>?_
 .rw [if_pos (bX B)] at q
  have l:Hr W=(jP,X.2):=by rw [q];unfold Hr;rw [if_neg (bX B)]
  refine wv (h:=?_)
  exact z _ _ (by simp [go_sem,Y,l,jP,iO,Prf.c_eq,l8,i6,eQ,dLI,eH,fY])
 .rw [if_neg (bX B)] at q
  refine wv (h:=?_)
  repeat first|intro _|refine ⟨eL,?_⟩
  refine bD (λi e H=>(e 3=.adr (scnC t h a)/\e 4=.adr c.c/\e 5=.adr m.c/\e 6=.ptr 0 1 0 0/\e 25=.list (X.1.map Mat.c)/\e 26=dI X.1.length/\e 27=dI i)/\(H.get 0=some ⟨282,5,[[dI 0,.nil,.nil,.nil,.nil]],false⟩)/\(0<H.next)/\(i<=X.1.length)/\(TU ((X.1.drop i).map λx=>(x,oO t h a y x))=W)) (λi=>X.1.length - i) 0 ⟨wg,wn,wn,wi,(by exact q.symm)⟩ λI0 L i e H F=>?_
  obtain ⟨E0,w,u,hi,A⟩:=F
  have Y:=wa Y (wa E0 (wa w (b8 u)))
  refine dP (λg=>?_) λg=>?_
  .obtain ⟨U,S,T,s,hw,v,C⟩:=CR t h a y X.1[i]
   have n:i<X.1.length:=g
   have b:=A
   rw [vN _ n] at b
   simp only [TU] at b
   have V:=Wp H.next
   have Y:=wa Y (wa g (wa (aA n) V))
   refine wv (h:=?_)
   repeat first|intro _|refine ⟨eL,?_⟩
   refine aI ((by have j:=Z y E X.1[i] (G _ (aC n));simp only [hw,Prf.c_eq,Cond.c_eq] at j;unfold scnC Mat.d Mat.c dLI dI at j;exact j)) wl ?_
   refine wv (h:=?_)
   repeat first|intro _|refine ⟨eL,?_⟩
   refine wq (λM=>?_) λM=>?_
   .have h8':s=0:=by simpa using M
    rw [C h8'] at b
    simp only at b
    rw [if_pos aD] at b
    have l:Hr W=(Prf.mk 0 X.1[i] [Prf.mk U S T],0):=by rw [<- b,h8'];rfl
    refine wv (h:=?_)
    exact z _ _ (by simp [go_sem,Y,l,jP,iO,Prf.c_eq,l8,i6,eQ,dLI,eH,fY])
   .have h8':s≠0:=by simpa using M
    refine dP (λo=>?_) λo=>?_
    .have h10':s≠10:=by simpa using o
     rw [v,if_pos h10'] at b
     have l:Hr W=(jP,s):=by rw [<- b];unfold Hr;rw [if_neg h8']
     refine wv (h:=?_)
     exact z _ _ (by simp [go_sem,Y,l,jP,iO,Prf.c_eq,l8,i6,eQ,dLI,eH,fY])
    .have h10':s=10:=by simpa using o
     rw [v,if_neg aD] at b
     refine wv (h:=?_)
     repeat first|intro _|refine ⟨eL,?_⟩
     exact wx L (i+1) ⟨wg,wn,wn,wj,(by exact b)⟩
  .rw [jL aD] at A
   simp only [jD,TU] at A
   have l:Hr W=(jP,10):=by rw [<- A];rfl
   have Y:=wa Y g
   refine wv (h:=?_)
   exact z _ _ (by simp [go_sem,Y,l,jP,iO,Prf.c_eq,l8,i6,eQ,dLI,eH,fY])
theorem HE (t:Types)(ht:t.ok)(h:Host)(ho:HostOk t h)(g:Bool):∀ (c:Cond) (p:Pattern),CondV t p c->PatOk t p->∀ m:Mat,MatOk t p h m ->
  Pure Tryz.prog 332 [.agg (scnC t h g),.agg c.c,m.d] (.tup [.agg (NQ t h g c m).1.c,dI (NQ t h g c m).2]):=by
 refine i9 λc ih p F T m hm=>?_
 obtain ⟨a7,b2⟩:=F.kinds
 have U:c.kids.length<=1000000:=by have:=MO c.kids;have:=v8 c;have:=F.sz;omega
 have E:c.kind=5->Pure Tryz.prog 388 [.agg (scnC t h g),.agg c.c,m.d] (.tup [.agg (NQ t h g c m).1.c,dI (NQ t h g c m).2]):=λG=>by
  obtain ⟨hE,w⟩:=F.ex G T
  exact FE t ht h ho g c p F T G (λk hk m' a2=>ih k hk c.pattern (w k hk) hE.pq m' a2) m hm
 have l:=JL t h g c m
 rw [RI] at E ⊢
 obtain ⟨W,a6⟩:=cW (oO t h g c m)
 rw [<- a6] at l E ⊢
 refine uF (by first|rfl|(simp [go_sem];done)) (λQ z=>(aJ (cfg:=⟨λt=>t==6||t==8||t==10||t==12||t==13||t==16||t==17,λr=>match r with|3=>[(0,10),(1,10),(2,10),(3,10),(4,10),(5,10),(6,10)]|_=>[]⟩) Tz.mixed Tryz.func332 rfl rfl (aF rfl) (by kernel_rfl) ?_))
 have Y:=wa @Cond.c_eq (wa @scnC.eq_1 (wa @Mat.d.eq_1 (wa @Mat.c.eq_1 @Prf.c_eq)))
 refine dP (λh2=>?_) λh2=>?_
 .have h2':c.kind=2:=by simpa using h2
  have hl:0<c.kids.length:=by have:=a7 (.inl h2');omega
  obtain ⟨k0,v⟩:∃ k,k=c.kids[0]:=⟨_,rfl⟩
  have V:k0∈c.kids:=v ▸ aC hl
  have b0:=F.kid aD k0 V
  obtain ⟨wc,wm,wk,s,S,o,B⟩:=CR t h g k0 m
  rw [if_pos h2',zZ hl,<- v,o] at l
  unfold TF at l
  have Y:=wa Y (wa (aA hl) (wa (Eq.symm v) h2'))
  refine wp (h:=aI ((by have q:=ih k0 V p b0 T m hm;simp only [S,Prf.c_eq,Cond.c_eq] at q;unfold scnC Mat.d Mat.c dLI dI at q;exact q)) wl ?_)
  refine rT (λG=>?_) λG=>?_
  .rw [if_pos (bX G)] at l
   have n:Hr W=(jP,10):=by rw [l];rfl
   refine wv (h:=?_)
   exact z _ _ (by simp [go_sem,Y,n,jP,iO,Prf.c_eq,l8,i6,eQ,dLI,eH,fY])
  .rw [if_neg (bX G)] at l
   refine dP (λh7=>?_) λh7=>?_
   .rw [if_pos (bX h7)] at l
    have n:Hr W=(jP,0):=by rw [l];rfl
    refine wv (h:=?_)
    exact z _ _ (by simp [go_sem,Y,n,jP,iO,Prf.c_eq,l8,i6,eQ,dLI,eH,fY])
   .rw [if_neg (bX h7)] at l
    have n:Hr W=(jP,s):=by rw [l];unfold Hr;rw [if_neg (bX G)]
    refine wv (h:=?_)
    exact z _ _ (by simp [go_sem,Y,n,jP,iO,Prf.c_eq,l8,i6,eQ,dLI,eH,fY])
 .have h2':c.kind≠2:=by simpa using h2
  rw [if_neg h2'] at l
  refine dP (λM=>?_) λM=>?_
  .have h10':c.kind=3:=by simpa using M
   have w:=F.kid aD
   rw [if_pos h10'] at l
   have Y:=wa Y h10'
   refine wp (h:=uI (Ghosts.step (Ghosts.refl _) 1 0 4 282 5 _ _ ((by simp [go_sem];rfl)) rfl rfl rfl) (λi e H=>∃ D:List Prf,(e 3=.adr (scnC t h g)/\e 4=.adr c.c/\e 5=.adr m.c/\e 6=.ptr 0 1 0 0/\e 20=dI c.kind/\e 10=.ptr 1 1 0 0/\e 45=.list (c.kids.map Cond.c)/\e 46=dI c.kids.length/\e 47=dI i)/\(H.get 0=some ⟨282,5,[[dI 0,.nil,.nil,.nil,.nil]],false⟩)/\(0<H.next)/\(H.get 1=some ⟨282,5,[[dI 0,.nil,.nil,.nil,.own 2 D.length]],false⟩)/\(1<H.next)/\(H.get 2=some ⟨282,5,D.map Prf.c,false⟩)/\(2<H.next)/\(i<=c.kids.length)/\(K6 ((c.kids.drop i).map λk=>oO t h g k m) D=W)/\(D.length<=i)/\(c.kids.length<=1000000)) (λi=>c.kids.length - i) 0 ⟨([]),wg,wn,wn,wn,wn,wn,wn,wi,(by exact l.symm),bW,(by exact U)⟩ λI2 a9 i e H a5=>?_)
   obtain ⟨D,E2,a1,R,Z,O,X,N,hi,C,b1,a3⟩:=a5
   have Y:=wa Y (wa E2 (wa a1 (wa (b8 R) (wa Z (wa (b8 O) (wa X (b8 N)))))))
   refine dP (λy=>?_) λy=>?_
   .obtain ⟨A,j⟩:∃ k,k=c.kids[i]:=⟨_,rfl⟩
    have u:A∈c.kids:=j ▸ aC y
    obtain ⟨wc,wm,wk,s,S,o,B⟩:=CR t h g A m
    have f:=C
    rw [vN _ y,<- j] at f
    simp only [K6] at f
    have Y:=wa Y (wa y (wa (aA y) (Eq.symm j)))
    refine wp (h:=aB ((by have q:=ih A u p (w A u) T m hm;simp only [S,Prf.c_eq,Cond.c_eq] at q;unfold scnC Mat.d Mat.c dLI dI at q;exact q)) wl ?_)
    refine rT (λL=>?_) λL=>?_
    .have h16':s≠0:=by simpa using L
     rw [o,if_pos h16'] at f
     have n:Hr W=(jP,s):=by rw [<- f];unfold Hr;rw [if_neg h16']
     refine wv (h:=?_)
     exact z _ _ (by simp [go_sem,Y,n,jP,iO,Prf.c_eq,l8,i6,eQ,dLI,eH,fY])
    .have h16':s=0:=by simpa using L
     rw [o,if_neg aD,B h16'] at f
     exact wp (h:=wx a9 (i+1) ⟨(D++[.mk wc wm wk]),wg,wn,wn,wn,wn,wn,wn,wj,(by exact f),(by simp;omega),(by exact a3)⟩)
   .rw [jL aD] at C
    simp only [jD,K6] at C
    have n:Hr W=(.mk 0 iO D,0):=by rw [<- C];rfl
    refine wv (h:=?_)
    exact z _ _ (by simp [go_sem,Y,n,jP,iO,Prf.c_eq,l8,i6,eQ,dLI,eH,fY])
  .have h10':c.kind≠3:=by simpa using M
   rw [if_neg h10'] at l
   refine dP (λK=>?_) λK=>?_
   .have h21':c.kind=4:=by simpa using K
    have w:=F.kid aD
    rw [if_pos h21'] at l
    have Y:=wa Y h21'
    refine wp (h:=bD (λi e H=>(e 3=.adr (scnC t h g)/\e 4=.adr c.c/\e 5=.adr m.c/\e 6=.ptr 0 1 0 0/\e 20=dI c.kind/\e 73=.list (c.kids.map Cond.c)/\e 74=dI c.kids.length/\e 75=dI i)/\(H.get 0=some ⟨282,5,[[dI 0,.nil,.nil,.nil,.nil]],false⟩)/\(0<H.next)/\(i<=c.kids.length)/\(Tx ((c.kids.drop i).map λk=>oO t h g k m) i=W)) (λi=>c.kids.length - i) 0 ⟨wg,wn,wn,wi,(by exact l.symm)⟩ λI4 a8 i e H a4=>?_)
    obtain ⟨E4,a0,P,hi,C⟩:=a4
    have Y:=wa Y (wa E4 (wa a0 (b8 P)))
    refine dP (λx=>?_) λx=>?_
    .obtain ⟨A,j⟩:∃ k,k=c.kids[i]:=⟨_,rfl⟩
     have u:A∈c.kids:=j ▸ aC x
     obtain ⟨wc,wm,wk,s,S,o,B⟩:=CR t h g A m
     have f:=C
     rw [vN _ x,<- j] at f
     simp only [Tx] at f
     have Y:=wa Y (wa x (wa (aA x) (Eq.symm j)))
     refine wp (h:=aB ((by have q:=ih A u p (w A u) T m hm;simp only [S,Prf.c_eq,Cond.c_eq] at q;unfold scnC Mat.d Mat.c dLI dI at q;exact q)) wl ?_)
     refine rT (λLk=>?_) λLk=>?_
     .have h26':s=0:=by simpa using Lk
      rw [B h26'] at f
      simp only at f
      rw [if_pos aD] at f
      have n:Hr W=(.mk i iO [.mk wc wm wk],0):=by rw [<- f,h26'];rfl
      refine wv (h:=?_)
      exact z _ _ (by simp [go_sem,Y,n,jP,iO,Prf.c_eq,l8,i6,eQ,dLI,eH,fY])
     .have h26':s≠0:=by simpa using Lk
      refine dP (λJ=>?_) λJ=>?_
      .have h28':s≠10:=by simpa using J
       rw [o,if_pos h28'] at f
       have n:Hr W=(jP,s):=by rw [<- f];unfold Hr;rw [if_neg h26']
       refine wv (h:=?_)
       exact z _ _ (by simp [go_sem,Y,n,jP,iO,Prf.c_eq,l8,i6,eQ,dLI,eH,fY])
      .have h28':s=10:=by simpa using J
       rw [o,if_neg aD] at f
       exact wp (h:=wx a8 (i+1) ⟨wg,wn,wn,wj,(by exact f)⟩)
    .rw [jL aD] at C
     simp only [jD,Tx] at C
     have n:Hr W=(jP,10):=by rw [<- C];rfl
     refine wv (h:=?_)
     exact z _ _ (by simp [go_sem,Y,n,jP,iO,Prf.c_eq,l8,i6,eQ,dLI,eH,fY])
   .have h21':c.kind≠4:=by simpa using K
    rw [if_neg h21'] at l
    refine dP (λI=>?_) λI=>?_
    .have h32':c.kind=5:=by simpa using I
     obtain ⟨vc,vm,vk,ve,hV⟩:∃ vc vm vk ve,Hr W=(Prf.mk vc vm vk,ve):=by
      cases hh:Hr W with
      | mk a b=>cases a;exact ⟨_,_,_,_,rfl⟩
     have Y:=wa Y h32'
     refine wv (h:=aB ((by have q:=E h32';simp only [hV,Prf.c_eq,Cond.c_eq,h32'] at q;unfold scnC Mat.d Mat.c dLI dI at q;exact q)) wl ?_)
     refine wv (h:=?_)
     exact z _ _ (by simp [go_sem,Y,hV,jP,iO,Prf.c_eq,l8,i6,eQ,dLI,eH,fY])
    .have h32':c.kind≠5:=by simpa using I
     rw [if_neg h32'] at l
     have n:Hr W=(jP,0):=by rw [l];rfl
     refine wv (h:=?_)
     exact z _ _ (by simp [go_sem,Y,n,jP,iO,Prf.c_eq,l8,i6,eQ,dLI,eH,fY])
def T7 (t:Types)(p:Pattern)(c:Cond)(h:Host)(m:Mat)(inj:Bool):Int :=
 if condF t p c≠0 then condF t p c
 else if iG t h≠0 then iG t h
 else if fM t p.graph h.graph m.m inj≠0 then fM t p.graph h.graph m.m inj
 else if (d9 t p h m.m).2≠0 then (d9 t p h m.m).2
 else if (d9 t p h m.m).1≠m.vars then 11 else 0
theorem EI (t:Types)(g:t.ok)(p:Pattern)(c:Cond)(o:c.ok)(n:c.size<=1000000)(h:Host)(m:Mat)(a:Bool):Pure Tryz.prog 331 [t.d,p.d,.agg c.c,h.d,m.d,.bool a] (dI (T7 t p c h m a)):=by
 refine Tz.pK ⟨λ_=>false,λ_=>[]⟩ Tryz.func331 rfl (λQ f=>?_)
 have Y:=wa @Cond.c_eq (wa @Pattern.d.eq_1 (wa @Pattern.c.eq_1 (wa @Host.d.eq_1 (wa @Host.c.eq_1 (wa @Mat.d.eq_1 (wa @Mat.c.eq_1 (wa @Graph.c.eq_1 @Part.c.eq_1)))))))
 refine wv (h:=aB ((by have i:=w9 t g p c o n;rw [Cond.c_eq] at i;unfold Types.d Types.c Pattern.d Pattern.c dLI dI at i;exact i)) wl ?_)
 refine dP (λl=>?_) λl=>?_
 .have hM:T7 t p c h m a=condF t p c:=by unfold T7;rw [if_pos l]
  exact wv (h:=f _ _ (by simp [go_sem,hM]))
 .have hM:T7 t p c h m a=if iG t h≠0 then iG t h else if fM t p.graph h.graph m.m a≠0 then fM t p.graph h.graph m.m a else if (d9 t p h m.m).2≠0 then (d9 t p h m.m).2 else if (d9 t p h m.m).1≠m.vars then 11 else 0:=by unfold T7;rw [if_neg (bX l)]
  refine wv (h:=aB (A7 t g h) wl ?_)
  refine dP (λk=>?_) λk=>?_
  .have h5':iG t h≠0:=k
   rw [if_pos h5'] at hM
   exact wv (h:=f _ _ (by simp [go_sem,hM,iG]))
  .have h5':¬ iG t h≠0:=by unfold iG;simpa using k
   rw [if_neg h5'] at hM
   refine wv (h:=aB (wC t g p.graph h.graph m.m a) wl ?_)
   refine dP (λj=>?_) λj=>?_
   .rw [if_pos (bX j)] at hM
    exact wv (h:=f _ _ (by simp [go_sem,hM]))
   .rw [if_neg (bX j)] at hM
    refine wv (h:=aB (xC t g p h m.m) wl ?_)
    refine dP (λe=>?_) λe=>?_
    .rw [if_pos (bX e)] at hM
     exact wv (h:=f _ _ (by simp [go_sem,hM]))
    .rw [if_neg (bX e)] at hM
     refine wp (h:=aB (lK (d9 t p h m.m).1 m.vars) wl ?_)
     refine rT (λb=>?_) λb=>?_
     .rw [if_pos (bX b)] at hM
      exact wv (h:=f _ _ (by simp [go_sem,hM]))
     .rw [if_neg (bX b)] at hM
      exact wv (h:=f _ _ (by simp [go_sem,hM]))
theorem Cz (t:Types)(f:t.ok)(p:Pattern)(c:Cond)(o:c.ok)(g:CondV t p c)(k:PatOk t p)(h:Host)(l:HostOk t h)(m:Mat)(n:MatOk t p h m)(a:Bool)(r:T7 t p c h m a=0) :
  Pure Tryz.prog 239 [t.d,p.d,.agg c.c,h.d,m.d,.bool a] (.tup [.agg (NQ t h a c m).1.c,dI (NQ t h a c m).2]):=by
 obtain ⟨w,s,u,v,e,j,i⟩:=CR t h a c m
 refine uF (by first|rfl|(simp [go_sem];done)) (λQ q=>(aJ (cfg:=⟨λt=>t==12,λ_=>[]⟩) Tz.mixed Tryz.func239 rfl rfl (aF rfl) (by kernel_rfl) ?_))
 have Y:=wa @Cond.c_eq (wa @scnC.eq_1 (wa @Pattern.d.eq_1 (wa @Pattern.c.eq_1 (wa @Host.d.eq_1 (wa @Host.c.eq_1 (wa @Mat.d.eq_1 (wa @Mat.c.eq_1 @Prf.c_eq)))))))
 refine wv (h:=aB ((by have b:=EI t f p c o g.sz h m a;rw [r,Cond.c_eq] at b;unfold Types.d Types.c Pattern.d Pattern.c Host.d Host.c Mat.d Mat.c dLI dI at b;exact b)) wl ?_)
 refine wv (h:=aB ((by have b:=HE t f h l a c p g k m n;simp only [e,Prf.c_eq,Cond.c_eq] at b;unfold scnC Mat.d Mat.c dLI dI at b;exact b)) wl ?_)
 refine wv (h:=?_)
 exact q _ _ (by simp [go_sem,Y,e,Prf.c_eq,l8,i6,eQ,dLI,eH,fY])
theorem Ao (t:Types)(n:t.ok)(p:Pattern)(c:Cond)(s:c.ok)(u:CondV t p c)(o:PatOk t p)(h:Host)(q:HostOk t h)(m:Mat)(r:MatOk t p h m)(a:Bool)(v:T7 t p c h m a=0) :
  Pure Tryz.prog 141 [t.d,p.d,.agg c.c,h.d,m.d,.bool a] (.tup [.bool (nS t h a c m).1,dI (nS t h a c m).2]):=by
 obtain ⟨y,w,x,e,l,f,k⟩:=CR t h a c m
 have b:nS t h a c m=if e=10 then (false,0) else (decide (e=0),e):=by unfold nS RL;rw [f]
 refine Tz.pK ⟨λt=>t==14,λ_=>[]⟩ Tryz.func141 rfl (λQ j=>?_)
 have Y:=wa @Cond.c_eq (wa @Pattern.d.eq_1 (wa @Pattern.c.eq_1 (wa @Host.d.eq_1 (wa @Host.c.eq_1 (wa @Mat.d.eq_1 (wa @Mat.c.eq_1 @Prf.c_eq))))))
 refine wv (h:=aB ((by have g:=Cz t n p c s u o h q m r a v;simp only [l,Prf.c_eq,Cond.c_eq] at g;unfold Types.d Types.c Pattern.d Pattern.c Host.d Host.c Mat.d Mat.c dLI dI at g;exact g)) wl ?_)
 refine dP (λi=>?_) λi=>?_
 .rw [if_pos (bX i)] at b
  exact wv (h:=j _ _ (by simp [go_sem,b]))
 .rw [if_neg (bX i)] at b
  exact wv (h:=j _ _ (by simp [go_sem,b,Ch]))
theorem PD {H:AHeap}{d:D}(h:d.cl=true):fG H d=d:=by cases d<;>first|rfl|simp [D.cl] at h
theorem PC {H:AHeap}{d:D}(h:d.cl=true):iM H d=d:=by
 cases d with
 | agg cs =>
  simp only [D.cl] at h
  simp only [iM]
  congr 1
  conv=>rhs;rw [<- List.map_id cs]
  exact bU λy a=>PD (jK h y a)
 | _=>exact PD (H:=H) h
theorem PA (H:AHeap){d:D}(h:d.cl=true):qP H d=d:=by
 cases d with
 | tup vs =>
  simp only [D.cl] at h
  simp only [qP]
  congr 1
  conv=>rhs;rw [<- List.map_id vs]
  exact bU λy a=>PC (jK h y a)
 | _=>exact PC (H:=H) h
theorem Xp {P:Program}{f:FuncId}{args:List D}{r:D}(a:r.cl=true)(h:ACalls P f args .emp λd H'=>iS H' d=r):Pure P f args r:=by
 refine aT (ACalls.deep (h.mono λd H' e=>⟨?_,a⟩))
 rw [e];exact PA _ a
theorem Qy {H:AHeap}{a:List Nat}{vals:List (List Int)}(d:a.length=vals.length)(f:∀ (i q:Nat) (v:List Int),a[i]?=some q->vals[i]?=some v->H.get q=some ⟨3,1,v.map cI,false⟩):(k9 a vals).map (·.map (fG H))=vals.map cL:=by
 apply gL
 intro i
 simp only [aN]
 by_cases e:i<vals.length
 .have hq:i<a.length:=aD
  have b:=aA e
  have c:=aA hq
  rw [rW c b,b]
  have:=f i _ _ c b
  simp [fG,this,cL,dLI]
 .rw [b7 (by rw [jF d];omega),b7 aD];rfl
theorem Hx (h:Host)(hn:h.graph.nodes.length<=100000)(he:h.graph.edges.length<=100000)(hv:h.values.length<=100000)(hr:∀ v∈h.values,v.length<=100000):Pure Tryz.prog 143 [h.d] h.d:=by
 refine Xp (Host.cld h) ?_
 obtain ⟨Q,hQ⟩:∃ Q:D->AHeap->Prop,∀ d H',Q d H'↔iS H' d=h.d:=⟨_,λ_ _=>Iff.rfl⟩
 rw [show (λd H'=>iS H' d=h.d)=Q from funext λd=>funext λH'=>propext (hQ d H').symm]
 refine (aJ (cfg:=⟨λt=>t==2||t==3||t==25||t==1000001,λr=>match r with|1=>[(0,10),(1,10),(2,10),(3,10),(4,10),(5,10),(6,10),(7,10)]|5=>[(0,2),(1,2),(0,4),(1,4),(0,5),(1,5)]|_=>[]⟩) Tz.mixed Tryz.func143 rfl rfl (aF rfl) (by kernel_rfl) ?_)
 have Y:=wa @Host.d.eq_1 @Host.c.eq_1
 refine wv (h:=?_)
 refine mQ (jG h.graph.nodes aD) (by simp [go_sem,dLI]) (by simp [go_sem]) (Jl _) rfl (by simp [go_sem]) ?_
 refine wv (h:=?_)
 refine mQ (Bk h.graph.edges aD) (by simp [go_sem]) (by simp [go_sem]) (SA _) rfl (by simp [go_sem]) ?_
 refine wp (h:=uI (Ghosts.step (Ghosts.refl _) 11 0 2 26 1 _ _ ((by simp [go_sem];rfl)) rfl rfl rfl) (λi e H=>∃ qs:List Nat,(e 1=.adr h.c/\e 2=.ptr 0 1 0 0/\e 3=.ptr 11 1 0 0/\e 17=.list (h.values.map cL)/\e 18=dI h.values.length/\e 19=dI i)/\(H.get 0=some ⟨44,3,[[.nil,.nil,.nil]],false⟩)/\(0<H.next)/\(H.get 11=some ⟨44,3,[[dLI h.graph.nodes,.list (h.graph.edges.map Edge.c),.own 13 i]],false⟩)/\(11<H.next)/\(H.get 13=some ⟨26,1,k9 qs (h.values.take i),false⟩)/\(13<H.next)/\(i<=h.values.length)/\(qs.length=(h.values.take i).length)/\(∀ q∈qs,13<q/\q<H.next)/\(13<H.next)/\(∀ (k q:Nat) (v:List Int),qs[k]?=some q->(h.values.take i)[k]?=some v->H.get q=some ⟨3,1,v.map cI,false⟩)) (λi=>h.values.length - i) 0 ⟨([]),wg,wn,wn,wn,wn,(by simp [go_sem,Y,k9]),wn,wi,(by rfl),(by intro q hq;cases hq),(by simp [go_sem]),(by intro k q v hk;simp at hk)⟩ λI0 hI0 i e H hi0=>?_)
 obtain ⟨qs,E0,g0_0,n0_0,g11_0,n11_0,g13_0,n13_0,hi,hql,hqr,hnx,hgq⟩:=hi0
 have Y:=wa Y (wa E0 (wa g0_0 (wa (b8 n0_0) (wa g11_0 (wa (b8 n11_0) (wa g13_0 (b8 n13_0)))))))
 refine dP (λh3=>?_) λh3=>?_
 .have hr8:=hr _ (aC h3)
  have hrl:(k9 qs (h.values.take i)).length=i:=by rw [jF hql];simp;omega
  have hgq2:∀ H2:AHeap,H2.get (H.next+2)=some ⟨3,1,h.values[i].map cI,false⟩->(∀ q∈qs,H2.get q=H.get q)->∀ (k q:Nat) (v:List Int),(qs++[H.next+2])[k]?=some q->(h.values.take (i+1))[k]?=some v->H2.get q=some ⟨3,1,v.map cI,false⟩:=λH2 g1 g2 k q v e1 e2=>by
   rw [aE h3] at e2
   have hqi:qs.length=i:=by rw [hql];simp;omega
   have hti:(h.values.take i).length=i:=by simp;omega
   by_cases hk:k<i
   .rw [aS aD] at e1
    rw [aS aD] at e2
    rw [g2 q (aK e1)];exact hgq k q v e1 e2
   .have h1':=(aM.1 e1).1
    have:k=i:=by simp at h1';omega
    subst this
    rw [aZ aD,hqi,xO] at e1
    rw [aZ aD,hti,xO] at e2
    simp at e1 e2
    subst e1 e2;exact g1
  have Y:=wa Y (wa h3 (wa (aA h3) (wa @cL.eq_1 hrl)))
  exact wp (h:=wx hI0 (i+1) ⟨(qs++[H.next+2]),wg,wn,wn,wn,wn,(by rw [aE h3,wF hql];simp [go_sem,Y,cL]),wn,wj,(by simp [hql];omega),(by intro q hq;rw [aW,bL] at hq;rcases hq with hq|rfl;(have:=hqr q hq;simp [go_sem];omega);(simp [go_sem];omega)),(by simp [go_sem];omega),(by exact hgq2 _ (by simp [go_sem,Y,cL]) (λq hq=>by have:=hqr q hq;simp [go_sem,b8 this.2,(aD:q≠13),(aD:q≠11)]))⟩)
 .rw [aG aD] at hql hgq
  have hie:i=h.values.length:=aD
  refine wv (h:=?_)
  refine (hQ _ _).2 ?_
  obtain ⟨E,hEq⟩:=cW (H.put 0 ⟨44,3,[[D.list (List.map cI h.graph.nodes),D.list (List.map Edge.c h.graph.edges),D.own 13 i]],false⟩)
  rw [<- hEq]
  have hE13:E.get 13=some ⟨26,1,k9 qs (h.values.take i),false⟩:=by rw [hEq];simp [go_sem,g13_0]
  rw [aG (aD:h.values.length<=i)] at hE13
  have hR:=Qy (H:=E) hql (λk q v e1 e2=>by
   have:=hqr q (aK e1)
   rw [hEq];simp [go_sem,(aD:q≠0)];exact hgq k q v e1 e2)
  have hrl:=jF hql
  simp only [iS,jW,pN,fG,g9,jD,hE13,hrl,hR,hie,if_true]
  rfl
end Go.Abs
end
