/- Layer 49: what both explorations answer; the errors of both  -/
import Derived.Test.YtmaibfgcngmjhaaGreatZeAW
import Derived.Test.YtmaibfgcngmjhaaGreatZeAZ
import Derived.Test.YtmaibfgcngmjhaaGreatZeBA
import Derived.Test.YtmaibfgcngmjhaaGreatZeAG
import Derived.Test.YtmaibfgcngmjhaaGreatZeAA
import Derived.Test.YtmaibfgcngmjhaaGreatZeAY
import Derived.Test.YtmaibfgcngmjhaaGreatZeAX
import Derived.Calls
import Derived.StepT
import Derived.Shelf.SlSortCmp.NoneTotal
set_option linter.unusedVariables false
set_option linter.unusedSimpArgs false
section
set_option maxRecDepth 100000
set_option maxHeartbeats 4000000
open Go Go.Proofs Tryz
namespace Go.Abs
theorem XF {t:Types}{r:Rule}{h:Host}{m:Mat}(a:m∈(iS t r h).1):nT t r h m=0:=by
 unfold iS at a;split at a
 .cases a
 .rename_i h1;split at a
  .cases a
  .have h2:=(dR.1 a).2;unfold nT;rw [if_neg h1];simpa using h2
theorem La {t:Types}{r:Rule}{h:Host}{m:Mat}(d:r.ok)(a:nT t r h m=0):StepOk t r h m:=by
 unfold nT at a;split at a
 .contradiction
 .rename_i hg;obtain ⟨c,b⟩:=Ft (cG hg);exact ZU (Ti d c) (rW b) a
def ValB (h:Host):Prop:=∀ v∈h.values,v.length<=1000/\∀ x∈v,-1000000<=x/\x<=1000000
theorem ValB.eb {a b:Host}(e:ValB a)(d:ValB b)(i:Nat)(g:i<a.values.length)(f:i<b.values.length):GQ a.values[i] b.values[i]:=by
 have p:=e _ (aC g);have q:=d _ (aC f);exact JK (λx c=>by have:=p.2 x c;unfold XL;omega) (λx c=>by have:=q.2 x c;unfold XL;omega) bL bL
theorem OE:ValB ⟨⟨[],[]⟩,[]⟩:=λv hv=>by cases hv
theorem Lh {t:Types}(ht:t.ok){h:Host}(h0:dH t h=0):ValB (vC h):=λv hv=>by
 obtain ⟨x,_,rfl⟩:=aS.1 hv;unfold vN;by_cases hx:x.toNat<h.values.length
 .rw [aA hx];have:=(rW h0).row _ (aC hx);exact ⟨by have:=this.1;simp;omega,this.2⟩
 .rw [bC bL];simp
theorem Re {t:Types}(a:t.ok)(h:Host):ValB (pI t h):=by
 unfold pI;split
 .exact OE
 .rename_i hz;refine Lh a ?_;unfold lR at hz;split at hz
  .rename_i q;exact absurd q (cG hz)
  .rename_i q;simpa using q
theorem T0 (t:Types)(r:Rule)(h:Host)(m:Mat):Ha t r h m=if nT t r h m≠0 then ⟨⟨[],[]⟩,[]⟩ else pI t (uZ t r h m):=by
 unfold Ha KO pI;by_cases a:nT t r h m=0
 .simp [a]
 .simp [a]
theorem V5 {t:Types}(a:t.ok)(r:Rule)(h:Host)(m:Mat):ValB (Ha t r h m):=by
 rw [T0];split
 .exact OE
 .exact Re a _
def CP (rs:List Rule)(k:Int):Rule:=rs[k.toNat]?.getD qA
def Vu (l:List Host)(i:Nat):Host:=l[i]?.getD L9
def R5 (t:Types)(rs:List Rule)(h:Host)(m:Mv):Int:=KO t (CP rs m.V) h m.m
def Zp (t:Types)(rs:List Rule)(h:Host)(m:Mv):Vis:=⟨m.V,m.m,Ha t (CP rs m.V) h m.m⟩
def tD (most i:Int)(x:XS)(v:Vis):XS :=
 if AB x.A v.az<0/\(x.A.length:Int)=most then { x with all:=false }
 else if AB x.A v.az<0 then ⟨x.A++[v.az],rQ x.M ⟨v.V,i,x.A.length,v.m⟩,x.all⟩
 else ⟨x.A,rQ x.M ⟨v.V,i,AB x.A v.az,v.m⟩,x.all⟩
def CO (t:Types)(rs:List Rule)(h:Host)(most i:Int):List Mv->XS->XS × Int
 | [],x=>(x,0)
 | m :: l,x=>if R5 t rs h m≠0 then (x,R5 t rs h m) else CO t rs h most i l (tD most i x (Zp t rs h m))
def wJ (t:Types)(rs:List Rule)(most:Int)(i:Nat)(x:XS):XS × Int :=
 if (jB t (Vu x.A i) 0 rs).2≠0 then (x,(jB t (Vu x.A i) 0 rs).2) else CO t rs (Vu x.A i) most i (jB t (Vu x.A i) 0 rs).1 x
def wM (t:Types)(rs:List Rule)(most:Int):Nat->Nat->XS->XS × Int
 | 0,_,x=>(x,0)
 | n+1,i,x=>if i<x.A.length then (if (wJ t rs most i x).2≠0 then wJ t rs most i x else wM t rs most n (i+1) (wJ t rs most i x).1) else (x,0)
theorem PJ {t:Types}{h:Host}:∀ (rs:List Rule) (k:Nat) (m:Mv),m∈(jB t h k rs).1->∃ j,∃ hj:j<rs.length,m.V=((k+j:Nat):Int)/\m.m∈(iS t rs[j] h).1
 | [],_,m,hm=>by simp [jB] at hm
 | r :: l,k,m,hm=>by
  simp only [jB] at hm;split at hm
  .cases hm
  .split at hm
   .cases hm
   .rcases aQ.1 hm with hm|hm
    .obtain ⟨a,ha,rfl⟩:=aS.1 hm;exact ⟨0,by simp,rfl,ha⟩
    .obtain ⟨j,hj,e,hm⟩:=PJ l (k+1) m hm;exact ⟨j+1,by simpa using hj,by rw [e];congr 1;omega,by simpa using hm⟩
theorem PK {t:Types}{h:Host}:∀ (rs:List Rule) (k:Nat),(jB t h k rs).1.length<=5000 * rs.length
 | [],_=>by simp [jB]
 | r :: l,k=>by
  have ih:=PK (t:=t) (h:=h) l (k+1);have ha:=Od t r h;simp only [jB];split
  .simp
  .split
   .simp
   .rw [aO,bR,cD];omega
theorem PH (l:List Arr)(x:Arr):(rQ l x).length<=l.length+1:=by
 unfold rQ;split
 .omega
 .rw [aO,cD,bT,dV];omega
structure XOk (most:Int) (B:Nat) (x:XS):Prop where
 hl:(x.A.length:Int)<=most
 vb:∀ h∈x.A,ValB h
 J:x.M.length<=B
theorem XOk.step {most i:Int}{B:Nat}{x:XS}{v:Vis}(h:XOk most B x)(b:ValB v.az):XOk most (B+1) (tD most i x v)/\∃ l,(tD most i x v).A=x.A++l:=by
 unfold tD;split
 .exact ⟨⟨h.hl,h.vb,Nat.le_succ_of_le h.J⟩,[],by simp⟩
 .rename_i hn;split
  .rename_i hk;have hl:=h.hl;refine ⟨⟨by simp only [aO,AJ];have:¬ (x.A.length:Int)=most:=λq=>hn ⟨hk,q⟩;omega,λa ha=>?_,dA (PH _ _) (by have:=h.J;omega)⟩,_,rfl⟩;rcases aQ.1 ha with ha|ha
   .exact h.vb a ha
   .rw [aX.1 ha];exact b
  .exact ⟨⟨h.hl,h.vb,dA (PH _ _) (by have:=h.J;omega)⟩,[],by simp⟩
def AE (t:Types)(rs:List Rule)(h:Host)(most:Int):XS × Int :=
 if fJ t rs≠0 then (⟨[],[],false⟩,fJ t rs) else if dH t h≠0 then (⟨[],[],false⟩,dH t h) else if most<1\/300<most then (⟨[],[],false⟩,6) else if lR t h≠0 then (⟨[],[],false⟩,lR t h)
 else if (wM t rs most most.toNat 0 ⟨[vC h],[],true⟩).2≠0 then (⟨[],[],false⟩,(wM t rs most most.toNat 0 ⟨[vC h],[],true⟩).2) else ((wM t rs most most.toNat 0 ⟨[vC h],[],true⟩).1,0)
def XS.d (x:XS):D:=.agg [.list (x.A.map Host.c),.list (x.M.map Arr.c)]
theorem Fl (l:List Host):eL (l.map Host.c)=l.map Host.c:=mZ λc hc=>by
 rw [aS] at hc;obtain ⟨y,_,rfl⟩:=hc;simp [Host.c,lA,gI,dLI,Bb,LO,PR]
theorem PU (l:List Arr):eL (l.map Arr.c)=l.map Arr.c:=mZ λc hc=>by
 rw [aS] at hc;obtain ⟨y,_,rfl⟩:=hc;simp [Arr.c,lA,gI,dLI,dI,Bb]
@[go_sem] theorem XS.ea (x:XS):x.d.U=true:=by simp [XS.d,go_sem]
theorem Sb {t:Types}{rs:List Rule}{most:Int}{n i:Nat}{x:XS}(h:i<x.A.length):wM t rs most (n+1) i x=if (wJ t rs most i x).2≠0 then wJ t rs most i x else wM t rs most n (i+1) (wJ t rs most i x).1:=by
 show (if i<x.A.length then _ else _)=_;rw [if_pos h]
theorem Vg {t:Types}{rs:List Rule}{most:Int}{n i:Nat}{x:XS}(h:¬ i<x.A.length):wM t rs most n i x=(x,0):=by
 cases n with
 | zero=>rfl
 | succ n=>show (if i<x.A.length then _ else _)=_;rw [if_neg h]
theorem Kv (t:Types)(U:t.ok)(rs:List Rule)(W:∀ r∈rs,r.ok)(h:Host)(most:Int):Pua 8 [t.d,.list (rs.map Rule.c),h.d,dI most] (.tup [(AE t rs h most).1.d,.bool (AE t rs h most).1.all,dI (AE t rs h most).2]):=by
 refine uT em (λQ N=>(Tz.cK ⟨λt=>t==8||t==14||t==15||t==17||t==23||t==62||t==132||t==133,λr=>match r with|22=>[(0,15),(2,15),(3,15),(5,15),(6,15),(9,15),(10,15),(11,15)]|_=>[]⟩ func8 rfl ?_));have Y:=xa3 @Host.d.eq_1 @Host.c.eq_1 @XS.d.eq_1 @Arr.c.eq_1 @Arr.d.eq_1;refine wv (h:=aB (Pc t U rs W) wl ?_);refine dD (λh2=>?_) λh2=>?_
 .have F:AE t rs h most=(⟨[],[],false⟩,fJ t rs):=by unfold AE;rw [if_pos (cG h2)]
  refine wv (h:=?_);exact N _ _ (by simp [go_sem,F,Y,lA,gI])
 .have z1:fJ t rs=0:=by simpa using h2
  have e0:rs.length<=10:=by
   unfold fJ at z1;split at z1
   .contradiction
   .split at z1
    .cases z1
    .omega
  refine wv (h:=aB (qB t U h) wl ?_);refine dD (λh5=>?_) λh5=>?_
  .have F:AE t rs h most=(⟨[],[],false⟩,dH t h):=by unfold AE;rw [if_neg (fg z1),if_pos (by unfold dH;simpa using h5)]
   refine wv (h:=?_);exact N _ _ (by simp [go_sem,F,Y,lA,gI,dH])
  .have z2:dH t h=0:=by unfold dH;simpa using h5
   refine jH (λh7=>?_) λh7=>?_
   .have F:AE t rs h most=(⟨[],[],false⟩,6):=by unfold AE;rw [if_neg (fg z1),if_neg (fg z2),if_pos (by first|exact h7|omega)]
    refine wv (h:=?_);exact N _ _ (by simp [go_sem,F,Y,lA,gI])
   .have z3:¬ (most<1\/300<most):=by first|exact h7|omega
    refine wv (h:=aB (Ah t U h) wl ?_);refine dD (λa6=>?_) λa6=>?_
    .have F:AE t rs h most=(⟨[],[],false⟩,lR t h):=by unfold AE;rw [if_neg (fg z1),if_neg (fg z2),if_neg z3,if_pos (cG a6)]
     refine wv (h:=?_);exact N _ _ (by simp [go_sem,F,Y,lA,gI])
    .have z4:lR t h=0:=by simpa using a6
     have d5:pI t h=vC h:=by unfold pI;rw [if_neg (fg z4)]
     obtain ⟨R,hR⟩:=cY (wM t rs most most.toNat 0 ⟨[vC h],[],true⟩);have F:AE t rs h most=if R.2≠0 then (⟨[],[],false⟩,R.2) else (R.1,0):=by unfold AE;rw [if_neg (fg z1),if_neg (fg z2),if_neg z3,if_neg (fg z4),hR]
     have d7:XOk most 0 ⟨[vC h],[],true⟩:=⟨by simp;omega,λa ha=>by rw [aX.1 ha];exact Lh U z2,by simp⟩;have Y:=wa Y d5;refine wv (h:=bA (λi e H=>∃ x:XS,∃ ad:D,(e 4=.adr t.c/\e 6=.adr h.c/\e 1=.list (rs.map Rule.c)/\e 3=dI most/\e 8=.ptr 0 1 0 0/\e 17=.ptr 4 1 0 0/\e 18=.bool x.all/\e 19=dI i)/\(H.get 0=some ⟨41,2,[[.nil,.nil]],false⟩)/\(0<H.next)/\(H.get 4=some ⟨41,2,[[.own 3 x.A.length,ad]],false⟩)/\(4<H.next)/\(H.get 3=some ⟨33,3,x.A.map Host.c,false⟩)/\(3<H.next)/\(XOk most (100000 * i) x)/\(ad=.list (x.M.map Arr.c)\/(ad=.nil/\x.M=[]))/\(i<=x.A.length)/\(wM t rs most (most.toNat - i) i x=R)) (λi=>most.toNat - i) 0 ⟨(⟨[vC h],[],true⟩),.nil,wg,wn,wn,wn,wn,wn,wn,(by exact d7),(by exact .inr ⟨rfl,rfl⟩),(by simp),(by rw [hR];rfl)⟩ λI0 d9 i e H d3=>?_);obtain ⟨x,ad,E0,c7,b2,c3,a8,c5,b0,hx,c1,hi,hL⟩:=d3;have Y:=xa6 Y E0 c7 (bU b2) c3 (bU a8) c5 (bU b0);refine jH (λo=>?_) λo=>?_
     .have hml:=hx.hl;obtain ⟨f,Z⟩:=cY (x.A[i]);have d6:Vu x.A i=f:=by unfold Vu;rw [aA o,Z];rfl
      obtain ⟨V,hV⟩:=cY (jB t f 0 rs);have e3:V.1.length<=50000:=by rw [hV];have:=PK (t:=t) (h:=f) rs 0;omega
      have d0:∀ m∈V.1,∃ j,∃ hj:j<rs.length,m.V=(j:Int):=λm hm=>by
       rw [hV] at hm;obtain ⟨j,hj,e,_⟩:=PJ rs 0 m hm;exact ⟨j,hj,by rw [e];congr 1;omega⟩
      have g:wM t rs most (most.toNat - i) i x=if (wJ t rs most i x).2≠0 then wJ t rs most i x else wM t rs most (most.toNat - (i+1)) (i+1) (wJ t rs most i x).1:=by
       rw [show most.toNat - i=(most.toNat - (i+1))+1 by omega];exact Sb o
      rw [hL] at g;have J:wJ t rs most i x=if V.2≠0 then (x,V.2) else CO t rs f most i V.1 x:=by unfold wJ;rw [d6,<- hV]
      have Y:=xa3 Y o (aA o) (Eq.symm Z) (Eq.symm hV);refine wp (h:=aJ (Ir t U rs W bL f) wl ?_);refine jH (λa5=>?_) λa5=>?_
      .have hne:V.2≠0:=by simpa using a5
       rw [J,if_pos hne,if_pos hne] at g;have p:AE t rs h most=(⟨[],[],false⟩,V.2):=by rw [F,g];exact if_pos hne
       refine wv (h:=?_);exact N _ _ (by simp [go_sem,p,Y,lA,gI])
      .rw [if_neg (cG a5)] at J;refine wv (h:=bA (λj e H=>∃ y:XS,∃ P:D,(e 4=.adr t.c/\e 6=.adr h.c/\e 1=.list (rs.map Rule.c)/\e 3=dI most/\e 8=.ptr 0 1 0 0/\e 17=.ptr 4 1 0 0/\e 18=.bool y.all/\e 19=dI i/\e 20=.list (V.1.map Mv.c)/\e 22=dI j)/\(H.get 0=some ⟨41,2,[[.nil,.nil]],false⟩)/\(0<H.next)/\(H.get 4=some ⟨41,2,[[.own 3 y.A.length,P]],false⟩)/\(4<H.next)/\(H.get 3=some ⟨33,3,y.A.map Host.c,false⟩)/\(3<H.next)/\(j<=V.1.length)/\(XOk most (100000 * i+j) y)/\(P=.list (y.M.map Arr.c)\/(P=.nil/\y.M=[]))/\(∃ l,y.A=x.A++l)/\(CO t rs f most i V.1 x=CO t rs f most i (V.1.drop j) y)) (λj=>V.1.length - j) 0 ⟨x,ad,wg,wn,wn,wn,wn,wn,wn,wi,(by exact hx),(by exact c1),(by exact ⟨[],by simp⟩),(by rfl)⟩ λI2 a2 j e H d2=>?_);obtain ⟨y,P,E2,c6,b1,c2,a7,c4,a9,hj,T,L,M,a1⟩:=d2;have Y:=xa6 Y E2 c6 (bU b1) c2 (bU a7) c4 (bU a9);refine jH (λG=>?_) λG=>?_
       .have hml2:=T.hl;obtain ⟨l0,K⟩:=M;have a0:y.A[i]?=some f:=by rw [K,aY o,aA o,Z]
        obtain ⟨k,hk,X⟩:=d0 _ (aC G);obtain ⟨m,hm⟩:=cY (V.1[j]);rw [<- hm] at X;have b8:CP rs m.V=rs[k]:=by unfold CP;rw [X,Int.toNat_natCast,aA hk];rfl
        obtain ⟨v,hv⟩:=cY (Zp t rs f m);have b6:v.az=Ha t rs[k] f m.m:=by rw [hv];unfold Zp;rw [b8]
        have b7:ValB v.az:=by rw [b6];exact V5 U _ _ _
        have hC:∀ a∈y.A,∀ q (h1:q<a.values.length) (h2:q<v.az.values.length),GQ a.values[q] v.az.values[q]:=λa ha q h1 h2=>(T.vb a ha).eb b7 q h1 h2;have cE:Pua 35 [t.d,.list (rs.map Rule.c),f.d,.agg m.c] (.tup [v.az.d,dI (R5 t rs f m)]):=by
         have:=UK t U rs W f k hk m.m;unfold R5 Mv.c;rw [b8,b6,X];exact this
        have B:CO t rs f most i (V.1.drop j) y=if R5 t rs f m≠0 then (y,R5 t rs f m) else CO t rs f most i (V.1.drop (j+1)) (tD most i y v):=by
         rw [List.drop_eq_getElem_cons G,<- hm,hv];rfl
        obtain ⟨b3,l1,b9⟩:=T.step (v:=v) (i:=(i:Int)) b7;obtain ⟨z,hz⟩:=cY (tD most i y v);rw [<- hz] at b3 b9;have S:XOk most (100000 * i+(j+1)) z:=b3;have A:∃ l,z.A=x.A++l:=⟨l0++l1,by rw [b9,K,List.append_assoc]⟩;have b4:v.V=m.V:=by rw [hv];rfl
        have b5:v.m=m.m:=by rw [hv];rfl
        have c0:P.U=true:=by rcases L with rfl|⟨rfl,_⟩<;>simp [go_sem]
        have O:∀ a:Arr,Pua 37 [P,a.d] (.list ((rQ y.M a).map Arr.c)):=λa=>by
         have e2:=T.J;have hp:=UJ y.M a bL;rcases L with rfl|⟨rfl,h0⟩
         .exact hp
         .refine hp.dn rfl ?_;rintro (_|_|j) d d' q1 q2<;>simp at q1 q2
          .subst q1 q2;rw [h0];exact .inr (by simp [lA])
          .exact .inl (q2.symm.trans q1)
        obtain ⟨q,hq⟩:=cY (AB y.A v.az);have d1:i<y.A.length:=(aL.1 a0).1;have d4:y.A[i]=f:=(aL.1 a0).2;have Y:=xb0 Y @Host.d.eq_1 @XS.d.eq_1 @Arr.d.eq_1 G (aA G) (Eq.symm hm) a0 (Eq.symm hq) d1 d4 @Mv.c.eq_1;refine wp (h:=aJ (cE) wl ?_);refine jH (λa4=>?_) λa4=>?_
        .have hne:R5 t rs f m≠0:=by simpa using a4
         rw [if_pos hne] at B;rw [J,a1,B] at g;have p:AE t rs h most=(⟨[],[],false⟩,R5 t rs f m):=by rw [F,g,if_pos hne];exact if_pos hne
         refine wv (h:=?_);exact N _ _ (by simp [go_sem,p,Y,lA,gI])
        .rw [if_neg (cG a4)] at B;rw [<- hz] at B;have E:=a1.trans B;refine wv (h:=mP ((RJ y.A v.az hC)) wr wl rfl ?_);refine jH (λn=>?_) λn=>?_
         .obtain ⟨u,w,s⟩:z.A=y.A/\z.M=y.M/\z.all=false:=by rw [hz];unfold tD;rw [<- hq,if_pos (by first|exact n|(simpa using n))];exact ⟨rfl,rfl,rfl⟩
          obtain ⟨I,b⟩:∃ c,c=P:=⟨_,rfl⟩;have C:I=.list (z.M.map Arr.c)\/(I=.nil/\z.M=[]):=by rw [w,b];exact L
          have Y:=xa2 Y u s b;exact wp (h:=wx a2 (j+1) ⟨z,I,wg,wn,wn,wn,wn,wn,wn,wj,(by exact S),(by exact C),(by exact A),(by exact E)⟩)
         .have hn2:¬ (q<0/\(y.A.length:Int)=most):=by first|exact n|(intro f;exact n f.1 f.2)|(simpa using n)
          have Y:=wa Y n;refine dD (λa3=>?_) λa3=>?_
          .have hq0:q<0:=by simpa using a3
           obtain ⟨u,w,s⟩:z.A=y.A++[v.az]/\z.M=rQ y.M ⟨m.V,i,y.A.length,m.m⟩/\z.all=y.all:=by rw [hz];unfold tD;rw [<- hq,if_neg hn2,if_pos hq0,b4,b5];exact ⟨rfl,rfl,rfl⟩
           obtain ⟨I,b⟩:∃ c,c=D.list ((rQ y.M ⟨m.V,i,y.A.length,m.m⟩).map Arr.c):=⟨_,rfl⟩;have C:I=.list (z.M.map Arr.c)\/(I=.nil/\z.M=[]):=.inl (by rw [w,b]);have cP:=O ⟨m.V,i,y.A.length,m.m⟩;have Y:=xa3 Y u s b c0;refine wp (h:=aJ (cP) wl ?_);exact wp (h:=wx a2 (j+1) ⟨z,I,wg,wn,wn,wn,wn,wn,wn,wj,(by exact S),(by exact C),(by exact A),(by exact E)⟩)
          .have hq0:¬ q<0:=by first|exact a3|omega
           obtain ⟨u,w,s⟩:z.A=y.A/\z.M=rQ y.M ⟨m.V,i,q,m.m⟩/\z.all=y.all:=by rw [hz];unfold tD;rw [<- hq,if_neg hn2,if_neg hq0,b4,b5];exact ⟨rfl,rfl,rfl⟩
           obtain ⟨I,b⟩:∃ c,c=D.list ((rQ y.M ⟨m.V,i,q,m.m⟩).map Arr.c):=⟨_,rfl⟩;have C:I=.list (z.M.map Arr.c)\/(I=.nil/\z.M=[]):=.inl (by rw [w,b]);have cP:=O ⟨m.V,i,q,m.m⟩;have Y:=xa3 Y u s b c0;refine wp (h:=aJ (cP) wl ?_);exact wp (h:=wx a2 (j+1) ⟨z,I,wg,wn,wn,wn,wn,wn,wn,wj,(by exact S),(by exact C),(by exact A),(by exact E)⟩)
       .have hdn:CO t rs f most i (V.1.drop j) y=(y,0):=by rw [cR bL];rfl
        rw [J,a1,hdn] at g;rw [if_neg bS] at g;have d8:=g.symm;have c8:XOk most (100000 * (i+1)) y:=⟨T.hl,T.vb,by have:=T.J;omega⟩;obtain ⟨l0,K⟩:=M;have e1:y.A.length=x.A.length+l0.length:=by rw [K,aO]
        exact wp (h:=wx d9 (i+1) ⟨y,P,wg,wn,wn,wn,wn,wn,wn,(by exact c8),(by exact L),(by omega),(by exact d8)⟩)
     .have p:AE t rs h most=(x,0):=by rw [F,<- hL,Vg bL];rfl
      refine wv (h:=?_);rcases c1 with rfl|⟨rfl,c9⟩
      .exact ⟨rfl,N _ _ (by simp [go_sem,p,Y,lA,gI,Fl,PU])⟩
      .exact ⟨rfl,N _ _ (by simp [go_sem,p,Y,lA,gI,c9,Fl])⟩
theorem Wf {l : List Cond} {i : Nat} (h : i < l.length) : Cond.X (l.take (i + 1)) = Cond.X (l.take i) + l[i].size := by
  induction l generalizing i with
  | nil => simp at h
  | cons a l ih =>
    cases i with
    | zero => simp [Cond.X]
    | succ i =>
      have := ih (i := i) (by simpa using h);simp only [kV, Cond.X, List.getElem_cons_succ, this]; omega
theorem Rw {l:List Cond}:∀ i,Cond.X (l.take i)<=Cond.X l:=by
 induction l with
 | nil=>intro i;simp
 | cons a l ih =>
  intro i;cases i with
  | zero=>simp [Cond.X]
  | succ i=>have:=ih i;simp only [kV,Cond.X];omega
theorem RK:∀ c:Cond,c.size<=1000->Pua 19 [.agg c.c] (dI c.size):=by
 refine lU λc f p=>?_;have j:=v7 c;have k:∀ i (h:i<c.y.length),c.y[i].size<=Cond.X c.y:=λi h=>by
  have s:=Wf h;have r:=Rw (l:=c.y) (i+1);omega
 refine Tz.p0 func19 rfl λQ m _=>?_;have Y:=@Cond.F;refine wv (h:=bA (λi e H=>(e 1=.adr c.c/\e 3=.int .i64 (1+(Cond.X (c.y.take i):Int))/\e 4=dI i)/\(i<=c.y.length)/\(Cond.X (c.y.take i)<=1000)) (λi=>c.y.length - i) 0 ⟨wg,wi,(by simp [Cond.X])⟩ λt d i e H b=>?_);obtain ⟨n,o,q⟩:=b;have Y:=wa Y n;refine wv (h:=?_);repeat first|intro _|refine ⟨iV,?_⟩
 refine wq (λa=>?_) λa=>?_
 .have hst:=Wf a;have g:=Rw (l:=c.y) (i+1);have Y:=xa2 Y a (aA a) hst;refine wo (h:=aB ((by have:=f _ (aC a) (by have:=k i a;omega);rwa [Cond.F] at this)) wl ?_);exact wo (h:=wx d (i+1) ⟨wg,wj,(by have:=Rw (l:=c.y) (i+1);omega)⟩)
 .have hE:(c.size:Int)=1+(Cond.X (c.y.take i):Int):=by rw [aH bL,j];simp
  exact wv (h:=m _ _ (eD hE))
def KJ (t:Types)(rs:List Rule)(h:Host):Int:=if dH t h≠0 then dH t h else if 6<rs.length then 3 else kL t rs
theorem Kw (t:Types)(m:t.ok)(rs:List Rule)(g:∀ r∈rs,r.ok)(h:Host):Pua 17 [t.d,.list (rs.map Rule.c),h.d,dI 1] (dI (KJ t rs h)):=by
 refine Tz.p0 func17 rfl λQ f Y=>?_;refine wv (h:=aB (qB t m h) wl ?_);refine dD (λl=>?_) λl=>?_
 .have hE:KJ t rs h=(oZ t h).2:=by unfold KJ dH;rw [if_pos (cG l)]
  exact wv (h:=f _ _ (by rw [hE];simp [go_sem]))
 .have hv:dH t h=0:=by unfold dH;simpa using l
  refine dZ (λo=>?_) λo=>?_
  .have hE:KJ t rs h=3:=by unfold KJ;rw [if_neg bL,if_pos bL]
   exact wv (h:=f _ _ (by rw [hE];simp [go_sem]))
  .have hE:KJ t rs h=kL t rs:=by unfold KJ;rw [if_neg bL,if_neg bL]
   refine wv (h:=bA (λi e H=>(e 4=.adr t.c/\e 6=.adr h.c/\e 1=.list (rs.map Rule.c)/\e 3=dI 1/\e 11=dI i)/\(i<=rs.length)/\(kL t (rs.drop i)=kL t rs)) (λi=>rs.length - i) 0 ⟨wg,wi,(by rfl)⟩ λs k i e H j=>?_);obtain ⟨p,q,n⟩:=j;have Y:=wa Y p;refine dZ (λb=>?_) λb=>?_
   .have hds:kL t (rs.drop i)=if ruleF t rs[i]≠0 then ruleF t rs[i] else kL t (rs.drop (i+1)):=by rw [List.drop_eq_getElem_cons b];rfl
    rw [n] at hds;have Y:=xa1 Y b (aA b);refine wo (h:=aJ (A1 t m rs[i] (g _ (aC b))) wl ?_);refine dZ (λa=>?_) λa=>?_
    .have hne:ruleF t rs[i]≠0:=by simpa using a
     rw [if_pos hne] at hds;exact wv (h:=f _ _ (by rw [hE,hds];simp [go_sem]))
    .have hst:=hds.symm;rw [if_neg (cG a)] at hst;exact wo (h:=wx k (i+1) ⟨wg,wj,(by exact hst)⟩)
   .have hz:kL t rs=0:=by rw [<- n,cR bL];rfl
    exact wo (h:=f _ _ (by rw [hE,hz];simp [go_sem]))
def Zo (t:Types)(h:Host)(r:Rule):Bool:=light26 t r h&&decide (r.left.o.i.length+r.left.o.j.length<=3)&&decide (r.cond.size<=3)&&decide (r.right.o.i.length<=r.left.o.i.length+1)&&decide (r.right.o.j.length<=r.left.o.j.length+1)
def w9 (t:Types)(rs:List Rule)(h:Host):Bool:=u0 t&&Br rs&&yU h&&(decide (KJ t rs h≠0)||(rs.all (Zo t h)&&decide ((rs.length:Int)<=3)&&decide ((h.o.i.length:Int)<=4)&&decide ((h.o.j.length:Int)<=4)))
theorem Vx {r:Rule}(h:fewR r=true):r.cond.size<=41:=by
 unfold fewR at h;simp only [aR] at h;have a:=h.2;unfold fewC at a;have b:=DT r.cond 40 bL (cG a);have d:=b.2;have c:0<=qY r.cond 40:=by simpa using a
 omega
theorem Pb (t:Types)(D:∀ n∈t.i,n.w.length<=1000000000000000)(rs:List Rule)(o:∀ r∈rs,r.le)(h:Host):Pua 5 [t.d,.list (rs.map Rule.c),h.d] (.bool (w9 t rs h)):=by
 have P:∀ i (p:i<rs.length),t.ok->Pua 18 [t.d,.agg rs[i].c,h.d] (.bool (light26 t rs[i] h)):=λi p K=>Pd t K rs[i] (o _ (aC p)) h;refine Tz.pK ⟨λt=>t==8,λ_=>[]⟩ func5 rfl (λQ v=>?_);have Y:=xa1 @Host.d.eq_1 @Host.c.eq_1 @Rule.c.eq_1;refine wp (h:=aB (Fh t D) wl ?_);refine wp (h:=aN (λq=>UL rs o) (λq=>wl) ?_);refine wp (h:=aN (λq=>Fg h) (λq=>wl) ?_);refine wv (h:=?_);repeat first|intro _|refine ⟨fY,?_⟩
 refine wq (λE=>?_) λE=>?_
 .have hE:w9 t rs h=false:=by
   unfold w9;cases j:u0 t<;>cases f:Br rs<;>cases m:yU h<;>simp [j,f,m] at E ⊢
  exact wv (h:=v _ _ (eD hE))
 .obtain ⟨j,f,m⟩:u0 t=true/\Br rs=true/\yU h=true:=by
   cases j:u0 t<;>cases f:Br rs<;>cases m:yU h<;>simp [j,f,m] at E ⊢
  have l:∀ r∈rs,fewR r=true:=λr o=>by
   unfold Br at f;simp only [aR,b7,iP] at f;have:=f.2 r o;cases N:fewR r<;>simp [N] at this ⊢
  have u:t.ok/\(∀ r∈rs,r.ok)/\∀ i (p:i<rs.length),rs[i].cond.size<=41:=⟨NW j,λr o=>Hz (l r o),λi p=>Vx (l _ (aC p))⟩;refine wv (h:=aB (Kw t u.1 rs u.2.1 h) wl ?_);refine dD (λC=>?_) λC=>?_
  .have hE:w9 t rs h=true:=by unfold w9;rw [j,f,m,decide_eq_true (by simpa using C:KJ t rs h≠0)];rfl
   exact wv (h:=v _ _ (eD hE))
  .have hE:w9 t rs h=(rs.all (Zo t h)&&decide ((rs.length:Int)<=3)&&decide ((h.o.i.length:Int)<=4)&&decide ((h.o.j.length:Int)<=4)):=by
    unfold w9;rw [j,f,m,decide_eq_false (by simpa using C:¬ KJ t rs h≠0)];rfl
   refine wv (h:=bA (λi e H=>(e 3=.adr t.c/\e 5=.adr h.c/\e 1=.list (rs.map Rule.c)/\e 7=dI i)/\(i<=rs.length)/\((rs.take i).all (Zo t h)=true)) (λi=>rs.length - i) 0 ⟨wg,wi,(by rfl)⟩ λV z i e H x=>?_);obtain ⟨R,p,y⟩:=x;have Y:=wa Y R;refine wv (h:=?_);repeat first|intro _|refine ⟨fY,?_⟩
   refine wq (λg=>?_) λg=>?_
   .obtain ⟨r,a⟩:=cY (rs[i]);have L:r.cond.size<=41:=by rw [a];exact u.2.2 i g
    have M:r.ok:=by rw [a];exact u.2.1 _ (aC g)
    obtain ⟨w,k⟩:∃ b,b=light26 t rs[i] h:=⟨_,rfl⟩;have s:fewG r.left.o=true:=by
     have:=l r (by rw [a];exact aC g);unfold fewR fewP at this;simp only [aR] at this;exact this.1.1.1.1.2.1.1
    have O:r.left.o.i.length<=1000/\r.left.o.j.length<=1000:=by unfold fewG at s;simp at s;omega
    have J:Q8 .i64 ((r.left.o.i.length:Int)+r.left.o.j.length):=dE bL bL;have I:Q8 .i64 ((r.left.o.i.length:Int)+1):=dE bL bL;have G:Q8 .i64 ((r.left.o.j.length:Int)+1):=dE bL bL;have F:Pua 18 [t.d,.agg r.c,h.d] (.bool w):=by rw [a,k];exact P i g u.1
    have Y:=xa5 Y g J I G (aA g) (Eq.symm a);refine wp (h:=aJ (F) wl ?_);refine wp (h:=b9 (λq=>(by have:=RK r.cond bL;rwa [Cond.F] at this)) (λq=>wl) ?_);refine wv (h:=?_);repeat first|intro _|refine ⟨fY,?_⟩
    refine wq (λB=>?_) λB=>?_
    .have hno:Zo t h r=false:=by
      unfold Zo;rw [a] at *;rw [<- k];cases w<;>simp at B ⊢
      intro U T S;omega
     have A:w9 t rs h=false:=by
      rw [hE];have:rs.all (Zo t h)=false:=s8.2 ⟨r,by rw [a];exact aC g,by simp [hno]⟩;rw [this];rfl
     exact wv (h:=v _ _ (eD A))
    .have hok:Zo t h rs[i]=true:=by
      rw [<- a];unfold Zo;rw [a,<- k,<- a];cases w<;>simp at B ⊢
      omega
     exact wp (h:=wx z (i+1) ⟨wg,wj,(by rw [aD g,pC,y];simp [hok])⟩)
   .rw [aH bL] at y;rw [y,fP] at hE;exact wp (h:=v _ _ (eD hE))
theorem KE (h:Host)(e:yU h=true):Pua 7 [h.d] h.d:=by
 unfold yU fewG at e;simp only [aR,decide_eq_true_eq,b7,iP] at e;refine Zj (by simp [Host.d,Host.c,go_sem]) (Cr h bL bL bL (λv f=>?_) .ak _ λa b V i j g _ _=>g.bw);have:=e.2 v f;unfold L2 at this;simp at this;omega
theorem Pa (x:XS):Pua 9 [x.d,x.d] (.bool true):=by
 have n:∀ a:Arr,s5 a a=0:=λa=>by unfold s5;simp [IntKind.wrap_i64]
 refine Tz.p0 func9 rfl λQ r _=>?_;have Y:=xa1 @XS.d.eq_1 @Arr.c.eq_1 @Host.c.eq_1;refine wp (h:=bA (λi e H=>(e 2=.adr [.list (x.A.map Host.c),.list (x.M.map Arr.c)]/\e 3=.adr [.list (x.A.map Host.c),.list (x.M.map Arr.c)]/\e 5=dI i)/\(i<=x.A.length)) (λi=>x.A.length - i) 0 ⟨wg,wi⟩ λv l i e H j=>?_);obtain ⟨t,o⟩:=j;have Y:=wa Y t;refine wv (h:=?_);repeat first|intro _|refine ⟨fY,?_⟩
 refine wq (λf=>?_) λf=>?_
 .have Y:=xa1 Y f (aA f);refine wp (h:=aJ ((by have:=Gj x.A[i] x.A[i] (λq _ _=>SJ _);simp only [decide_true] at this;exact this)) wl ?_);exact wp (h:=wx l (i+1) ⟨wg,wj⟩)
 .refine wv (h:=bA (λi e H=>(e 2=.adr [.list (x.A.map Host.c),.list (x.M.map Arr.c)]/\e 3=.adr [.list (x.A.map Host.c),.list (x.M.map Arr.c)]/\e 6=dI i)/\(i<=x.M.length)) (λi=>x.M.length - i) 0 ⟨wg,wi⟩ λu k i e H g=>?_);obtain ⟨s,o⟩:=g;have Y:=wa Y s;refine wv (h:=?_);repeat first|intro _|refine ⟨fY,?_⟩
  refine wq (λb=>?_) λb=>?_
  .have Y:=xa1 Y b (aA b);refine wp (h:=aJ ((by have:=lW x.M[i] x.M[i];rw [n] at this;exact this)) wl ?_);refine wp (h:=b9 (λp=>Ff x.M[i].m) (λp=>wl) ?_);exact wp (h:=wx k (i+1) ⟨wg,wj⟩)
  .have Y:=xa1 Y f b;exact wv (h:=r _ _ wy)
theorem NV (w:World)(a:Addr)(n:Nat):(w.freeze a n).drawn=w.drawn:=by unfold World.freeze;split<;>rfl
theorem FQ {α:Type}:∀ (x:Ask α) (w:World),w.drawn<=(w.ask x).2.drawn
 | .done a,w=>aT _
 | .ask what range k,w=>by
  unfold World.ask;simp only;split
  .exact FQ (k 0) w
  .exact dA (Nat.le_succ _) (FQ (k _) { w with drawn:=w.drawn+1 })
theorem Uq (w:World)(c:Sys):w.drawn<=(w.sys c).2.drawn:=by
 have h:=FQ (Kernel.perform c w.os) w;unfold World.sys;split
 .exact aT _
 .rename_i h1;rw [h1] at h;exact h
theorem Rc {p:Program}{w w':World}{at_:Addr}{u:TypeId}{k:Addr}{v:Value}{b:Bool}{l:List Addr}(h:w.viewStore p at_ u k v b=.ok (w',l)):w'.drawn=w.drawn:=by
 unfold World.viewStore at h;simp only [bind,Except.bind,pure,Except.pure] at h
 repeat' split at h
 all_goals first|cases h|skip
 all_goals first|rfl|simp_all
theorem Vy {p:Program}{w w':World}{a:Addr}{v:Value}{b:Bool}{l:List Addr}(h:w.farStore p a v b=.ok (w',l)):w'.drawn=w.drawn:=by
 unfold World.farStore at h;split at h
 .split at h
  .rename_i h1;cases h;exact Rc h1
  .cases h
 .cases h
def Result.drew {α:Type}(d:Nat):Result α->Prop
 | .ok _ w=>d<=w.drawn
 | .halt _ w=>d<=w.drawn
theorem OX {α:Type}(p:Program)(m:Sem α):∀ (w:World) (d:Nat),d<=w.drawn->Result.drew d (m.run p w):=by
 induction m with
 | pure a=>exact λw d h=>h
 | load m a k ih =>
  intro w d h;simp only [Sem.run]
  repeat' split
  all_goals first|exact ih _ _ _ h|exact h
 | store m a v k ih =>
  intro w d h;cases v
  all_goals simp only [Sem.run]
  all_goals first|exact h|skip
  all_goals (repeat' split)
  all_goals first|exact h|exact ih (w.setCell a _) _ h|(rename_i b;exact ih _ _ (by rw [Vy b];exact h))
 | new o k ih=>exact λw d h=>ih _ _ _ h
 | shape r k ih=>exact λw d h=>ih _ _ _ h
 | freeze a n k ih=>exact λw d h=>ih _ _ (by rw [NV];exact h)
 | frozen a k ih=>exact λw d h=>ih _ _ _ h
 | getObj r k ih =>
  intro w d h;simp only [Sem.run]
  repeat' split
  all_goals first|exact ih _ _ _ h|exact h
 | setObj r o k ih =>
  intro w d h;simp only [Sem.run]
  repeat' split
  all_goals first|exact ih _ _ h|exact h
 | choose q k ih =>
  intro w d h;simp only [Sem.run];split
  .exact ih _ _ _ h
  .exact ih _ _ _ (Nat.le_succ_of_le h)
 | sys c k ih=>exact λw d h=>ih _ _ _ (dA h (Uq w c))
 | program k ih=>exact λw d h=>ih _ _ _ h
 | mark m k ih=>exact λw d h=>ih _ _ h
 | halt x=>exact λw d h=>h
theorem fL {α:Type}{p:Program}{m:Sem α}{w w':World}{a:α}{d:Nat}(h:m.run p w=.ok a w')(b:d<=w.drawn):d<=w'.drawn:=by
 have:=OX p m w d b;rw [h] at this;exact this
theorem lG {α:Type}{p:Program}{m:Sem α}{w w':World}{a:Halt}{d:Nat}(h:m.run p w=.halt a w')(b:d<=w.drawn):d<=w'.drawn:=by
 have:=OX p m w d b;rw [h] at this;exact this
theorem WC {α β:Type}{p:Program}{m:Sem α}{w w':World}{a:α}{d:Nat}{x y:β}(h:(m.run p w,x)=(.ok a w',y))(hd:d<=w.drawn):d<=w'.drawn:=fL (congrArg Prod.fst h) hd
theorem Sr {α β:Type}{p:Program}{m:Sem α}{w w':World}{a:Halt}{d:Nat}{x y:β}(h:(m.run p w,x)=(.halt a w',y))(hd:d<=w.drawn):d<=w'.drawn:=lG (congrArg Prod.fst h) hd
def GStep.drew (d:Nat):GStep->Prop
 | .ended ..=>True
 | .comm _ _ _ _ w _ | .go _ w _ | .spawn _ _ w _ | .count _ w _ | .timer _ _ w _ | .alone _ _ w _ | .newcoro _ _ _ w _ | .coroswitch _ _ _ w _ | .collect _ w _ | .watch _ w _=>d<=w.drawn
theorem p6 {d:Nat}{es:Array Event}{s:GStep}(h:GStep.drew d s):GStep.drew d (s.after es):=by cases s<;>exact h
theorem WV {d:Nat}{c:Prop}[Decidable c]{a b:GStep}(f:GStep.drew d a)(e:GStep.drew d b):GStep.drew d (if c then a else b):=by split<;>assumption
theorem NY {d:Nat}(w:World)(a:Nat)(t:ByteArray)(o:Outcome):GStep.drew d (endWith w a t o):=by
 unfold endWith;simp only
 repeat' split
 all_goals trivial
theorem pH {d:Nat}(fr:Frame)(m:String)(w:World)(h:d<=w.drawn):GStep.drew d (endThrow fr m w):=h
theorem yW {d:Nat}(p:Program)(a:Frame)(v:Value)(w:World)(h:d<=w.drawn):GStep.drew d (endPrinting p a v w):=by
 unfold endPrinting;simp only;split
 .exact h
 .trivial
theorem Cz {d:Nat}(p:Program)(b:Frame)(cs:List Frame)(c:Option Dying)(m:String)(w:World)(h:d<=w.drawn):GStep.drew d (endFatal p b cs c m w):=by
 unfold endFatal;simp only;split;all_goals first|trivial|(rename_i a;exact fL a h)|(rename_i a;exact lG a h)
theorem MR {d:Nat}(p:Program)(a:Frame)(b:Dying)(f:Fatal)(w:World)(h:d<=w.drawn):GStep.drew d (writeOn p a b f w):=by
 unfold writeOn;simp only;split
 .trivial
 .generalize (if (!(f.whole&&f.begun))=true then _ else _:Sem Unit)=m;rw [Sem.runT_eq];split;all_goals first|trivial|exact WC er h|exact Sr er h
theorem Xj {d:Nat}(p:Program)(b:Frame)(c:Dying)(w:World)(h:d<=w.drawn):GStep.drew d (die p b c w):=by
 unfold die;simp only [Sem.runT_eq]
 repeat' split
 all_goals first|exact h|trivial|exact NY _ _ _ _|exact MR _ _ _ _ _ h|(rename_i a;exact fL a h)|refine p6 ?_
 repeat' split
 all_goals first|trivial|exact fL er h|exact yW _ _ _ _ (lG er h)
theorem xI {d:Nat}(p:Program)(a:Bool)(b:Frame)(cs:List Frame)(c:Option Dying)(v:Value)(w:World)(h:d<=w.drawn):GStep.drew d (doReturn p a b cs c v w):=by
 unfold doReturn
 repeat' split
 all_goals first|exact h|trivial|(repeat' split)<;>first|exact h|trivial
theorem Ep {d:Nat}(p:Program)(a:Frame)(cs:List Frame)(b:Option Dying)(x:Deferred)(w:World)(h:d<=w.drawn):GStep.drew d (callDeferred p a cs b x w):=by
 unfold callDeferred;simp only [Sem.runT_eq];refine WV trivial (p6 ?_)
 .split;all_goals (repeat' split)
  all_goals first|trivial|exact fL er h|exact lG er h|exact Cz _ _ _ _ _ _ (lG er h)|exact pH _ _ _ (lG er h)
theorem OG {d:Nat}(p:Program)(a:Bool)(b:Frame)(cs:List Frame)(c:Option Dying)(w:World)(h:d<=w.drawn):GStep.drew d (unwind p a b cs c w):=by
 unfold unwind;simp only [Sem.runT_eq];split
 .refine p6 ?_;split
  .exact fL er h
  .trivial
 .exact Ep _ _ _ _ _ _ h
 .split
  .trivial
  .repeat' split
   all_goals first|trivial|exact h|exact fL er h|exact yW _ _ _ _ h
  .split
   .exact xI _ _ _ _ _ _ _ h
   .refine p6 ?_;split
    .exact xI _ _ _ _ _ _ _ (fL er h)
    .trivial
    .trivial
theorem SC {d:Nat}(p:Program)(b:Frame)(cs:List Frame)(c:Option Dying)(g:Nat)(w:World)(h:d<=w.drawn):GStep.drew d (early p b cs c g w):=by
 unfold early;simp only
 repeat' split
 all_goals first|trivial|exact h|exact fL er h|(have a:=fL (by assumption:Sem.run p (choose (Question.early g)) w=.ok _ _) h;exact a)
theorem vK {d:Nat}(p:Program)(a:Bool)(c:Frame)(cs:List Frame)(f:Option Dying)(s:Sem Next)(w:World)(h:d<=w.drawn):GStep.drew d (stepG.apply p a c cs f s w):=by
 unfold stepG.apply;have e:(if a=true then s.runT p w #[] else (s.run p w,#[])).1=s.run p w:=by split<;>simp [Sem.runT_eq]
 obtain ⟨r,b⟩:=cY ((if a=true then s.runT p w #[] else (s.run p w,#[])));rw [<- b] at e ⊢;obtain ⟨r,g⟩:=r;simp only at e;subst e;simp only;refine p6 ?_;split;all_goals (repeat' split)
 all_goals first|trivial|exact fL er h|exact lG er h|exact Cz _ _ _ _ _ _ (lG er h)|exact pH _ _ _ (lG er h)|exact pH _ _ _ (fL er h)|exact SC _ _ _ _ _ _ (lG er h)
theorem Mn {d:Nat}{α:Type}{o:Option α}{a:GStep}{f:α->GStep}(c:GStep.drew d a)(b:∀ x,GStep.drew d (f x)):GStep.drew d (o.elim a f):=by cases o with
 | none=>exact c
 | some x=>exact b x
theorem U3 {d:Nat}(p:Program)(a:Bool)(b:Frame)(cs:List Frame)(c:Option Dying)(w:World)(h:d<=w.drawn):GStep.drew d (stepG.oper p a b cs c w):=by
 unfold stepG.oper;split
 .trivial
 .split;all_goals exact vK _ _ _ _ _ _ _ h
theorem VA {d:Nat}(p:Program)(a b:Bool)(c:Frame)(cs:List Frame)(f:Option Dying)(w:World)(h:d<=w.drawn):GStep.drew d (stepG.exec p a b c cs f w):=by
 unfold stepG.exec;simp only [Sem.runT_eq];split;all_goals first|exact h|exact vK _ _ _ _ _ _ _ h|trivial|skip
 all_goals (try refine Mn ?_ λ_=>h)
 all_goals (repeat' split)
 all_goals first|exact h|trivial|exact vK _ _ _ _ _ _ _ h|exact fL er h|exact U3 _ _ _ _ _ _ h|exact p6 (xI _ _ _ _ _ _ _ (fL er h))|exact p6 (vK _ _ _ _ _ _ _ (fL er h))|exact lG er h|(refine Mn trivial λe=>vK _ _ _ _ _ _ _ h)
theorem Rr {d:Nat}(p:Program)(a:Bool)(g:Goroutine)(w:World)(c:Bool)(h:d<=w.drawn):GStep.drew d (stepG p a g w c):=by
 obtain ⟨f,j,e,i,b⟩:=g;unfold stepG;simp only;split
 .exact Xj _ _ _ _ h
 .exact VA _ _ _ _ _ _ _ h
 .exact OG _ _ _ _ _ _ h
def Stepped.drew (d:Nat):Stepped->Prop
 | .next m=>d<=m.world.drawn
 | _=>True
theorem FE {d:Nat}(p:Program)(rest:Rest)(gs:Array Goroutine)(i:Nat)(g:Goroutine)(cases:Array CommCase)(b:Bool)(sh:CommShape)(w:World)(h:d≤w.drawn):Stepped.drew d (communicate p rest gs i g cases b sh w).1:=by
 have hw:∀ w',waitingAt rest cases w=some w'→d≤w'.drawn:=fun w' hw=>by
  unfold waitingAt at hw
  repeat' split at hw
  all_goals cases hw<;>exact h
 unfold communicate;simp only
 repeat' split
 all_goals first|trivial|exact h|exact hw _ er|(have hq:=fL (by assumption:Sem.run p _ w=.ok _ _) h;first|exact hq|(have hq2:=fL (by assumption:Sem.run p (choose _) _=.ok _ _) hq;exact hq2)|(have hq2:=lG (by assumption:Sem.run p _ _=.halt _ _) hq;exact hq2))|skip
theorem L1 {d:Nat}(p:Program)(c:Array Goroutine)(a:Rest)(w:World)(h:d<=w.drawn):Stepped.drew d (look p c a w):=by
 unfold look;simp only
 repeat' split
 all_goals first|trivial|exact h|(have b:=fL er h;exact b)|skip
theorem Rx {d:Nat}(p:Program)(m:Machine)(k:Nat)(h:d<=m.world.drawn):Stepped.drew d (serve p m k):=by
 unfold serve;simp only
 repeat' split
 all_goals first|trivial|exact h|skip
theorem Gc {d:Nat}(m:Machine)(k:Nat)(t:Timer)(a b:Nat)(h:d<=m.world.drawn):d<=(retime m k t a b).2.world.drawn:=by
 unfold retime;simp only;split
 .unfold drain;split<;>exact h
 .exact h
theorem MY {d:Nat}(m j:Machine)(n:TimerOp)(v:Value)(h:d<=m.world.drawn)(g:timerOp m n=.ok (v,j)):d<=j.world.drawn:=by
 have l:∀ (i:Machine) (a:Addr) (f:Nat->Timer->Value × Machine),(∀ k t,d<=(f k t).2.world.drawn)->timerOp.named i a f=.ok (v,j)->d<=j.world.drawn:=λi a f p b=>by
  unfold timerOp.named at b;split at b
  .rename_i c _;have e:=p c (i.rest.timers.getD c default);have b:=Except.ok.inj b;rw [b] at e;exact e
  .cases b
 have o:∀ a i,timerOp.opened m a=some i->d<=i.world.drawn:=λa i b=>by
  unfold timerOp.opened at b
  repeat' split at b
  all_goals cases b<;>exact h
 unfold timerOp at g;split at g
 .repeat' split at g
  all_goals cases g<;>exact h
 .exact l _ _ _ (λk t=>Gc _ _ _ _ _ h) g
 .split at g
  .rename_i hm;exact l _ _ _ (λk t=>Gc _ _ _ _ _ (o _ _ hm)) g
  .cases g
 .cases g;exact h
theorem Ux {d:Nat}(p:Program)(m:Machine)(i:Nat)(li:Bool)(h:d≤m.world.drawn):Stepped.drew d (runT p m i li).1:=by
 unfold runT;obtain ⟨g,gs⟩:=m.gs.swapAt! i { (default:Goroutine) with status:=.finished };simp only;have hs:=Rr p (i==0) g m.world li h;generalize stepG p (i==0) g m.world li=s at hs ⊢;cases s with
 | ended o w es=>trivial
 | comm g cases b sh w es=>exact FE _ _ _ _ _ _ _ _ _ hs
 | go g w es=>exact hs
 | spawn g c w es=>exact hs
 | count g w es=>simp only;split<;>first|trivial|exact hs
 | alone g on w es=>exact hs
 | collect g w es=>exact L1 _ _ _ _ hs
 | watch g w es=>exact hs
 | newcoro g c x w es=>exact hs
 | coroswitch g c ex w es =>
  simp only;split
  ·exact hs
  ·have he:=pH g.frame "coroswitch on exited coro" w hs
   split
   ·rename_i h1;rw [h1] at he;exact he
   ·trivial
  ·trivial
 | timer g op w es =>
  simp only;split
  ·rename_i ht;have hq:=MY (d:=d) _ _ _ _ (by exact hs) ht;exact hq
  ·rename_i msg _
   have he:=pH g.frame msg w hs;split
   ·rename_i h1;rw [h1] at he;exact he
   ·trivial
  ·trivial
  ·trivial
def Move.drew (d:Nat):Move->Prop
 | .goroutine m _=>d<=m.world.drawn
 | .machine s _=>Stepped.drew d s
theorem Dc {d:Nat}(p:Program)(m:Machine)(h:d≤m.world.drawn):Move.drew d (askOn p m):=by
 unfold askOn;simp only;split
 ·trivial
 ·rename_i hk
  have h1:=fL hk h;split
  ·exact Rx _ _ _ h1
  ·split
   ·split
    ·exact h1
    ·split
     ·exact h1
     ·split
      ·trivial
      ·trivial
   ·split
    ·(repeat' split)<;>first|trivial|(have a:=fL (by assumption:Sem.run p (choose (.sched _)) _=.ok _ _) h1;first|exact a|(have b:=fL (by assumption:Sem.run p (choose (.extern "sched.slice" _)) _=.ok _ _) a;exact b))
    ·split
     ·trivial
     ·rename_i h2
      have h3:=fL h2 h1
      (repeat' split)<;>first|trivial|(have a:=fL (by assumption:Sem.run p (choose (.sched _)) _=.ok _ _) h3;first|exact a|(have b:=fL (by assumption:Sem.run p (choose (.extern "sched.slice" _)) _=.ok _ _) a;exact b))
     ·rename_i h2;have h3:=fL h2 h1;exact h3
     ·rename_i k _ h2
      have h3:=fL h2 h1
      (repeat' split)<;>first|trivial|(have a:=fL (d:=d) (by assumption:Sem.run p (choose (.sched _)) _=.ok _ _) (by exact h3);first|exact a|(have b:=fL (by assumption:Sem.run p (choose (.extern "sched.slice" _)) _=.ok _ _) a;exact b))
theorem XA {d:Nat}(p:Program)(m:Machine)(h:d<=m.world.drawn):Move.drew d (ask p m):=by
 unfold ask;split
 .split
  .trivial
  .rename_i h1;have a:=L1 p m.gs m.rest _ (fL h1 h);split
   .rename_i h3;rw [h3] at a;exact Dc _ _ a
   .exact a
  .rename_i h1;exact Dc _ _ (fL h1 h)
 .exact Dc _ _ h
theorem Vb {d:Nat}(p:Program)(m:Machine)(h:d<=m.world.drawn):Move.drew d (move p m):=by
 unfold move
 repeat' split
 all_goals first|trivial|exact h|exact XA _ _ h
theorem Ut {d:Nat}(p:Program)(m:Machine)(h:d<=m.world.drawn):Stepped.drew d (step p m):=by
 have a:=Vb p m h;unfold step stepT;split
 .rename_i h1;rw [h1] at a;exact Ux _ _ _ _ a
 .rename_i h1;rw [h1] at a;exact a
theorem HU {d:Nat}(p:Program):∀ (n:Nat) (m m':Machine),d<=m.world.drawn->runN p n m=.next m'->d<=m'.world.drawn
 | 0,m,m',h,hr=>by cases hr;exact h
 | n+1,m,m',h,hr=>by
  have h1:=Ut p m h;unfold runN at hr;split at hr
  .rename_i h2;rw [h2] at h1;exact HU p n _ _ h1 hr
  .rename_i h2;exact absurd hr (h2 _)
theorem Calls.drew {P:Program}{f:FuncId}{args:Array Value}{w:World}{R:Ending->World->Prop}(h:Calls P f args w R)(hR:∀ e w',R e w'->∃ v,e=.returned v):Calls P f args w λe w'=>R e w'/\w.drawn<=w'.drawn:=λcs=>by
 obtain ⟨e,w',fr,h1,h2,h3⟩:=h cs;obtain ⟨v,rfl⟩:=hR e w' h1;refine ⟨_,w',fr,⟨h1,?_⟩,h2,h3⟩;obtain ⟨n,hn⟩:=h2;exact HU P n _ _ (aT _) hn
theorem afF {w w':World}(h:RowKit.Below w.heap.size w w')(e:w.drawn<=w'.drawn):∃ q os,w'=Sort.grow (w.drewN q) os:=by
 refine ⟨w'.drawn - w.drawn,w'.heap.extract w.heap.size w'.heap.size,?_⟩;have d:=h.size;have b:w.heap++w'.heap.extract w.heap.size w'.heap.size=w'.heap:=by
  refine Array.ext_getElem? λk=>?_;by_cases a:k<w.heap.size
  .rw [Array.getElem?_append_left a,h.block k a]
  .rw [Array.getElem?_append_right bL,Array.getElem?_extract];by_cases f:k<w'.heap.size
   .rw [if_pos bL,(bL:w.heap.size+(k - w.heap.size)=k)]
   .rw [if_neg bL,Array.getElem?_eq_none bL]
 have c:w.drawn+(w'.drawn - w.drawn)=w'.drawn:=bL;show w'=⟨w.heap++_,w.tape,w.drawn+_,w.os,w.output⟩;rw [b,c,<- h.tape,<- h.os,<- h.output]
section
variable {A:Type} {k:Nat} {c:A→Xa2} {M:Nat→Prop} {w:World}
def El (k:Nat)(c:A->Xa2)(M:Nat->Prop)(w:World):Type:={ p:List Value × A // p.1.length=k/\(∀ v∈p.1,v.oneCell'=true)/\RepL M g9 pT w p.1 (c p.2) }
def El.vs (x:El k c M w):List Value:=x.1.1
def El.a (x:El k c M w):A:=x.1.2
theorem Xd [Inhabited (El k c M w)](d:Array (El k c M w)){t:Nat}(a:t<d.size * k):∃ (e:t / k<d.size) (b:t % k<(El.vs d[t / k]).length),(Sort.flatK El.vs k d)[t]! = (El.vs d[t / k])[t % k]:=by
 have f:0<k:=by
  rcases Nat.eq_zero_or_pos k with h|h
  .subst h;simp at a
  .exact h
 have e:t / k<d.size:=Nat.div_lt_of_lt_mul (by rw [sG];exact a);have b:t % k<(El.vs d[t / k]).length:=by rw [show (El.vs d[t / k]).length=k from d[t / k].2.1];exact Nat.mod_lt _ f
 refine ⟨e,b,?_⟩;rw [Sort.get_flatK _ _ _ _ a,getElem!_pos d _ e,getElem!_pos (El.vs d[t / k]) (t % k) b]
theorem abE [Inhabited (El k c M w)](p:∀ a,(c a).length=k)(d:Array (El k c M w)):RepL M g9 pT w (Sort.flatK El.vs k d).toList ((d.toList.map El.a).map c).flatten:=by
 have l:∀ x∈(d.toList.map El.a).map c,x.length=k:=λx n=>by obtain ⟨a,_,rfl⟩:=aS.1 n;exact p a
 refine ⟨by rw [lP _ l];simp,λt u e g o=>?_⟩;have i:t<d.size * k:=by
  have:=(aL.1 g).1;simpa using this
 obtain ⟨s,r,q⟩:=Xd d i;have f:u=(El.vs d[t / k])[t % k]:=by
  rw [<- q];have j:t<(Sort.flatK El.vs k d).size:=by simpa using i
  rw [Array.getElem?_toList,bK j] at g;rw [getElem!_pos (Sort.flatK El.vs k d) t j];exact (Option.some.inj g).symm
 have m:0<k:=by
  rcases Nat.eq_zero_or_pos k with h|h
  .subst h;simp at i
  .exact h
 have b:=l7 _ (t / k) (c (El.a d[t / k])) l (fg s) (t % k) (Nat.mod_lt _ m);rw [show t / k * k+t % k=t by rw [sG];exact Nat.div_add_mod t k,o] at b;rw [f];exact d[t / k].2.2.2.Y (t % k) _ _ (aA r) b.symm
theorem abF [Inhabited (El k c M w)](d:Array (El k c M w)):∀ u∈(Sort.flatK El.vs k d).toList,u.oneCell'=true:=λu hu=>by
 obtain ⟨t,ht,rfl⟩:=aM hu;have ht':t<d.size * k:=by simpa using ht
 obtain ⟨h1,h2,h3⟩:=Xd d ht';rw [Array.getElem_toList,<- getElem!_pos (Sort.flatK El.vs k d) t (cG ht'),h3];exact d[t / k].2.2.1 _ (aC h2)
end
theorem Sq {w:World}{g n:Nat}{os:Array Obj}{a:Array Value}{e:TypeId}{d:Nat × Nat}(F:Array Value)(c:w.heap[g]?=some (.cells a e d)) :
  (Sort.grow (Sort.putRow id (Sort.ahead w n) g 0 F) os).heap[g]?=some (.cells (Sort.putCells id 0 F a) e d)/\w.grownBy (Sort.grow (Sort.putRow id (Sort.ahead w n) g 0 F) os) (some g):=by
 have h:g<w.heap.size:=(nP.1 c).1;refine ⟨?_,rfl,rfl,rfl,by simp [Sort.grow,Sort.putRow,Sort.mapBlock,Sort.ahead],λk f b=>?_⟩
 .rw [Sort.heap_grow_old _ _ (cG h)];simp [Sort.putRow,Sort.mapBlock,Sort.ahead,Array.getElem?_modify,c,Sort.onCells]
 .rw [Sort.heap_grow_old _ _ (cG f)];have:g≠k:=λe=>b (by rw [e]);simp [Sort.putRow,Sort.mapBlock,Sort.ahead,Array.getElem?_modify,this]
theorem Up (a F:Array Value)(h:F.size<=a.size):(Sort.putCells id 0 F a).toList.take F.size=F.toList:=by
 apply fC;intro j;by_cases b:j<F.size
 .rw [vY b,Array.getElem?_toList];simp [Sort.putCells,b,(bL:j<a.size)]
 .rw [List.getElem?_take_eq_none bL,bC et]
section
variable {P:Program} {ρ:Go.Shelf.Ren} {A:Type}
theorem Hg (L : SlLaysF0.n6 P ρ) (k : Nat) (aE : ∀ w, (isAgg (ρ.t 24)).run P w = .ok true w) (zE : ∀ w, (Go.sizeOf (ρ.t 24)).run P w = .ok k w) (c : A → Xa2) (hk : ∀ a, (c a).length = k) (hc : ∀ a, D.N (c a) = true)
    (f : A → A → Int) (hO : Sort.SWO (ltOf f)) (g : Nat) (hg : ∀ a b, Pure P g [.agg (c a), .agg (c b)] (dI (f a b))) (eg : ∀ args w, (callFunc g args).run P w = .ok (.enter g args) w) (hent : XZ P (ρ.f 6))
    (hNone : ∀ (p : Option Addr) (cap : Nat) (w : World), Calls P (ρ.f 6) #[.slice p 0 cap, .func (.func g) #[] #[]] w fun e w' => e = .returned (.tuple #[]) ∧ w' = w)
    {id : Nat} {ty : TypeId} {l : List A} {H : AHeap} {Q : D → AHeap → Prop} (hl : l.length < 4611686018427387904) (hH : H.get id = some ⟨ty, k, l.map c, false⟩)
    (hQ : ∀ l' : List A, l'.Perm l → l'.Pairwise (fun a b => ¬ f b a < 0) → Q (.tup []) (H.put id ⟨ty, k, l'.map c, false⟩)) : ACalls P (ρ.f 6) [.own id l.length, .fn g []] H Q := by
  refine ⟨hent, fun M0 σ w vals hR ha => ?_⟩;obtain ⟨hlen, hr⟩ := ha;match vals, hlen with
  | [v, fv], _ =>
  have hv := hr 0 v _ rfl rfl;have hf := hr 1 fv _ rfl rfl;obtain ⟨o, ho, q⟩ := hR.ah id _ hH;have hver : o.af = l.length := by have := q.af; simpa using this
  have hve : v = o.val := by
    cases hv
    rename_i _ _ h;rcases h o ho with h' | ⟨_, h'⟩
    · omega
    · exact h'
  have hfe : fv = .func (.func g) #[] #[] := by
    cases hf with
    | fn _ vs ds h1 h2 =>
      have : vs = [] := bI h1;rw [this]
  subst hve hfe;obtain ⟨xs, hrow, h1, hrep⟩ := q.row;have hsz : o.K = k := q.sz;have hty : o.ty = ty := q.ty;rw [hsz] at hrow;simp only [bR] at hrow;have hlc : ∀ x ∈ l.map c, x.length = k := fun x hx => by obtain ⟨a, _, rfl⟩ := aS.1 hx; exact hk a
  have hxl : xs.length = l.length * k := hrow.1;by_cases hl0 : l = []
  · subst hl0
    have hs : ∃ p cap, o.val = .slice p 0 cap := by
      rcases hrow.2 with ⟨hn, _⟩ | ⟨b, cap, cur, hval, _⟩
      · exact ⟨_, _, hn⟩
      · exact ⟨_, _, hval⟩
    obtain ⟨p, cap, hs⟩ := hs;have hN := hNone p cap w;rw [← hs] at hN;refine hN.mono fun e w' ⟨he, hw⟩ => ?_;subst hw;have hp := Rel.put hR hH rfl ho ⟨ty, k, ([] : List A).map c, false⟩ o ⟨rfl, rfl, rfl, aT _, fun _ _ _ => rfl⟩ (fun b hb => .inl hb) (.inl rfl) hver hty hsz (fun x hx => by simp at hx) xs (by rw [hsz]; simpa using hrow) h1 hrep;exact ⟨_, .tup [], _, _, he, hp.1, .tup [] [] rfl (fun j u d hu => by simp at hu), hp.2.1, hp.2.2, hQ [] (.refl _) .nil⟩
  · have hn0 : 0 < l.length := Df.2 hl0
    rcases hrow.2 with ⟨_, h0⟩ | ⟨b, cap, cur, hval, _, hb, hnc, hcm, hcs, htk⟩
    · omega
    have hbo : o.block = some b := by unfold Ow.block; rw [hval]; rfl
    obtain ⟨M, hM⟩ : ∃ M, M = dK M0 H σ := ⟨_, rfl⟩;have hMb : M b := by rw [hM]; exact .inr ⟨id, _, o, hH, rfl, ho, hbo⟩
    have hblk : b < w.heap.size := (hR.lt id o b ho hbo).1;have hix : ∀ i, i < l.length → i * k + k ≤ xs.length := fun i hi => by
      rw [hxl]; have := c9 k (show i + 1 ≤ l.length from hi); rwa [Nat.add_mul, Aw] at this
    have hel : ∀ i (hi : i < l.length), ((xs.drop (i * k)).take k).length = k ∧ (∀ v ∈ (xs.drop (i * k)).take k, v.oneCell' = true) ∧ RepL M g9 pT w ((xs.drop (i * k)).take k) (c l[i]) := fun i hi => by
      have hx := hix i hi;have hle : ((xs.drop (i * k)).take k).length = k := by rw [bT, dV]; omega
      refine ⟨hle, fun v hv => h1 v (cQ (bJ hv)), by rw [hle, hk], fun j u d hu hd => ?_⟩;have hj : j < k := by have := (aL.1 hu).1; omega
      rw [vY hj, bV] at hu;have hf := l7 _ i (c l[i]) hlc (fg hi) j hj;exact (hrep.Y _ u d hu (hf.trans hd)).closed (fun ad u hm hu => ⟨by rw [hM]; exact hm, hu⟩) (iR (hc _) d (aK hd))
    obtain ⟨el, hed⟩ : ∃ el : Fin l.length → El k c M w, el = fun i => ⟨((xs.drop (i * k)).take k, l[i]), hel i i.2⟩ := ⟨_, rfl⟩
    haveI : Inhabited (El k c M w) := ⟨el ⟨0, hn0⟩⟩
    obtain ⟨d, hd⟩ : ∃ d, d = Array.ofFn el := ⟨_, rfl⟩;have hds : d.size = l.length := by rw [hd]; simp
    have hdi : ∀ i (hi : i < d.size), d[i].vs = (xs.drop (i * k)).take k ∧ d[i].a = l[i]'(by omega) := fun i hi => by
      have e : d[i] = el ⟨i, by omega⟩ := by simp [hd]
      rw [e, hed]; exact ⟨rfl, rfl⟩
    have hfl : ∀ t (ht : t < xs.length), (Sort.flatK El.vs k d)[t]! = xs[t] := fun t ht => by
      obtain ⟨p1, p2, p3⟩ := Xd d (t := t) (by rw [hds, ← hxl]; exact ht);rw [p3];have e1 := (hdi _ p1).1;have e2 : t / k * k + t % k = t := by rw [sG]; exact Nat.div_add_mod t k
      have : ((xs.drop (t / k * k)).take k)[t % k]? = some xs[t] := by
        rw [e1] at p2;rw [vY (by rw [bT] at p2; omega), bV, e2, aA ht]
      rw [← e1, aA p2] at this;exact Option.some.inj this
    have hHo : Sort.HoldsK El.vs k w b 0 d := fun j hj => by
      have hj' : j < xs.length := by rw [hxl, ← hds]; simpa using hj
      have hcj : cur.toList[j]? = some xs[j] := by
        have : (cur.toList.take (l.length * k))[j]? = some xs[j] := by rw [htk, aA hj']
        rwa [vY (by omega)] at this
      rw [hfl j hj'];refine ⟨?_, by simp [World.frozen?, hb]⟩;simp only [World.cell?, hb, eQ, Option.isSome_none, eW, if_false];rw [← Array.getElem?_toList, hcj]; rfl
    have hcmp : CmpLays P g #[] El.vs k (fun x y : El k c M w => f x.a y.a) b 0 d.size w := fun m os dk hsd x y => by
      obtain ⟨W, hW⟩ : ∃ W, W = sortWorldK El.vs k w b 0 m dk os := ⟨_, rfl⟩;rw [← hW];have hWs : w.heap.size ≤ W.heap.size := by rw [hW]; exact size_sortWorldK_c El.vs k w b 0 m dk os
      have hkp : Keeps M g9 pT w M g9 pT W := ⟨fun ad u hm hu => ⟨hm, by
        have hne : ad.block ≠ b := fun e => hm (by rw [e]; exact hMb);have hlt := World.block_lt_of_cell? w ad hu;rw [hW]; unfold sortWorldK;rw [Sort.cell?_grow _ _ _ (by rw [Sort.size_putRowK]; exact hlt), Sort.cell?_putRowK_other _ _ _ _ _ _ _ hne]; exact hu⟩, fun id o' h _ => absurd h (fun q => q), fun _ h => h⟩
      have hag : ∀ z : El k c M w, RepV M g9 pT W (.agg (El.vs z).toArray) (.agg (c z.a)) := fun z =>
        .agg _ _ z.2.2.2.len z.2.2.1 (z.2.2.2.G hkp).Y
      have h2 := (hg x.a y.a).2 M W [.agg (El.vs x).toArray, .agg (El.vs y).toArray] (fun b hb => cH (rS hR b (by rw [hM] at hb; exact hb)) hWs) ⟨rfl, fun j u e hu he => by
        rcases j with _ | _ | j
        · cases hu; cases he; exact hag x
        · cases hu; cases he; exact hag y
        · simp at hu⟩
      refine (Calls.drew h2 fun e w' ⟨v, he, _⟩ => ⟨v, he⟩).mono ?_;rintro e w' ⟨⟨v, rfl, hv, hbl⟩, hdr⟩;cases hv
      exact ⟨rfl, afF hbl hdr⟩
    have hO' : Sort.SWO (ltOf fun x y : El k c M w => f x.a y.a) := ⟨fun x => hO.irrefl _, fun x y z => hO.trans _ _ _, fun x y z => hO.ntrans _ _ _⟩;have key := AnyQ.slices_SortFunc L k aE zE El.vs (fun x => x.2.1) (fun x => x.2.2.1) (fun x y : El k c M w => f x.a y.a) hO' g #[] b 0 cap d w eg hcmp hHo hblk (by omega);rw [hval];rw [hds] at key;refine key.mono ?_;rintro e w' ⟨rfl, d', n, os, hp, hs, rfl⟩;have hds' : d'.size = l.length := by rw [hp.1, hds]
    obtain ⟨hh, hgr⟩ := Sq (n := n) (os := os) (Sort.flatK El.vs k d') hb;have hfs : (Sort.flatK El.vs k d').size = l.length * k := by rw [Sort.size_flatK, hds']
    have hnk : l.length * k ≤ cap * k := c9 k hnc;have hp2 := Rel.put hR hH rfl ho ⟨ty, k, (d'.toList.map El.a).map c, false⟩ o (w' := sortWorldK El.vs k w b 0 n d' os) (by rw [hbo]; exact hgr) (fun b hb => .inl hb) (.inl rfl) (by simp [hds', hver]) hty hsz
      (fun x hx => by obtain ⟨a, _, rfl⟩ := aS.1 hx; rw [hsz]; exact hk a) (Sort.flatK El.vs k d').toList
      (by
        rw [hsz];refine ⟨by simp [hds'], .inr ⟨b, cap, _, by simp [hval, hds'], dN _, hh, by simpa [hds'] using hnc, hcm, by simp [Sort.putCells, hcs], ?_⟩⟩;have := Up cur (Sort.flatK El.vs k d') (by omega);rw [hfs] at this;simpa [hds'] using this) (abF d')
      (by
        have hr := abE hk d';refine ⟨hr.len, fun j u e hu he => (hr.Y j u e hu he).closed (fun ad u hm hu => ⟨by rw [← hM]; exact hm, hu⟩) ?_⟩;obtain ⟨x, hx, hxe⟩ := iI.1 (aK he);obtain ⟨a, _, rfl⟩ := aS.1 hx;exact iR (hc a) e hxe)
    refine ⟨_, .tup [], _, _, rfl, hp2.1, .tup [] [] rfl (fun j u d hu => by simp at hu), hp2.2.1, hp2.2.2, hQ (d'.toList.map El.a) ?_ ?_⟩
    · have hle : l = d.toList.map El.a := by
        refine gF (fg hds) fun i p1 p2 => ?_;have := (hdi i (by omega)).2;simpa using this.symm
      have h3 := hp.2.2.map El.a;have e3 : (d'.toList.map El.a).take l.length = d'.toList.map El.a := aH (fg hds');have e4 : (d.toList.map El.a).take l.length = d.toList.map El.a := aH (fg hds);rw [← hle] at e4;have h4 : (d'.toList.map El.a).Perm (d.toList.map El.a) := by
        rw [← hle]; simpa [e3, e4, ← hle] using h3
      rw [hle]; exact h4
    · rw [cA]
      intro i j p1 p2 hij;have q1 : i < d'.size := by simpa using p1
      have q2 : j < d'.size := by simpa using p2
      have := hs i j (dN _) hij (by omega);rw [getElem!_pos d' i q1, getElem!_pos d' j q2] at this;unfold ltOf at this;simpa using this
end
theorem Xp:Sort.SWO (ltOf fun a b:Arr=>cJ a.key b.key) where
 irrefl a:=by unfold ltOf;simp [iG]
 trans a b c h1 h2:=by
  unfold ltOf at *;simp only [decide_eq_true_eq] at *;exact rA (by omega) h2
 ntrans a b c h1 h2:=by
  unfold ltOf at *;simp only [decide_eq_false_iff_not] at *;intro h3;have n1:=j8 c.key b.key;rcases Int.lt_trichotomy (cJ c.key b.key) 0 with h|h|h
  ·exact h1 (rA (by omega) h)
  ·rw [rB h] at h3;exact h1 h3
  ·exact h2 (by omega)
theorem Wd {H:AHeap}{id:Nat}{l:List Arr}{Q:D→AHeap→Prop}(hl:l.length<4611686018427387904)(hH:H.get id=some ⟨81,6,l.map Arr.c,false⟩)
  (hQ:∀ l':List Arr,l'.Perm l→l'.Pairwise (fun a b=>¬ cJ b.key a.key<0)→Q (.tup []) (H.put id ⟨81,6,l'.map Arr.c,false⟩)) :
  ACalls prog 29 [.own id l.length,.fn 28 []] H Q :=
 Hg Tryz.laysSortF 6 Tryz.isAgg81 Tryz.sizeOf81 Arr.c (fun _=>rfl) Arr.U (fun a b=>cJ a.key b.key) Xp 28 uL (Go.Proofs.enters_of func28 en rfl)
  ⟨Tryz.f29,func29,rfl,rfl⟩ (fun p cap w=>AnyF.slices_SortFunc_none Tryz.laysSortF p cap _ w) hl hH hQ
theorem OB {t:Types}{r:Rule}{h:Host}{i:Int}:∀ l:List Mat,(nG t r h i l).1.length<=l.length
 | []=>by simp [nG]
 | m :: l=>by
  have ih:=OB (t:=t) (r:=r) (h:=h) (i:=i) l;simp only [nG];split
  .simp
  .split
   .simp
   .simp only [cD];omega
theorem HI {t:Types}{h:Host}:∀ (rs:List Rule) (k:Nat),(jJ t h k rs).1.length<=5000 * rs.length
 | [],_=>by simp [jJ]
 | r :: l,k=>by
  have ih:=HI (t:=t) (h:=h) l (k+1);have ha:=Od t r h;have hm:=OB (t:=t) (r:=r) (h:=h) (i:=k) (iS t r h).1;simp only [jJ];split
  .simp
  .split
   .rw [cD];omega
   .rw [aO,cD];omega
theorem Uu (most i:Int)(x:XS)(v:Vis):(kY most i x v).A.length<=x.A.length+1/\(kY most i x v).M.length<=x.M.length+1:=by
 have c:∀ b a,(zU x b a).A=b/\(zU x b a).M.length<=x.M.length+1:=λb a=>by
  unfold zU;refine ⟨rfl,?_⟩;simp only;split<;>simp
 unfold kY;split
 .simp
 .split
  .rw [(c _ _).1];exact ⟨by simp,(c _ _).2⟩
  .rw [(c _ _).1];exact ⟨by simp,(c _ _).2⟩
theorem Fv (most i:Int):∀ (vs:List Vis) (x:XS),(vs.foldl (kY most i) x).A.length<=x.A.length+vs.length/\(vs.foldl (kY most i) x).M.length<=x.M.length+vs.length
 | [],x=>by simp
 | v :: l,x=>by
  have h:=Uu most i x v;have ih:=Fv most i l (kY most i x v);simp only [iD,cD];omega
def Rb (t:Types)(rs:List Rule)(hh:Host)(most i:Int)(x:XS):XS:=(jJ t hh 0 rs).1.foldl (kY most i) ⟨x.A,[],x.all⟩
def HJ (H:AHeap)(s hb al ar q:Nat)(d:D)(y:XS):AHeap:=((((H.put s ⟨41,2,[[.own hb y.A.length,d]],false⟩).put hb ⟨33,3,y.A.map Host.c,false⟩).put al ⟨4,1,[[.bool y.all]],false⟩).put ar ⟨39,1,[[.own q y.M.length]],false⟩).push q ⟨81,6,y.M.map Arr.c,false⟩
theorem NZ {md:Nat→Bool}{ops:Array Oper}{sp:List (Nat × Nat)}{n0 ix:Nat}{rest:List Oper}{acc:List (Nat × List Nat)}{e:dO}{dst:Option Tmp}{K:dO→AHeap→Prop}{H:AHeap}
  (t:Types) (ht:t.ok) (rs:List Rule) (hrs:∀ r∈rs,r.ok) (hr10:rs.length≤10) (hh:Host) (most i:Int) (x:XS) (hx:x.A.length≤1000) (s hb al at' ar q sa m:Nat)
  (e1:H.get s=some ⟨41,2,[[.own hb x.A.length,.own sa m]],false⟩) (e2:H.get hb=some ⟨33,3,x.A.map Host.c,false⟩) (e3:H.get al=some ⟨4,1,[[.bool x.all]],false⟩) (e4:H.get at'=some ⟨3,1,[[dI i]],false⟩)
  (e5:H.get ar=some ⟨39,1,[[.nil]],false⟩) (e6:∃ k,H.get sa=some k)
  (hd:s≠hb∧s≠al∧s≠at'∧s≠ar∧hb≠al∧hb≠at'∧hb≠ar∧al≠at'∧al≠ar∧at'≠ar)
  (hq:q<n0) (hqa:¬ H.J q) (hmd:EI md dst=true) (hck:chk sp ix [s,hb,al,at',ar,sa,q] acc)
  (hK:kQ prog md ops sp n0 (ix+1) rest ((ix,[s,hb,al,at',ar,sa,q]) :: acc) (nB e dst (dI (jJ t hh 0 rs).2)) (HJ H s hb al ar q (.own sa m) (Rb t rs hh most i x)) K) :
  pZ prog md ops sp n0 ix rest acc e dst K 23 [t.d,.list (rs.map Rule.c),hh.d,.fn 24 [.ptr s 1 0 0,.adr [dI most],.ptr al 1 0 0,.ptr at' 1 0 0,.ptr ar 1 0 0]] H:=by
 obtain ⟨y,hy⟩:∃ y,y=Rb t rs hh most i x:=⟨_,rfl⟩;rw [← hy] at hK;obtain ⟨x0,hx0⟩:∃ x0:XS,x0=⟨x.A,[],x.all⟩:=⟨_,rfl⟩;have hyf:y=(jJ t hh 0 rs).1.foldl (kY most i) x0:=by rw [hy,hx0];rfl
 have hVl:(jJ t hh 0 rs).1.length≤50000:=by have:=HI (t:=t) (h:=hh) rs 0;omega
 obtain ⟨d1,d2,d3,d4,d5,d6,d7,d8,d9,d10⟩:=hd;unfold pZ;refine Or.inr ⟨hmd,dI (jJ t hh 0 rs).2,[s,hb,al,at',ar,sa],[(s,⟨41,2,[[.own hb y.A.length,.own sa m]],false⟩),(hb,⟨33,3,y.A.map Host.c,false⟩),(al,⟨4,1,[[.bool y.all]],false⟩),(ar,⟨39,1,[[.own q y.M.length]],false⟩)],[(q,⟨81,6,y.M.map Arr.c,false⟩)],
  (fun p hp=>by
   simp only [aP,dU,or_false] at hp;rcases hp with rfl|rfl|rfl|rfl<;>simp),
  (fun p hp=>by
   rw [aX.1 hp];exact ⟨hq,hqa⟩),
  (fun H' hag hfr=>?_),hck,hK⟩
 obtain ⟨hq',hqa'⟩:=hfr (q,_) (aX.2 rfl);simp only at hq' hqa';have f1:=(hag s (by simp)).trans e1;have f2:=(hag hb (by simp)).trans e2;have f3:=(hag al (by simp)).trans e3;have f4:=(hag at' (by simp)).trans e4;have f5:=(hag ar (by simp)).trans e5;obtain ⟨ksa,e6⟩:=e6;have f6:=(hag sa (by simp)).trans e6;have hEnt:XZ prog 23:=⟨Tryz.f23,func23,rfl,rfl⟩;refine ACalls.wf hEnt fun hnx hnon=>?_;have hal:∀ {j k},H'.get j=some k→H'.J j:=fun {j k} hj=>bE fun hn=>by rw [hnon j hn] at hj;cases hj
 have l1:=hnx s (hal f1);have l2:=hnx hb (hal f2);have l3:=hnx al (hal f3);have l4:=hnx at' (hal f4);have l5:=hnx ar (hal f5);have l6:=hnx sa (hal f6);have nq:∀ {j k},H'.get j=some k→j≠q:=fun {j k} hj e=>hqa' (e ▸ hal hj);obtain ⟨I,hI⟩:∃ I:List Vis→AHeap→Prop,I=fun vs H1=>HX H1 s hb al at' ar H'.next i (.own sa m) (vs.foldl (kY most i) x0)∧(∀ j,j<H'.next→j≠s→j≠hb→j≠al→j≠ar→H1.get j=H'.get j)∧H'.next<H1.next:=⟨_,rfl⟩;have hgh:Ghosts H' (qE H' ar 0 0 81 6):=.step (.refl _) ar 0 0 _ _ _ _ f5 rfl rfl rfl;have hgn:(qE H' ar 0 0 81 6).next=H'.next+1:=by simp [qE,f5,AHeap.push,AHeap.put]
 have hgg:∀ j,j≠ar→j≠H'.next→(qE H' ar 0 0 81 6).get j=H'.get j:=fun j p1 p2=>by simp [qE,f5,AHeap.push,AHeap.put,p1,p2]
 have hv:=EW t ht rs hrs hh 24 [.ptr s 1 0 0,.adr [dI most],.ptr al 1 0 0,.ptr at' 1 0 0,.ptr ar 1 0 0] (qE H' ar 0 0 81 6) (fun d1 H1=>d1=dI (jJ t hh 0 rs).2∧I (jJ t hh 0 rs).1 H1) I
  (by
   rw [hI];simp only [List.foldl_nil,hx0];refine ⟨⟨?_,?_,?_,?_,?_,?_⟩,fun j hj p1 p2 p3 p4=>?_,by rw [hgn];omega⟩
   ·rw [hgg _ d4 (by omega)];exact f1
   ·rw [hgg _ d7 (by omega)];exact f2
   ·rw [hgg _ d9 (by omega)];exact f3
   ·rw [hgg _ d10 (by omega)];exact f4
   ·simp [qE,f5,AHeap.push,AHeap.put,show ar≠H'.next by omega]
   ·simp [qE,f5,AHeap.push,AHeap.put]
   ·exact hgg j p4 (by omega))
  (fun vs H1 H2 h1 h2 h3=>by
   rw [hI] at h1 ⊢;obtain ⟨⟨g1,g2,g3,g4,g5,g6⟩,g7,g8⟩:=h1;exact ⟨⟨(h2 _ (by omega)).trans g1,(h2 _ (by omega)).trans g2,(h2 _ (by omega)).trans g3,(h2 _ (by omega)).trans g4,(h2 _ (by omega)).trans g5,(h2 _ g8).trans g6⟩,fun j hj p1 p2 p3 p4=>(h2 j (by omega)).trans (g7 j hj p1 p2 p3 p4),by omega⟩)
  (fun vs v H1 hpre h1 hn K1 hK1=>by
   rw [hI] at h1;obtain ⟨hX,hF,hN⟩:=h1;obtain ⟨r,hr⟩:=hpre;have hvl:vs.length≤50000:=by have:=congrArg List.length hr;simp at this;omega
   have hfl:=Fv most i vs x0;have hx0l:x0.A.length=x.A.length∧x0.M.length=0:=by rw [hx0];exact ⟨rfl,rfl⟩
   refine Qs most i s hb al at' ar H'.next (.own sa m) (vs.foldl (kY most i) x0) v H1 K1 hX ⟨d1,d2,d3,d4,by omega,d5,d6,d7,by omega,d8,d9,by omega,d10,by omega,by omega⟩ ⟨by omega,by omega,by omega,by omega,by omega,by omega⟩ (by omega) (by omega) fun H3 hX3 hF3 hN3=>hK1 H3 ?_ (fun z z1 z2=>hF3 z z2 ?_ ?_ ?_ ?_ ?_) hN3
   ·rw [hI]
    exact ⟨by rw [eG];exact hX3,fun j hj p1 p2 p3 p4=>(hF3 j (by omega) p1 p2 p3 p4 (by omega)).trans (hF j hj p1 p2 p3 p4),by omega⟩
   all_goals (rw [hgn] at z1;omega))
  (fun H1 h1 _=>⟨rfl,h1⟩)
 refine ACalls.exact (E:=HJ H' s hb al ar q (.own sa m) y) (hv.co hgh) fun _ _ d1 H1 hq1=>?_;obtain ⟨rfl,h1⟩:=hq1;rw [hI] at h1;obtain ⟨⟨g1,g2,g3,g4,g5,g6⟩,g7,g8⟩:=h1;rw [← hyf] at g1 g2 g3 g5 g6;obtain ⟨E,hE⟩:∃ E,E=HJ H' s hb al ar q (.own sa m) y:=⟨_,rfl⟩;have n1:=nq f1;have n2:=nq f2;have n3:=nq f3;have n5:=nq f5;have a1:=hal f1;have a2:=hal f2;have a3:=hal f3;have a5:=hal f5;have a6:=hal f6;have hEal:∀ j,E.J j↔j=q∨H'.J j:=fun j=>by rw [hE];exact Iff.rfl
 have hEn:E.next=H'.next:=by rw [hE];simp [HJ,AHeap.push,AHeap.put,hq']
 have hEg:∀ j,j≠q→j≠s→j≠hb→j≠al→j≠ar→E.get j=H'.get j:=fun j p0 p1 p2 p3 p4=>by rw [hE];simp [HJ,AHeap.push,AHeap.put,p0,p1,p2,p3,p4]
 have k1:E.get s=some ⟨41,2,[[.own hb y.A.length,.own sa m]],false⟩:=by rw [hE];simp [HJ,AHeap.push,AHeap.put,n1,d1,d2,d4]
 have k2:E.get hb=some ⟨33,3,y.A.map Host.c,false⟩:=by rw [hE];simp [HJ,AHeap.push,AHeap.put,n2,d5,d7]
 have k3:E.get al=some ⟨4,1,[[.bool y.all]],false⟩:=by rw [hE];simp [HJ,AHeap.push,AHeap.put,n3,d9]
 have k5:E.get ar=some ⟨39,1,[[.own q y.M.length]],false⟩:=by rw [hE];simp [HJ,AHeap.push,AHeap.put,n5]
 have kq:E.get q=some ⟨81,6,y.M.map Arr.c,false⟩:=by rw [hE];simp [HJ,AHeap.push]
 have hτ:∀ j,j≠q→(if j=q then H'.next else j)=j:=fun j hj=>if_neg hj;have hcl:∀ (l:Xa1),D.T l=true→l.map (·.map (yC fun j=>if j=q then H'.next else j))=l∧∀ c∈l,∀ z∈c,okc E.J z:=fun l hl=>by
  have hz:∀ c∈l,∀ z∈c,z.U=true:=fun c hc z hz=>iR (p8 hl c hc) z hz;refine ⟨?_,fun c hc z hzz=>?_⟩
  ·have:l.map (·.map (yC fun j=>if j=q then H'.next else j))=l.map id:=bY fun c hc=>by
    have:c.map (yC fun j=>if j=q then H'.next else j)=c.map id:=bY fun z hzz=>by
     have:=hz c hc z hzz;cases z<;>first|rfl|(simp [D.U] at this)
    simpa using this
   simpa using this
  ·have:=hz c hc z hzz
   cases z<;>first|exact this|(simp [D.U] at this)
 rw [← hE];refine ⟨fun j=>if j=q then H'.next else j,⟨fun j hj=>?_,fun a b ha hb e=>?_,fun j hj=>⟨(hEal j).2 (.inr hj),hτ j fun e=>hqa' (e ▸ hj)⟩,fun j hj=>?_,fun j k hj=>?_⟩,rfl,rfl⟩
 ·rw [hEn]
  rcases (hEal j).1 hj with rfl|h
  ·exact hq'
  ·exact hnx j h
 ·have la:a≠q→a<H'.next:=fun h=>by
   rcases (hEal a).1 ha with h'|h'
   ·exact absurd h' h
   ·exact hnx a h'
  have lb:b≠q→b<H'.next:=fun h=>by
   rcases (hEal b).1 hb with h'|h'
   ·exact absurd h' h
   ·exact hnx b h'
  by_cases p1:a=q<;>by_cases p2:b=q<;>simp [p1,p2] at e ⊢
  ·have:=lb p2;omega
  ·have:=la p1;omega
  ·exact e
 ·have p0:j≠q:=fun e=>hj ((hEal j).2 (.inl e))
  have pj:¬ H'.J j:=fun e=>hj ((hEal j).2 (.inr e));rw [hEg j p0 (fun e=>pj (e ▸ a1)) (fun e=>pj (e ▸ a2)) (fun e=>pj (e ▸ a3)) (fun e=>pj (e ▸ a5))];exact hnon j pj
 ·by_cases p0:j=q
  ·subst p0;rw [kq] at hj;cases hj
   exact .inr ⟨_,by rw [if_pos rfl];exact g6,rfl,rfl,rfl,(hcl _ (Ue _)).1.symm,(hcl _ (Ue _)).2⟩
  ·by_cases p1:j=s
   ·subst p1;rw [k1] at hj;cases hj
    exact .inr ⟨_,by rw [hτ _ p0];exact g1,rfl,rfl,rfl,by simp [yC,n2,nq f6],fun c hc z hz=>by
     rw [aX.1 hc] at hz;simp only [aP,dU,or_false] at hz;rcases hz with rfl|rfl
     ·exact (hEal _).2 (.inr a2)
     ·exact (hEal _).2 (.inr a6)⟩
   ·by_cases p2:j=hb
    ·subst p2;rw [k2] at hj;cases hj
     exact .inr ⟨_,by rw [hτ _ p0];exact g2,rfl,rfl,rfl,(hcl _ (L8 _)).1.symm,(hcl _ (L8 _)).2⟩
    ·by_cases p3:j=al
     ·subst p3;rw [k3] at hj;cases hj
      exact .inr ⟨_,by rw [hτ _ p0];exact g3,rfl,rfl,rfl,(hcl _ rfl).1.symm,(hcl _ rfl).2⟩
     ·by_cases p4:j=ar
      ·subst p4;rw [k5] at hj;cases hj
       exact .inr ⟨⟨39,1,[[.own H'.next y.M.length]],false⟩,by rw [hτ _ p0];exact g5,rfl,rfl,rfl,by simp [yC],fun c hc z hz=>by
        rw [aX.1 hc] at hz;rw [aX.1 hz];exact (hEal _).2 (.inl rfl)⟩
      ·have hg:=hEg j p0 p1 p2 p3 p4
       rw [hg] at hj;exact .inl ⟨hal hj,hj,(g7 j (hnx j (hal hj)) p1 p2 p3 p4).trans hj⟩
end Go.Abs
end
