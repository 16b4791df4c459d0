/- Layer 49: Explore. · Layer 49: the example of the chapter. · -/
import Derived.Test.YtiklfilfhnfagaaGreatZfG
import Derived.Test.YtiklfilfhnfagaaGreatZfA
import Derived.Test.YtiklfilfhnfagaaGreatZfT
import Derived.Test.YtiklfilfhnfagaaGreatZfU
import Derived.Test.YtiklfilfhnfagaaGreatZfS
import Derived.Test.YtiklfilfhnfagaaGreatZfR
import Derived.Test.YtiklfilfhnfagaaGreatZfO
set_option linter.unusedVariables false
set_option linter.unusedSimpArgs false
section
set_option maxRecDepth 100000
set_option maxHeartbeats 4000000
open Go Go.Proofs
namespace Go.Abs
theorem Mj {t:Types}{rs:List Rule}{most:Int}{n i:Nat}{x:XS}(h:i<x.hosts.length):w5 t rs most (n+1) i x=if (wU t rs most i x).2≠0 then wU t rs most i x else w5 t rs most n (i+1) (wU t rs most i x).1:=by
 show (if i<x.hosts.length then _ else _)=_
 rw [if_pos h]
theorem Pg {t:Types}{rs:List Rule}{most:Int}{n i:Nat}{x:XS}(h:¬ i<x.hosts.length):w5 t rs most n i x=(x,0):=by
 cases n with
 | zero=>rfl
 | succ n=>show (if i<x.hosts.length then _ else _)=_;rw [if_neg h]
theorem KL {H:AHeap}{id i off ty sz j:Nat}(h:(nD H id i off ty sz).al j):j=H.next∨H.al j:=by
 unfold nD at h
 split at h
 ·exact h
 ·exact .inr h
theorem HA (most i:Int):∀ (vs:List Vis) (x:XS),x.hosts.length≤(vs.foldl (lC most i) x).hosts.length
 | [],x=>aL _
 | v :: l,x=>by
  refine cQ ?_ (HA most i l (lC most i x v))
  unfold lC
  split
  ·exact aL _
  ·split
   ·show x.hosts.length≤(x.hosts++[v.fin]).length;simp
   ·exact aL _
theorem zQ (t:Types)(ht:t.ok)(rs:List Rule)(hrs:∀ r∈rs,r.ok)(h:Host)(most:Int):Pure Tryz.prog 11 [t.d,.list (rs.map Rule.c),h.d,dI most] (.tup [(pN t rs h most).1.d,.bool (pN t rs h most).1.all,dI (pN t rs h most).2]):=by
 refine qR (by first|rfl|(simp [go_sem];done)) (fun Q hQ=>ACalls.bump 100 (aH (cfg:=⟨fun t=>t==8||t==14||t==15||t==17||t==18||t==19||t==20||t==58||t==75||t==85,fun r=>match r with|25=>[(1,2)]|_=>[]⟩) Tz.mixed Tryz.func11 rfl rfl (aD rfl) (by kernel_rfl) ?_))
 have Y:=wa @Host.d.eq_1 (wa @Host.c.eq_1 (wa @XS.d.eq_1 (wa @Arr.c.eq_1 @Arr.d.eq_1)))
 refine wv (h:=aB (vW t ht rs hrs) wl ?_)
 refine dU (fun h2=>?_) fun h2=>?_
 ·have hE:pN t rs h most=(⟨[],[],false⟩,iS t rs):=by unfold pN;rw [if_pos (by simpa using h2)]
  refine wv (h:=?_)
  exact hQ _ _ (by simp [go_sem,hE,Y,jY,fW])
 ·have z1:iS t rs=0:=by simpa using h2
  have hr10:rs.length≤10:=(OD z1).2.1
  refine wv (h:=aB (oR t ht h) wl ?_)
  refine dU (fun h5=>?_) fun h5=>?_
  ·have hE:pN t rs h most=(⟨[],[],false⟩,eR t h):=by unfold pN;rw [if_neg (by simp [z1]),if_pos (by unfold eR;simpa using h5)]
   refine wv (h:=?_)
   exact hQ _ _ (by simp [go_sem,hE,Y,jY,fW,eR])
  ·have z2:eR t h=0:=by unfold eR;simpa using h5
   refine qJ (fun h7=>?_) fun h7=>?_
   ·have hE:pN t rs h most=(⟨[],[],false⟩,6):=by unfold pN;rw [if_neg (by simp [z1]),if_neg (by simp [z2]),if_pos (by first|exact h7|omega)]
    refine wv (h:=?_)
    exact hQ _ _ (by simp [go_sem,hE,Y,jY,fW])
   ·have z3:¬ (most<1∨300<most):=by first|exact h7|omega
    refine wv (h:=aB (xH t ht h) wl ?_)
    refine dU (fun h10=>?_) fun h10=>?_
    ·have hE:pN t rs h most=(⟨[],[],false⟩,sS t h):=by unfold pN;rw [if_neg (by simp [z1]),if_neg (by simp [z2]),if_neg z3,if_pos (by simpa using h10)]
     refine wv (h:=?_)
     exact hQ _ _ (by simp [go_sem,hE,Y,jY,fW])
    ·have z4:sS t h=0:=by simpa using h10
     have hcH:Bj t h=GH h:=by unfold Bj;rw [if_neg (by simp [z4])]
     obtain ⟨R,hR⟩:∃ R,R=w5 t rs most most.toNat 0 ⟨[GH h],[],true⟩:=⟨_,rfl⟩
     have hE:pN t rs h most=if R.2≠0 then (⟨[],[],false⟩,R.2) else (R.1,0):=by unfold pN;rw [if_neg (by simp [z1]),if_neg (by simp [z2]),if_neg z3,if_neg (by simp [z4]),hR]
     have Y:=wa Y hcH
     refine wv (h:=sP (Ghosts.step (Ghosts.refl _) 104 0 1 37 6 _ _ ((by simp [go_sem]:AHeap.get _ _=some ⟨28,2,[[.own 103 1,.nil]],false⟩)) rfl rfl rfl) (fun i e H=>∃ x:XS,∃ n:Nat,∃ q:Nat,(e 4=.adr t.c∧e 6=.adr h.c∧e 1=.list (rs.map Rule.c)∧e 7=.adr [dI most]∧e 8=.ptr 100 1 0 0∧e 17=.ptr 104 1 0 0∧e 18=.ptr 105 1 0 0∧e 19=.ptr n 1 0 0)∧(H.get 100=some ⟨28,2,[[.nil,.nil]],false⟩)∧(100<H.next)∧(H.get 104=some ⟨28,2,[[.own 103 x.hosts.length,.own 107 x.arrs.length]],false⟩)∧(104<H.next)∧(H.get 103=some ⟨50,3,x.hosts.map Host.c,false⟩)∧(103<H.next)∧(H.get 107=some ⟨37,6,x.arrs.map Arr.c,false⟩)∧(107<H.next)∧(H.get 105=some ⟨4,1,[[.bool x.all]],false⟩)∧(105<H.next)∧(H.get n=some ⟨3,1,[[dI i]],false⟩)∧(n<H.next)∧((x.hosts.length:Int)≤most)∧(x.arrs.length≤50000 * i)∧(i≤x.hosts.length)∧(w5 t rs most (most.toNat - i) i x=R)∧(q<H.next)∧(¬ H.al q)∧(∀ j,H.al j→j<H.next)∧(q≠100∧q≠103∧q≠104∧q≠105∧q≠107∧q≠n)∧(105<n∧n≠107∧n<H.next)) (fun i=>most.toNat - i) 0 ⟨(⟨[GH h],[],true⟩),106,0,wg,wn,wn,wn,wn,wn,wn,wn,wn,wn,wn,wn,wn,(by (simp;omega)),(by (simp)),(by (simp)),(by (rw [hR];rfl)),(by (simp [go_sem])),(by (intro hj;have hj:=KL hj;simp [go_sem,f8,iU,oG,FY] at hj)),(by (intro j hj;have hj:=KL hj;simp [go_sem,f8,iU,oG,FY] at hj ⊢;omega)),(by (simp)),(by (simp [go_sem]))⟩ fun I0 hI0 i e H hi0=>?_)
     obtain ⟨x,n,q,E0,g100_0,n100_0,g104_0,n104_0,g103_0,n103_0,g107_0,n107_0,g105_0,n105_0,gn_0,nn_0,hxl,hal,hi,hL,hqn,hqa,hnx,hq9,hn7⟩:=hi0
     have Y:=wa Y (wa E0 (wa g100_0 (wa (cO n100_0) (wa g104_0 (wa (cO n104_0) (wa g103_0 (wa (cO n103_0) (wa g107_0 (wa (cO n107_0) (wa g105_0 (wa (cO n105_0) (wa gn_0 (cO nn_0)))))))))))))
     refine qJ (fun h15=>?_) fun h15=>?_
     ·obtain ⟨hh,hhh⟩:∃ hh,hh=x.hosts[i]:=⟨_,rfl⟩
      have hat:W9 x.hosts i=hh:=by unfold W9;rw [aA h15,hhh];rfl
      obtain ⟨V,hV⟩:∃ V,V=kO t hh 0 rs:=⟨_,rfl⟩
      obtain ⟨y,hy⟩:∃ y,y=Oh t rs hh most i x:=⟨_,rfl⟩
      have hVl:V.1.length≤50000:=by rw [hV];have:=DQ (t:=t) (h:=hh) rs 0;omega
      have X:XG most i y:=by rw [hy];exact RU (by omega) (by omega) hr10 hxl
      have hyl:y.arrs.length≤50000:=by
       rw [hy];have:=(Cb most i V.1 ⟨x.hosts,[],x.all⟩).2
       unfold Oh;rw [← hV];simp only [mH] at this;omega
      have hyh:x.hosts.length≤y.hosts.length:=by rw [hy];exact HA most i _ ⟨x.hosts,[],x.all⟩
      have hsl:(Ea y.arrs).length=y.arrs.length:=(Id _ _ rfl X.ne fun b hb=>(X.fr b hb).2).1.length_eq
      have hon:wU t rs most i x=if V.2≠0 then (x,V.2) else (QS x y,0):=by unfold wU;rw [hat,← hV,hy]
      obtain ⟨z,hz⟩:∃ z,z=QS x y:=⟨_,rfl⟩
      have hzh:z.hosts=y.hosts:=by rw [hz];rfl
      have hza:z.arrs=x.arrs++Ea y.arrs:=by rw [hz];rfl
      have hzb:z.all=y.all:=by rw [hz];rfl
      have hzl:(z.hosts.length:Int)≤most:=by rw [hzh];exact X.hl
      have hst:w5 t rs most (most.toNat - i) i x=if (wU t rs most i x).2≠0 then wU t rs most i x else w5 t rs most (most.toNat - (i+1)) (i+1) (wU t rs most i x).1:=by
       rw [show most.toNat - i=(most.toNat - (i+1))+1 by omega];exact Mj h15
      rw [hL] at hst
      have d0:=cO hqn
      have d1:=dP (a:=q) (b:=100) (by omega)
      have d2:=dP (a:=q) (b:=103) (by omega)
      have d3:=dP (a:=q) (b:=104) (by omega)
      have d4:=dP (a:=q) (b:=105) (by omega)
      have d5:=dP (a:=q) (b:=107) (by omega)
      have d6:=dP (a:=q) (b:=n) (by omega)
      have d7:=VD H.next
      have d8:=dP (a:=n) (b:=103) (by omega)
      have d9:=dP (a:=n) (b:=104) (by omega)
      have da:=dP (a:=n) (b:=105) (by omega)
      have db:=dP (a:=n) (b:=107) (by omega)
      have dc:=dP (a:=n) (b:=100) (by omega)
      have dd:=cO hn7.2.2
      have hnn:¬ H.al (H.next+1):=fun h=>by have:=hnx _ h;omega
      have de:q<H.next+1+10:=by omega
      have Y:=wa Y (wa h15 (wa de (wa d8 (wa d9 (wa da (wa db (wa dc (wa dd (wa d0 (wa d1 (wa d2 (wa d3 (wa d4 (wa d5 (wa d6 (wa d7 (wa (aA h15) (wa (Eq.symm hhh) (wa (Eq.symm hV) (wa (Eq.symm hy) (wa hzh (wa hza hzb))))))))))))))))))))))
      refine wp (h:=?_)
      refine IU t ht rs hrs hr10 hh most i x (by omega) 104 103 105 n H.next q 107 x.arrs.length ?_ ?_ ?_ ?_ ?_ ?_ ⟨by omega,by omega,by omega,by omega,by omega,by omega,by omega,by omega,by omega,by omega⟩ ?_ ?_ rfl ?_ ?_
      focus simp [go_sem,Y]
      focus simp [go_sem,Y]
      focus simp [go_sem,Y]
      focus simp [go_sem,Y]
      focus simp [go_sem,Y]
      focus exact ⟨_,by simp [go_sem,Y];rfl⟩
      focus first|omega|(simp [go_sem];omega)
      focus intro hc;rcases hc with hc|hc;omega;exact hqa hc
      focus first|trivial|simp [Dr]
      rw [← hV,← hy]
      simp only [DR]
      refine qJ (fun h19=>?_) fun h19=>?_
      ·have hne:V.2≠0:=by simpa using h19
       rw [hon,if_pos hne,if_pos hne] at hst
       have hE2:pN t rs h most=(⟨[],[],false⟩,V.2):=by rw [hE,hst];exact if_pos hne
       refine wv (h:=?_)
       exact hQ _ _ (by simp [go_sem,hE2,Y,jY,fW])
      ·rw [if_neg (by simpa using h19),← hz] at hon
       rw [hon,if_neg (by simp)] at hst
       have hL1:=hst.symm
       refine wv (h:=?_)
       unfold dO
       refine Qg (l:=y.arrs) (by omega) ?_ fun l' hp hs=>?_
       focus simp [go_sem,Y]
       have hl':l'=Ea y.arrs:=R7 X.ne (fun a ha=>(X.fr a ha).2) hp hs
       subst hl'
       have Y:=wa Y hsl
       exact wp (h:=wx hI0 (i+1) ⟨z,(H.next+1+10),(H.next+1),wg,wn,wn,wn,wn,wn,wn,wn,wn,wn,wn,wn,wn,(by (exact hzl)),(by (rw [hza,aT,hsl];omega)),(by (rw [hzh];omega)),(by (exact hL1)),(by (simp [go_sem,de];try omega)),(by (intro hc;simp [f8,iU,oG,FY,hnn] at hc;try omega)),(by (intro j hj;simp [f8,iU,oG] at hj;simp [go_sem,de];rcases hj with hj|hj|hj|hj<;>first|omega|(have:=hnx j hj;omega))),(by (omega)),(by (simp [go_sem,de];omega))⟩)
     ·have hE2:pN t rs h most=(x,0):=by rw [hE,← hL,Pg (by omega)];rfl
      refine wv (h:=?_)
      exact hQ _ _ (by simp [go_sem,hE2,Y,jY,fW,O2,QD])
def twoT:Types:=⟨[⟨⟨#[65]⟩,-1,false,[]⟩,⟨⟨#[66]⟩,-1,false,[]⟩],[]⟩
def DZ (a b:Int):Rule:=⟨⟨#[116,117,114,110]⟩,⟨⟨[a],[]⟩,[],0,[]⟩,⟨⟨[b],[]⟩,[],0,[]⟩,⟨[],[]⟩,⟨[],[]⟩,false,.mk 1 [] ⟨[],[]⟩ uN⟩
def Bm:List Rule:=[DZ 0 1,DZ 1 0]
def P3:Host:=⟨⟨[0,0],[]⟩,[[],[]]⟩
theorem Ze:(pN twoT Bm P3 10).2=0∧(pN twoT Bm P3 10).1.all=true∧(pN twoT Bm P3 10).1.hosts.length=3:=by decide +kernel
def DF (s:List Bool × List Int)(k:Int):List Bool × List Int:=if s.1[k.toNat]?.getD false=true then s else (s.1.set k.toNat true,s.2++[k])
def fX:List Bool→Nat
 | []=>0
 | b :: l=>(if b=true then 0 else 1)+fX l
theorem DK:∀ l:List Bool,fX l≤l.length
 | []=>aL _
 | b :: l=>by have:=DK l;simp only [fX,bW];split<;>omega
theorem xN:∀ (l:List Bool) (i:Nat),l[i]?=some false→fX (l.set i true)+1=fX l
 | [],i,h=>by simp at h
 | b :: l,0,h=>by simp at h;subst h;simp [fX];omega
 | b :: l,i+1,h=>by
  have:=xN l i (by simpa using h)
  simp only [sZ,fX];omega
def qP (L:List (List Int)):Nat→List Bool × List Int→List Bool
 | 0,s=>s.1
 | c+1,s=>if s.2.length=0 then s.1 else qP L c ((L[(iA s.2 ((s.2.length - 1:Nat):Int)).toNat]?.getD []).foldl DF (s.1,s.2.take (s.2.length - 1)))
def pU (n:Nat)(k:Int):List Bool:=(List.replicate n false).set k.toNat true
def lH (L:List (List Int))(k:Int):List Bool:=qP L (fX (pU L.length k)+1) (pU L.length k,[k])
theorem OQ {L:List (List Int)}{c:Nat}{s:List Bool × List Int}(h:s.2.length=0):qP L c s=s.1:=by
 cases c with
 | zero=>rfl
 | succ c=>exact if_pos h
theorem Sr (s:List Bool × List Int)(k:Int):(DF s k).1.length=s.1.length:=by unfold DF;split<;>simp
theorem ER:∀ (l:List Int) (s:List Bool × List Int),(l.foldl DF s).1.length=s.1.length
 | [],s=>rfl
 | k :: l,s=>(ER l _).trans (Sr s k)
theorem EB (L:List (List Int)):∀ (c:Nat) (s:List Bool × List Int),(qP L c s).length=s.1.length
 | 0,s=>rfl
 | c+1,s=>by
  show (if _ then _ else _:List Bool).length=_
  split
  ·rfl
  ·rw [EB,ER]
theorem Ey (L:List (List Int))(k:Int):(lH L k).length=L.length:=by unfold lH;rw [EB];simp [pU]
theorem tA (L:List (List Int))(k:Nat)(hk:k<L.length)(hL:∀ l∈L,∀ x∈l,0≤x∧x<L.length)(hn:L.length≤1000):Own Tryz.prog 17 [.list (L.map cL),dI k] 4 1 ((lH L k).map cB):=by
 obtain ⟨R,hR⟩:∃ R,R=lH L k:=⟨_,rfl⟩
 rw [← hR]
 obtain ⟨m0,hm0⟩:∃ m,m=pU L.length k:=⟨_,rfl⟩
 have hm0l:m0.length=L.length:=by rw [hm0];simp [pU]
 have hset:(List.replicate L.length [D.bool false]).set k [D.bool true]=m0.map cB:=by rw [hm0];simp [pU,cB]
 have hrp:(List.replicate L.length [D.bool false])[k]?=some [D.bool false]:=by rw [eG,if_pos hk]
 refine Tz.oK ⟨fun t=>t==12||t==17,fun _=>[]⟩ Tryz.func17 rfl (fun Q hQ=>?_)
 try simp [go_sem,seval,hset,hk,hrp]
 repeat first|intro _|refine ⟨fT,?_⟩
 obtain ⟨I0,hI0⟩:∃ I0:Nat→c7→AHeap→Prop,∀ (c:Nat) (e:c7) (H:AHeap),I0 c e H↔(∃ m:List Bool,∃ st:List Int,∃ s:Nat,(e 0=.list (L.map cL))∧(e 5=.own 0 L.length)∧(e 6=.own s st.length)∧(H.get 0=some ⟨4,1,m.map cB,false⟩)∧(0<H.next)∧(H.get s=some ⟨3,1,st.map cI,false⟩)∧(s<H.next)∧(s≠0)∧(m.length=L.length)∧(∀ x∈st,0≤x∧x<L.length)∧(c=fX m+st.length)∧(c≤1001)∧(qP L c (m,st)=R)):=⟨fun c e H=>_,fun _ _ _=>Iff.rfl⟩
 refine qV I0 (fun c=>c) (fX m0+1) ((hI0 _ _ _).2 ⟨(m0),([(k:Int)]),(1),?_,?_,?_,?_,?_,?_,?_,(by omega),(by (exact hm0l)),(by (simp;omega)),(by rfl),(by (have:=DK m0;omega)),(by (rw [hR,hm0];rfl))⟩) ?_
 iterate 7 (first|omega|(simp [go_sem,seval,hset,hk,hrp]<;>omega))
 intro c e H hi0
 obtain ⟨m,st,s,q0_0,q5_0,q6_0,g0_0,n0_0,gs_0,ns_0,hs,hml,hst,hc,hcB,hF⟩:=(hI0 _ _ _).1 hi0
 have x0:=cO n0_0
 have xs:=cO ns_0
 have F0:=And.intro q0_0 (And.intro q5_0 (And.intro q6_0 (And.intro g0_0 (And.intro gs_0 (And.intro x0 xs)))))
 try simp [go_sem,seval,hset,hk,hrp,F0]
 repeat first|intro _|refine ⟨fT,?_⟩
 refine aP (fun h4=>?_) (fun h4=>?_)
 ·try simp [go_sem] at h4
  have hsl:st.length - 1<st.length:=by omega
  obtain ⟨a,ha⟩:∃ a,a=st[st.length - 1]:=⟨_,rfl⟩
  have haN:0≤a∧a<L.length:=by rw [ha];exact hst _ (aC hsl)
  have hi1:((st.length:Int) - 1).toNat=st.length - 1:=by omega
  have hai:iA st ((st.length - 1:Nat):Int)=a:=by rw [kJ hsl,ha]
  have haL:a.toNat<L.length:=by omega
  obtain ⟨row,hrow⟩:∃ r,r=L[a.toNat]:=⟨_,rfl⟩
  have hrw:∀ x∈row,0≤x∧x<L.length:=by rw [hrow];exact hL _ (aC haL)
  obtain ⟨w0,hw0⟩:∃ w,w=st.take (st.length - 1):=⟨_,rfl⟩
  have hw0l:w0.length=st.length - 1:=by rw [hw0,bL];omega
  have hFs:qP L c (m,st)=qP L (c - 1) (row.foldl DF (m,w0)):=by
   obtain ⟨c',rfl⟩:∃ c',c=c'+1:=⟨c - 1,by omega⟩
   show (if st.length=0 then m else _)=_
   rw [if_neg (by omega),hai,aA haL,← hrow,← hw0];rfl
  have hw0s:∀ x∈w0,0≤x∧x<L.length:=fun x hx=>by rw [hw0] at hx;exact hst x (bN hx)
  have htk:(st.map cI).take (st.length - 1)=w0.map cI:=by rw [hw0,List.map_take]
  have hsn:=dP hs
  try simp [go_sem,seval,hset,hk,hrp,F0,h4,hsn,aA hsl,← ha,hi1,aA haL,← hrow,hw0l,htk]
  repeat first|intro _|refine ⟨fT,?_⟩
  obtain ⟨I2,hI2⟩:∃ I2:Nat→c7→AHeap→Prop,∀ (j:Nat) (e:c7) (H:AHeap),I2 j e H↔(∃ u:Nat,∃ m2:List Bool,∃ s2:List Int,(e 0=.list (L.map cL))∧(e 5=.own 0 L.length)∧(e 6=.own u s2.length)∧(e 35=.list (row.map cI))∧(e 36=dI row.length)∧(e 37=dI j)∧(H.get 0=some ⟨4,1,m2.map cB,false⟩)∧(0<H.next)∧(H.get u=some ⟨3,1,s2.map cI,false⟩)∧(u<H.next)∧(j≤row.length)∧(u≠0)∧(m2.length=L.length)∧(∀ x∈s2,0≤x∧x<L.length)∧(fX m2+s2.length=fX m+w0.length)∧((row.take j).foldl DF (m,w0)=(m2,s2))∧(s2.length≤st.length+j)):=⟨fun j e H=>_,fun _ _ _=>Iff.rfl⟩
  refine Ud (6) (s) (st.length - 1) ⟨3,1,st.map cI,false⟩ (by simp [go_sem,hset,hk,hrp,F0,h4,hsn,aA hsl,← ha,hi1,aA haL,← hrow,hw0l,htk]) (by simp [go_sem,hset,hk,hrp,F0,h4,hsn,aA hsl,← ha,hi1,aA haL,← hrow,hw0l,htk]) rfl I2 (fun j=>row.length - j) (0) ((hI2 _ _ _).2 ⟨(H.next),(m),(w0),?_,?_,?_,?_,?_,?_,?_,?_,?_,?_,(by first|assumption|omega|(simp [go_sem,hset,hk,hrp,F0,h4,hsn,aA hsl,← ha,hi1,aA haL,← hrow,hw0l,htk];done)|(simp_all;done)),(by (omega)),(by (exact hml)),(by (exact hw0s)),(by rfl),(by (rfl)),(by (omega))⟩) ?_
  iterate 10 (first|omega|(simp [go_sem,seval,hset,hk,hrp,F0,h4,hsn,aA hsl,← ha,hi1,aA haL,← hrow,hw0l,htk]<;>omega))
  intro j e H hi2
  obtain ⟨u,m2,s2,q0_2,q5_2,q6_2,q35_2,q36_2,q37_2,g0_2,n0_2,gu_2,nu_2,hj,hu,hml2,hst2,hcc,hfo,hsb⟩:=(hI2 _ _ _).1 hi2
  have x0:=cO n0_2
  have xu:=cO nu_2
  have F2:=And.intro q0_2 (And.intro q5_2 (And.intro q6_2 (And.intro q35_2 (And.intro q36_2 (And.intro q37_2 (And.intro g0_2 (And.intro gu_2 (And.intro x0 xu))))))))
  try simp [go_sem,seval,hset,hk,hrp,h4,hsn,aA hsl,← ha,hi1,aA haL,← hrow,hw0l,htk,F2]
  refine aP (fun h8=>?_) (fun h8=>?_)
  ·try simp [go_sem] at h8
   obtain ⟨x,hx⟩:∃ x,x=row[j]:=⟨_,rfl⟩
   have hxN:0≤x∧x<L.length:=by rw [hx];exact hrw _ (aC h8)
   have hxm:x.toNat<m2.length:=by omega
   obtain ⟨bx,hbx⟩:∃ b,b=m2[x.toNat]:=⟨_,rfl⟩
   obtain ⟨⟨m3,s3⟩,hms⟩:∃ p,p=DF (m2,s2) x:=⟨_,rfl⟩
   have hfo3:(row.take (j+1)).foldl DF (m,w0)=(m3,s3):=by
    rw [aG h8,cG,hfo,hms,hx];rfl
   have hmk:DF (m2,s2) x=if bx=true then (m2,s2) else (m2.set x.toNat true,s2++[x]):=by
    unfold DF;simp only;rw [aA hxm,← hbx];rfl
   have hun:=dP hu
   try simp [go_sem,seval,hset,hk,hrp,h4,hsn,aA hsl,← ha,hi1,aA haL,← hrow,hw0l,htk,F2,h8,hun,hml2,aA h8,← hx,aA hxm,← hbx,cB]
   repeat first|intro _|refine ⟨fT,?_⟩
   refine aP (fun h10=>?_) (fun h10=>?_)
   ·try simp [go_sem] at h10
    have hbf:bx=false:=by simpa using h10
    rw [hbf,if_neg (by simp)] at hmk
    rw [hmk] at hms
    obtain ⟨e3,e4⟩:=Prod.mk.inj hms
    have hml3:m3.length=L.length:=by rw [e3];simpa using hml2
    have hst3:∀ y∈s3,0≤y∧y<L.length:=fun y hy=>by
     rw [e4] at hy
     rcases aW.1 hy with hy|hy
     ·exact hst2 y hy
     ·rw [aR.1 hy];exact hxN
    have hcc3:fX m3+s3.length=fX m+w0.length:=by
     have:=xN m2 x.toNat (by rw [aA hxm,← hbx,hbf])
     rw [e3,e4];simp;omega
    have hsl3:s3.length=s2.length+1:=by rw [e4];simp
    try simp [go_sem,seval,hset,hk,hrp,h4,hsn,aA hsl,← ha,hi1,aA haL,← hrow,hw0l,htk,F2,h8,hun,hml2,aA h8,← hx,aA hxm,← hbx,cB,e3,e4]
    repeat first|intro _|refine ⟨fT,?_⟩
    refine fN (j+1) (by omega) ((hI2 _ _ _).2 ⟨(u),(m3),(s3),?_,?_,?_,?_,?_,?_,?_,?_,?_,?_,(by first|assumption|omega|(simp [go_sem,hset,hk,hrp,h4,hsn,aA hsl,← ha,hi1,aA haL,← hrow,hw0l,htk,F2,h8,hun,hml2,aA h8,← hx,aA hxm,← hbx,cB,e3,e4,h10];done)|(simp_all<;>omega)),(by (exact hu)),(by (exact hml3)),(by (exact hst3)),(by (exact hcc3)),(by (exact hfo3)),(by (omega))⟩)<;>first|omega|(simp [go_sem,seval,hset,hk,hrp,h4,hsn,aA hsl,← ha,hi1,aA haL,← hrow,hw0l,htk,F2,h8,hun,hml2,aA h8,← hx,aA hxm,← hbx,cB,e3,e4]<;>omega)
   ·try simp [go_sem] at h10
    have hbt:bx=true:=by simpa using h10
    rw [hbt,if_pos rfl] at hmk
    rw [hmk] at hms
    obtain ⟨e3,e4⟩:=Prod.mk.inj hms
    have hml3:m3.length=L.length:=by rw [e3];exact hml2
    have hst3:∀ y∈s3,0≤y∧y<L.length:=by rw [e4];exact hst2
    have hcc3:fX m3+s3.length=fX m+w0.length:=by rw [e3,e4];exact hcc
    have hsl3:s3.length=s2.length:=by rw [e4]
    try simp [go_sem,seval,hset,hk,hrp,h4,hsn,aA hsl,← ha,hi1,aA haL,← hrow,hw0l,htk,F2,h8,hun,hml2,aA h8,← hx,aA hxm,← hbx,cB,e3,e4]
    repeat first|intro _|refine ⟨fT,?_⟩
    refine fN (j+1) (by omega) ((hI2 _ _ _).2 ⟨(u),(m3),(s3),?_,?_,?_,?_,?_,?_,?_,?_,?_,?_,(by first|assumption|omega|(simp [go_sem,hset,hk,hrp,h4,hsn,aA hsl,← ha,hi1,aA haL,← hrow,hw0l,htk,F2,h8,hun,hml2,aA h8,← hx,aA hxm,← hbx,cB,e3,e4,h10];done)|(simp_all<;>omega)),(by (exact hu)),(by (exact hml3)),(by (exact hst3)),(by (exact hcc3)),(by (exact hfo3)),(by (omega))⟩)<;>first|omega|(simp [go_sem,seval,hset,hk,hrp,h4,hsn,aA hsl,← ha,hi1,aA haL,← hrow,hw0l,htk,F2,h8,hun,hml2,aA h8,← hx,aA hxm,← hbx,cB,e3,e4]<;>omega)
  ·try simp [go_sem] at h8
   rw [aK (by omega)] at hfo
   have hF2:qP L (c - 1) (m2,s2)=R:=by rw [← hF,hFs,hfo]
   try simp [go_sem,seval,hset,hk,hrp,h4,hsn,aA hsl,← ha,hi1,aA haL,← hrow,hw0l,htk,F2]
   refine fN (c - 1) (by omega) ((hI0 _ _ _).2 ⟨(m2),(s2),(u),?_,?_,?_,?_,?_,?_,?_,(by (omega)),(by (exact hml2)),(by (exact hst2)),(by (omega)),(by (omega)),(by (exact hF2))⟩)<;>first|omega|(simp [go_sem,seval,hset,hk,hrp,h4,hsn,aA hsl,← ha,hi1,aA haL,← hrow,hw0l,htk,F2]<;>omega)
 ·try simp [go_sem] at h4
  have hE:m=R:=by rw [← hF,OQ (by simp;omega)]
  rw [hE] at hml
  try simp [go_sem,seval,hset,hk,hrp,F0,hE,hml]
  exact hQ _ _ _ (by simp [go_sem,hset,hk,hrp,F0,hE,hml]) (by simp [go_sem,hset,hk,hrp,F0,hE,hml])
def tD (H:AHeap)(id ty:Nat):Nat→AHeap
 | 0=>H
 | m+1=>nD (tD H id ty m) id m 0 ty 1
def iO (A n:Nat)(f:Nat→Nat):List (List D):=(List.range n).map fun k=>[D.own (A+k) (f k)]
theorem Es {H:AHeap}{id ty T n:Nat}(h:H.get id=some ⟨T,1,List.replicate n [D.nil],false⟩)(hid:id<H.next):∀ m,m≤n →
  Ghosts H (tD H id ty m)∧(tD H id ty m).next=H.next+m∧(tD H id ty m).get id=some ⟨T,1,iO H.next m (fun _=>0)++List.replicate (n - m) [D.nil],false⟩ ∧
   (∀ k,k<m→(tD H id ty m).get (H.next+k)=some ⟨ty,1,[],false⟩)∧∀ j,j≠id→j<H.next→(tD H id ty m).get j=H.get j
 | 0,_=>⟨.refl _,rfl,by simpa [iO,tD] using h,fun k hk=>absurd hk (Nat.not_lt_zero _),fun j _ _=>rfl⟩
 | m+1,hm=>by
  obtain ⟨i1,i2,i3,i4,i5⟩:=Es h hid m (by omega)
  have hl:(iO H.next m (fun _=>0)).length=m:=by simp [iO]
  have hc:(iO H.next m (fun _=>0)++List.replicate (n - m) [D.nil])[m]?=some [D.nil]:=by
   rw [bE (by omega),hl,rR,eG,if_pos (by omega)]
  have hg:tD H id ty (m+1)=((tD H id ty m).put id ⟨T,1,iO H.next (m+1) (fun _=>0)++List.replicate (n - (m+1)) [D.nil],false⟩).push (H.next+m) ⟨ty,1,[],false⟩:=by
   show nD (tD H id ty m) id m 0 ty 1=_
   unfold nD
   rw [i3]
   simp only [hc,aF,kX,i2]
   congr 3
   rw [v8 _ _ (by omega),hl,rR,show n - m=(n - (m+1))+1 by omega,nH,kX]
   unfold iO
   rw [cA,List.map_append,List.append_assoc];rfl
  refine ⟨.step i1 id m 0 ty 1 _ _ i3 rfl hc rfl,?_,?_,fun k hk=>?_,fun j h1 h2=>?_⟩
  ·rw [hg];simp [AHeap.push,AHeap.put,i2];omega
  ·rw [hg];simp [AHeap.push,AHeap.put,show id≠H.next+m by omega]
  ·rw [hg]
   by_cases he:k=m
   ·subst he;simp [AHeap.push]
   ·simp [AHeap.push,AHeap.put,he,show H.next+k≠id by omega];exact i4 k (by omega)
  ·rw [hg];simp [AHeap.push,AHeap.put,h1,show j≠H.next+m by omega];exact i5 j h1 h2
def oE (H:AHeap)(a b ty n:Nat):AHeap:=tD (tD H a ty n) b ty n
theorem tG {H:AHeap}{a b ty T n:Nat}(ha:H.get a=some ⟨T,1,List.replicate n [D.nil],false⟩)(hb:H.get b=some ⟨T,1,List.replicate n [D.nil],false⟩)(la:a<H.next)(lb:b<H.next)(hab:a≠b) :
  Ghosts H (oE H a b ty n)∧(oE H a b ty n).next=H.next+n+n∧(oE H a b ty n).get a=some ⟨T,1,iO H.next n (fun _=>0),false⟩∧(oE H a b ty n).get b=some ⟨T,1,iO (H.next+n) n (fun _=>0),false⟩ ∧
   (∀ k,k<n→(oE H a b ty n).get (H.next+k)=some ⟨ty,1,[],false⟩)∧(∀ k,k<n→(oE H a b ty n).get (H.next+n+k)=some ⟨ty,1,[],false⟩)∧∀ j,j≠a→j≠b→j<H.next→(oE H a b ty n).get j=H.get j:=by
 obtain ⟨p1,p2,p3,p4,p5⟩:=Es (ty:=ty) ha la n (aL _)
 have hb2:(tD H a ty n).get b=some ⟨T,1,List.replicate n [D.nil],false⟩:=(p5 b (Ne.symm hab) lb).trans hb
 obtain ⟨q1,q2,q3,q4,q5⟩:=Es (ty:=ty) hb2 (by omega) n (aL _)
 have htr:∀ {A B C:AHeap},Ghosts A B→Ghosts B C→Ghosts A C:=fun {A B C} h1 h2=>by
  induction h2 with
  | refl=>exact h1
  | trunc _ id i off q hi k kq c hk hf hc hq hn hqf hne ih=>exact .trunc ih id i off q hi k kq c hk hf hc hq hn hqf hne
  | step _ id i off ty sz k c hk hf hc hn ih=>exact .step ih id i off ty sz k c hk hf hc hn
 refine ⟨htr p1 q1,by rw [show (oE H a b ty n).next=_ from q2,p2],?_,?_,fun k hk=>?_,fun k hk=>?_,fun j h1 h2 h3=>?_⟩
 ·rw [show (oE H a b ty n).get a=_ from q5 a hab (by omega),p3];simp
 ·rw [show (oE H a b ty n).get b=_ from q3,p2];simp
 ·rw [show (oE H a b ty n).get _=_ from q5 _ (by omega) (by omega)];exact p4 k hk
 ·rw [← p2];exact q4 k hk
 ·rw [show (oE H a b ty n).get j=_ from q5 j h2 (by omega)];exact p5 j h1 h3
theorem Qo {H:AHeap}{a b ty T n:Nat}(ha:H.get a=some ⟨T,1,List.replicate n [D.nil],false⟩)(hb:H.get b=some ⟨T,1,List.replicate n [D.nil],false⟩)(la:a<H.next)(lb:b<H.next)(hab:a≠b):Ghosts H (oE H a b ty n):=(tG ha hb la lb hab).1
theorem JS {H:AHeap}{a b ty T n:Nat}(ha:H.get a=some ⟨T,1,List.replicate n [D.nil],false⟩)(hb:H.get b=some ⟨T,1,List.replicate n [D.nil],false⟩)(la:a<H.next)(lb:b<H.next)(hab:a≠b):(oE H a b ty n).next=H.next+n+n:=(tG ha hb la lb hab).2.1
theorem Sb {H:AHeap}{a b ty T n:Nat}(ha:H.get a=some ⟨T,1,List.replicate n [D.nil],false⟩)(hb:H.get b=some ⟨T,1,List.replicate n [D.nil],false⟩)(la:a<H.next)(lb:b<H.next)(hab:a≠b):(oE H a b ty n).get a=some ⟨T,1,iO H.next n (fun _=>0),false⟩:=(tG ha hb la lb hab).2.2.1
theorem Sa {H:AHeap}{a b ty T n:Nat}(ha:H.get a=some ⟨T,1,List.replicate n [D.nil],false⟩)(hb:H.get b=some ⟨T,1,List.replicate n [D.nil],false⟩)(la:a<H.next)(lb:b<H.next)(hab:a≠b):(oE H a b ty n).get b=some ⟨T,1,iO (H.next+n) n (fun _=>0),false⟩:=(tG ha hb la lb hab).2.2.2.1
theorem Qn {H:AHeap}{a b ty T n:Nat}(ha:H.get a=some ⟨T,1,List.replicate n [D.nil],false⟩)(hb:H.get b=some ⟨T,1,List.replicate n [D.nil],false⟩)(la:a<H.next)(lb:b<H.next)(hab:a≠b)(k:Nat)(hk:k<n):(oE H a b ty n).get (H.next+k)=some ⟨ty,1,[],false⟩:=(tG ha hb la lb hab).2.2.2.2.1 k hk
theorem Qm {H:AHeap}{a b ty T n:Nat}(ha:H.get a=some ⟨T,1,List.replicate n [D.nil],false⟩)(hb:H.get b=some ⟨T,1,List.replicate n [D.nil],false⟩)(la:a<H.next)(lb:b<H.next)(hab:a≠b)(k:Nat)(hk:k<n):(oE H a b ty n).get (H.next+n+k)=some ⟨ty,1,[],false⟩:=(tG ha hb la lb hab).2.2.2.2.2.1 k hk
theorem tH {A n:Nat}{f:Nat→Nat}{k:Nat}(h:k<n):(iO A n f)[k]?=some [D.own (A+k) (f k)]:=by simp [iO,h]
theorem oM {A n:Nat}{f:Nat→Nat}:(iO A n f).length=n:=by simp [iO]
theorem G2 {A n:Nat}{f g:Nat→Nat}{a:Nat}(h:∀ k,k≠a→g k=f k):(iO A n f).set a [D.own (A+a) (g a)]=iO A n g:=by
 refine eD fun k=>?_
 rw [bR]
 by_cases hk:k<n
 ·by_cases e:a=k
  ·subst e;rw [if_pos rfl,oM,if_pos hk,tH hk]
  ·rw [if_neg e,tH hk,tH hk,h k (Ne.symm e)]
 ·have h1:(iO A n f)[k]?=none:=by rw [bA];rw [oM];omega
  have h2:(iO A n g)[k]?=none:=by rw [bA];rw [oM];omega
  rw [h1,h2]
  split
  ·rw [oM];split
   ·omega
   ·rfl
  ·rfl
theorem G0 {H:AHeap}{id T A n ty:Nat}{L:List (List Int)}(h:H.get id=some ⟨T,1,iO A n (fun k=>(L[k]?.getD []).length),false⟩)(hL:L.length=n)(hr:∀ k,k<n→H.get (A+k)=some ⟨ty,1,(L[k]?.getD []).map cI,false⟩):mK H (.own id n)=.list (L.map fun l=>[dLI l]):=by
 unfold mK
 simp only [h,oM,if_true]
 congr 1
 refine eD fun k=>?_
 rw [aN,aN]
 by_cases hk:k<n
 ·rw [tH hk,aA (by omega)]
  have:=hr k hk
  rw [aA (by omega)] at this
  simp only [aF] at this
  simp [eQ,this,aA (show k<L.length by omega),dLI]
 ·rw [bA (by rw [oM];omega),bA (by omega)];rfl
theorem OM {M0:Nat→Prop}{H:AHeap}{σ:Nat→Option Ow}{w:World}{vals:List Value}{args:List D}(hR:Rel M0 H σ w)(ha:RepL (cF M0 H σ) σ H.al w vals args)(ids:List Nat)(hi:∀ i∈args.flatMap (Gw H),i∈ids) :
  RepL (cF M0 (eT ids H) σ) σ (eT ids H).al w vals (args.map (mK H)) :=
 ⟨by simpa using ha.len,fun j u d hu hd=>by
  rw [aN,bC] at hd
  obtain ⟨y,hy,rfl⟩:=hd
  exact wL hR (ha.rep j u y hu hy) ids fun i hii=>hi i (bK.2 ⟨y,aJ hy,hii⟩)⟩
theorem Lw {P:Program}{H:AHeap}{f:FuncId}{args:List D}{ty:TypeId}{sz:Nat}{es:List (List D)}{Q:D→AHeap→Prop}(hp:Own P f (args.map (mK H)) ty sz es)(hcl:D.clL (args.map (mK H))=true)(hf:∀ d∈es.flatten,d.flat=true)(hQ:Q (.list es) H):ACalls P f args H Q:=by
 refine ⟨hp.1,fun M0 σ w vals hR ha=>?_⟩
 obtain ⟨f1,f2,f3,f4⟩:=eP (args.flatMap (Gw H)) hR
 refine (hp.2 (cF M0 (eT (args.flatMap (Gw H)) H) σ) w vals (oO f1) (fM (fun _ h=>h) (OM hR ha _ fun i h=>h) hcl)).mono fun e w' ⟨v,xs,he,hrow,h1,hrep,hcll,hsz,hb⟩=>?_
 obtain ⟨g1,g2,g3⟩:=hR.grow hb.os hb.tape hb.output hb.size hb.block
 have hv:RepV (cF M0 H σ) fG mV w' v (.list es):=by
  rcases hrow.2 with ⟨hnil,h0⟩|⟨g,cap,cur,hval,hg,hcells,hnc,hcm,hsz',htake⟩
  ·rw [hnil,aV h0];exact .listN
  ·rw [hval]
   refine .list ⟨g,0,none⟩ cap sz xs es hnc hcm hsz hrep.len h1 (fun j u hu=>⟨fun hm=>?_,hrow.cells (g:=g) (by simp [hval,Value.ownBlock]) j u hu⟩) (fun j u d hu hd=>tS (hrep.rep j u d hu hd) (hf d (aJ hd)))
   have:=oO hR g hm
   omega
 exact ⟨v,.list es,H,σ,he,g1,hv.keep sB,g2,g3,hQ⟩
theorem FR {P:Program}{md:Nat→Bool}{ops:Array Oper}{rest:List Oper}{e:c7}{dst:Option Tmp}{K:c7→AHeap→Prop}{f:FuncId}{args args':List D}{H:AHeap}{ty:TypeId}{sz:Nat}{es:List (List D)}
  (hp:Own P f args' ty sz es) (ha:args.map (mK H)=args') (hcl:D.clL args'=true) (hf:∀ d∈es.flatten,d.flat=true) (h:lQ P md ops rest (kY e dst (.list es)) H K):dO P md ops rest e dst K f args H:=by
 subst ha;unfold dO;exact Lw hp hcl hf h
def xQ (n:Nat)(a:Arr):Bool:=decide (a.from_<0)||decide ((n:Int)≤a.from_)||decide (a.to_<0)||decide ((n:Int)≤a.to_)
def mD (n:Nat)(l:List Arr):Int:=if 300<n∨20000<l.length then 3 else if l.any (xQ n)=true then 6 else 0
theorem qN (hs:List (List D))(ar:List Arr):Pure Tryz.prog 14 [.agg [.list hs,.list (ar.map Arr.c)]] (dI (mD hs.length ar)):=by
 obtain ⟨n,hn⟩:∃ n,n=hs.length:=⟨_,rfl⟩
 rw [← hn]
 refine Tz.pK ⟨fun t=>t==4,fun _=>[]⟩ Tryz.func14 rfl (fun Q hQ=>?_)
 have Y:=wa @Arr.c.eq_1 (Eq.symm hn)
 refine qJ (fun h1=>?_) fun h1=>?_
 ·have hE:mD n ar=3:=if_pos (by first|exact h1|(simpa using h1)|omega)
  exact wv (h:=hQ _ _ (by simp [go_sem,hE]))
 ·have hn1:¬ (300<n∨20000<ar.length):=by first|exact h1|(simpa using h1)|omega
  have hE:mD n ar=if ar.any (xQ n)=true then 6 else 0:=if_neg hn1
  refine wp (h:=cD (fun i e H=>(e 1=.adr [.list hs,.list (ar.map Arr.c)]∧e 16=.list (ar.map Arr.c)∧e 17=dI ar.length∧e 18=dI i)∧(i≤ar.length)∧((ar.take i).any (xQ n)=false)) (fun i=>ar.length - i) 0 ⟨wg,wi,(by rfl)⟩ fun I0 hI0 i e H hi0=>?_)
  obtain ⟨E0,hi,hb⟩:=hi0
  have Y:=wa Y E0
  refine dU (fun h4=>?_) fun h4=>?_
  ·obtain ⟨a,ha⟩:∃ a,a=ar[i]:=⟨_,rfl⟩
   have Y:=wa Y (wa h4 (wa (aA h4) (Eq.symm ha)))
   refine qJ (fun h6=>?_) fun h6=>?_
   ·have hbd:xQ n a=true:=by unfold xQ;simp only [cK,decide_eq_true_eq];first|omega|(simp at h6;omega)
    have hE2:mD n ar=6:=by rw [hE,if_pos];exact bX.2 ⟨a,by rw [ha];exact aC h4,hbd⟩
    exact wv (h:=hQ _ _ (by simp [go_sem,hE2]))
   ·have hgd:xQ n a=false:=by
     unfold xQ;simp only [pX,decide_eq_false_iff_not];first|omega|(simp at h6;omega)
    exact wp (h:=wx hI0 (i+1) ⟨wg,wj,(by (rw [aG h4,s6,hb,← ha];simp [hgd]))⟩)
  ·have hE2:mD n ar=0:=by
    rw [aK (by omega)] at hb;rw [hE,hb];simp
   exact wv (h:=hQ _ _ (by simp [go_sem,hE2]))
def u9 (L:List (List Int))(a:Nat)(x:Int):List (List Int):=L.set a ((L[a]?.getD [])++[x])
def yU (n:Nat)(l:List Arr):List (List Int):=l.foldl (fun L a=>u9 L a.from_.toNat a.to_) (List.replicate n [])
def y0 (n:Nat)(l:List Arr):List (List Int):=l.foldl (fun L a=>u9 L a.to_.toNat a.from_) (List.replicate n [])
def Ah (F B:List Bool)(i:Nat)(o:List Int)(k:Nat):List Int:=if (F[k]?.getD false&&B[k]?.getD false)=true then o.set k i else o
def nE (N B:List (List Int))(n:Nat)(o:List Int)(i:Nat):List Int:=if 0≤iA o i then o else (List.range n).foldl (Ah (lH N i) (lH B i) i) o
def zL (n:Nat)(l:List Arr):List Int:=(List.range n).foldl (nE (yU n l) (y0 n l) n) (List.replicate n (-1))
def v6 (N:List (List Int))(k:Nat):List Int:=N[k]?.getD []
def zF (N:List (List Int))(k:Nat):Nat:=(v6 N k).length
theorem AE {N:List (List Int)}{a:Nat}{x:Int}(h:a<N.length)(k:Nat):v6 (u9 N a x) k=if k=a then v6 N a++[x] else v6 N k:=by
 unfold v6 u9
 rw [bR]
 by_cases e:a=k
 ·subst e;rw [if_pos rfl,if_pos h,if_pos rfl];rfl
 ·rw [if_neg e,if_neg (Ne.symm e)]
theorem NG {N:List (List Int)}{a:Nat}{x:Int}(h:a<N.length):zF (u9 N a x) a=zF N a+1∧∀ k,k≠a→zF (u9 N a x) k=zF N k :=
 ⟨by unfold zF;rw [AE h,if_pos rfl,aT];rfl,fun k hk=>by unfold zF;rw [AE h,if_neg hk]⟩
theorem yB (n k:Nat):v6 (List.replicate n []) k=[]:=by
 unfold v6;rw [eG];split<;>rfl
theorem Sv (n:Nat):zF (List.replicate n [])=fun _=>0:=by funext k;unfold zF;rw [yB];rfl
theorem RA {n:Nat}{N:List (List Int)}{a:Nat}{x:Int}(h:∀ l∈N,∀ y∈l,0≤y∧y<(n:Int))(hx:0≤x∧x<(n:Int)):∀ l∈u9 N a x,∀ y∈l,0≤y∧y<(n:Int):=fun l hl y hy=>by
 unfold u9 at hl
 rcases iY hl with hl|rfl
 ·exact h l hl y hy
 ·rcases aW.1 hy with hy|hy
  ·by_cases ha:a<N.length
   ·rw [aA ha] at hy;exact h _ (aC ha) y hy
   ·rw [bA (by omega)] at hy;cases hy
  ·rw [aR.1 hy];exact hx
theorem xP {l:List Bool}:∀ d∈(l.map cB).flatten,d.flat=true:=fun d hd=>by
 obtain ⟨c,hc,hd⟩:=fQ.1 hd
 obtain ⟨b,_,rfl⟩:=aS.1 hc
 rw [aR.1 hd];rfl
theorem wP (H:AHeap)(i j:Nat)(b:Blk):(H.put i b).get j=if j=i then some b else H.get j:=rfl
theorem rY (H:AHeap)(i j:Nat)(b:Blk):(H.push i b).get j=if j=i then some b else H.get j:=rfl
theorem nL (hs:List (List D))(hc:D.clLL hs=true)(ar:List Arr):Pure Tryz.prog 7 [.agg [.list hs,.list (ar.map Arr.c)]] (.tup [dLI (if mD hs.length ar≠0 then [] else zL hs.length ar),dI (mD hs.length ar)]):=by
 obtain ⟨n,hn⟩:∃ n,n=hs.length:=⟨_,rfl⟩
 rw [← hn]
 have cb:=qN hs ar
 rw [← hn] at cb
 refine qR (by first|rfl|(simp [go_sem];done)) (fun Q hQ=>(aH (cfg:=⟨fun t=>t==22||t==26||t==8||t==48||t==57||t==65,fun r=>match r with|4=>[(3,4),(3,5),(3,6),(0,7),(1,7),(2,7),(3,7)]|8=>[(1,13),(2,13),(4,13),(5,13),(7,13),(8,13),(9,13),(10,13),(1,14),(2,14),(4,14),(5,14),(13,16),(14,16),(13,17),(14,17),(13,18),(14,18),(13,19),(14,19),(13,20),(14,20),(13,21),(14,21),(1,22),(2,22),(4,22),(5,22),(7,22),(8,22),(9,22),(10,22),(11,22),(12,22),(13,22),(14,22),(16,22),(17,22),(18,22),(19,22),(1,23),(2,23),(4,23),(5,23),(4,25),(5,25)]|_=>[]⟩) Tz.mixed Tryz.func7 rfl rfl (aD rfl) (by kernel_rfl) ?_))
 have Y:=wa @Arr.c.eq_1 (wa (Eq.symm hn) hc)
 refine wv (h:=aB (cb) wl ?_)
 refine dU (fun h2=>?_) fun h2=>?_
 ·have hne:mD n ar≠0:=by simpa using h2
  have Y:=wa Y hne
  refine wv (h:=?_)
  exact hQ _ _ (by simp [go_sem,Y,jY,fW,dLI])
 ·have hz:mD n ar=0:=by simpa using h2
  obtain ⟨hn300,harr,hbad⟩:n≤300∧ar.length≤20000∧ar.any (xQ n)=false:=by
   unfold mD at hz;split at hz
   ·cases hz
   ·split at hz
    ·cases hz
    ·rename_i q1 q2;exact ⟨by omega,by omega,by simpa using q2⟩
  have hin:∀ a∈ar,(0≤a.from_∧a.from_<n)∧0≤a.to_∧a.to_<n:=fun a ha=>by
   have:=mI.1 hbad a ha
   unfold xQ at this;simp at this;omega
  have e0:=Sv n
  have nx2:=fun H ha hb la lb=>JS (H:=H) (a:=3) (b:=7) (ty:=3) (T:=31) (n:=n) ha hb la lb (by omega)
  have Y:=wa Y (wa hz nx2)
  refine wp (h:=sP (Qo (a:=3) (b:=7) (ty:=3) (T:=31) (n:=n) (by simp [go_sem]) (by simp [go_sem]) (by simp [go_sem]) (by simp [go_sem]) (by omega)) (fun i e H=>∃ N:List (List Int),∃ B:List (List Int),(e 1=.adr [.list hs,.list (ar.map Arr.c)]∧e 5=.own 3 n∧e 6=.own 7 n∧e 28=.list (ar.map Arr.c)∧e 29=dI ar.length∧e 30=dI i)∧(H.get 3=some ⟨31,1,iO 10 n (zF N),false⟩)∧(3<H.next)∧(H.get 7=some ⟨31,1,iO (10+n) n (zF B),false⟩)∧(7<H.next)∧(i≤ar.length)∧(10+n+n≤H.next)∧(N.length=n)∧(B.length=n)∧(∀ l∈N,∀ y∈l,0≤y∧y<(n:Int))∧(∀ l∈B,∀ y∈l,0≤y∧y<(n:Int))∧(∀ k,zF N k≤i)∧(∀ k,zF B k≤i)∧(∀ k,k<n→H.get (10+k)=some ⟨3,1,(v6 N k).map cI,false⟩)∧(∀ k,k<n→H.get (10+n+k)=some ⟨3,1,(v6 B k).map cI,false⟩)∧((ar.take i).foldl (fun L a=>u9 L a.from_.toNat a.to_) (List.replicate n [])=N)∧((ar.take i).foldl (fun L a=>u9 L a.to_.toNat a.from_) (List.replicate n [])=B)) (fun i=>ar.length - i) 0 ⟨(List.replicate n []),(List.replicate n []),wg,(by (rw [e0];exact (Sb (T:=31) (by simp [go_sem]) (by simp [go_sem]) (by simp [go_sem]) (by simp [go_sem]) (by omega)))),wn,(by (rw [e0];exact (Sa (T:=31) (by simp [go_sem]) (by simp [go_sem]) (by simp [go_sem]) (by simp [go_sem]) (by omega)))),wn,wi,(by (rw [(JS (T:=31) (by simp [go_sem]) (by simp [go_sem]) (by simp [go_sem]) (by simp [go_sem]) (by omega))];simp [go_sem])),(by (simp)),(by (simp)),(by (intro l hl y hy;rw [(List.mem_replicate.1 hl).2] at hy;cases hy)),(by (intro l hl y hy;rw [(List.mem_replicate.1 hl).2] at hy;cases hy)),(by (intro k;rw [e0];exact dE _)),(by (intro k;rw [e0];exact dE _)),(by (intro k hk;rw [yB];exact (Qn (T:=31) (by simp [go_sem]) (by simp [go_sem]) (by simp [go_sem]) (by simp [go_sem]) (by omega) k hk))),(by (intro k hk;rw [yB];exact (Qm (T:=31) (by simp [go_sem]) (by simp [go_sem]) (by simp [go_sem]) (by simp [go_sem]) (by omega) k hk))),(by rfl),(by rfl)⟩ fun I0 hI0 i e H hi0=>?_)
  obtain ⟨N,B,E0,g3_0,n3_0,g7_0,n7_0,hi,hnx,hNl,hBl,hNi,hBi,hNn,hBn,hrN,hrB,hNf,hBf⟩:=hi0
  have Y:=wa Y (wa E0 (wa g3_0 (wa (cO n3_0) (wa g7_0 (cO n7_0)))))
  refine dU (fun h6=>?_) fun h6=>?_
  ·obtain ⟨a,ha⟩:∃ a,a=ar[i]:=⟨_,rfl⟩
   obtain ⟨⟨a1,a2⟩,a3,a4⟩:=hin a (by rw [ha];exact aC h6)
   obtain ⟨p,hp⟩:∃ p,p=a.from_.toNat:=⟨_,rfl⟩
   obtain ⟨q,hq⟩:∃ q,q=a.to_.toNat:=⟨_,rfl⟩
   have hpn:p<n:=by omega
   have hqn:q<n:=by omega
   obtain ⟨N2,hN2⟩:∃ N2,N2=u9 N p a.to_:=⟨_,rfl⟩
   obtain ⟨B2,hB2⟩:∃ B2,B2=u9 B q a.from_:=⟨_,rfl⟩
   have hNl2:N2.length=n:=by rw [hN2];simp [u9,hNl]
   have hBl2:B2.length=n:=by rw [hB2];simp [u9,hBl]
   have hNi2:∀ l∈N2,∀ y∈l,0≤y∧y<(n:Int):=by rw [hN2];exact RA hNi ⟨a3,a4⟩
   have hBi2:∀ l∈B2,∀ y∈l,0≤y∧y<(n:Int):=by rw [hB2];exact RA hBi ⟨a1,a2⟩
   have lN:=NG (x:=a.to_) (show p<N.length by omega)
   have lB:=NG (x:=a.from_) (show q<B.length by omega)
   rw [← hN2] at lN
   rw [← hB2] at lB
   have hNn2:∀ k,zF N2 k≤i+1:=fun k=>by
    by_cases e:k=p
    ·rw [e,lN.1];have:=hNn p;omega
    ·rw [lN.2 k e];have:=hNn k;omega
   have hBn2:∀ k,zF B2 k≤i+1:=fun k=>by
    by_cases e:k=q
    ·rw [e,lB.1];have:=hBn q;omega
    ·rw [lB.2 k e];have:=hBn k;omega
   have hN2k:∀ k,v6 N2 k=if k=p then v6 N p++[a.to_] else v6 N k:=fun k=>by rw [hN2];exact AE (by omega) k
   have hB2k:∀ k,v6 B2 k=if k=q then v6 B q++[a.from_] else v6 B k:=fun k=>by rw [hB2];exact AE (by omega) k
   have s3:(iO 10 n (zF N)).set p [D.own (10+p) (zF N p+1)]=iO 10 n (zF N2):=by rw [← lN.1];exact G2 lN.2
   have s7:(iO (10+n) n (zF B)).set q [D.own (10+n+q) (zF B q+1)]=iO (10+n) n (zF B2):=by rw [← lB.1];exact G2 lB.2
   have r3:=tH (A:=10) (f:=zF N) hpn
   have r7:=tH (A:=10+n) (f:=zF B) hqn
   have r3g:∀ h,(iO 10 n (zF N))[p]'h=[D.own (10+p) (zF N p)]:=fun h=>by rw [aA h] at r3;exact Option.some.inj r3
   have r7g:∀ h,(iO (10+n) n (zF B))[q]'h=[D.own (10+n+q) (zF B q)]:=fun h=>by rw [aA h] at r7;exact Option.some.inj r7
   have nx3:=VD H.next
   have nx4:∀ a b:Nat,(H.next+a+b=H.next)=(a+b=0):=fun _ _=>propext (by omega)
   have hlp:(v6 N p).length=zF N p:=rfl
   have hlq:(v6 B q).length=zF B q:=rfl
   have b1:=hrN p hpn
   have b2:=hrB q hqn
   have n1:=hNn p
   have n2:=hBn q
   have f1:=cO (show 10+p<H.next by omega)
   have f2:=cO (show 10+n+q<H.next by omega)
   have u1:=dP (a:=10+p) (b:=3) (by omega)
   have u2:=dP (a:=10+p) (b:=7) (by omega)
   have u3:=dP (a:=10+n+q) (b:=3) (by omega)
   have u4:=dP (a:=10+n+q) (b:=7) (by omega)
   have u5:=dP (a:=10+n+q) (b:=10+p) (by omega)
   have Y:=wa Y (wa h6 (wa (aA h6) (wa (Eq.symm ha) (wa (Eq.symm hp) (wa (Eq.symm hq) (wa a1 (wa a2 (wa a3 (wa a4 (wa nx3 (wa nx4 (wa r3 (wa r7 (wa r3g (wa r7g (wa b1 (wa b2 (wa hlp (wa hlq (wa f1 (wa f2 (wa u1 (wa u2 (wa u3 (wa u4 (wa u5 (wa s3 (wa s7 (wa hpn (wa hqn @oM))))))))))))))))))))))))))))))
   exact wp (h:=wx hI0 (i+1) ⟨N2,B2,wg,(by (simp [go_sem,Y])),wn,(by (simp [go_sem,Y])),wn,wj,(by (simp [go_sem];omega)),(by (exact hNl2)),(by (exact hBl2)),(by (exact hNi2)),(by (exact hBi2)),(by (exact hNn2)),(by (exact hBn2)),(by (intro k hk;simp only [wP,rY,pE,hN2k];(repeat' split)<;>first|omega|rfl|exact hrN k hk|(simp [cI,dI];done))),(by (intro k hk;simp only [wP,rY,pE,hB2k];(repeat' split)<;>first|omega|rfl|exact hrB k hk|(simp [cI,dI];done))),(by (rw [aG h6,cG,hNf,← ha,hN2,hp];rfl)),(by (rw [aG h6,cG,hBf,← ha,hB2,hq];rfl))⟩)
  ·rw [aK (by omega)] at hNf hBf
   have hNF:yU n ar=N:=hNf
   have hBF:y0 n ar=B:=hBf
   have hCL:zL n ar=(List.range n).foldl (nE N B n) (List.replicate n (-1)):=by unfold zL;rw [hNF,hBF]
   refine wp (h:=kC (zV (-1) n (by omega)) wl ?_)
   refine wp (h:=cD (fun i e H=>∃ o:List Int,∃ O:Nat,(e 1=.adr [.list hs,.list (ar.map Arr.c)]∧e 5=.own 3 n∧e 6=.own 7 n∧e 9=.own O n∧e 67=dI n∧e 68=dI i)∧(H.get 3=some ⟨31,1,iO 10 n (zF N),false⟩)∧(3<H.next)∧(H.get 7=some ⟨31,1,iO (10+n) n (zF B),false⟩)∧(7<H.next)∧(H.get O=some ⟨3,1,o.map cI,false⟩)∧(O<H.next)∧(i≤n)∧(10+n+n≤O)∧(o.length=n)∧(∀ k,k<n→H.get (10+k)=some ⟨3,1,(v6 N k).map cI,false⟩)∧(∀ k,k<n→H.get (10+n+k)=some ⟨3,1,(v6 B k).map cI,false⟩)∧((List.range i).foldl (nE N B n) (List.replicate n (-1))=o)) (fun i=>n - i) 0 ⟨(List.replicate n (-1)),H.next,wg,wn,wn,wn,wn,wn,wn,wi,(by (exact hnx)),(by (simp)),(by (intro k hk;simp only [wP,rY,pE];(repeat' split)<;>first|omega|exact hrN k hk)),(by (intro k hk;simp only [wP,rY,pE];(repeat' split)<;>first|omega|exact hrB k hk)),(by rfl)⟩ fun I2 hI2 i e H hi2=>?_)
   obtain ⟨o,O,E2,g3_2,n3_2,g7_2,n7_2,gO_2,nO_2,hi2,hO,hol,hrN,hrB,hof⟩:=hi2
   have Y:=wa Y (wa E2 (wa g3_2 (wa (cO n3_2) (wa g7_2 (wa (cO n7_2) (wa gO_2 (cO nO_2)))))))
   refine dU (fun h12=>?_) fun h12=>?_
   ·have hio:i<o.length:=by omega
    have hst:nE N B n o i=if 0≤o[i] then o else (List.range n).foldl (Ah (lH N i) (lH B i) i) o:=by unfold nE;rw [kJ hio]
    obtain ⟨v,hv⟩:∃ v,v=o[i]:=⟨_,rfl⟩
    have Y:=wa Y (wa h12 (wa (aA hio) (wa (Eq.symm hv) hol)))
    refine qJ (fun h14=>?_) fun h14=>?_
    ·obtain ⟨o2,ho2⟩:∃ o2,o2=o:=⟨_,rfl⟩
     have hof2:[i].foldl (nE N B n) o=o2:=by show nE N B n o i=o2;rw [hst,if_pos (by rw [← hv];first|exact h14|(simpa using h14)),ho2]
     have hol2:o2.length=n:=by rw [ho2];exact hol
     have hrN3:=hrN
     have hrB3:=hrB
     have Y:=wa Y ho2
     exact wp (h:=wx hI2 (i+1) ⟨o2,O,wg,wn,wn,wn,wn,wn,wn,wj,(by (exact hO)),(by (exact hol2)),(by (exact hrN3)),(by (exact hrB3)),(by (rw [cA,cG,hof];exact hof2))⟩)
    ·obtain ⟨F,hF⟩:∃ F,F=lH N i:=⟨_,rfl⟩
     obtain ⟨C,hC⟩:∃ C,C=lH B i:=⟨_,rfl⟩
     have hvn:¬ 0≤v:=by first|exact h14|(simpa using h14)|omega
     rw [if_neg (by rw [← hv];exact hvn),← hF,← hC] at hst
     have Y:=wa Y (wa h14 (wa (Eq.symm hF) (Eq.symm hC)))
     refine wv (h:=?_)
     refine FR (tA N i (by omega) (by rw [hNl];exact hNi) (by omega)) (by simp [go_sem,Y,G0 g3_2 hNl hrN];rfl) (by simp [go_sem]) xP ?_
     refine wv (h:=?_)
     refine FR (tA B i (by omega) (by rw [hBl];exact hBi) (by omega)) (by simp [go_sem,Y,G0 g7_2 hBl hrB];rfl) (by simp [go_sem]) xP ?_
     refine wp (h:=cD (fun k e H=>∃ o2:List Int,(e 1=.adr [.list hs,.list (ar.map Arr.c)]∧e 5=.own 3 n∧e 6=.own 7 n∧e 9=.own O n∧e 67=dI n∧e 68=dI i∧e 10=dI i∧e 11=.list (F.map cB)∧e 12=.list (C.map cB)∧e 83=dI n∧e 84=dI k)∧(H.get 3=some ⟨31,1,iO 10 n (zF N),false⟩)∧(3<H.next)∧(H.get 7=some ⟨31,1,iO (10+n) n (zF B),false⟩)∧(7<H.next)∧(H.get O=some ⟨3,1,o2.map cI,false⟩)∧(O<H.next)∧(k≤n)∧(o2.length=n)∧(∀ k,k<n→H.get (10+k)=some ⟨3,1,(v6 N k).map cI,false⟩)∧(∀ k,k<n→H.get (10+n+k)=some ⟨3,1,(v6 B k).map cI,false⟩)∧((List.range k).foldl (Ah F C i) o=o2)) (fun k=>n - k) 0 ⟨o,wg,wn,wn,wn,wn,wn,wn,wi,(by (exact hol)),(by (exact hrN)),(by (exact hrB)),(by rfl)⟩ fun I4 hI4 k e H hi4=>?_)
     obtain ⟨o2,E4,g3_4,n3_4,g7_4,n7_4,gO_4,nO_4,hk,hol2,hrN3,hrB3,hf4⟩:=hi4
     have Y:=wa Y (wa E4 (wa g3_4 (wa (cO n3_4) (wa g7_4 (wa (cO n7_4) (wa gO_4 (cO nO_4)))))))
     refine dU (fun h17=>?_) fun h17=>?_
     ·have hFl:F.length=n:=by rw [hF];exact (Ey N i).trans hNl
      have hCl:C.length=n:=by rw [hC];exact (Ey B i).trans hBl
      have hkF:k<F.length:=by omega
      have hkC:k<C.length:=by omega
      obtain ⟨bf,hbf⟩:∃ b,b=F[k]:=⟨_,rfl⟩
      obtain ⟨bc,hbc⟩:∃ b,b=C[k]:=⟨_,rfl⟩
      have hko:k<o2.length:=by omega
      obtain ⟨o3,ho3⟩:∃ o3,o3=Ah F C i o2 k:=⟨_,rfl⟩
      have hf5:[k].foldl (Ah F C i) o2=o3:=ho3.symm
      have hcm:o3=if (bf&&bc)=true then o2.set k i else o2:=by rw [ho3];unfold Ah;rw [aA hkF,aA hkC,← hbf,← hbc];rfl
      have Y:=wa Y (wa h17 (wa (aA hkF) (wa (aA hkC) (wa (Eq.symm hbf) (wa (Eq.symm hbc) (wa @cB.eq_1 (wa hFl (wa hCl (wa hol2 (wa hkF hkC))))))))))
      refine qJ (fun h19=>?_) fun h19=>?_
      ·have hbb:(bf&&bc)=true:=by first|exact h19|(simpa using h19)
       rw [if_pos hbb] at hcm
       have hol3:o3.length=n:=by rw [hcm];simpa using hol2
       have Y:=wa Y hcm
       exact wp (h:=wx hI4 (k+1) ⟨o3,wg,wn,wn,wn,wn,wn,wn,wj,(by (exact hol3)),(by (intro k2 hk2;(try simp only [wP,rY,pE]);(repeat' split)<;>first|exact hrN3 k2 hk2|omega)),(by (intro k2 hk2;(try simp only [wP,rY,pE]);(repeat' split)<;>first|exact hrB3 k2 hk2|omega)),(by (rw [cA,cG,hf4];exact hf5))⟩)
      ·have hbb:¬ (bf&&bc)=true:=by first|exact h19|(simpa using h19)
       rw [if_neg hbb] at hcm
       have hol3:o3.length=n:=by rw [hcm];exact hol2
       have Y:=wa Y hcm
       exact wp (h:=wx hI4 (k+1) ⟨o3,wg,wn,wn,wn,wn,wn,wn,wj,(by (exact hol3)),(by (intro k2 hk2;(try simp only [wP,rY,pE]);(repeat' split)<;>first|exact hrN3 k2 hk2|omega)),(by (intro k2 hk2;(try simp only [wP,rY,pE]);(repeat' split)<;>first|exact hrB3 k2 hk2|omega)),(by (rw [cA,cG,hf4];exact hf5))⟩)
     ·have hke:k=n:=by omega
      have hof2:[i].foldl (nE N B n) o=o2:=by show nE N B n o i=o2;rw [hst,← hf4,hke]
      exact wp (h:=wx hI2 (i+1) ⟨o2,O,wg,wn,wn,wn,wn,wn,wn,wj,(by (exact hO)),(by (exact hol2)),(by (exact hrN3)),(by (exact hrB3)),(by (rw [cA,cG,hof];exact hof2))⟩)
   ·have hE:zL n ar=o:=by rw [hCL,← hof,show i=n by omega]
    refine wv (h:=?_)
    exact hQ _ _ (by simp [go_sem,Y,hE,hol,jY,fW,qS,dLI])
theorem vX (x:XS):Pure Tryz.prog 7 [x.d] (.tup [dLI (if mD x.hosts.length x.arrs≠0 then [] else zL x.hosts.length x.arrs),dI (mD x.hosts.length x.arrs)]):=by
 have:=nL (x.hosts.map Host.c) (by simp [go_sem]) x.arrs
 rwa [bM] at this
theorem Zg:mD (pN twoT Bm P3 10).1.hosts.length (pN twoT Bm P3 10).1.arrs=0∧zL (pN twoT Bm P3 10).1.hosts.length (pN twoT Bm P3 10).1.arrs=[0,0,0]∧(pN twoT Bm P3 10).1.arrs.length=4:=by decide +kernel
theorem TC:twoT.ok∧∀ r∈Bm,r.ok:=⟨SD (by decide +kernel),fun r hr=>by
 have h1:SE (DZ 0 1)=true:=by decide +kernel
 have h2:SE (DZ 1 0)=true:=by decide +kernel
 simp only [Bm,aO,eW,or_false] at hr
 rcases hr with rfl|rfl
 ·exact NO h1
 ·exact NO h2⟩
theorem Pk:Pure Tryz.prog 12 [] twoT.d:=by
 refine qR (by first|rfl|(simp [go_sem];done)) (fun Q hQ=>(aH (cfg:=⟨fun t=>t==0,fun _=>[]⟩) Tz.mixed Tryz.func12 rfl rfl (aD rfl) (by kernel_rfl) ?_))
 have Y:=trivial
 refine Zm (h:=?_)
 exact hQ _ _ (by simp [go_sem,twoT,Types.d,Types.c,NodeTy.c,cS,dI,jY,fW,dX])
theorem E8 (a b:Int):Pure Tryz.prog 13 [dI a,dI b] (DZ a b).d:=by
 refine qR (by first|rfl|(simp [go_sem];done)) (fun Q hQ=>(aH (cfg:=⟨fun t=>t==4,fun _=>[]⟩) Tz.mixed Tryz.func13 rfl rfl (aD rfl) (by kernel_rfl) ?_))
 have Y:=trivial
 refine Zm (h:=?_)
 exact hQ _ _ (by simp [go_sem,DZ,uN,Rule.d,Rule.c,Cond.kind,Cond.kids,Cond.map,Cond.pattern,dLI,cI,dI,jY,fW,dX])
theorem CT:Pure Tryz.prog 4 [] (.bool true):=by
 have hA:=zQ twoT TC.1 Bm TC.2 P3 10
 have hC:=vX (pN twoT Bm P3 10).1
 obtain ⟨e1,e2,e3⟩:=Ze
 obtain ⟨b1,b2,b3⟩:=Zg
 rw [b1,if_neg (by simp),b2] at hC
 rw [e1,e2] at hA
 generalize (pN twoT Bm P3 10).1=X at *
 refine Tz.pK ⟨fun t=>t==1||t==2||t==1000000,fun r=>match r with|2=>[(3,4),(0,10),(1,10),(2,10),(3,10),(4,10),(5,10)]|_=>[]⟩ Tryz.func4 rfl (fun Q hQ=>?_)
 have Y:=wa @XS.d.eq_1 (wa @Host.c.eq_1 (wa @Arr.c.eq_1 (wa e3 b3)))
 refine TL (h:=bB (Pk) wl ?_)
 refine TL (h:=bB (E8 0 1) wl ?_)
 refine TL (h:=bB (E8 1 0) wl ?_)
 refine TL (h:=bB (hA.nzk (by simp [go_sem,O1,Ki,twoT,Bm,DZ,P3,uN,Rule.d,Rule.c,Types.d,Types.c,Host.d,Host.c,cL,dLI,cI,dI,Cond.kind,Cond.kids,Cond.map,Cond.pattern,jY,fW,dX])) wl ?_)
 refine TL (h:=aB (hC) wl ?_)
 refine TL (h:=bD (fun hg=>lZ [0,0,0] [0,0,0]) (fun hg=>wl) ?_)
 exact TL (h:=hQ _ _ wy)
end Go.Abs
end
