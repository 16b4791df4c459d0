/- Light of conditions, rules and hosts. · Layer 26 of the refe -/
import Derived.Test.YtjfaalokjnmdoaaGreatZaF
import Derived.Test.YtjfaalokjnmdoaaGreatZaA
import Derived.Test.YtjfaalokjnmdoaaGreatZaQ
import Derived.Test.YtjfaalokjnmdoaaGreatZaE
import Derived.Carry
import Derived.ChangeArms
import Derived.WideShapes
import Derived.DataElems
import Derived.Laws.Externs
set_option linter.unusedVariables false
set_option linter.unusedSimpArgs false
section
set_option maxRecDepth 100000
set_option maxHeartbeats 4000000
open Go Go.Proofs
namespace Go.Abs
mutual
def k7:Cond→Bool
 | .mk k l m p=>zS l&&decide ((p.graph.nodes.length:Int)+p.graph.edges.length≤6)
def zS:List Cond→Bool
 | []=>true
 | c :: l=>k7 c&&zS l
end
theorem IU (l:List Cond):zS l=l.all k7:=by
 induction l with
 | nil=>simp [zS]
 | cons a l ih=>simp [zS,ih]
theorem yB (c:Cond):k7 c=(c.kids.all k7&&decide ((c.pattern.graph.nodes.length:Int)+c.pattern.graph.edges.length≤6)):=by
 cases c;simp only [k7,IU,Cond.kids,Cond.pattern];try rfl
theorem rU {α:Type}(l:List α)(p:α→Bool){i:Nat}(h:i<l.length):(l.take (i+1)).all p=((l.take i).all p&&p l[i]):=by
 rw [aF h,yV];simp
theorem GY:∀ c:Cond,c.ok→Pure Tryz.prog 128 [.agg c.c] (.bool (k7 c)):=by
 refine jH fun c ih hc=>?_
 obtain ⟨hs,hk⟩:=(rL c).1 hc
 have p1:=hs.p1
 have p2:=hs.p2
 refine Tz.pK ⟨fun _=>false,fun _=>[]⟩ Tryz.func128 rfl (fun Q hQ=>?_)
 have Y:=@Cond.c_eq
 refine wv (h:=bB (fun i e H=>(e 1=.adr c.c∧e 3=dI i)∧(i≤c.kids.length)∧((c.kids.take i).all k7=true)) (fun i=>c.kids.length - i) 0 ⟨wg,wi,(by rfl)⟩ fun I0 hI0 i e H hi0=>?_)
 obtain ⟨E0,hi,ha⟩:=hi0
 have Y:=wa Y E0
 refine wv (h:=?_)
 repeat first|intro _|refine ⟨eP,?_⟩
 refine wq (fun h2=>?_) fun h2=>?_
 ·have Y:=wa Y (wa h2 (aA h2))
  refine wo (h:=aB ((by have:=ih _ (aC h2) (hk _ (aC h2));rwa [Cond.c_eq] at this)) wl ?_)
  refine wv (h:=?_)
  repeat first|intro _|refine ⟨eP,?_⟩
  refine wq (fun h4=>?_) fun h4=>?_
  ·refine wv (h:=?_)
   have hF:k7 c=false:=by
    have:c.kids.all k7=false:=by
     rw [bH];intro h;exact absurd (bV.1 h _ (aC h2)) (by simpa using h4)
    rw [yB,this];rfl
   exact hQ _ _ (by simp [go_sem,hF])
  ·exact wo (h:=wx hI0 (i+1) ⟨wg,wj,(by (rw [rU _ _ h2,ha];simpa using h4))⟩)
 ·have hA:c.kids.all k7=true:=by rw [aJ (by omega)] at ha;exact ha
  have hF:k7 c=decide ((c.pattern.graph.nodes.length:Int)+c.pattern.graph.edges.length≤6):=by rw [yB,hA];rfl
  exact wo (h:=hQ _ _ (by simp [go_sem,hF]))
def RQ (p q:Pattern):Int:=((14 ^ (q.graph.nodes.length - p.graph.nodes.length) * 18 ^ (q.graph.edges.length - p.graph.edges.length):Nat):Int)
def FK (k:Int)(p' p:Pattern):Pattern:=if k=5 then p' else p
mutual
def kS:Cond→Pattern→Bool
 | .mk k l m p',p=>Eb l (FK k p' p)&&decide (RQ p (FK k p' p)≤5000)
def Eb:List Cond→Pattern→Bool
 | [],_=>true
 | c :: l,q=>kS c q&&Eb l q
end
theorem Li (l:List Cond)(q:Pattern):Eb l q=l.all fun c=>kS c q:=by
 induction l with
 | nil=>simp [Eb]
 | cons a l ih=>simp [Eb,ih]
theorem wS (c:Cond)(p:Pattern):kS c p=((c.kids.all fun k=>kS k (FK c.kind c.pattern p))&&decide (RQ p (FK c.kind c.pattern p)≤5000)):=by
 cases c;simp only [kS,Li,Cond.kids,Cond.pattern,Cond.kind];try rfl
theorem pD {a j:Nat}(ha:1≤a)(hj:j≤6):a ^ j≤a ^ 6∧1≤a ^ j:=⟨Nat.pow_le_pow_right ha hj,by first|exact Nat.one_le_pow _ _ ha|exact Nat.pow_pos ha|exact Nat.pos_pow_of_pos _ ha⟩
theorem GC (q:Pattern):q.c.take 5=q.c:=rfl
theorem EL:∀ c:Cond,c.ok→k7 c=true→∀ p:Pattern,p.graph.nodes.length≤1000000→p.graph.edges.length≤1000000→Pure Tryz.prog 129 [p.d,.agg c.c,dI 14,dI 18] (.bool (kS c p)):=by
 refine jH fun c ih hc hn p hp1 hp2=>?_
 obtain ⟨hs,hk⟩:=(rL c).1 hc
 have q1:=hs.p1
 have q2:=hs.p2
 rw [yB] at hn
 simp only [aP,decide_eq_true_eq,bV] at hn
 obtain ⟨q,hq⟩:∃ q,FK c.kind c.pattern p=q:=⟨_,rfl⟩
 have hqs:q.graph.nodes.length - p.graph.nodes.length≤6∧q.graph.edges.length - p.graph.edges.length≤6∧q.graph.nodes.length≤1000000∧q.graph.edges.length≤1000000:=by
  rw [← hq];unfold FK;split<;>omega
 refine Tz.pK ⟨fun t=>t==9,fun _=>[]⟩ Tryz.func129 rfl (fun Q hQ=>?_)
 have Y:=@Cond.c_eq
 refine cT (fun h2=>?_) fun h2=>?_
 ·have hqc:c.pattern=q:=by rw [← hq];exact (if_pos h2).symm
  refine wp (h:=bB (fun i e H=>∃ w:Nat,(e 4=.adr p.c∧e 5=.adr c.c∧e 2=dI 14∧e 3=dI 18∧e 9=.ptr 0 1 0 0∧e 10=dI w∧e 11=dI i)∧(H.get 0=some ⟨53,5,[q.c],false⟩)∧(0<H.next)∧(p.graph.nodes.length≤i)∧(i≤q.graph.nodes.length∨i=p.graph.nodes.length)∧(w=14 ^ (i - p.graph.nodes.length))) (fun i=>q.graph.nodes.length - i) p.graph.nodes.length ⟨1,wg,(by (simp [go_sem,hqc,GC])),wn,wi,wi,(by (simp))⟩ fun I0 hI0 i e H hi0=>?_)
  obtain ⟨w,E0,g0_0,n0_0,hi,hi2,hw⟩:=hi0
  have Y:=wa Y (wa E0 (wa g0_0 (bY n0_0)))
  refine wv (h:=?_)
  repeat first|intro _|refine ⟨eM,?_⟩
  refine wq (fun h6=>?_) fun h6=>?_
  ·have hwb:=(pD (a:=14) (j:=i - p.graph.nodes.length) (by omega) (by omega)).1
   rw [← hw] at hwb
   have hwb':w≤7529536:=hwb
   have Y:=wa Y h6
   exact wp (h:=wx hI0 (i+1) ⟨(w * 14),wg,(by (simp [go_sem,Y])),wn,wj,wj,(by (rw [show i+1 - p.graph.nodes.length=(i - p.graph.nodes.length)+1 by omega,Nat.pow_succ,hw]))⟩)
  ·have hw':w=14 ^ (q.graph.nodes.length - p.graph.nodes.length):=by rw [hw];congr 1;omega
   have hwb:=(pD (a:=14) (j:=q.graph.nodes.length - p.graph.nodes.length) (by omega) hqs.1).1
   rw [← hw'] at hwb
   have hwb':w≤7529536:=hwb
   refine wp (h:=bB (fun k e H=>∃ v:Nat,(e 4=.adr p.c∧e 5=.adr c.c∧e 2=dI 14∧e 3=dI 18∧e 9=.ptr 0 1 0 0∧e 10=dI v∧e 12=dI k)∧(H.get 0=some ⟨53,5,[q.c],false⟩)∧(0<H.next)∧(p.graph.edges.length≤k)∧(k≤q.graph.edges.length∨k=p.graph.edges.length)∧(v=w * 18 ^ (k - p.graph.edges.length))) (fun k=>q.graph.edges.length - k) p.graph.edges.length ⟨w,wg,(by (simp [go_sem,Y])),wn,wi,wi,(by (simp))⟩ fun I2 hI2 k e H hi2=>?_)
   obtain ⟨v,E2,g0_2,n0_2,hk1,hk2,hv⟩:=hi2
   have Y:=wa Y (wa E2 (wa g0_2 (bY n0_2)))
   refine wv (h:=?_)
   repeat first|intro _|refine ⟨eM,?_⟩
   refine wq (fun h10=>?_) fun h10=>?_
   ·have hvb:=(pD (a:=18) (j:=k - p.graph.edges.length) (by omega) (by omega)).1
    have hvb':v≤7529536 * 34012224:=by rw [hv];exact iP hwb' hvb
    have Y:=wa Y h10
    exact wp (h:=wx hI2 (k+1) ⟨(v * 18),wg,(by (simp [go_sem,Y])),wn,wj,wj,(by (rw [show k+1 - p.graph.edges.length=(k - p.graph.edges.length)+1 by omega,Nat.pow_succ,hv,Nat.mul_assoc]))⟩)
   ·have hv':v=w * 18 ^ (q.graph.edges.length - p.graph.edges.length):=by rw [hv];congr 2;omega
    refine wv (h:=bB (fun j e H=>(e 4=.adr p.c∧e 5=.adr c.c∧e 2=dI 14∧e 3=dI 18∧e 9=.ptr 0 1 0 0∧e 10=dI v∧e 13=dI j)∧(H.get 0=some ⟨53,5,[q.c],false⟩)∧(0<H.next)∧(j≤c.kids.length)∧((c.kids.take j).all (fun x=>kS x q)=true)) (fun j=>c.kids.length - j) 0 ⟨wg,(by (simp [go_sem,Y])),wn,wi,(by rfl)⟩ fun I4 hI4 j e H hi4=>?_)
    obtain ⟨E4,g0_4,n0_4,hj,ha⟩:=hi4
    have Y:=wa Y (wa E4 (wa g0_4 (bY n0_4)))
    refine wv (h:=?_)
    repeat first|intro _|refine ⟨eM,?_⟩
    refine wq (fun h14=>?_) fun h14=>?_
    ·have Y:=wa Y (wa h14 (wa (aA h14) @GC))
     refine wp (h:=aI ((by have hz:=ih _ (aC h14) (hk _ (aC h14)) (hn.1 _ (aC h14)) q hqs.2.2.1 hqs.2.2.2;rwa [Cond.c_eq] at hz)) wl ?_)
     refine wv (h:=?_)
     repeat first|intro _|refine ⟨eM,?_⟩
     refine wq (fun h16=>?_) fun h16=>?_
     ·refine wv (h:=?_)
      have hF:kS c p=false:=by
       have:(c.kids.all fun x=>kS x q)=false:=by
        rw [bH];intro h;exact absurd (bV.1 h _ (aC h14)) (by simpa using h16)
       rw [wS,hq,this];rfl
      exact hQ _ _ (by simp [go_sem,hF])
     ·exact wp (h:=wx hI4 (j+1) ⟨wg,(by (simp [go_sem,Y])),wn,wj,(by (rw [rU _ _ h14,ha];simpa using h16))⟩)
    ·have hA:(c.kids.all fun x=>kS x q)=true:=by rw [aJ (by omega)] at ha;exact ha
     have hF:kS c p=decide ((v:Int)≤5000):=by rw [wS,hq,hA,hv',hw'];rfl
     exact wv (h:=hQ _ _ (by simp [go_sem,hF]))
 ·have hqc:p=q:=by rw [← hq];exact (if_neg h2).symm
  refine wp (h:=bB (fun i e H=>∃ w:Nat,(e 4=.adr p.c∧e 5=.adr c.c∧e 2=dI 14∧e 3=dI 18∧e 9=.ptr 0 1 0 0∧e 10=dI w∧e 11=dI i)∧(H.get 0=some ⟨53,5,[q.c],false⟩)∧(0<H.next)∧(p.graph.nodes.length≤i)∧(i≤q.graph.nodes.length∨i=p.graph.nodes.length)∧(w=14 ^ (i - p.graph.nodes.length))) (fun i=>q.graph.nodes.length - i) p.graph.nodes.length ⟨1,wg,(by (simp [go_sem,hqc,GC])),wn,wi,wi,(by (simp))⟩ fun I0 hI0 i e H hi0=>?_)
  obtain ⟨w,E0,g0_0,n0_0,hi,hi2,hw⟩:=hi0
  have Y:=wa Y (wa E0 (wa g0_0 (bY n0_0)))
  refine wv (h:=?_)
  repeat first|intro _|refine ⟨eM,?_⟩
  refine wq (fun h6=>?_) fun h6=>?_
  ·have hwb:=(pD (a:=14) (j:=i - p.graph.nodes.length) (by omega) (by omega)).1
   rw [← hw] at hwb
   have hwb':w≤7529536:=hwb
   have Y:=wa Y h6
   exact wp (h:=wx hI0 (i+1) ⟨(w * 14),wg,(by (simp [go_sem,Y])),wn,wj,wj,(by (rw [show i+1 - p.graph.nodes.length=(i - p.graph.nodes.length)+1 by omega,Nat.pow_succ,hw]))⟩)
  ·have hw':w=14 ^ (q.graph.nodes.length - p.graph.nodes.length):=by rw [hw];congr 1;omega
   have hwb:=(pD (a:=14) (j:=q.graph.nodes.length - p.graph.nodes.length) (by omega) hqs.1).1
   rw [← hw'] at hwb
   have hwb':w≤7529536:=hwb
   refine wp (h:=bB (fun k e H=>∃ v:Nat,(e 4=.adr p.c∧e 5=.adr c.c∧e 2=dI 14∧e 3=dI 18∧e 9=.ptr 0 1 0 0∧e 10=dI v∧e 12=dI k)∧(H.get 0=some ⟨53,5,[q.c],false⟩)∧(0<H.next)∧(p.graph.edges.length≤k)∧(k≤q.graph.edges.length∨k=p.graph.edges.length)∧(v=w * 18 ^ (k - p.graph.edges.length))) (fun k=>q.graph.edges.length - k) p.graph.edges.length ⟨w,wg,(by (simp [go_sem,Y])),wn,wi,wi,(by (simp))⟩ fun I2 hI2 k e H hi2=>?_)
   obtain ⟨v,E2,g0_2,n0_2,hk1,hk2,hv⟩:=hi2
   have Y:=wa Y (wa E2 (wa g0_2 (bY n0_2)))
   refine wv (h:=?_)
   repeat first|intro _|refine ⟨eM,?_⟩
   refine wq (fun h10=>?_) fun h10=>?_
   ·have hvb:=(pD (a:=18) (j:=k - p.graph.edges.length) (by omega) (by omega)).1
    have hvb':v≤7529536 * 34012224:=by rw [hv];exact iP hwb' hvb
    have Y:=wa Y h10
    exact wp (h:=wx hI2 (k+1) ⟨(v * 18),wg,(by (simp [go_sem,Y])),wn,wj,wj,(by (rw [show k+1 - p.graph.edges.length=(k - p.graph.edges.length)+1 by omega,Nat.pow_succ,hv,Nat.mul_assoc]))⟩)
   ·have hv':v=w * 18 ^ (q.graph.edges.length - p.graph.edges.length):=by rw [hv];congr 2;omega
    refine wv (h:=bB (fun j e H=>(e 4=.adr p.c∧e 5=.adr c.c∧e 2=dI 14∧e 3=dI 18∧e 9=.ptr 0 1 0 0∧e 10=dI v∧e 13=dI j)∧(H.get 0=some ⟨53,5,[q.c],false⟩)∧(0<H.next)∧(j≤c.kids.length)∧((c.kids.take j).all (fun x=>kS x q)=true)) (fun j=>c.kids.length - j) 0 ⟨wg,(by (simp [go_sem,Y])),wn,wi,(by rfl)⟩ fun I4 hI4 j e H hi4=>?_)
    obtain ⟨E4,g0_4,n0_4,hj,ha⟩:=hi4
    have Y:=wa Y (wa E4 (wa g0_4 (bY n0_4)))
    refine wv (h:=?_)
    repeat first|intro _|refine ⟨eM,?_⟩
    refine wq (fun h14=>?_) fun h14=>?_
    ·have Y:=wa Y (wa h14 (wa (aA h14) @GC))
     refine wp (h:=aI ((by have hz:=ih _ (aC h14) (hk _ (aC h14)) (hn.1 _ (aC h14)) q hqs.2.2.1 hqs.2.2.2;rwa [Cond.c_eq] at hz)) wl ?_)
     refine wv (h:=?_)
     repeat first|intro _|refine ⟨eM,?_⟩
     refine wq (fun h16=>?_) fun h16=>?_
     ·refine wv (h:=?_)
      have hF:kS c p=false:=by
       have:(c.kids.all fun x=>kS x q)=false:=by
        rw [bH];intro h;exact absurd (bV.1 h _ (aC h14)) (by simpa using h16)
       rw [wS,hq,this];rfl
      exact hQ _ _ (by simp [go_sem,hF])
     ·exact wp (h:=wx hI4 (j+1) ⟨wg,(by (simp [go_sem,Y])),wn,wj,(by (rw [rU _ _ h14,ha];simpa using h16))⟩)
    ·have hA:(c.kids.all fun x=>kS x q)=true:=by rw [aJ (by omega)] at ha;exact ha
     have hF:kS c p=decide ((v:Int)≤5000):=by rw [wS,hq,hA,hv',hw'];rfl
     exact wv (h:=hQ _ _ (by simp [go_sem,hF]))
def Cy (t:Types)(p:Pattern)(c:Cond)(h:Host):Bool:=fewC c&&fewP p&&AY h&&(decide (condF t p c≠0)||(light21 t p h&&k7 c&&decide ((h.graph.nodes.length:Int)≤6)&&decide ((h.graph.edges.length:Int)≤8)&&kS c p))
theorem Iq (t:Types)(ht:t.ok)(p:Pattern)(c:Cond)(hc:c.le)(h:Host):Pure Tryz.prog 61 [t.d,p.d,.agg c.c,h.d] (.bool (Cy t p c h)):=by
 refine Tz.pK ⟨fun _=>false,fun _=>[]⟩ Tryz.func61 rfl (fun Q hQ=>?_)
 have Y:=wa @Host.c.eq_1 (wa @Pattern.c.eq_1 @Cond.c_eq)
 refine wo (h:=aB ((by have hz:=Ft c hc;rwa [Cond.c_eq] at hz)) wl ?_)
 refine wo (h:=aK (fun hg=>r8 p) (fun hg=>wl) ?_)
 refine wo (h:=aK (fun hg=>Fu h) (fun hg=>wl) ?_)
 refine dV (fun h1=>?_) fun h1=>?_
 ·have hF:(fewC c&&fewP p&&AY h)=false:=by cases ha:fewC c<;>cases hb:fewP p<;>cases hd:AY h<;>simp [ha,hb,hd] at h1<;>rfl
  exact wv (h:=hQ _ _ (by simp [go_sem,Cy,hF]))
 ·have hF:fewC c=true∧fewP p=true∧AY h=true:=by cases ha:fewC c<;>cases hb:fewP p<;>cases hd:AY h<;>simp [ha,hb,hd] at h1<;>exact ⟨rfl,rfl,rfl⟩
  have hO:c.ok∧c.size≤1000000:=by
   have h6:=hF.1
   simp [fewC] at h6
   have h7:=DD c 40 (by omega) h6
   exact ⟨h7.1,by omega⟩
  have hO2:p.graph.nodes.length≤1000000∧p.graph.edges.length≤1000000:=by
   have h6:=hF.2.1
   simp [fewP,fewG] at h6
   omega
  refine wo (h:=aB ((by have hz:=Bs t ht p c hO.1 hO.2;rwa [Cond.c_eq] at hz)) wl ?_)
  refine wo (h:=aK (fun hg=>It t ht p h) (fun hg=>wl) ?_)
  refine wo (h:=aK (fun hg=>(by have hz:=GY c hO.1;rwa [Cond.c_eq] at hz)) (fun hg=>wl) ?_)
  refine wo (h:=aK (fun hg=>(by have hz:=EL c hO.1 (by simp at hg;simp_all) p hO2.1 hO2.2;rwa [Cond.c_eq] at hz)) (fun hg=>wl) ?_)
  exact wo (h:=hQ _ _ (by simp [go_sem,Cy,hF.1,hF.2.1,hF.2.2]))
def light26 (t:Types)(r:Rule)(h:Host):Bool:=sO t&&fewR r&&Cy t r.left r.cond h
theorem vI (t:Types)(p:Pattern)(h:Host)(inj:Bool):(dG t p h inj).1.length≤5000:=by
 unfold dG
 split
 ·simp
 ·split
  ·simp
  ·split
   ·simp
   ·exact dM (List.length_filterMap_le _ _) (Ef _ _ _ _)
theorem Pv (t:Types)(ht:t.ok)(r:Rule)(hr:r.ok)(h:Host)(m:Mat){v:Stp26}{e:Int}(hv:v=kH t r h m)(he:e=sZ t r h m):Pure Tryz.prog 33 [t.d,r.d,h.d,m.d] (.tup [.agg v.c,dI e]):=by
 subst hv he;exact Ij t ht r hr h m
theorem AM (t:Types)(ht:t.ok)(r:Rule)(hr:r.ok)(h:Host):Pure Tryz.prog 20 [t.d,r.d,h.d] (.tup [.list ((qM t r h).1.map Mat.c),dI (qM t r h).2]):=by
 refine Tz.pK ⟨fun t=>t==11||t==13,fun r=>match r with|11=>[(0,11),(1,11),(2,11),(5,11),(6,11),(7,11)]|_=>[]⟩ Tryz.func20 rfl (fun Q hQ=>?_)
 have Y:=wa @Host.d.eq_1 @Host.c.eq_1
 refine wv (h:=aB (Br t ht r hr h) wl ?_)
 refine cT (fun h2=>?_) fun h2=>?_
 ·have hS:qM t r h=([],eW t r h):=by unfold qM;rw [if_pos h2]
  exact wv (h:=hQ _ _ (by simp [go_sem,hS]))
 ·refine wv (h:=aB (EN t ht r.left h r.inj) wl ?_)
  refine cT (fun h5=>?_) fun h5=>?_
  ·have hS:qM t r h=([],(dG t r.left h r.inj).2):=by unfold qM;rw [if_neg (by omega),if_pos h5]
   exact wv (h:=hQ _ _ (by simp [go_sem,hS]))
  ·have hS:qM t r h=((dG t r.left h r.inj).1.filter fun m=>decide (f5 t r h m=0),0):=by unfold qM;rw [if_neg (by omega),if_neg (by omega)]
   have hL5:=vI t r.left h r.inj
   obtain ⟨L,hL⟩:∃ L,L=(dG t r.left h r.inj).1:=⟨_,rfl⟩
   rw [← hL] at hS hL5
   have hap:∀ m,sZ t r h m=f5 t r h m:=fun m=>by unfold sZ;rw [if_neg (by omega)]
   have Y:=wa Y (Eq.symm hL)
   refine wv (h:=bB (fun i e H=>∃ ms:List Mat,(e 3=.adr t.c∧e 4=.adr r.c∧e 5=.adr h.c∧e 9=.list (L.map Mat.c)∧e 11=.own 0 ms.length∧e 12=dI i)∧(H.get 0=some ⟨65,3,ms.map Mat.c,false⟩)∧(0<H.next)∧(i≤L.length)∧(ms=(L.take i).filter fun m=>decide (f5 t r h m=0))∧(ms.length≤i)) (fun i=>L.length - i) 0 ⟨([]),wg,wn,wn,wi,(by rfl),(by (simp))⟩ fun I0 hI0 i e H hi0=>?_)
   obtain ⟨ms,E0,g0_0,n0_0,hi,hms,hml⟩:=hi0
   have Y:=wa Y (wa E0 (wa g0_0 (bY n0_0)))
   refine qP (fun h9=>?_) fun h9=>?_
   ·obtain ⟨v,hv⟩:∃ v,v=kH t r h L[i]:=⟨_,rfl⟩
    obtain ⟨e,he⟩:∃ e,e=sZ t r h L[i]:=⟨_,rfl⟩
    obtain ⟨ms2,hms2⟩:∃ y,y=ms++[L[i]].filter fun m=>decide (f5 t r h m=0):=⟨_,rfl⟩
    have hes:f5 t r h L[i]=e:=by rw [he,hap]
    have Y:=wa Y (wa h9 (wa (aA h9) @Mat.c.eq_1))
    refine wp (h:=aI ((by have hq:=Pv t ht r hr h L[i] hv he;simp only [Stp26.c,Rule.c,Mat.c,Host.c,fV,fP] at hq;unfold Mat.d Mat.c dLI at hq;exact hq)) wl ?_)
    refine qP (fun h12=>?_) fun h12=>?_
    ·have hm3:ms2=ms++[L[i]]:=by rw [hms2,Ep (by rw [hes];simpa using h12)];rfl
     have Y:=wa Y hm3
     exact wp (h:=wx hI0 (i+1) ⟨ms2,wg,wn,wn,wj,(by (rw [aF h9,gM,← hms,hms2])),(by (rw [hm3];first|(simp;omega)|omega))⟩)
    ·have hm3:ms2=ms:=by rw [hms2,Er (by rw [hes];simpa using h12)];simp
     have Y:=wa Y hm3
     exact wp (h:=wx hI0 (i+1) ⟨ms2,wg,wn,wn,wj,(by (rw [aF h9,gM,← hms,hms2])),(by (rw [hm3];first|(simp;omega)|omega))⟩)
   ·rw [aJ (by omega)] at hms
    exact wv (h:=hQ _ _ (by simp [go_sem,Y,hS,← hms]))
theorem NA (l:List Stp26):D.clLL (l.map Stp26.c)=true:=cJ _ Stp26.cl l
attribute [go_sem] NA
theorem Pw (t:Types)(r:Rule)(h:Host):(qM t r h).1.length≤5000:=by
 unfold qM
 split
 ·simp
 ·split
  ·simp
  ·exact dM (kD _ _) (vI _ _ _ _)
end Go.Abs
end
section
namespace Go.Abs
open Go.ChangeShapes Go.WideShapes Go.RowKit
structure Bulk {H:Type} (bulk:DataW H→Nat):Prop where
 len:∀ e s,e.length≤bulk (.slice e s)
 el:∀ e s,∀ d∈e,bulk d≤bulk (.slice e s)
 part:∀ l,∀ d∈l,bulk d≤bulk (.agg l)
 str:∀ s:List UInt8,s.length≤bulk (.lit (.string s))
abbrev MN:Nat→Prop:=fun _=>False
section
variable {H:Type} {enc:TypeId × Value→H} {P:Program} {w:World} {base:Nat} {spare:Nat→Bool} {held:Bool} {bulk:DataW H→Nat} {B:Nat}
def Opens (enc:TypeId × Value→H)(P:Program)(w:World)(base:Nat)(spare:Nat→Bool)(held:Bool)(bulk:DataW H→Nat)(B:Nat)(n:Nat)(t:TypeId){α:Type}(C:α→List D)(G:α→Prop):Prop :=
 ∀ (fuel:Nat) (cs:List Value) (x:DataW H × List MemPlace),fuel≤n→DataW.trod enc P w base spare held fuel t cs=some x→bulk x.1≤B →
  ∃ a,G a∧RepL MN gG pT w cs (C a)∧∀ u∈cs,u.oneCell'=true
variable {n:Nat} {t:TypeId}
theorem Opens.mono {α:Type}{C:α→List D}{G:α→Prop}{m:Nat}(h:Opens enc P w base spare held bulk B n t C G)(hm:m≤n):Opens enc P w base spare held bulk B m t C G :=
 fun fuel cs x hf hx hb=>h fuel cs x (dM hf hm) hx hb
theorem Opens.zero {α:Type}{C:α→List D}{G:α→Prop}:Opens enc P w base spare held bulk B 0 t C G:=fun fuel cs x hf hx _=>by
 have:fuel=0:=by omega
 subst this
 simp [DataW.trod] at hx
theorem Opens.map {α β:Type}{C:α→List D}{G:α→Prop}{C':β→List D}{G':β→Prop}(h:Opens enc P w base spare held bulk B n t C G)(f:α→β)(hC:∀ a,C a=C' (f a))(hG:∀ a,G a→G' (f a)):Opens enc P w base spare held bulk B n t C' G' :=
 fun fuel cs x hf hx hb=>by
  obtain ⟨a,h1,h2,h3⟩:=h fuel cs x hf hx hb
  exact ⟨f a,hG a h1,by rw [← hC];exact h2,h3⟩
theorem n6 {v:Value}{d:D}(h:RepV MN gG pT w v d):RepL MN gG pT w [v] [d] :=
 ⟨rfl,fun j u x hu hx=>by
  cases j with
  | zero=>simp at hu hx;subst hu;subst hx;exact h
  | succ j=>simp at hu⟩
theorem zC {a b:List Value}{c d:List D}(h:RepL MN gG pT w a c)(k:RepL MN gG pT w b d):RepL MN gG pT w (a++b) (c++d):=by
 refine ⟨by simp [h.len,k.len],fun j u x hu hx=>?_⟩
 by_cases hj:j<a.length
 ·rw [aR hj] at hu
  rw [aR (by rw [← h.len];exact hj)] at hx
  exact h.rep j u x hu hx
 ·rw [aY (by omega)] at hu
  rw [aY (by rw [← h.len];omega),← h.len] at hx
  exact k.rep _ u x hu hx
theorem KA (ht:P.underlying t=some .bool):Opens enc P w base spare held bulk B n t (fun b:Bool=>[D.bool b]) (fun _=>True):=fun fuel cs x _ hx _=>by
 obtain ⟨b,rfl,_⟩:=DataW.trod_bool ht hx
 exact ⟨b,trivial,n6 (.bool b),by simp [Value.oneCell']⟩
theorem MI {k:IntKind}(ht:P.underlying t=some (.int k)):Opens enc P w base spare held bulk B n t (fun z:Int=>[D.int k z]) (fun z=>(Lit.int k z).wf=true):=fun fuel cs x _ hx _=>by
 obtain ⟨z,rfl,_,hw⟩:=DataW.trod_int ht hx
 exact ⟨z,hw,n6 (.int k z),by simp [Value.oneCell']⟩
theorem G6 (hB:Bulk bulk)(ht:P.underlying t=some .string):Opens enc P w base spare held bulk B n t (fun s:ByteArray=>[D.str s]) (fun s=>s.size≤B):=fun fuel cs x _ hx hb=>by
 obtain ⟨s,rfl,rfl,hs⟩:=DataW.trod_string ht hx
 refine ⟨s,?_,n6 (.str s),by simp [Value.oneCell']⟩
 have:=hB.str s.data.toList
 have hl:s.data.toList.length=s.size:=by rw [eL];rfl
 simp only at hb
 omega
theorem Sn {α:Type}{C:α→List D}{G:α→Prop}{ad:Addr}{sz:Nat}:∀ (len:Nat),
  (∀ i,i<len→∃ c a,w.cells? base (ad.add (i * sz)) sz=some c∧G a∧RepL MN gG pT w c (C a)∧∀ u∈c,u.oneCell'=true) →
  ∃ (l:List α) (xs:List Value),l.length=len∧(∀ a∈l,G a)∧RepL MN gG pT w xs (l.map C).flatten∧(∀ u∈xs,u.oneCell'=true)∧xs.length=len * sz ∧
   (∀ (j:Nat) (u:Value),xs[j]?=some u→w.cell? (ad.add j)=some u)∧∀ c∈l.map C,c.length=sz
 | 0,_=>⟨[],[],rfl,by simp,⟨rfl,fun j u d hu=>by simp at hu⟩,by simp,by simp,by simp,by simp⟩
 | len+1,h=>by
  obtain ⟨l,xs,h1,h2,h3,h4,h5,h6,h7⟩:=Sn len fun i hi=>h i (by omega)
  obtain ⟨c,a,hc,hg,hr,h1c⟩:=h len (by omega)
  obtain ⟨_,hcl,hcell⟩:=World.cells?_some hc
  refine ⟨l++[a],xs++c,by simp [h1],fun b hb=>?_,?_,fun u hu=>?_,by rw [aT,h5,hcl,Nat.succ_mul],fun j u hu=>?_,fun b hb=>?_⟩
  ·rcases aW.1 hb with h|h
   ·exact h2 b h
   ·simp at h;subst h;exact hg
  ·rw [List.map_append,jR]
   refine zC h3 ?_
   simpa using hr
  ·rcases aW.1 hu with h|h
   ·exact h4 u h
   ·exact h1c u h
  ·by_cases hj:j<xs.length
   ·rw [aR hj] at hu;exact h6 j u hu
   ·rw [aY (by omega)] at hu
    have hlt:j - xs.length<sz:=by rw [← hcl];exact (aL.1 hu).1
    have:=hcell (j - xs.length) hlt
    rw [Addr.add_add,hu] at this
    rwa [show len * sz+(j - xs.length)=j by omega] at this
  ·rw [List.map_append] at hb
   rcases aW.1 hb with h|h
   ·exact h7 b h
   ·simp at h;subst h;rw [← hr.len,hcl]
theorem g6 (hB:Bulk bulk){e:TypeId}(ht:P.underlying t=some (.slice e)){α:Type}{C:α→List D}{G:α→Prop}(h:Opens enc P w base spare held bulk B n e C G) :
  Opens enc P w base spare held bulk B (n+1) t (fun l:List α=>[.list (l.map C)]) (fun l=>l.length≤B∧∀ a∈l,G a):=fun fuel cs x hf hx hb=>by
 rcases DataW.trod_slice ht hx with ⟨rfl,rfl⟩|⟨ad,len,cap,elems,rest,m,rfl,rfl,rfl,hbase,hlc,hcap,hlen,hel,_,_⟩
 ·exact ⟨[],⟨c8 _,by simp⟩,n6 .listN,by simp [Value.oneCell']⟩
 ·simp only at hb
  have hb1:=hB.len (elems.map (·.1)) (rest.map (·.1))
  rw [bW] at hb1
  obtain ⟨l,xs,h1,h2,h3,h4,h5,h6,h7⟩:=Sn (w:=w) (base:=base) (C:=C) (G:=G) (ad:=ad) (sz:=P.cellsOf e) len fun i hi=>by
   have:=hel i hi
   rw [aA (by omega),Option.bind_eq_some_iff] at this
   obtain ⟨c,hc,hd⟩:=this
   obtain ⟨a,g1,g2,g3⟩:=h m c _ (by omega) hd (dM (hB.el _ (rest.map (·.1)) _ (bG.2 ⟨_,aC (by omega),rfl⟩)) hb)
   exact ⟨c,a,hc,g1,g2,g3⟩
  refine ⟨l,⟨by omega,h2⟩,n6 ?_,by simp [Value.oneCell']⟩
  have key:=RepV.list (M:=MN) (σ:=gG) (N:=pT) (w:=w) ad cap (P.cellsOf e) xs (l.map C) (by rw [bW];omega) hcap h7 h3.len h4 (fun j u hu=>⟨fun h=>h,h6 j u hu⟩) h3.rep
  rw [bW,h1] at key
  exact key
def Q2 (enc:TypeId × Value→H)(P:Program)(w:World)(base:Nat)(spare:Nat→Bool)(held:Bool)(bulk:DataW H→Nat)(B n:Nat):List TypeId→List Value→Prop
 | [],cs=>cs=[]
 | t :: ts,cs=>(∃ y,DataW.trod enc P w base spare held n t (cs.take (P.cellsOf t))=some y∧bulk y.1≤B)∧Q2 enc P w base spare held bulk B n ts (cs.drop (P.cellsOf t))
def HD (enc:TypeId × Value→H)(P:Program)(w:World)(base:Nat)(spare:Nat→Bool)(held:Bool)(bulk:DataW H→Nat)(B:Nat)(n:Nat)(ts:List TypeId){α:Type}(C:α→List D)(G:α→Prop):Prop :=
 ∀ (fuel:Nat) (cs:List Value),fuel≤n→Q2 enc P w base spare held bulk B fuel ts cs→∃ a,G a∧RepL MN gG pT w cs (C a)∧∀ u∈cs,u.oneCell'=true
theorem eZ:HD enc P w base spare held bulk B n [] (fun _:Unit=>[]) (fun _=>True):=fun fuel cs _ h=>by
 have h:cs=[]:=h
 subst h
 exact ⟨(),trivial,⟨rfl,fun j u d hu=>by simp at hu⟩,by simp⟩
theorem aX {ts:List TypeId}{α β:Type}{C:α→List D}{G:α→Prop}{C':β→List D}{G':β→Prop}(h:Opens enc P w base spare held bulk B n t C G)(k:HD enc P w base spare held bulk B n ts C' G') :
  HD enc P w base spare held bulk B n (t :: ts) (fun p:α × β=>C p.1++C' p.2) (fun p=>G p.1∧G' p.2):=fun fuel cs hf hs=>by
 obtain ⟨⟨y,hy,hyb⟩,hs⟩:=hs
 obtain ⟨a,a1,a2,a3⟩:=h fuel _ y hf hy hyb
 obtain ⟨b,b1,b2,b3⟩:=k fuel _ hf hs
 refine ⟨(a,b),⟨a1,b1⟩,?_,fun u hu=>?_⟩
 ·have:=zC a2 b2
  rwa [List.take_append_drop] at this
 ·rw [← List.take_append_drop (P.cellsOf t) cs] at hu
  rcases aW.1 hu with h|h
  ·exact a3 u h
  ·exact b3 u h
def NO (P:Program):Nat→List Field→Option Nat
 | o,[]=>some o
 | o,f :: r=>if f.offset=o then NO P (o+P.cellsOf f.type) r else none
theorem Lt {fuel:Nat}{cs:List Value}:∀ (fs:List Field) (o:Nat),NO P o fs=some cs.length →
  (∀ f∈fs,∃ y,DataW.trod enc P w base spare held fuel f.type ((cs.drop f.offset).take (P.cellsOf f.type))=some y∧bulk y.1≤B)→o≤cs.length∧Q2 enc P w base spare held bulk B fuel (fs.map (·.type)) (cs.drop o)
 | [],o,ho,_=>by
  simp only [NO,bA] at ho
  subst ho
  exact ⟨bC _,by show cs.drop cs.length=[];simp⟩
 | f :: fs,o,ho,h=>by
  unfold NO at ho
  split at ho
  ·rename_i hof
   subst hof
   obtain ⟨h1,h2⟩:=Lt fs _ ho fun g hg=>h g (by simp [hg])
   refine ⟨by omega,?_⟩
   refine ⟨h f (by simp),?_⟩
   rw [List.drop_drop]
   exact h2
  ·cases ho
theorem dR (hB:Bulk bulk){fs:Array Field}(ht:P.underlying t=some (.struct fs))(ho:NO P 0 fs.toList=some (P.cellsOf t)){α:Type}{C:α→List D}{G:α→Prop}(h:HD enc P w base spare held bulk B n (fs.toList.map (·.type)) C G) :
  Opens enc P w base spare held bulk B (n+1) t C G:=fun fuel cs x hf hx hb=>by
 obtain ⟨xs,m,rfl,rfl,hcl,hxl,hfl⟩:=DataW.trod_struct ht hx
 simp only at hb
 have hs:=(Lt (enc:=enc) (P:=P) (w:=w) (base:=base) (spare:=spare) (held:=held) (bulk:=bulk) (B:=B) (fuel:=m) (cs:=cs) fs.toList 0 (by rw [hcl];exact ho) fun f hfm=>by
  obtain ⟨i,hi,rfl⟩:=aN hfm
  have hi':i<fs.size:=by simpa using hi
  have hfi:=hfl i (fs.toList[i]) (by simp [hi'])
  rw [aA (by omega)] at hfi
  exact ⟨_,hfi,dM (hB.part _ _ (bG.2 ⟨_,aC (by omega),rfl⟩)) hb⟩).2
 rw [List.drop_zero] at hs
 exact h m cs (by omega) hs
theorem yR {r:Reach}{b0:Nat}{fs:Array Field}{v:Value}{d:DataW H}{ps:List MemPlace}{α:Type}{C:α→List D}{G:α→Prop}(ht:P.underlying t=some (.struct fs))(h:∀ n,Opens enc P w base spare held bulk B n t C G)
  (hval:Value.okWide P w r b0 t v) (hd:DataW.Trod enc P w base spare held t v d ps) (hb:bulk d≤B):∃ a,G a∧RepV MN gG pT w v (.agg (C a)):=by
 obtain ⟨cs,rfl,_⟩:=okWide_struct ht hval
 obtain ⟨fuel,hf⟩:=hd
 obtain ⟨a,h1,h2,h3⟩:=h fuel fuel _ _ (bC _) hf hb
 have hc:(Value.agg cs).cells.toList=cs.toList:=rfl
 rw [hc] at h2 h3
 have:=RepV.agg (M:=MN) (σ:=gG) (N:=pT) (w:=w) cs.toList (C a) h2.len h3 h2.rep
 exact ⟨a,h1,by simpa using this⟩
theorem xB (hl:laidOutB P=true){W W':World}{sp':Nat→Bool}(hb:Below W.heap.size W W'):∀ {ts:List TypeId} {vs:List Value} {ds:List (DataW H)} {ps:List MemPlace},(∀ t∈ts,P.readableRec t=true∧t<P.types.size) →
  DataW.TrodAll enc P W 0 (fun _=>true) true ts vs ds ps→(∀ x∈ps,x.block<W.heap.size)→(∀ x∈ps,sp' x.block=true)→DataW.TrodAll enc P W' 0 sp' true ts vs ds ps
 | [],_,_,_,_,h,_,_=>by
  obtain ⟨rfl,rfl,rfl⟩:=trodAll_nil h
  rfl
 | t :: ts,_,_,_,hr,h,hlt,hs=>by
  obtain ⟨v,vs,d,ds,p,q,rfl,rfl,rfl,h1,h2⟩:=trodAll_cons h
  refine ⟨p,q,WideElems.Trod_stays hl (hr t (by simp)).1 (hr t (by simp)).2 h1 (fun x hx=>hb.same (hlt x (by simp [hx]))) (fun x hx=>hs x (by simp [hx])),xB hl hb (fun u hu=>hr u (by simp [hu])) h2 (fun x hx=>hlt x (by simp [hx])) (fun x hx=>hs x (by simp [hx])),rfl⟩
theorem EQ (hl:laidOutB P=true){f:Func}{s:ChangeSpec}{apart fresh handsOn again:Bool}{W W':World}{args:Array Value}{v:Value}{ds gs:List (DataW H)}{before:List MemPlace}
  (hr:∀ t∈f.params.toList,P.readableRec t=true∧t<P.types.size) (hvars:s.vars=[]) (hW:DataW.Whole enc P f.params.toList s.vars apart W args.toList ds gs before)
  (hres:∀ (b:Nat) (sp:Nat→Bool) (hd:Bool),DataW.TrodAll enc P W' b sp hd f.resultTypes.toList (v.resultList f.resultTypes.size) (s.fn H (ds++gs)).results [])
  (hargs:(s.fn H (ds++gs)).args=ds) (hvs:(s.fn H (ds++gs)).vars=[]) (hb:Below W.heap.size W W')
  (hok:∀ (j:Nat) (t:TypeId) (r:Value),f.resultTypes[j]?=some t→(v.resultList f.resultTypes.size)[j]?=some r→Value.okWide P W' .any 0 t r) :
  s.post enc P f apart fresh handsOn again W args v W':=by
 have hW':=hW
 obtain ⟨p,q,hA,hV,rfl,hz,hn⟩:=hW
 rw [hvars] at hV
 obtain ⟨rfl,rfl⟩:=trodVars_none hV
 rw [c5] at hW' hz hn
 have hlt:∀ x∈p,x.block<W.heap.size:=fun x hx=>by simpa using hW'.lt x hx
 have hTr:∀ sp:Nat→Bool,(∀ x∈p,sp x.block=true)→DataW.TrodAll enc P W' 0 sp true f.params.toList args.toList (s.fn H (ds++[])).args p:=fun sp hs=>by
  rw [hargs];exact xB hl hb hr hA hlt hs
 have hVr:∀ sp:Nat→Bool,DataW.TrodVars enc P W' sp s.vars (s.fn H (ds++[])).vars []:=fun sp=>by rw [hvars,hvs];rfl
 refine ⟨ds,[],p,[],p,[],hW',hres _ _ _,hTr _ (fun x hx=>by simpa using hlt x hx),hVr _,World.keptBut_mono (fun x hx=>⟨hx,.inr (by simpa using hx)⟩) (hb.frame (·∈p)),fun _=>?_⟩
 refine ⟨hok,_,_,([]++p)++[],⟨[]++p,[],trodAll_append (hTr _ (fun _ _=>rfl)) (hres _ _ _),hVr _,rfl,?_,?_⟩,?_⟩
 ·intro b off hp
  have hp':MemPlace.cell b off∈p:=by simpa using hp
  have:=hz b off hp'
  rw [← this]
  exact hb.frozen (hlt _ hp')
 ·intro ha
  simpa using hn ha
 ·intro x hx _
  simpa using hx
end
end Go.Abs
end
section
set_option maxRecDepth 100000
set_option maxHeartbeats 4000000
open Go Go.Proofs
namespace Go.Abs
theorem M2 (t:Types)(ht:t.ok)(kind:Int)(hk:0≤kind)(vs:List Int):Pure Tryz.prog 73 [t.d,dI kind,dLI vs] (dI (fW t kind vs)):=by
 refine Tz.pK ⟨fun t=>t==10,fun _=>[]⟩ Tryz.func73 rfl (fun Q hQ=>?_)
 have Y:=trivial
 refine wv (h:=?_)
 repeat first|intro _|refine ⟨eP,?_⟩
 refine wq (fun h1=>?_) fun h1=>?_
 ·have hE:fW t kind vs=6:=by unfold fW;rw [if_pos (by omega)]
  exact wv (h:=hQ _ _ (by simp [go_sem,hE]))
 ·have hkn:kind.toNat<t.nodes.length:=by omega
  have hA:uI t kind.toNat=t.nodes[kind.toNat].abs:=by simp [uI,aA hkn]
  have hE0:fW t kind vs=if uI t kind.toNat=true then 13 else if vs.length≠(bK t kind).length then 20 else bI (zU (bK t kind) vs) 0 (bK t kind).length:=by unfold fW;rw [if_neg (by omega)]
  rw [hA] at hE0
  have Y:=wa Y (wa (aA hkn) @NodeTy.c.eq_1)
  refine wv (h:=?_)
  repeat first|intro _|refine ⟨eP,?_⟩
  refine wq (fun h3=>?_) fun h3=>?_
  ·rw [if_pos (by simpa using h3)] at hE0
   exact wv (h:=hQ _ _ (by simp [go_sem,hE0]))
  ·rw [if_neg (by simpa using h3)] at hE0
   refine wv (h:=aB (n4 t ht kind) wl ?_)
   refine wv (h:=?_)
   repeat first|intro _|refine ⟨eP,?_⟩
   refine wq (fun h6=>?_) fun h6=>?_
   ·rw [if_pos (by omega)] at hE0
    exact wv (h:=hQ _ _ (by simp [go_sem,hE0]))
   ·rw [if_neg (by omega)] at hE0
    have hln:vs.length=(bK t kind).length:=by omega
    refine wo (h:=bB (fun k e H=>(e 3=.adr t.c∧e 2=dLI vs∧e 33=.list ((bK t kind).map Attr.c)∧e 34=dI (bK t kind).length∧e 35=dI k)∧(k≤(bK t kind).length)∧(bI (zU (bK t kind) vs) k ((bK t kind).length - k)=fW t kind vs)) (fun k=>(bK t kind).length - k) 0 ⟨wg,wi,(by exact hE0.symm)⟩ fun I0 hI0 k e H hi0=>?_)
    obtain ⟨E0,hkl,hF⟩:=hi0
    have Y:=wa Y E0
    refine cT (fun h9=>?_) fun h9=>?_
    ·have hv:k<vs.length:=by omega
     have hst:=dQ (zU (bK t kind) vs) h9
     rw [hF] at hst
     have hLE:zU (bK t kind) vs k=if vs[k]<(bK t kind)[k].low∨(bK t kind)[k].high<vs[k] then 6 else 0:=by simp only [zU,aA hv,aA h9,aD]
     have Y:=wa Y (wa h9 (wa (aA hv) (wa (aA h9) @Attr.c.eq_1)))
     refine wv (h:=?_)
     repeat first|intro _|refine ⟨eP,?_⟩
     refine wq (fun h11=>?_) fun h11=>?_
     ·rw [if_pos (by omega)] at hLE
      rw [hLE,if_pos (by omega)] at hst
      exact wv (h:=hQ _ _ (by simp [go_sem,hst]))
     ·rw [if_neg (by omega)] at hLE
      rw [hLE,if_neg (by omega)] at hst
      exact wo (h:=wx hI0 (k+1) ⟨wg,wj,(by exact hst.symm)⟩)
    ·have hZ:fW t kind vs=0:=by rw [← hF,show (bK t kind).length - k=0 by omega];rfl
     exact wv (h:=hQ _ _ (by simp [go_sem,hZ]))
theorem yG (t:Types)(ht:t.ok)(h:Host):Pure Tryz.prog 26 [t.d,h.d] (.tup [dI (lY t h).1,dI (lY t h).2]):=by
 refine Tz.pK ⟨fun t=>t==13,fun _=>[]⟩ Tryz.func26 rfl (fun Q hQ=>?_)
 have Y:=wa @Host.d.eq_1 @Host.c.eq_1
 refine wv (h:=aB (lV t ht) wl ?_)
 refine cT (fun h2=>?_) fun h2=>?_
 ·have hE:lY t h=(-1,(cA t).2):=by unfold lY;rw [if_pos (by simpa using h2)]
  exact wv (h:=hQ _ _ (by simp [go_sem,hE]))
 ·have hE0:lY t h=if graphF h.graph≠0 then (-1,graphF h.graph) else if h.values.length≠h.graph.nodes.length then (-1,20) else if (fJ (DN t h) 0 h.graph.nodes.length).2≠0 then fJ (DN t h) 0 h.graph.nodes.length else fJ (M3 t h) 0 h.graph.edges.length:=by unfold lY;rw [if_neg (by simpa using h2)]
  refine wv (h:=aB (kM h.graph) wl ?_)
  refine cT (fun h5=>?_) fun h5=>?_
  ·rw [if_pos (by simpa using h5)] at hE0
   exact wv (h:=hQ _ _ (by simp [go_sem,hE0]))
  ·rw [if_neg (by simpa using h5)] at hE0
   have hg0:graphF h.graph=0:=by simpa using h5
   have hgi:=dF hg0
   have hgl:=bJ hg0
   refine dV (fun h7=>?_) fun h7=>?_
   ·rw [if_pos (by omega)] at hE0
    exact wv (h:=hQ _ _ (by simp [go_sem,hE0]))
   ·rw [if_neg (by omega)] at hE0
    refine wo (h:=bB (fun i e H=>(e 2=.adr t.c∧e 3=.adr h.c∧e 38=dLI h.graph.nodes∧e 39=dI h.graph.nodes.length∧e 40=dI i)∧(i≤h.graph.nodes.length)∧(fJ (DN t h) i (h.graph.nodes.length - i)=fJ (DN t h) 0 h.graph.nodes.length)) (fun i=>h.graph.nodes.length - i) 0 ⟨wg,wi,(by rfl)⟩ fun I0 hI0 i e H hi0=>?_)
    obtain ⟨E0,hi,hF⟩:=hi0
    have Y:=wa Y E0
    refine cT (fun h10=>?_) fun h10=>?_
    ·have hv:i<h.values.length:=by omega
     have hn0:0≤h.graph.nodes[i]:=(hgi.1 _ (aC h10)).1
     have hst:=o7 (DN t h) h10
     rw [hF] at hst
     have hNE:DN t h i=fW t h.graph.nodes[i] h.values[i]:=by simp only [DN,aA hv,aA h10,aD]
     have Y:=wa Y (wa h10 (wa (aA hv) (wa (aA h10) @cL.eq_1)))
     refine wo (h:=aI (M2 t ht h.graph.nodes[i] hn0 h.values[i]) wl ?_)
     refine dV (fun h13=>?_) fun h13=>?_
     ·rw [hNE,if_pos (by simpa using h13)] at hst
      rw [hst,if_pos (by simpa using h13)] at hE0
      exact wv (h:=hQ _ _ (by simp [go_sem,hE0]))
     ·rw [hNE,if_neg (by simpa using h13)] at hst
      exact wo (h:=wx hI0 (i+1) ⟨wg,wj,(by exact hst.symm)⟩)
    ·have hN0:fJ (DN t h) 0 h.graph.nodes.length=(-1,0):=by rw [← hF,show h.graph.nodes.length - i=0 by omega];rfl
     rw [hN0,if_neg (by simp)] at hE0
     refine wo (h:=bB (fun j e H=>(e 2=.adr t.c∧e 3=.adr h.c∧e 60=.list (h.graph.edges.map Edge.c)∧e 61=dI h.graph.edges.length∧e 62=dI j)∧(j≤h.graph.edges.length)∧(fJ (M3 t h) j (h.graph.edges.length - j)=lY t h)) (fun j=>h.graph.edges.length - j) 0 ⟨wg,wi,(by exact hE0.symm)⟩ fun I2 hI2 j e H hi2=>?_)
     obtain ⟨E2,hj,hG⟩:=hi2
     have Y:=wa Y E2
     refine cT (fun h17=>?_) fun h17=>?_
     ·obtain ⟨x,hx⟩:∃ x,x=h.graph.edges[j]:=⟨_,rfl⟩
      have hxi:=(hgi.2 _ (aC h17)).2
      rw [← hx] at hxi
      have hxf:x.from_.toNat<h.graph.nodes.length:=by omega
      have hxt:x.to_.toNat<h.graph.nodes.length:=by omega
      have hst:=o7 (M3 t h) h17
      rw [hG] at hst
      have hEE:M3 t h j=if (t.edges.length:Int)≤x.type then 6 else if mN t x.type h.graph.nodes[x.from_.toNat] h.graph.nodes[x.to_.toNat]=true then 0 else 13:=by simp only [M3,gN,aA h17,aD,← hx,aA hxf,aA hxt]
      have Y:=wa Y (wa h17 (wa (aA h17) (wa (Eq.symm hx) (wa (aA hxf) (aA hxt)))))
      refine dV (fun h19=>?_) fun h19=>?_
      ·rw [if_pos (by omega)] at hEE
       rw [hEE,if_pos (by omega)] at hst
       exact wv (h:=hQ _ _ (by simp [go_sem,hst]))
      ·rw [if_neg (by omega)] at hEE
       refine wo (h:=aI (CJ t ht x.type h.graph.nodes[x.from_.toNat] h.graph.nodes[x.to_.toNat]) wl ?_)
       refine dV (fun h21=>?_) fun h21=>?_
       ·rw [if_neg (by simpa using h21)] at hEE
        rw [hEE,if_pos (by omega)] at hst
        exact wv (h:=hQ _ _ (by simp [go_sem,hst]))
       ·rw [if_pos (by simpa using h21)] at hEE
        rw [hEE,if_neg (by omega)] at hst
        exact wo (h:=wx hI2 (j+1) ⟨wg,wj,(by exact hst.symm)⟩)
     ·have hZ:lY t h=(-1,0):=by rw [← hG,show h.graph.edges.length - j=0 by omega];rfl
      exact wv (h:=hQ _ _ (by simp [go_sem,hZ]))
end Go.Abs
end
section
set_option maxRecDepth 60000
set_option maxHeartbeats 4000000
open Go Go.Proofs
namespace Go.Abs
def LQ (s:Int):Int:=if s<0 then -1 else 0
def I7 (s:Int):Int:=s % 18446744073709551616
theorem Nj (x y:Int)(hx:0≤x)(hy:0≤y)(w:World):(callFunc 378 #[.int .u64 x,.int .u64 y,.int .u64 0]).run Tryz.prog w =
  .ok (.value (.tuple #[.int .u64 ((x+y+0) % 18446744073709551616),.int .u64 ((x+y+0) / 18446744073709551616)])) w:=by
 rw [run_callFunc_extern Tryz.func378 (by kernel_rfl) (by kernel_rfl) (by kernel_rfl) (e:=add64Entry) (by kernel_rfl),run_add64 x y 0 hx hy (by omega) (by omega)]
 rfl
open RowKit in
theorem JW (a b:Int)(ha : -4000000≤a∧a≤4000000)(hb : -4000000≤b∧b≤4000000)(w:World) :
  Calls Tryz.prog 320 #[.int .i64 a,.int .i64 b] w fun e w'=>e=.returned (.tuple #[.int .i64 (LQ (a+b)),.int .u64 (I7 (a+b))])∧w'=w:=by
 have h:=Nj (IntKind.u64.wrap a) (IntKind.u64.wrap b) (by rw [IntKind.wrap_u64];omega) (by rw [IntKind.wrap_u64];omega) w
 simp only [Int.add_zero] at h
 go_enter Tryz.func320,Tryz.ntmps320
 go_wp2
 have wa:IntKind.u64.wrap a=if a<0 then a+18446744073709551616 else a:=by rw [IntKind.wrap_u64];split<;>omega
 have wb:IntKind.u64.wrap b=if b<0 then b+18446744073709551616 else b:=by rw [IntKind.wrap_u64];split<;>omega
 have e1:wrap64 (a / 9223372036854775808+b / 9223372036854775808+wrap64 ((IntKind.u64.wrap a+IntKind.u64.wrap b) / 18446744073709551616))=LQ (a+b):=by
  rw [wa,wb];unfold LQ wrap64
  repeat' split
  all_goals omega
 have e2:(IntKind.u64.wrap a+IntKind.u64.wrap b) % 18446744073709551616=I7 (a+b):=by
  rw [wa,wb];unfold I7
  repeat' split
  all_goals omega
 rw [e1,e2]
 go_ret2
 exact ⟨rfl,rfl⟩
theorem uA (a b : Int) (ha : -4000000 ≤ a ∧ a ≤ 4000000) (hb : -4000000 ≤ b ∧ b ≤ 4000000) : Pure Tryz.prog 320 [dI a, dI b] (.tup [dI (LQ (a + b)), .int .u64 (I7 (a + b))]) := by
  refine ⟨⟨Tryz.f320, Tryz.func320, rfl, rfl⟩, fun M w vals hM ha' => ?_⟩
  have hv : vals = [.int .i64 a, .int .i64 b] := by
    obtain ⟨hl, hr⟩ := ha'
    match vals, hl with
    | [x, y], _ =>
      have h0 := hr 0 x _ rfl rfl
      have h1 := hr 1 y _ rfl rfl
      cases h0
      cases h1
      rfl
  subst hv
  exact (JW a b ha hb w).mono fun e w' ⟨h1, h2⟩ => ⟨_, h1, .tup _ _ rfl (fun j u d hu hd => by
    match j with
    | 0 => simp at hu hd; subst hu; subst hd; exact .int _ _
    | 1 => simp at hu hd; subst hu; subst hd; exact .int _ _
    | j + 2 => simp at hu), by subst h2; exact ⟨rfl, rfl, rfl, bC _, fun _ _ => rfl⟩⟩
theorem rE (x:Term)(vs:List Int)(hx:mV x vs.length)(hs:Sm vs):Pure Tryz.prog 319 [.agg x.c,.adr [dLI vs]] (.tup [dI (LQ (cC x vs)),.int .u64 (I7 (cC x vs)),.bool true]):=by
 have hx0:=hx
 obtain ⟨⟨a1,a2⟩,a3,a4⟩:=hx0
 refine Tz.pK ⟨fun _=>false,fun _=>[]⟩ Tryz.func319 rfl (fun Q hQ=>?_)
 have Y:=@Term.c.eq_1
 refine cT (fun h1=>?_) fun h1=>?_
 ·have hT:cC x vs=0+x.add:=by unfold cC;rw [if_pos (by omega)];omega
  refine wv (h:=aB (uA 0 x.add (by omega) (by omega)) wl ?_)
  exact wv (h:=hQ _ _ (by simp [go_sem,hT]))
 ·have hk:x.var.toNat<vs.length:=by omega
  have hb:=hs.get hk
  have hT:cC x vs=vs[x.var.toNat]+x.add:=by unfold cC;rw [if_neg (by omega),aA hk];rfl
  have w1:¬ x.var<0:=by omega
  have w2:¬ (vs.length:Int)≤x.var:=by omega
  have Y:=wa Y (wa (aA hk) (wa w1 w2))
  refine wo (h:=aI (uA vs[x.var.toNat] x.add hb (by omega)) wl ?_)
  exact wo (h:=hQ _ _ (by simp [go_sem,hT]))
theorem D5 (a:Int):Pure Tryz.prog 379 [.int .u64 a] (.bool false):=by
 refine Tz.pK ⟨fun _=>false,fun _=>[]⟩ Tryz.func379 rfl (fun Q hQ=>?_)
 have Y:=trivial
 exact wv (h:=hQ _ _ wy)
theorem Hn (a b:Int):Pure Tryz.prog 321 [.int .u64 a,.int .u64 b] (dI (cmp1 a b)):=by
 refine Tz.pK ⟨fun _=>false,fun _=>[]⟩ Tryz.func321 rfl (fun Q hQ=>?_)
 have Y:=trivial
 refine wv (h:=aB (D5 a) wl ?_)
 refine wv (h:=aB (D5 b) wl ?_)
 refine cT (fun h9=>?_) fun h9=>?_
 ·have Y:=wa Y (wa h9 @cmp1.eq_1)
  exact wv (h:=hQ _ _ wy)
 ·refine cT (fun h11=>?_) fun h11=>?_
  ·have Y:=wa Y (wa h9 (wa h11 @cmp1.eq_1))
   exact wv (h:=hQ _ _ wy)
  ·have Y:=wa Y (wa h9 (wa h11 @cmp1.eq_1))
   exact wv (h:=hQ _ _ wy)
def OZ (a b:Int):Int:=OG [cmp1 (LQ a) (LQ b),cmp1 (I7 a) (I7 b)]
theorem OY {a b:Int}(ha : -10000000≤a∧a≤10000000)(hb : -10000000≤b∧b≤10000000):OZ a b=if a<b then -1 else if b<a then 1 else 0:=by
 have la:I7 a=if a<0 then a+18446744073709551616 else a:=by unfold I7;split<;>omega
 have lb:I7 b=if b<0 then b+18446744073709551616 else b:=by unfold I7;split<;>omega
 unfold OZ
 simp only [OG,cmp1,LQ,la,lb]
 repeat' split
 all_goals omega
theorem CO {x:Term}{vs:List Int}(hx:mV x vs.length)(hs:Sm vs) : -10000000≤cC x vs∧cC x vs≤10000000:=by
 obtain ⟨⟨a1,a2⟩,a3,a4⟩:=hx
 unfold cC
 split
 ·omega
 ·have hk:x.var.toNat<vs.length:=by omega
  have hb:=hs.get hk
  rw [aA hk,aD]
  omega
theorem sU (x:Test)(vs:List Int)(hx:El x vs.length)(hs:Sm vs):Pure Tryz.prog 223 [.agg x.c,dLI vs] (.bool (wY x vs)):=by
 obtain ⟨hk,hl,hr⟩:=hx
 have hO:=OY (CO hl hs) (CO hr hs)
 have hOe:OZ (cC x.left vs) (cC x.right vs)=OG [cmp1 (LQ (cC x.left vs)) (LQ (cC x.right vs)),cmp1 (I7 (cC x.left vs)) (I7 (cC x.right vs))]:=rfl
 obtain ⟨o,ho⟩:∃ o,o=OZ (cC x.left vs) (cC x.right vs):=⟨_,rfl⟩
 rw [← ho] at hO hOe
 have hT:wY x vs=(decide (x.kind=1)&&decide (o≤0)||decide (x.kind=2)&&decide (o=0)):=by
  unfold wY
  rw [hO,aV]
  simp
  constructor
  ·rintro (⟨h1,h2⟩|⟨h1,h2⟩)
   ·left;refine ⟨h1,?_⟩;split<;>(try split)<;>omega
   ·right;refine ⟨h1,?_⟩;rw [h2];simp
  ·rintro (⟨h1,h2⟩|⟨h1,h2⟩)
   ·left;refine ⟨h1,?_⟩;split at h2<;>(try split at h2)<;>omega
   ·right;refine ⟨h1,?_⟩;split at h2<;>(try split at h2)<;>omega
 refine Tz.pK ⟨fun _=>false,fun _=>[]⟩ Tryz.func223 rfl (fun Q hQ=>?_)
 have Y:=@Test.c.eq_1
 refine wv (h:=?_)
 refine aB (rE x.left vs hl hs) wl ?_
 refine wv (h:=?_)
 refine aB (rE x.right vs hr hs) wl ?_
 refine wv (h:=?_)
 repeat first|intro _|refine ⟨eP,?_⟩
 refine aB (Jy (LQ (cC x.left vs)) (LQ (cC x.right vs))) wl ?_
 refine wv (h:=?_)
 repeat first|intro _|refine ⟨eP,?_⟩
 refine aB (Hn (I7 (cC x.left vs)) (I7 (cC x.right vs))) wl ?_
 refine wv (h:=?_)
 repeat first|intro _|refine ⟨eP,?_⟩
 refine aB ((by have hq:=QU [cmp1 (LQ (cC x.left vs)) (LQ (cC x.right vs)),cmp1 (I7 (cC x.left vs)) (I7 (cC x.right vs))];rw [← hOe] at hq;exact hq)) wl ?_
 refine wv (h:=?_)
 repeat first|intro _|refine ⟨eP,?_⟩
 exact hQ _ _ (by simp [go_sem,hT]<;>(first|rfl|(rw [aV];simp)))
theorem jT (x:Term)(vs:List Int)(hx:mV x vs.length)(hs:Sm vs):Pure Tryz.prog 222 [.agg x.c,dLI vs] (dI (cC x vs)):=by
 have hx0:=hx
 obtain ⟨⟨a1,a2⟩,a3,a4⟩:=hx0
 refine Tz.pK ⟨fun _=>false,fun _=>[]⟩ Tryz.func222 rfl (fun Q hQ=>?_)
 have Y:=@Term.c.eq_1
 refine cT (fun h1=>?_) fun h1=>?_
 ·exact wv (h:=hQ _ _ (by simp [go_sem,cC,h1]))
 ·have hk:x.var.toNat<vs.length:=by omega
  have hb:=hs.get hk
  have Y:=wa Y (aA hk)
  exact wo (h:=hQ _ _ (by simp [go_sem,cC,show ¬ x.var<0 by omega,aA hk]))
theorem kU (x:Term)(vs:List Int)(hx:mV x vs.length)(hs:Sm vs):Pure Tryz.prog 332 [.agg x.c,dLI vs] (.tup [dI (cC x vs),dI 0]):=by
 have hx0:=hx
 obtain ⟨⟨a1,a2⟩,a3,a4⟩:=hx0
 have hin:inF x.var (-1) ((vs.length:Int) - 1)=true:=by unfold inF;simp;omega
 refine Tz.pK ⟨fun _=>false,fun _=>[]⟩ Tryz.func332 rfl (fun Q hQ=>?_)
 have Y:=wa @Term.c.eq_1 hin
 refine wo (h:=aB (g9 x.var (-1) ((vs.length:Int) - 1)) wl ?_)
 refine wo (h:=aB (jT x vs hx hs) wl ?_)
 exact wo (h:=hQ _ _ wy)
end Go.Abs
end
section
set_option maxRecDepth 100000
set_option maxHeartbeats 4000000
open Go Go.Proofs
namespace Go.Abs
theorem CZ (t:Types)(a:Int):Pure Tryz.prog 375 [dI a,.adr t.c] (.bool (decide ((t.nodes.length:Int)≤a))):=by
 refine Tz.pK ⟨fun _=>false,fun _=>[]⟩ Tryz.func375 rfl (fun Q hQ=>?_)
 have Y:=trivial
 exact wo (h:=hQ _ _ wy)
theorem CY (t:Types)(x:Edge):Pure Tryz.prog 376 [.agg x.c,.adr t.c] (.bool (decide ((t.edges.length:Int)≤x.type))):=by
 refine Tz.pK ⟨fun _=>false,fun _=>[]⟩ Tryz.func376 rfl (fun Q hQ=>?_)
 have Y:=trivial
 exact wo (h:=hQ _ _ wy)
theorem xD (t:Types)(g:Graph):Pure Tryz.prog 317 [t.d,g.d] (.bool (gU t g)):=by
 refine Tz.pK ⟨fun _=>false,fun _=>[]⟩ Tryz.func317 rfl (fun Q hQ=>?_)
 have Y:=trivial
 refine wo (h:=aB (fB g.nodes 375 [.adr t.c] (fun a=>decide ((t.nodes.length:Int)≤a)) (by simp [go_sem]) (by simp [go_sem]) (fun a _=>CZ t a)) wl ?_)
 refine wo (h:=aK (fun hg=>jQ g.edges 376 [.adr t.c] (fun x=>decide ((t.edges.length:Int)≤x.type)) (by simp [go_sem]) (by simp [go_sem]) (fun x _=>CY t x)) (fun hg=>wl) ?_)
 exact wo (h:=hQ _ _ (by simp [go_sem,gU];rw [aV];simp))
theorem Fm (t:Types){g:Graph}(hg:graphF g=0):gU t g=j5 t g:=by
 have hi:=dF hg
 have h1:(g.nodes.any fun n=>decide ((t.nodes.length:Int)≤n))=g.nodes.any fun a=>!insideF t a:=by
  rw [aV,aU,aU]
  constructor<;>rintro ⟨a,ha,h⟩<;>refine ⟨a,ha,?_⟩<;>have:=hi.1 a ha<;>simp [insideF] at h ⊢<;>omega
 have h2:(g.edges.any fun x=>decide ((t.edges.length:Int)≤x.type))=g.edges.any fun x=>!lZ t x:=by
  rw [aV,aU,aU]
  constructor<;>rintro ⟨a,ha,h⟩<;>refine ⟨a,ha,?_⟩<;>have:=(hi.2 a ha).1<;>simp [lZ] at h ⊢<;>omega
 unfold gU j5
 rw [h1,h2]
def QF (p g:Graph)(i:Nat):Int:=if i=0 then graphF p else graphF g
theorem QE (p g:Graph):bI (QF p g) 0 2=if graphF p≠0 then graphF p else if graphF g≠0 then graphF g else 0:=by simp [bI,QF]
theorem oX (t:Types)(ht:t.ok)(p g:Graph):Pure Tryz.prog 220 [t.d,p.d,g.d] (dI (dY t p g)):=by
 refine Tz.pK ⟨fun t=>t==10,fun _=>[]⟩ Tryz.func220 rfl (fun Q hQ=>?_)
 have Y:=trivial
 refine wv (h:=aB (lV t ht) wl ?_)
 refine cT (fun h2=>?_) fun h2=>?_
 ·have hA:dY t p g=(cA t).2:=by unfold dY;rw [if_pos (by simpa using h2)]
  exact wv (h:=hQ _ _ (by simp [go_sem,hA]))
 ·have hA:dY t p g=if graphF p≠0 then graphF p else if graphF g≠0 then graphF g else if (!j5 t p||!j5 t g)=true then 13 else 0:=by unfold dY;rw [if_neg (by simpa using h2)]
  refine wo (h:=bB (fun i e H=>(e 3=.adr t.c∧e 4=.adr p.c∧e 5=.adr g.c∧e 22=.list [p.c,g.c]∧e 23=dI 2∧e 24=dI i)∧(i≤2)∧(bI (QF p g) i (2 - i)=bI (QF p g) 0 2)) (fun i=>2 - i) 0 ⟨wg,wi,(by rfl)⟩ fun I0 hI0 i e H hi0=>?_)
  obtain ⟨E0,hi,hF⟩:=hi0
  have Y:=wa Y E0
  refine cT (fun h5=>?_) fun h5=>?_
  ·have hi2:i<2:=by omega
   have hst:=dQ (QF p g) hi2
   rw [hF] at hst
   obtain ⟨x,hx,hgx⟩:∃ x:Graph,[[D.list (p.nodes.map cI),D.list (p.edges.map Edge.c)],[D.list (g.nodes.map cI),D.list (g.edges.map Edge.c)]][i]?=some [D.list (x.nodes.map cI),D.list (x.edges.map Edge.c)]∧QF p g i=graphF x:=by
    rcases bN i 1 with h|h
    ·obtain rfl:i=0:=by omega
     exact ⟨p,rfl,rfl⟩
    ·obtain rfl:i=1:=by omega
     exact ⟨g,rfl,rfl⟩
   have hgr:=kM x
   have Y:=wa Y (wa h5 hx)
   refine wo (h:=aB (hgr) wl ?_)
   refine dV (fun h8=>?_) fun h8=>?_
   ·have hR:dY t p g=graphF x:=by
     rw [hgx,if_pos (by simpa using h8),QE] at hst
     rw [hA]
     by_cases h1:graphF p=0
     ·rw [if_neg (by simp [h1])] at hst ⊢
      by_cases h2':graphF g=0
      ·rw [if_neg (by simp [h2'])] at hst;exact absurd hst.symm h8
      ·rw [if_pos h2'] at hst ⊢;exact hst
     ·rw [if_pos h1] at hst ⊢;exact hst
    exact wv (h:=hQ _ _ (by simp [go_sem,hR]))
   ·rw [hgx,if_neg (by simpa using h8)] at hst
    exact wo (h:=wx hI0 (i+1) ⟨wg,wj,(by exact hst.symm)⟩)
  ·have hz:bI (QF p g) 0 2=0:=by rw [← hF,show 2 - i=0 by omega];rfl
   have hp0:graphF p=0:=dP _ _ hz 0 (by omega) (by omega)
   have hg0:graphF g=0:=dP _ _ hz 1 (by omega) (by omega)
   rw [if_neg (by simpa using hp0),if_neg (by simpa using hg0),← Fm t hp0,← Fm t hg0] at hA
   refine wo (h:=aB (xD t p) wl ?_)
   refine wo (h:=aK (fun hg=>xD t g) (fun hg=>wl) ?_)
   refine dV (fun h11=>?_) fun h11=>?_
   ·rw [if_pos (by simpa [l9] using h11)] at hA
    exact wv (h:=hQ _ _ (by simp [go_sem,hA]))
   ·rw [if_neg (by simpa [l9] using h11)] at hA
    exact wv (h:=hQ _ _ (by simp [go_sem,hA]))
/-! ### below -/
def oS (n:Nat)(l:List Int):List Bool:=(List.range n).map fun (b:Nat)=>mem l (b:Int)
@[go_sem] theorem MR (n:Nat)(l:List Int):(oS n l).length=n:=by simp [oS]
theorem MQ (n:Nat):oS n []=List.replicate n false:=by
 apply fU (by simp [oS]);intro i h1 h2;simp [oS,zT]
theorem KE (n:Nat)(l:List Int)(x:Int)(h0:0≤x):oS n (l++[x])=(oS n l).set x.toNat true:=by
 apply fU (by simp [oS]);intro i h2 h3
 rw [wX]
 simp only [oS,qF,mY,sJ]
 split
 ·rename_i h;rw [b6];right;simp;omega
 ·rename_i h;rw [show decide ((i:Int)=x)=false by simp;omega,r3]
def GS (t:Types)(a:Nat):List Bool:=oS t.nodes.length (iQ t a)
def oP (t:Types)(n:Nat):List (List D):=(List.range n).map fun a=>[.list ((GS t a).map cB)]
def belowD (t:Types):D:=.list (oP t t.nodes.length)
theorem Kj (t:Types)(n:Nat):oP t (n+1)=oP t n++[[.list ((GS t n).map cB)]]:=by simp [oP,e9]
@[go_sem] theorem Rr (t:Types)(n:Nat):(oP t n).length=n:=by simp [oP]
@[go_sem] theorem NF (t:Types)(n:Nat):D.clLL (oP t n)=true:=by
 unfold oP;exact cJ (fun a=>[.list ((GS t a).map cB)]) (fun a=>by simp [D.clL,go_sem]) _
theorem Nd {t:Types}{a:Int}{x:Int}(h:x∈iQ t a):0≤x∧x<t.nodes.length:=by
 unfold iQ at h
 split at h
 ·simp at h;omega
 ·cases h
theorem Lk (t:Types)(a:Int):(iQ t a).length≤t.nodes.length:=by
 unfold iQ
 split
 ·rw [bW];exact dM (kD _ _) (by simp)
 ·simp
@[go_sem] theorem RK (t:Types):(belowD t).cl=true:=NF t _
theorem y8 (t:Types)(ht:t.ok):Pure Tryz.prog 323 [t.d] (belowD t):=by
 have hfew:=ht.fewN
 refine Tz.pK ⟨fun t=>t==3||t==5||t==19,fun _=>[]⟩ Tryz.func323 rfl (fun Q hQ=>?_)
 have Y:=trivial
 refine wo (h:=bB (fun i e H=>(e 1=.adr t.c∧e 11=.list (t.nodes.map NodeTy.c)∧e 12=dI t.nodes.length∧e 3=.own 0 i∧e 13=dI i)∧(H.get 0=some ⟨157,1,oP t i,false⟩)∧(0<H.next)∧(i≤t.nodes.length)) (fun i=>t.nodes.length - i) 0 ⟨wg,(by (simp [go_sem,oP])),wn,wi⟩ fun I0 hI0 i e H hi0=>?_)
 obtain ⟨E0,g0_0,n0_0,hi⟩:=hi0
 have Y:=wa Y (wa E0 (wa g0_0 (bY n0_0)))
 refine cT (fun h3=>?_) fun h3=>?_
 ·have hll:=Lk t i
  have Y:=wa Y h3
  refine wo (h:=aB (HT t ht i) wl ?_)
  refine wo (h:=bB (fun k e H=>∃ q:Nat,(e 1=.adr t.c∧e 11=.list (t.nodes.map NodeTy.c)∧e 12=dI t.nodes.length∧e 3=.own 0 i∧e 13=dI i∧e 4=dI i∧e 5=.own q t.nodes.length∧e 26=dLI (iQ t i)∧e 27=dI (iQ t i).length∧e 28=dI k)∧(H.get 0=some ⟨157,1,oP t i,false⟩)∧(0<H.next)∧(H.get q=some ⟨4,1,(oS t.nodes.length ((iQ t i).take k)).map cB,false⟩)∧(q<H.next)∧(k≤(iQ t i).length)∧(0<q)) (fun k=>(iQ t i).length - k) 0 ⟨H.next,wg,wn,wn,(by (simp [go_sem,MQ])),wn,wi,wi⟩ fun I2 hI2 k e H hi2=>?_)
  obtain ⟨q,E2,g0_2,n0_2,gq_2,nq_2,hk,hq0⟩:=hi2
  have di1:=cO (show q≠0 by omega)
  have Y:=wa Y (wa E2 (wa g0_2 (wa (bY n0_2) (wa gq_2 (wa (bY nq_2) di1)))))
  refine cT (fun h8=>?_) fun h8=>?_
  ·have hbx:=Nd (aC h8)
   have hbl:(iQ t i)[k].toNat<(oS t.nodes.length ((iQ t i).take k)).length:=by rw [MR];omega
   have hms:oS t.nodes.length ((iQ t i).take (k+1))=(oS t.nodes.length ((iQ t i).take k)).set (iQ t i)[k].toNat true:=by rw [aF h8,KE _ _ _ hbx.1]
   have Y:=wa Y (wa h8 (wa (aA h8) (wa (aA hbl) (wa hbx.1 hbx.2))))
   exact wo (h:=wx hI2 (k+1) ⟨q,wg,wn,wn,(by (simp [go_sem,Y,hms,cG,cB])),wn,wj,wj⟩)
  ·have hke:(iQ t i).take k=iQ t i:=aJ (by omega)
   have Y:=wa Y hke
   exact wo (h:=wx hI0 (i+1) ⟨wg,(by (simp [go_sem,Y,Kj,GS])),wn,wj⟩)
 ·exact wv (h:=hQ _ _ (by simp [go_sem,Y,belowD,show i=t.nodes.length by omega]))
theorem Hh {t:Types}(hv:(cA t).2=0){k:Int}(h:0≤k∧k<t.nodes.length):given2F t k k=0:=by
 unfold given2F;rw [if_neg (by rw [hv];simp),if_pos (by simp [insideF];omega)]
@[go_sem] theorem So (t:Types)(a:Nat):(GS t a).length=t.nodes.length:=by simp [GS,oS]
theorem Fr {t:Types}{a:Int}(h:0≤a∧a<t.nodes.length):(oP t t.nodes.length)[a.toNat]?=some [.list ((GS t a.toNat).map cB)]:=by
 unfold oP
 rw [aQ,qI (by omega)];rfl
theorem Lj {t:Types}(hv:(cA t).2=0){a b:Int}(ha:0≤a∧a<t.nodes.length)(hb:0≤b∧b<t.nodes.length):mem (iQ t a) b=tT t a b:=by
 unfold iQ tT
 rw [if_pos (Hh hv ha),aV,cW,bG]
 constructor
 ·rintro ⟨k,hk,rfl⟩
  rw [fQ] at hk
  simpa using hk.2
 ·intro h
  exact ⟨b.toNat,by rw [fQ];exact ⟨by simp;omega,h⟩,by omega⟩
theorem Ie {t:Types}(hv:(cA t).2=0){a b:Int}(ha:0≤a∧a<t.nodes.length)(hb:0≤b∧b<t.nodes.length):(GS t a.toNat)[b.toNat]?=some (tT t a b):=by
 unfold GS oS
 rw [aQ,qI (by omega),eD,Int.toNat_of_nonneg ha.1,Int.toNat_of_nonneg hb.1,Lj hv ha hb]
theorem y7 (t:Types)(ht:t.ok)(p g:Graph)(hG:G17 t p g)(hv:(cA t).2=0)(m:Part):Pure Tryz.prog 226 [t.d,p.d,g.d,m.d] (dI (gJ t p g m false)):=by
 have hga:=bJ hG.gp
 have hgb:=bJ hG.gg
 have hia:=(dF hG.gp).2
 refine Tz.pK ⟨fun t=>t==14||t==15,fun r=>match r with|17=>[(0,10),(1,10),(3,10),(4,10),(5,10),(6,10),(8,10),(9,10),(0,11),(1,11),(3,11),(4,11),(5,11),(6,11),(8,11),(9,11),(10,11),(5,12),(6,12),(8,12),(9,12)]|_=>[]⟩ Tryz.func226 rfl (fun Q hQ=>?_)
 have Y:=@belowD.eq_1
 refine dV (fun h1=>?_) fun h1=>?_
 ·have hM:gJ t p g m false=20:=by unfold gJ;rw [if_pos (by omega)]
  exact wv (h:=hQ _ _ (by simp [go_sem,hM]))
 ·have hM:gJ t p g m false=(if bI (FS t p g m) 0 p.nodes.length≠0 then bI (FS t p g m) 0 p.nodes.length else if bI (gB p g m) 0 p.edges.length≠0 then bI (gB p g m) 0 p.edges.length else if false=true∧(¬ m.nodes.Nodup∨¬ m.edges.Nodup) then 5 else 0):=by unfold gJ;rw [if_neg (by omega)]
  have hl1:m.nodes.length=p.nodes.length:=by omega
  have hl2:m.edges.length=p.edges.length:=by omega
  refine wv (h:=aB (y8 t ht) wl ?_)
  refine wo (h:=bB (fun i e H=>(e 4=.adr t.c∧e 5=.adr p.c∧e 6=.adr g.c∧e 7=.adr m.c∧e 9=.list (oP t t.nodes.length)∧e 35=dLI m.nodes∧e 36=dI m.nodes.length∧e 37=dI i)∧(i≤m.nodes.length)∧(bI (FS t p g m) i (p.nodes.length - i)=bI (FS t p g m) 0 p.nodes.length)) (fun i=>m.nodes.length - i) 0 ⟨wg,wi,(by rfl)⟩ fun I0 hI0 i e H hi0=>?_)
  obtain ⟨E0,hi,hF⟩:=hi0
  have Y:=wa Y E0
  refine cT (fun h5=>?_) fun h5=>?_
  ·have hn:i<p.nodes.length:=by omega
   have hst:=dQ (FS t p g m) hn
   rw [hF] at hst
   have hNE:FS t p g m i=(if m.nodes[i]<0∨(g.nodes.length:Int)≤m.nodes[i] then 6 else if tT t p.nodes[i] (g.nodes[m.nodes[i].toNat]?.getD 0)=true then 0 else 13):=by simp only [FS,aA h5,aA hn,aD]
   have hbp:=hG.tp _ (aC hn)
   have Y:=wa Y (wa h5 (wa (aA h5) (aA hn)))
   refine dV (fun h7=>?_) fun h7=>?_
   ·rw [if_pos (by omega)] at hNE
    rw [hNE,if_pos (by omega)] at hst
    rw [hst,if_pos (by omega)] at hM
    exact wv (h:=hQ _ _ (by simp [go_sem,hM]))
   ·have hkb:m.nodes[i].toNat<g.nodes.length:=by omega
    rw [if_neg (by omega),aA hkb,aD] at hNE
    have hbg:=hG.tg _ (aC hkb)
    have hrw:=Fr hbp
    have hrb:=Ie hv hbp hbg
    have Y:=wa Y (wa (aA hkb) (wa hrw hrb))
    refine dV (fun h9=>?_) fun h9=>?_
    ·rw [if_neg (by simpa using h9)] at hNE
     rw [hNE,if_pos (by omega)] at hst
     rw [hst,if_pos (by omega)] at hM
     exact wv (h:=hQ _ _ (by simp [go_sem,hM]))
    ·rw [if_pos (by simpa using h9)] at hNE
     rw [hNE,if_neg (by omega)] at hst
     exact wo (h:=wx hI0 (i+1) ⟨wg,wj,(by exact hst.symm)⟩)
  ·have hN0:bI (FS t p g m) 0 p.nodes.length=0:=by rw [← hF,show p.nodes.length - i=0 by omega];rfl
   rw [hN0,if_neg (by omega)] at hM
   refine wo (h:=bB (fun k e H=>(e 4=.adr t.c∧e 5=.adr p.c∧e 6=.adr g.c∧e 7=.adr m.c∧e 9=.list (oP t t.nodes.length)∧e 69=dLI m.edges∧e 70=dI m.edges.length∧e 71=dI k)∧(k≤m.edges.length)∧(bI (gB p g m) k (p.edges.length - k)=bI (gB p g m) 0 p.edges.length)) (fun k=>m.edges.length - k) 0 ⟨wg,wi,(by rfl)⟩ fun I2 hI2 k e H hi2=>?_)
   obtain ⟨E2,hk,hE⟩:=hi2
   have Y:=wa Y E2
   refine cT (fun h13=>?_) fun h13=>?_
   ·have hn:k<p.edges.length:=by omega
    have hst:=dQ (gB p g m) hn
    rw [hE] at hst
    have hx:=hia _ (aC hn)
    have hxf:p.edges[k].from_.toNat<m.nodes.length:=by omega
    have hxt:p.edges[k].to_.toNat<m.nodes.length:=by omega
    have hEE:gB p g m k=(if m.edges[k]<0∨(g.edges.length:Int)≤m.edges[k] then 6 else if p.edges[k].type≠(g.edges[m.edges[k].toNat]?.getD bQ).type then 13 else if m.nodes[p.edges[k].from_.toNat]≠(g.edges[m.edges[k].toNat]?.getD bQ).from_∨m.nodes[p.edges[k].to_.toNat]≠(g.edges[m.edges[k].toNat]?.getD bQ).to_ then 11 else 0):=by
     simp only [gB,aA h13,aA hn,aD,aA hxf,aA hxt]
    have Y:=wa Y (wa h13 (wa (aA h13) (wa (aA hn) (wa (aA hxf) (aA hxt)))))
    refine dV (fun h15=>?_) fun h15=>?_
    ·rw [if_pos (by omega)] at hEE
     rw [hEE,if_pos (by omega)] at hst
     rw [hst,if_pos (by omega)] at hM
     exact wv (h:=hQ _ _ (by simp [go_sem,hM]))
    ·have hkb:m.edges[k].toNat<g.edges.length:=by omega
     rw [if_neg (by omega),aA hkb,aD] at hEE
     have Y:=wa Y (aA hkb)
     refine dV (fun h18=>?_) fun h18=>?_
     ·rw [if_pos h18] at hEE
      rw [hEE,if_pos (by omega)] at hst
      rw [hst,if_pos (by omega)] at hM
      exact wv (h:=hQ _ _ (by simp [go_sem,hM]))
     ·rw [if_neg (by simpa using h18)] at hEE
      refine dV (fun h20=>?_) fun h20=>?_
      ·rw [if_pos (by omega)] at hEE
       rw [hEE,if_pos (by omega)] at hst
       rw [hst,if_pos (by omega)] at hM
       exact wv (h:=hQ _ _ (by simp [go_sem,hM]))
      ·rw [if_neg (by omega)] at hEE
       rw [hEE,if_neg (by omega)] at hst
       exact wo (h:=wx hI2 (k+1) ⟨wg,wj,(by exact hst.symm)⟩)
   ·have hE0:bI (gB p g m) 0 p.edges.length=0:=by rw [← hE,show p.edges.length - k=0 by omega];rfl
    rw [hE0,if_neg (by omega)] at hM
    rw [if_neg (by simp)] at hM
    exact wv (h:=hQ _ _ (by simp [go_sem,hM]))
/-! ### the finder -/
theorem EC (i:Nat):Pure Tryz.prog 420 [.nil,dI i] (dI (-1)):=by
 refine Tz.pK ⟨fun _=>false,fun _=>[]⟩ Tryz.func420 rfl (fun Q hQ=>?_)
 have Y:=trivial
 exact wv (h:=hQ _ _ wy)
theorem GJ (l:List Int){i:Nat}(h:i<l.length):Pure Tryz.prog 420 [dLI l,dI i] (dI l[i]):=by
 have hne:l≠[]:=fun e=>by rw [e] at h;simp at h
 refine Tz.pK ⟨fun _=>false,fun _=>[]⟩ Tryz.func420 rfl (fun Q hQ=>?_)
 have Y:=wa (aA h) hne
 exact wo (h:=hQ _ _ wy)
def GivD (d:D)(l:List Int)(n:Nat):Prop:=d.cl=true∧∀ i,i<n→Pure Tryz.prog 420 [d,dI i] (dI (l[i]?.getD (-1)))
theorem GivD.nil (n:Nat):GivD .nil (List.replicate n (-1)) n:=⟨rfl,fun i hi=>by
 have:=EC i
 rw [rZ,if_pos hi];exact this⟩
theorem GivD.list (l:List Int):GivD (dLI l) l l.length:=⟨mP l,fun i hi=>by rw [aA hi];exact GJ l hi⟩
theorem GI (k n:Int):Pure Tryz.prog 460 [dI k,.adr [dI n]] (.bool (decide (k < -1)||decide (n≤k))):=by
 refine Tz.pK ⟨fun _=>false,fun _=>[]⟩ Tryz.func460 rfl (fun Q hQ=>?_)
 have Y:=trivial
 exact wo (h:=hQ _ _ wy)
theorem Ga {f:Nat→Int}{c:Int}(h:∀ j,f j=0∨f j=c):∀ n k,bI f k n=0∨bI f k n=c
 | 0,k=>.inl rfl
 | n+1,k=>by
  unfold bI
  split
  ·rename_i h1;exact .inr ((h k).resolve_left h1)
  ·exact Ga h n (k+1)
theorem IO (l:List Int)(n:Int):k9 l n=if (l.any fun k=>decide (k < -1)||decide (n≤k))=true then 6 else 0:=by
 by_cases h:(l.any fun k=>decide (k < -1)||decide (n≤k))=true
 ·rw [if_pos h]
  rcases Ga (f:=zP n l) (c:=6) (fun j=>by unfold zP;split<;>simp) l.length 0 with h0|h0
  ·obtain ⟨x,hx,hk⟩:=aU.1 h
   obtain ⟨i,hi,rfl⟩:=aN hx
   have:=dP _ _ h0 i (by omega) (by omega)
   unfold zP at this
   rw [aA hi,aD] at this
   simp only [b6,decide_eq_true_eq] at hk
   rw [if_pos hk] at this;cases this
  ·exact h0
 ·rw [if_neg h]
  refine nJ _ _ fun j _ hj=>?_
  unfold zP
  rw [if_neg]
  intro hk
  have hj':j<l.length:=by omega
  rw [aA hj',aD] at hk
  exact h (aU.2 ⟨_,aC hj',by simpa using hk⟩)
theorem Bl (l:List Int)(n:Int):Pure Tryz.prog 458 [dLI l,dI n] (dI (k9 l n)):=by
 refine Tz.pK ⟨fun _=>false,fun _=>[]⟩ Tryz.func458 rfl (fun Q hQ=>?_)
 have Y:=trivial
 refine wv (h:=aB (fB l 460 [.adr [dI n]] (fun k=>decide (k < -1)||decide (n≤k)) (by simp [go_sem]) (by simp [go_sem]) (fun k _=>GI k n)) wl ?_)
 refine cT (fun h1=>?_) fun h1=>?_
 ·have hO:k9 l n=6:=by rw [IO,if_pos (by simpa using h1)]
  exact wv (h:=hQ _ _ (by simp [go_sem,hO]))
 ·have hO:k9 l n=0:=by rw [IO,if_neg (by simpa using h1)]
  exact wv (h:=hQ _ _ (by simp [go_sem,hO]))
def Srch.cellP (S:Srch)(most:Int)(pn pe ns es ou:D):List D:=[dLI S.p.nodes,.list (S.p.edges.map Edge.c),dLI S.g.nodes,.list (S.g.edges.map Edge.c),.list (oP S.t S.t.nodes.length),pn,pe,.bool S.inj,dI most,ns,es,ou]
def Cf (S:Srch)(l:List Int)(i k:Nat):Bool:=vS S.pe i k&&vP S l i k
theorem Bm (S:Srch)(most:Int)(pn pe es ou:D)(hpn:pn.cl=true)(hes:es.cl=true)(hou:ou.cl=true)(l:List Int)(i k:Nat)(hi:i<S.p.edges.length)(hk:k<S.g.edges.length)
  (hpe:GivD pe S.pe S.p.edges.length) (hf0:0≤S.p.edges[i].from_) (hf:S.p.edges[i].from_.toNat<l.length) (hf0':0≤S.p.edges[i].to_) (hft:S.p.edges[i].to_.toNat<l.length) :
  Pure Tryz.prog 422 [.adr (S.cellP most pn pe (dLI l) es ou),dI i,dI k] (.bool (Cf S l i k)):=by
 have hpc:=hpe.1
 obtain ⟨v,hv⟩:∃ v,v=S.pe[i]?.getD (-1):=⟨_,rfl⟩
 have hgv:=hpe.2 i hi
 rw [← hv] at hgv
 have hFr:vS S.pe i k=(decide (v<0)||decide (v=(k:Int))):=by unfold vS;rw [← hv]
 have hH:vP S l i k=(decide (S.g.edges[k].type=S.p.edges[i].type)&&(decide (S.g.edges[k].from_=l[S.p.edges[i].from_.toNat])&&decide (S.g.edges[k].to_=l[S.p.edges[i].to_.toNat]))):=by
  simp only [vP,QN,N9,aA hk,aA hi,aD,aA hf,aA hft]
  simp
 refine Tz.pK ⟨fun t=>t==7,fun _=>[]⟩ Tryz.func422 rfl (fun Q hQ=>?_)
 have Y:=wa @Srch.cellP.eq_1 (wa (aA hi) (wa (aA hk) (wa (aA hf) (wa (aA hft) (wa @Edge.c.eq_1 (wa hpn (wa hes (wa hou hpc))))))))
 refine wo (h:=aB (hgv) wl ?_)
 refine dV (fun h3=>?_) fun h3=>?_
 ·have hE:Cf S l i k=false:=by unfold Cf;rw [hFr,show decide (v<0)=false by simp;omega,show decide (v=(k:Int))=false by simp;omega];rfl
  exact wv (h:=hQ _ _ (by simp [go_sem,hE]))
 ·have hE:Cf S l i k=vP S l i k:=by
   unfold Cf;rw [hFr]
   rcases Int.lt_or_le v 0 with h|h
   ·simp [h]
   ·simp [h3 h]
  exact wo (h:=hQ _ _ (by simp [go_sem,hE,hH,zX,uR]))
theorem B8 (S:Srch)(hp:graphF S.p=0)(hg:graphF S.g=0)(most:Int)(pn pe es ou:D)(hpn:pn.cl=true)(hes:es.cl=true)(hou:ou.cl=true)(l:List Int)(hpe:GivD pe S.pe S.p.edges.length) :
  Pure Tryz.prog 421 [.adr (S.cellP most pn pe (dLI l) es ou)] (.bool (qZ S l)):=by
 have hpc:=hpe.1
 have hpi:=(dF hp).2
 have hla:=bJ hp
 have hlb:=bJ hg
 have hcl:D.clL (S.cellP most pn pe (dLI l) es ou)=true:=by simp [go_sem,Srch.cellP,D.clL,hpn,hes,hou,hpc]
 refine Tz.pK ⟨fun t=>t==5,fun _=>[]⟩ Tryz.func421 rfl (fun Q hQ=>?_)
 have Y:=wa @Srch.cellP.eq_1 (wa hpn (wa hes (wa hou hpc)))
 refine wo (h:=bB (fun i e H=>(e 0=.adr (S.cellP most pn pe (dLI l) es ou)∧e 3=dI ((l.length:Int) - 1)∧e 18=.list (S.p.edges.map Edge.c)∧e 19=dI S.p.edges.length∧e 20=dI i)∧(i≤S.p.edges.length)∧(∀ j,j<i→Dq S l j=true)) (fun i=>S.p.edges.length - i) 0 ⟨wg,wi,(by (intro j hj;omega))⟩ fun I0 hI0 i e H hi0=>?_)
 obtain ⟨E0,hi,hK⟩:=hi0
 have Y:=wa Y E0
 refine cT (fun h3=>?_) fun h3=>?_
 ·have hxi:=(hpi _ (aC h3)).2
  have hKe:Dq S l i=(decide (max S.p.edges[i].from_ S.p.edges[i].to_≠(l.length:Int) - 1)||(List.range S.g.edges.length).any (Cf S l i)):=by
   unfold Dq;rw [aA h3,aD];rfl
  have Y:=wa Y (wa h3 (wa (aA h3) @Edge.c.eq_1))
  refine dV (fun h5=>?_) fun h5=>?_
  ·have hKi:Dq S l i=true:=by rw [hKe];simp;omega
   exact wo (h:=wx hI0 (i+1) ⟨wg,wj,(by (intro j hj;rcases bN j i with hji|hji;exact hK j hji;(obtain rfl:j=i:=(by omega);exact hKi)))⟩)
  ·have hf:S.p.edges[i].from_.toNat<l.length:=by omega
   have hft:S.p.edges[i].to_.toNat<l.length:=by omega
   have hx0:=hxi.1.1
   have hx1:=hxi.2.1
   have h2:=h3
   have Y:=wa Y h5
   refine wo (h:=bB (fun k e H=>(e 0=.adr (S.cellP most pn pe (dLI l) es ou)∧e 3=dI ((l.length:Int) - 1)∧e 18=.list (S.p.edges.map Edge.c)∧e 19=dI S.p.edges.length∧e 20=dI i∧e 4=dI i∧e 6=.bool false∧e 37=dI S.g.edges.length∧e 38=dI k)∧(k≤S.g.edges.length)∧((List.range k).any (Cf S l i)=false)) (fun k=>S.g.edges.length - k) 0 ⟨wg,wi,(by rfl)⟩ fun I2 hI2 k e H hi2=>?_)
   obtain ⟨E2,hk,hb⟩:=hi2
   have Y:=wa Y E2
   refine cT (fun h8=>?_) fun h8=>?_
   ·obtain ⟨fb,hfb0⟩:∃ b,b=Cf S l i k:=⟨_,rfl⟩
    have Y:=wa Y h8
    refine wv (h:=aB (Bm S most pn pe es ou hpn hes hou l i k h2 h8 hpe hx0 hf hx1 hft) wl ?_)
    refine cT (fun h10=>?_) fun h10=>?_
    ·have hKi:Dq S l i=true:=by
      rw [hKe,b6];right
      exact aU.2 ⟨k,by simpa using h8,by simpa using h10⟩
     exact wo (h:=wx hI0 (i+1) ⟨wg,wj,(by (intro j hj;rcases bN j i with hji|hji;exact hK j hji;(obtain rfl:j=i:=(by omega);exact hKi)))⟩)
    ·have hfb:Cf S l i k=false:=by simpa using h10
     have Y:=wa Y h10
     exact wo (h:=wx hI2 (k+1) ⟨wg,wj,(by (rw [v7,hb,hfb];rfl))⟩)
   ·have hb0:(List.range S.g.edges.length).any (Cf S l i)=false:=by rw [show S.g.edges.length=k by omega];exact hb
    have hE:qZ S l=false:=by
     simp only [qZ,CE,bZ]
     exact ⟨i,h3,by rw [hKe,hb0];simp;omega⟩
    exact wo (h:=hQ _ _ (by simp [go_sem,hE]))
 ·have hE:qZ S l=true:=by
   simp only [qZ,bV,bZ]
   exact fun j hj=>hK j (by omega)
  exact wv (h:=hQ _ _ (by simp [go_sem,hE]))
def Gc (S:Srch)(N:Nat)(ns es:List Int)(out:List Part):List Part:=if ns.length<S.p.nodes.length then LC S N (S.p.nodes.length - ns.length) ns out else Ez S N ns (S.p.edges.length - es.length) es out
theorem NJ (S:Srch){N:Nat}(d:Nat)(l:List Int){ou:List Part}(h:N≤ou.length):LC S N d l ou=ou:=by cases d<;>simp only [LC,if_pos h]
theorem DU (S:Srch){N:Nat}(ns es:List Int){ou:List Part}(h:N≤ou.length):Gc S N ns es ou=ou:=by
 unfold Gc;split;exact NJ S _ _ h;exact CT _ _ _ h
theorem DT (S:Srch)(N:Nat)(ns:List Int)(ou:List Part):Gc S N ns [] ou=LC S N (S.p.nodes.length - ns.length) ns ou:=by
 unfold Gc
 split
 ·rfl
 ·rename_i h
  rw [show S.p.nodes.length - ns.length=0 by omega]
  simp only [LC,nZ,Nat.sub_zero]
  split
  ·rename_i h2;exact CT _ _ _ h2
  ·rfl
structure FdS (f a b o:Nat) (S:Srch) (N:Nat) (pn pe:D) (ns es:List Int) (out:List Part) (H:AHeap):Prop where
 bf:H.get f=some ⟨406,12,[S.cellP N pn pe (.own a ns.length) (.own b es.length) (.own o out.length)],false⟩
 ba:H.get a=some ⟨3,1,ns.map cI,false⟩
 bb:H.get b=some ⟨3,1,es.map cI,false⟩
 bo:H.get o=some ⟨56,2,out.map Part.c,false⟩
 le:out.length≤N
 nf:f<H.next∧a<H.next∧b<H.next∧o<H.next
 d:(f≠a∧f≠b∧f≠o)∧(a≠b∧a≠o)∧b≠o
@[go_sem] theorem QP (H:AHeap)(i:Nat):(H.drop i).next=H.next:=rfl
@[go_sem] theorem RH (H:AHeap)(i j:Nat):(H.drop i).get j=if j=i then none else H.get j:=rfl
theorem r7 {H:AHeap}{d:D}(h:d.cl=true):eB H d=d:=by cases d<;>first|rfl|simp [D.cl] at h
def OB (S:Srch)(N:Nat)(pn pe:D)(f o m:Nat):Prop :=
  ∀ (ns es:List Int) (out:List Part) (a b:Nat) (G:AHeap) (Q:D→AHeap→Prop),(S.p.nodes.length - ns.length)+(S.p.edges.length - es.length)=m→ns.length≤S.p.nodes.length→es.length≤S.p.edges.length→(ns.length<S.p.nodes.length→es=[])→FdS f a b o S N pn pe ns es out G →
  (∀ a' b' H',FdS f a' b' o S N pn pe ns es (Gc S N ns es out) H'→Q (.tup []) H')→ACalls Tryz.prog 377 [.ptr f 1 0 0] G Q
end Go.Abs
end
