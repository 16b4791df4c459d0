/- Layers 12 and 13: complement.Of, Jointly. · All, Extend and  -/
import Derived.Test.YtjfaalokjnmdoaaGreatZaF
import Derived.Test.YtjfaalokjnmdoaaGreatZaA
import Derived.Test.YtjfaalokjnmdoaaGreatZaN
set_option linter.unusedVariables false
set_option linter.unusedSimpArgs false
section
set_option maxRecDepth 100000
set_option maxHeartbeats 4000000
open Go Go.Proofs
namespace Go.Abs
def gluC (l g:Graph)(keep m:Part):List D:=[dLI l.nodes,.list (l.edges.map Edge.c),dLI g.nodes,.list (g.edges.map Edge.c),dLI keep.nodes,dLI keep.edges,dLI m.nodes,dLI m.edges]
theorem A2 (l g:Graph)(keep m:Part)(hk:keep.nodes.length≤1000000):Pure Tryz.prog 228 [.agg (gluC l g keep m)] (dI (compG l g keep m)):=by
 refine Tz.pK ⟨fun _=>false,fun _=>[]⟩ Tryz.func228 rfl (fun Q hQ=>?_)
 have Y:=@gluC.eq_1
 refine wv (h:=aB (mL l g m) wl ?_)
 refine cT (fun h2=>?_) fun h2=>?_
 ·have Y:=wa Y (wa h2 @compG.eq_1)
  exact wv (h:=hQ _ _ wy)
 ·refine wv (h:=aB (uZ l keep hk) wl ?_)
  have Y:=wa Y (wa h2 @compG.eq_1)
  exact wv (h:=hQ _ _ wy)
theorem yN (l g:Graph)(keep m:Part)(hn:m.nodes.length≤1000000):Pure Tryz.prog 326 [.agg (gluC l g keep m)] (dLI (iW m.nodes keep.nodes)):=by
 refine Tz.pK ⟨fun t=>t==3,fun _=>[]⟩ Tryz.func326 rfl (fun Q hQ=>?_)
 have Y:=@gluC.eq_1
 refine wo (h:=bB (fun i e H=>∃ xs:List Int,(e 1=.adr (gluC l g keep m)∧e 8=dLI m.nodes∧e 9=dI m.nodes.length∧e 3=.own 0 xs.length∧e 10=dI i)∧(H.get 0=some ⟨3,1,xs.map cI,false⟩)∧(0<H.next)∧(i≤m.nodes.length)∧(xs.length≤i)∧(xs=((List.range i).filter fun (b:Nat)=>!mem keep.nodes b).map (fun i=>m.nodes[i]?.getD 0))) (fun i=>m.nodes.length - i) 0 ⟨([]),wg,wn,wn,wi,(by simp),(by rfl)⟩ fun I0 hI0 i e H hi0=>?_)
 obtain ⟨xs,E0,g0_0,n0_0,hi,hl,hx⟩:=hi0
 have Y:=wa Y (wa E0 (wa g0_0 (bY n0_0)))
 refine cT (fun h3=>?_) fun h3=>?_
 ·have Y:=wa Y (wa h3 (aA h3))
  refine wo (h:=aB (fK keep.nodes i) wl ?_)
  refine dV (fun h5=>?_) fun h5=>?_
  ·have Y:=wa Y h5
   exact wo (h:=wx hI0 (i+1) ⟨(xs++(if (!mem keep.nodes i)=true then [m.nodes[i]] else [])),wg,wn,wn,wj,(by (rw [aT];split<;>simp<;>omega)),(by (rw [nI _ _ h3,← hx]))⟩)
  ·have Y:=wa Y h5
   exact wo (h:=wx hI0 (i+1) ⟨(xs++(if (!mem keep.nodes i)=true then [m.nodes[i]] else [])),wg,wn,wn,wj,(by (rw [aT];split<;>simp<;>omega)),(by (rw [nI _ _ h3,← hx]))⟩)
 ·refine wv (h:=?_)
  have hX:iW m.nodes keep.nodes=xs:=by rw [hx,show i=m.nodes.length by omega];rfl
  exact hQ _ _ (by simp [go_sem,Y,hX])
theorem w6 (l g:Graph)(keep m:Part)(hn:m.nodes.length≤1000000)(hg:g.edges.length≤1000000):Pure Tryz.prog 230 [.agg (gluC l g keep m)] (dLI (xP g m.edges (iW m.nodes keep.nodes))):=by
 obtain ⟨go,hgo⟩:∃ go,iW m.nodes keep.nodes=go:=⟨_,rfl⟩
 refine Tz.pK ⟨fun t=>t==6||t==4,fun _=>[]⟩ Tryz.func230 rfl (fun Q hQ=>?_)
 have Y:=wa hgo @gluC.eq_1
 refine wv (h:=aB ((by have:=yN l g keep m hn;simp only [gluC] at this;exact this)) wl ?_)
 refine wo (h:=bB (fun k e H=>∃ xs:List Int,(e 1=.adr (gluC l g keep m)∧e 3=dLI go∧e 11=.list (g.edges.map Edge.c)∧e 12=dI g.edges.length∧e 4=.own 0 xs.length∧e 13=dI k)∧(H.get 0=some ⟨3,1,xs.map cI,false⟩)∧(0<H.next)∧(k≤g.edges.length)∧(xs.length≤k)∧(xs=((List.range k).filter (vW g m.edges go)).map (fun (b:Nat)=>(b:Int)))) (fun k=>g.edges.length - k) 0 ⟨([]),wg,wn,wn,wi,(by simp),(by rfl)⟩ fun I0 hI0 k e H hi0=>?_)
 obtain ⟨xs,E0,g0_0,n0_0,hi,hl,hx⟩:=hi0
 have Y:=wa Y (wa E0 (wa g0_0 (bY n0_0)))
 refine cT (fun h4=>?_) fun h4=>?_
 ·have hdb:=Js (me:=m.edges) (gone:=go) h4
  have c1:=fK go g.edges[k].from_
  have c2:=fK go g.edges[k].to_
  have Y:=wa Y (wa h4 (wa (aA h4) (wa hdb @Edge.c.eq_1)))
  refine wo (h:=aB (fK m.edges k) wl ?_)
  refine wo (h:=aK (fun hg=>c1) (fun hg=>wl) ?_)
  refine wo (h:=aK (fun hg=>c2) (fun hg=>wl) ?_)
  refine dV (fun h6=>?_) fun h6=>?_
  ·have Y:=wa Y h6
   exact wo (h:=wx hI0 (k+1) ⟨(xs++(if vW g m.edges go k=true then [(k:Int)] else [])),wg,wn,wn,wj,(by (rw [aT];split<;>simp<;>omega)),(by (rw [cH,← hx]))⟩)
  ·have Y:=wa Y h6
   exact wo (h:=wx hI0 (k+1) ⟨(xs++(if vW g m.edges go k=true then [(k:Int)] else [])),wg,wn,wn,wj,(by (rw [aT];split<;>simp<;>omega)),(by (rw [cH,← hx]))⟩)
 ·refine wv (h:=?_)
  have hX:xP g m.edges go=xs:=by rw [hx,show k=g.edges.length by omega];rfl
  exact hQ _ _ (by simp [go_sem,Y,hX])
theorem uQ (l g:Graph)(keep m:Part)(h1:m.nodes.length≤1000)(h2:m.edges.length≤1000):Pure Tryz.prog 229 [.agg (gluC l g keep m)] (.tup [.list ((pY m.nodes keep.nodes).map cPr),.list ((pY m.edges keep.edges).map cPr)]):=by
 refine Tz.pK ⟨fun _=>false,fun _=>[]⟩ Tryz.func229 rfl (fun Q hQ=>?_)
 have Y:=@gluC.eq_1
 refine wv (h:=aI (sW m.nodes keep.nodes h1) wl ?_)
 refine wv (h:=aI (sW m.edges keep.edges h2) wl ?_)
 exact wv (h:=hQ _ _ wy)
theorem wI {a b:Graph}{m:Part}(h:dS a b m=0):(∀ x∈m.nodes,0≤x∧x<b.nodes.length)∧∀ x∈m.edges,0≤x∧x<b.edges.length:=by
 obtain ⟨_,_,h3,h4⟩:=lR h
 have hM:dS a b m=(if bI (jE a b m) 0 a.nodes.length≠0 then bI (jE a b m) 0 a.nodes.length else bI (gB a b m) 0 a.edges.length):=by
  obtain ⟨g1,g2,_,_⟩:=lR h
  unfold dS;rw [if_neg (by simp [g1]),if_neg (by simp [g2]),if_neg (by omega)]
 rw [hM] at h
 split at h
 ·rename_i h5;exact absurd h h5
 ·rename_i h5
  constructor
  ·intro x hx
   obtain ⟨i,hi,rfl⟩:=aN hx
   have:=dP _ _ (show bI (jE a b m) 0 a.nodes.length=0 by omega) i (by omega) (by omega)
   unfold jE at this
   rw [aA hi] at this
   simp only [aD] at this
   split at this<;>omega
  ·intro x hx
   obtain ⟨i,hi,rfl⟩:=aN hx
   have:=dP _ _ h i (by omega) (by omega)
   unfold gB at this
   rw [aA hi] at this
   simp only [aD] at this
   split at this<;>omega
theorem E9 (l g:Graph)(keep m:Part)(hk:keep.nodes.length≤1000000)(hm1:m.nodes.length≤1000)(hm2:m.edges.length≤1000)(hg1:g.nodes.length≤1000000)(hg2:g.edges.length≤1000000):Pure Tryz.prog 136 [l.d,g.d,keep.d,m.d] (.tup [(p5 l g keep m).d,dI (oU l g keep m)]):=by
 have hd1:=Aa (keep:=keep.nodes) hm1
 have hd2:=Aa (keep:=keep.edges) hm2
 refine Tz.pK ⟨fun t=>t==8||t==10,fun _=>[]⟩ Tryz.func136 rfl (fun Q hQ=>?_)
 have Y:=trivial
 refine wv (h:=aB ((by have:=A2 l g keep m hk;simp only [gluC] at this;exact this)) wl ?_)
 refine cT (fun h3=>?_) fun h3=>?_
 ·have hC:oU l g keep m=compG l g keep m:=if_pos h3
  have hZ:p5 l g keep m=⟨[],[]⟩:=if_neg (by rw [hC];exact h3)
  exact wv (h:=hQ _ _ (by simp [go_sem,hC,hZ]))
 ·have hC:oU l g keep m=if 0<(pY m.nodes keep.nodes).length+(pY m.edges keep.edges).length then 15 else if 0<(xP g m.edges (iW m.nodes keep.nodes)).length then 14 else 0:=if_neg (by rw [h3];simp)
  have hin:(∀ x∈m.nodes,0≤x∧x<g.nodes.length)∧∀ x∈m.edges,0≤x∧x<g.edges.length:=wI (a:=l) (by unfold compG at h3;by_cases hz:dS l g m=0;exact hz;rw [if_pos hz] at h3;exact h3)
  refine wv (h:=aB ((by have:=uQ l g keep m hm1 hm2;simp only [gluC] at this;exact this)) wl ?_)
  refine dV (fun h6=>?_) fun h6=>?_
  ·rw [if_pos (by omega)] at hC
   have hZ:p5 l g keep m=⟨[],[]⟩:=if_neg (by rw [hC];simp)
   exact wv (h:=hQ _ _ (by simp [go_sem,hC,hZ]))
  ·rw [if_neg (by first|omega|simp [h6])] at hC
   refine wo (h:=aB ((by have:=w6 l g keep m (by omega) hg2;simp only [gluC] at this;exact this)) wl ?_)
   refine dV (fun h8=>?_) fun h8=>?_
   ·rw [if_pos (by omega)] at hC
    have hZ:p5 l g keep m=⟨[],[]⟩:=if_neg (by rw [hC];simp)
    exact wv (h:=hQ _ _ (by simp [go_sem,hC,hZ]))
   ·rw [if_neg (by first|omega|simp [h8])] at hC
    have hZ:p5 l g keep m=⟨b5 (iW m.nodes keep.nodes) g.nodes.length,b5 (iW m.edges keep.edges) g.edges.length⟩:=if_pos hC
    refine wo (h:=aI (uE g.nodes.length hg1 m.nodes keep.nodes (by omega) hin.1) wl ?_)
    refine wo (h:=aI (uE g.edges.length hg2 m.edges keep.edges (by omega) hin.2) wl ?_)
    exact wo (h:=hQ _ _ (by simp [go_sem,hC,hZ]))
@[go_sem] theorem Rs (l:List Part):D.clLL (l.map Part.c)=true:=sF l
theorem RY (t:Types)(p g:Graph)(hG:G17 t p g)(pn pe:List Int)(h1:pn.length=p.nodes.length)(h2:pe.length=p.edges.length)(inj:Bool) :
  Pure Tryz.prog 244 [t.d,p.d,g.d,.agg [dLI pn,dLI pe],.bool inj,dI 5000] (.list (((tV ⟨t,p,g,pn,pe,inj⟩).take 5001).map Part.c)) :=
 Mv ⟨t,p,g,pn,pe,inj⟩ hG h1 h2 5000 (by omega)
theorem NE (t:Types)(p g:Graph)(hG:G17 t p g)(pn pe:List Int)(h1:pn.length=p.nodes.length)(h2:pe.length=p.edges.length)(inj:Bool){L:List Part}(hL:L=(tV ⟨t,p,g,pn,pe,inj⟩).take 5001) :
  Pure Tryz.prog 244 [t.d,p.d,g.d,.agg [dLI pn,dLI pe],.bool inj,dI 5000] (.list (L.map Part.c)):=hL ▸ RY t p g hG pn pe h1 h2 inj
theorem Qb (t:Types)(p g:Graph)(hG:G17 t p g)(inj:Bool){L:List Part}(hL:L=(tV ⟨t,p,g,List.replicate p.nodes.length (-1),List.replicate p.edges.length (-1),inj⟩).take 5001) :
  Pure Tryz.prog 244 [t.d,p.d,g.d,.agg [.list (List.replicate p.nodes.length [D.int .i64 (-1)]),.list (List.replicate p.edges.length [D.int .i64 (-1)])],.bool inj,dI 5000] (.list (L.map Part.c)):=by
 have:=NE t p g hG _ _ (by simp) (by simp) inj hL
 simpa only [dLI,List.map_replicate,cI] using this
theorem Mw (t:Types)(ht:t.ok)(p g:Graph)(inj:Bool):Pure Tryz.prog 147 [t.d,p.d,g.d,.bool inj] (.tup [.list ((jG t p g inj).1.map Part.c),dI (jG t p g inj).2]):=by
 refine Tz.pK ⟨fun _=>false,fun _=>[]⟩ Tryz.func147 rfl (fun Q hQ=>?_)
 have Y:=trivial
 refine wv (h:=aB (qV t ht p g) wl ?_)
 refine cT (fun h2=>?_) fun h2=>?_
 ·have hA:jG t p g inj=([],dY t p g):=by unfold jG;rw [if_pos (by simpa using h2)]
  exact wv (h:=hQ _ _ (by simp [go_sem,hA]))
 ·have hG:=kO (by simpa using h2)
  have hla:=bJ hG.gp
  obtain ⟨L,hL⟩:∃ L,L=(tV ⟨t,p,g,List.replicate p.nodes.length (-1),List.replicate p.edges.length (-1),inj⟩).take 5001:=⟨_,rfl⟩
  have hA:jG t p g inj=if 5000<L.length then ([],3) else (L,0):=by unfold jG;rw [if_neg (by simpa using h2)];unfold Ci;rw [← hL]
  refine wv (h:=aI (Kr p (by omega) (by omega)) wl ?_)
  refine wv (h:=aI (Qb t p g hG inj hL) wl ?_)
  refine dV (fun h5=>?_) fun h5=>?_
  ·rw [if_pos (by omega)] at hA
   exact wv (h:=hQ _ _ (by simp [go_sem,hA]))
  ·rw [if_neg (by omega)] at hA
   exact wv (h:=hQ _ _ (by simp [go_sem,hA]))
def zM (l:List Int)(rS n:Int):Int:=if (l.length:Int)≠rS then 20 else k9 l n
theorem zH (l:List Int)(rS n:Int):Pure Tryz.prog 434 [dLI l,dI rS,dI n] (dI (zM l rS n)):=by
 refine Tz.pK ⟨fun _=>false,fun _=>[]⟩ Tryz.func434 rfl (fun Q hQ=>?_)
 have Y:=trivial
 refine wv (h:=?_)
 repeat first|intro _|refine ⟨eP,?_⟩
 refine wq (fun h1=>?_) fun h1=>?_
 ·have hP:zM l rS n=20:=by unfold zM;rw [if_pos (by omega)]
  exact wv (h:=hQ _ _ (by simp [go_sem,hP]))
 ·have hP:zM l rS n=k9 l n:=by unfold zM;rw [if_neg (by omega)]
  refine wv (h:=bB (fun i e H=>(e 0=dLI l∧e 2=dI n∧e 7=dI i)∧(i≤l.length)∧(bI (zP n l) i (l.length - i)=k9 l n)) (fun i=>l.length - i) 0 ⟨wg,wi,(by rfl)⟩ fun I0 hI0 i e H hi0=>?_)
  obtain ⟨E0,hi,hF⟩:=hi0
  have Y:=wa Y E0
  refine wv (h:=?_)
  repeat first|intro _|refine ⟨eP,?_⟩
  refine wq (fun h4=>?_) fun h4=>?_
  ·have hst:=dQ (zP n l) h4
   rw [hF] at hst
   have hO:zP n l i=if l[i] < -1∨n≤l[i] then 6 else 0:=by simp only [zP,aA h4,aD]
   have Y:=wa Y (wa h4 (aA h4))
   refine wv (h:=?_)
   repeat first|intro _|refine ⟨eP,?_⟩
   refine wq (fun h6=>?_) fun h6=>?_
   ·rw [if_pos (by omega)] at hO
    rw [hO,if_pos (by omega)] at hst
    exact wv (h:=hQ _ _ (by simp [go_sem,hP,hst]))
   ·rw [if_neg (by omega)] at hO
    rw [hO,if_neg (by omega)] at hst
    exact wo (h:=wx hI0 (i+1) ⟨wg,wj,(by exact hst.symm)⟩)
  ·have hZ:k9 l n=0:=by rw [← hF,show l.length - i=0 by omega];rfl
   exact wv (h:=hQ _ _ (by simp [go_sem,hP,hZ]))
theorem G1 (t:Types)(ht:t.ok)(p g:Graph)(q:Part)(inj:Bool):Pure Tryz.prog 398 [t.d,p.d,g.d,q.d,.bool inj] (.tup [.list ((lC t p g q inj).1.map Part.c),dI (lC t p g q inj).2]):=by
 refine Tz.pK ⟨fun _=>false,fun _=>[]⟩ Tryz.func398 rfl (fun Q hQ=>?_)
 have Y:=trivial
 refine wv (h:=aB (qV t ht p g) wl ?_)
 refine cT (fun h2=>?_) fun h2=>?_
 ·have hA:lC t p g q inj=([],dY t p g):=by unfold lC;rw [if_pos (by simpa using h2)]
  exact wv (h:=hQ _ _ (by simp [go_sem,hA]))
 ·have hG:=kO (by simpa using h2)
  refine dV (fun h4=>?_) fun h4=>?_
  ·have hA:lC t p g q inj=([],20):=by unfold lC;rw [if_neg (by simpa using h2),if_pos (by omega)]
   exact wv (h:=hQ _ _ (by simp [go_sem,hA]))
  ·have hq:q.nodes.length=p.nodes.length∧q.edges.length=p.edges.length:=by omega
   have hP1:zM q.nodes p.nodes.length g.nodes.length=k9 q.nodes g.nodes.length:=by unfold zM;rw [if_neg (by omega)]
   have hP2:zM q.edges p.edges.length g.edges.length=k9 q.edges g.edges.length:=by unfold zM;rw [if_neg (by omega)]
   refine wo (h:=aB (zH q.nodes p.nodes.length g.nodes.length) wl ?_)
   refine dV (fun h7=>?_) fun h7=>?_
   ·have hA:lC t p g q inj=([],k9 q.nodes g.nodes.length):=by unfold lC;rw [if_neg (by simpa using h2),if_neg (by omega),if_pos (by rw [← hP1];exact h7)]
    exact wv (h:=hQ _ _ (by simp [go_sem,hA,hP1]))
   ·have h7':k9 q.nodes g.nodes.length=0:=by rw [← hP1];exact h7
    refine wo (h:=aB (zH q.edges p.edges.length g.edges.length) wl ?_)
    refine dV (fun h10=>?_) fun h10=>?_
    ·have hA:lC t p g q inj=([],k9 q.edges g.edges.length):=by unfold lC;rw [if_neg (by simpa using h2),if_neg (by omega),if_neg (by omega),if_pos (by rw [← hP2];exact h10)]
     exact wv (h:=hQ _ _ (by simp [go_sem,hA,hP2]))
    ·have h10':k9 q.edges g.edges.length=0:=by rw [← hP2];exact h10
     obtain ⟨L,hL⟩:∃ L,L=(tV ⟨t,p,g,q.nodes,q.edges,inj⟩).take 5001:=⟨_,rfl⟩
     have hA:lC t p g q inj=if 5000<L.length then ([],3) else (L,0):=by unfold lC;rw [if_neg (by simpa using h2),if_neg (by omega),if_neg (by omega),if_neg (by omega)];unfold Ci;rw [← hL]
     refine wv (h:=aB (NE t p g hG q.nodes q.edges hq.1 hq.2 inj hL) wl ?_)
     refine dV (fun h13=>?_) fun h13=>?_
     ·rw [if_pos (by omega)] at hA
      exact wv (h:=hQ _ _ (by simp [go_sem,hA]))
     ·rw [if_neg (by omega)] at hA
      exact wv (h:=hQ _ _ (by simp [go_sem,hA]))
/-! ### the instance of a pattern -/
def DF (g:Graph)(ms ns:List Int)(i:Nat):List Int:=(List.range i).foldl (fun acc k=>acc.set k (gN g (ms[k]?.getD 0))) ns
theorem vN (g:Graph)(ms ns:List Int):∀ i,(DF g ms ns i).length=ns.length
 | 0=>rfl
 | i+1=>by unfold DF;rw [dB,iS];exact vN g ms ns i
theorem FW (g:Graph)(ms ns:List Int)(i:Nat):DF g ms ns (i+1)=(DF g ms ns i).set i (gN g (ms[i]?.getD 0)):=by unfold DF;rw [dB]
theorem Jd (g:Graph)(ms ns:List Int)(k:Nat)(hk:k<ns.length):∀ i,(DF g ms ns i)[k]?=if k<i then some (gN g (ms[k]?.getD 0)) else ns[k]?
 | 0=>by simp [DF]
 | i+1=>by
  rw [FW,dE,vN,Jd g ms ns k hk i]
  by_cases h:i=k
  ·subst h;simp [hk]
  ·rw [if_neg h]
   by_cases h2:k<i
   ·rw [if_pos h2,if_pos (by omega)]
   ·rw [if_neg h2,if_neg (by omega)]
theorem NW {g:Graph}{ms ns:List Int}(h:ms.length=ns.length):DF g ms ns ns.length=ms.map (gN g):=by
 apply fH
 intro k
 by_cases hk:k<ns.length
 ·rw [Jd g ms ns k hk,if_pos hk,aQ,aA (by omega)];rfl
 ·rw [bM (by rw [vN];omega),bM (by simp;omega)]
def w3 (t:Types)(p g:Graph)(m:Part):Graph:=if eG t p g m false=0 then oB p g m else ⟨[],[]⟩
theorem wJ {t:Types}{p g:Graph}{m:Part}{inj:Bool}(h:gJ t p g m inj=0) :
  (m.nodes.length=p.nodes.length∧m.edges.length=p.edges.length)∧(∀ x∈m.nodes,0≤x∧x<g.nodes.length)∧(∀ x∈m.edges,0≤x∧x<g.edges.length):=by
 unfold gJ at h
 split at h
 ·cases h
 ·rename_i h1
  split at h
  ·exact absurd h (by assumption)
  ·rename_i h2
   split at h
   ·exact absurd h (by assumption)
   ·rename_i h3
    refine ⟨by omega,fun x hx=>?_,fun x hx=>?_⟩
    ·obtain ⟨k,hk,rfl⟩:=aN hx
     have:=dP _ _ (by simpa using h2) k (c8 _) (by omega)
     unfold FS at this
     rw [aA hk,aD] at this
     split at this
     ·cases this
     ·omega
    ·obtain ⟨k,hk,rfl⟩:=aN hx
     have:=dP _ _ (by simpa using h3) k (c8 _) (by omega)
     unfold gB at this
     rw [aA hk,aD] at this
     split at this
     ·cases this
     ·omega
theorem pH {t:Types}{p g:Graph}{m:Part}{inj:Bool}(h:eG t p g m inj=0):G17 t p g∧gJ t p g m inj=0:=by
 unfold eG at h
 split at h
 ·exact absurd h (by assumption)
 ·rename_i h1;exact ⟨kO (by simpa using h1),h⟩
theorem Df (t:Types)(ht:t.ok)(p g:Graph)(m:Part):Pure Tryz.prog 168 [t.d,p.d,g.d,m.d] (.tup [(w3 t p g m).d,dI (eG t p g m false)]):=by
 refine Tz.pK ⟨fun t=>t==8||t==11,fun _=>[]⟩ Tryz.func168 rfl (fun Q hQ=>?_)
 have Y:=trivial
 refine wv (h:=aB (vA t ht p g m false) wl ?_)
 refine cT (fun h2=>?_) fun h2=>?_
 ·have hI:w3 t p g m=⟨[],[]⟩:=by unfold w3;rw [if_neg (by simpa using h2)]
  exact wv (h:=hQ _ _ (by simp [go_sem,hI]))
 ·obtain ⟨hG,hM⟩:=pH (by simpa using h2)
  obtain ⟨⟨hl1,hl2⟩,hmn,hme⟩:=wJ hM
  have hla:=bJ hG.gp
  have hlb:=bJ hG.gg
  have hI:w3 t p g m=oB p g m:=by unfold w3;rw [if_pos (by simpa using h2)]
  refine wv (h:=?_)
  unfold eY;refine xH p (by omega) (by omega) _ _ (fun a b H1 ha hb hab han hbn hga hgb hfr hnn=>?_)
  have h0n:(0:Nat)<H1.next:=by omega
  have ha0:a≠0:=by simp [go_sem] at ha;omega
  have hb0:b≠0:=by simp [go_sem] at hb;omega
  have hg0:=hfr 0 (by simp [go_sem])
  simp [go_sem] at hg0
  have nx:=T5 H1.next
  have fr1:=And.intro (bY (show a<H1.next by omega)) (And.intro (bY (show b<H1.next by omega)) (bY (show 0<H1.next by omega)))
  have di2:=And.intro (cO (show 0≠b by omega)) (And.intro (cO (show 0≠a by omega)) (cO (show b≠a by omega)))
  have Y:=wa Y (wa fr1 (wa di2 (wa hga (wa hgb (wa hg0 nx)))))
  refine wv (h:=bB (fun i e H=>∃ c:Nat,(e 4=.adr t.c∧e 5=.adr p.c∧e 6=.adr g.c∧e 7=.adr m.c∧e 8=.ptr 0 1 0 0∧e 11=.ptr c 1 0 0∧e 12=dI i)∧(H.get 0=some ⟨37,2,[[.nil,.nil]],false⟩)∧(0<H.next)∧(H.get c=some ⟨37,2,[[.own a p.nodes.length,.own b p.edges.length]],false⟩)∧(c<H.next)∧(H.get a=some ⟨3,1,(DF g m.nodes p.nodes i).map cI,false⟩)∧(a<H.next)∧(H.get b=some ⟨101,3,p.edges.map Edge.c,false⟩)∧(b<H.next)∧(i≤p.nodes.length)∧(a<c∧b<c)∧((DF g m.nodes p.nodes i).length=p.nodes.length)) (fun i=>p.nodes.length - i) 0 ⟨H1.next,wg,wn,wn,wn,wn,(by (simp [go_sem,Y,DF])),wn,wn,wn,wi,(by omega),(by (exact vN _ _ _ _))⟩ fun I0 hI0 i e H hi0=>?_)
  obtain ⟨c,E0,g0_0,n0_0,gc_0,nc_0,ga_0,na_0,gb_0,nb_0,hi,hc,hrl⟩:=hi0
  have di3:=And.intro (cO (show 0≠c by omega)) (And.intro (cO (show 0≠b by omega)) (And.intro (cO (show 0≠a by omega)) (And.intro (cO (show c≠b by omega)) (And.intro (cO (show c≠a by omega)) (cO (show b≠a by omega))))))
  have Y:=wa Y (wa E0 (wa g0_0 (wa (bY n0_0) (wa gc_0 (wa (bY nc_0) (wa ga_0 (wa (bY na_0) (wa gb_0 (wa (bY nb_0) (wa hrl di3))))))))))
  refine qP (fun h6=>?_) fun h6=>?_
  ·have him:i<m.nodes.length:=by omega
   have hmi:=hmn _ (aC him)
   have hkg:m.nodes[i].toNat<g.nodes.length:=by omega
   have hgx:gN g (m.nodes[i]?.getD 0)=g.nodes[m.nodes[i].toNat]:=by rw [aA him,aD];simp [gN,aA hkg]
   have hgy:gN g m.nodes[i]=g.nodes[m.nodes[i].toNat]:=by simp [gN,aA hkg]
   have Y:=wa Y (wa h6 (wa (aA him) (aA hkg)))
   exact wp (h:=wx hI0 (i+1) ⟨c,wg,wn,wn,wn,wn,(by (simp [go_sem,Y,FW,cG,hgx,hgy,cI])),wn,wn,wn,wj,(by omega),(by (exact vN _ _ _ _))⟩)
  ·have hIe:i=p.nodes.length:=by omega
   have hE:=NW (g:=g) hl1
   rw [hIe] at hrl
   exact wv (h:=hQ _ _ (by simp [go_sem,Y,hI,oB,Graph.d,Graph.c,hIe,hE,dLI,hl1,h2]))
theorem I9 {α:Type}{f:α→Int}{m:Int}(h0:(0:Int)≠m)(h:∀ x,f x≠m):∀ l,fG f l≠m
 | []=>h0
 | x :: l=>by
  simp only [fG];split
  ·exact h x
  ·exact I9 h0 h l
theorem Mf (n:Int)(l:List Test):jD n l≠9:=by
 unfold jD
 split
 ·decide
 ·split
  ·decide
  ·refine I9 (by decide) (fun x=>?_) l
   unfold qR;split
   ·decide
   ·split<;>decide
structure PatOk (t:Types) (q:Pattern):Prop where
 vf:(cA t).2=0
 gg:graphF q.graph=0
 ty:gU t q.graph=true
 vars:0≤q.vars∧q.vars≤12
 few:q.slots.length≤10∧q.tests.length≤10
 slot:∀ s∈q.slots,fF t q s=0
 test:∀ x∈q.tests,qR q.vars x=0
theorem Ds {t:Types}{q:Pattern}(h:bT t q=9∨bT t q=0):PatOk t q:=by
 have hv:=iZ h
 have hne:=Fk t
 have hg9:graphF q.graph≠9:=by
  unfold graphF;repeat' split
  all_goals decide
 have ht9:=Mf q.vars q.tests
 unfold bT at h
 by_cases h1:(cA t).2=0
 ·rw [if_neg (by omega)] at h
  by_cases h2:graphF q.graph=0
  ·rw [if_neg (by omega)] at h
   by_cases h3:gU t q.graph=false
   ·rw [if_pos h3] at h;omega
   ·rw [if_neg h3] at h
    by_cases h4:inF q.vars 0 12=false
    ·rw [if_pos h4] at h;omega
    ·rw [if_neg h4] at h
     by_cases h5:10<q.slots.length∨10<q.tests.length
     ·rw [if_pos h5] at h;omega
     ·rw [if_neg h5] at h
      by_cases h6:fG (fF t q) q.slots=0
      ·rw [if_neg (by omega)] at h
       by_cases h7:jD q.vars q.tests=0
       ·refine ⟨h1,h2,by simpa using h3,hv,by omega,nF h6,nF ?_⟩
        unfold jD at h7
        split at h7
        ·cases h7
        ·split at h7
         ·cases h7
         ·exact h7
       ·rw [if_pos h7] at h;omega
      ·rw [if_pos h6] at h;omega
  ·rw [if_pos h2] at h;omega
 ·rw [if_pos h1] at h;omega
theorem HX {n:Int}{x:Term}(h:termB n x=true)(hn:0≤n):mV x n.toNat:=by
 simp only [termB,aP,decide_eq_true_eq] at h
 exact ⟨⟨by omega,by omega⟩,by omega,by omega⟩
theorem PatOk.tests {t:Types}{q:Pattern}(hp:PatOk t q):∀ x∈q.tests,El x q.vars.toNat:=fun x hx=>by
 have:=hp.test x hx
 unfold qR at this
 split at this
 ·cases this
 ·rename_i h1
  split at this
  ·rename_i h2
   rw [aP] at h2
   exact ⟨by omega,HX h2.1 hp.vars.1,HX h2.2 hp.vars.1⟩
  ·cases this
theorem PatOk.slots {t:Types}{q:Pattern}(hp:PatOk t q):∀ s∈q.slots,(0≤s.node∧s.node<q.graph.nodes.length)∧(0≤s.attr∧s.attr<(bK t (q.graph.nodes[s.node.toNat]?.getD 0)).length)∧mV s.term q.vars.toNat:=fun s hs=>by
 have:=hp.slot s hs
 have hv:=hp.vars
 unfold fF at this
 split at this
 ·rename_i h1
  simp only [aP,jO,decide_eq_true_eq,inF,Pattern.kind] at h1
  exact ⟨h1.1.1.1,⟨h1.1.1.2.1,of_decide_eq_true h1.1.1.2.2⟩,⟨by omega,by omega⟩,by omega,by omega⟩
 ·cases this
structure MOk (t:Types) (p g:Graph) (m:Part):Prop where
 len:m.nodes.length=p.nodes.length
 elen:m.edges.length=p.edges.length
 img:∀ (i:Nat) (hi:i<m.nodes.length) (hp:i<p.nodes.length),(0≤m.nodes[i]∧m.nodes[i]<g.nodes.length)∧tT t p.nodes[i] (g.nodes[m.nodes[i].toNat]?.getD 0)=true
 eimg:∀ (i:Nat) (hi:i<m.edges.length),0≤m.edges[i]∧m.edges[i]<g.edges.length
theorem pV {t:Types}{p g:Graph}{m:Part}{inj:Bool}(h:gJ t p g m inj=0):MOk t p g m:=by
 obtain ⟨⟨h1,h2⟩,h3,h4⟩:=wJ h
 refine ⟨h1,h2,fun i hi hp=>⟨h3 _ (aC hi),?_⟩,fun i hi=>h4 _ (aC hi)⟩
 unfold gJ at h
 rw [if_neg (by omega)] at h
 split at h
 ·exact absurd h (by assumption)
 ·rename_i h5
  have:=dP _ _ (by simpa using h5) i (c8 _) (by omega)
  unfold FS at this
  rw [aA hi,aA hp,aD,aD] at this
  split at this
  ·cases this
  ·split at this
   ·assumption
   ·cases this
theorem Jm {S:Srch}{ns:List Int}:∀ (d:Nat) (l es:List Int),es∈Ch S ns d l→es.length=l.length+d∧(∀ x∈l,0≤x∧x<S.g.edges.length→True)∧((∀ x∈l,0≤x∧x<S.g.edges.length)→∀ x∈es,0≤x∧x<S.g.edges.length)
 | 0,l,es,h=>by
  simp only [Ch,bL] at h;subst h
  exact ⟨rfl,fun _ _ _=>trivial,fun h=>h⟩
 | d+1,l,es,h=>by
  simp only [Ch,bR,fQ,bZ] at h
  obtain ⟨k,⟨hk,_⟩,hr⟩:=h
  obtain ⟨h1,_,h3⟩:=Jm d _ es hr
  refine ⟨by simp at h1;omega,fun _ _ _=>trivial,fun hl=>h3 fun x hx=>?_⟩
  rw [aW,bL] at hx
  rcases hx with hx|rfl
  ·exact hl x hx
  ·omega
theorem Jl {S:Srch}:∀ (d:Nat) (l:List Int) (m:Part),m∈z7 S d l→m.nodes.length=l.length+d∧∀ i,l.length≤i→i<l.length+d→∃ k:Nat,m.nodes[i]?=some (k:Int)∧k<S.g.nodes.length∧tT S.t (S.p.nodes[i]?.getD 0) (S.g.nodes[k]?.getD 0)=true
 | 0,l,m,h=>by
  simp only [z7,bG] at h
  obtain ⟨es,_,rfl⟩:=h
  exact ⟨rfl,fun i h1 h2=>by omega⟩
 | d+1,l,m,h=>by
  have h':=h
  simp only [z7,bR,fQ,bZ] at h
  obtain ⟨k,⟨hk,ho⟩,hr⟩:=h
  obtain ⟨h1,h2⟩:=Jl d _ m hr
  simp at h1 h2
  refine ⟨by omega,fun i h3 h4=>?_⟩
  by_cases hi:i=l.length
  ·subst hi
   obtain ⟨⟨r,hr2⟩,_⟩:=vU d _ m hr
   refine ⟨k,by rw [hr2];simp,hk,?_⟩
   simp only [FG,aP] at ho
   exact ho.2.2
  ·exact h2 i (by omega) (by omega)
theorem JN {S:Srch}{m:Part}(h:m∈tV S):MOk S.t S.p S.g m:=by
 unfold tV at h
 obtain ⟨h1,h2⟩:=Jl _ _ m h
 obtain ⟨_,h3⟩:=vU _ _ m h
 obtain ⟨h4,_,h5⟩:=Jm _ _ _ h3
 simp at h1 h2 h4
 refine ⟨h1,h4,fun i hi hp=>?_,fun i hi=>h5 (by intro x hx;cases hx) _ (aC hi)⟩
 obtain ⟨k,k1,k2,k3⟩:=h2 i (by omega)
 rw [aA hi] at k1
 have hk:m.nodes[i]=(k:Int):=Option.some.inj k1
 rw [aA hp,aD] at k3
 rw [hk]
 exact ⟨by omega,by simpa using k3⟩
theorem BL {t:Types}{h:Host}(ho:HostOk t h):∀ a∈h.graph.nodes,0≤a∧a<t.nodes.length:=fun a ha=>by
 obtain ⟨i,hi,rfl⟩:=aN ha
 have:=ho.vl
 exact ⟨((dF ho.gg).1 _ ha).1,(sM (ho.nd i hi (by omega))).1⟩
theorem OU {t:Types}{q:Pattern}{h:Host}{m:Part}(hp:PatOk t q)(ho:HostOk t h)(hm:MOk t q.graph h.graph m):SOk q h m where
 vars:=hp.vars
 node s hs:=by have:=hp.slots s hs;have:=hm.len;omega
 img k hk:=by
  obtain ⟨i,hi,rfl⟩:=aN hk
  have:=(hm.img i hi (by have:=hm.len;omega)).1
  have:=ho.vl
  omega
 attr s hs:=by
  obtain ⟨h1,h2,_⟩:=hp.slots s hs
  have hl:=hm.len
  have hi:s.node.toNat<m.nodes.length:=by omega
  have hq:s.node.toNat<q.graph.nodes.length:=by omega
  obtain ⟨h3,h4⟩:=hm.img _ hi hq
  have hvl:=ho.vl
  have hk:m.nodes[s.node.toNat].toNat<h.graph.nodes.length:=by omega
  have hkv:m.nodes[s.node.toNat].toNat<h.values.length:=by omega
  rw [aA hi,aD,aA hkv,aD]
  rw [aA hq,aD] at h2
  rw [aA hk,aD] at h4
  have ha:=(lW hp.gg hp.ty).1 _ (aC hq)
  have hb:=BL ho _ (aC hk)
  rw [pI hp.vf ha.1 ha.2] at h2
  have hrow:=(sM (ho.nd _ hk hkv)).2.2.1
  rw [pI hp.vf hb.1 hb.2] at hrow
  unfold tT at h4
  obtain ⟨r,hr⟩:=Gp (lG hp.vf) (h.graph.nodes[m.nodes[s.node.toNat].toNat]).toNat (by omega) (q.graph.nodes[s.node.toNat]).toNat (by rw [Int.toNat_of_nonneg ha.1];exact h4)
  rw [hr,aT] at hrow
  omega
 small l hl v hv:=(ho.row l hl).2 v hv
 term s hs:=(hp.slots s hs).2.2
 test:=hp.tests
/-! ### values -/
def GE (p:Pattern)(vs:List Int):List Int × List Bool:=(vs++List.replicate (p.vars.toNat - vs.length) 0,List.replicate vs.length true++List.replicate (p.vars.toNat - vs.length) false)
theorem Cs (p:Pattern):GE p []=(List.replicate p.vars.toNat 0,List.replicate p.vars.toNat false):=by simp [GE]
theorem dC {p:Pattern}{h:Host}{m:Part}{vs:List Int}(h0:gW h m (GE p vs) p.slots=none):dH p h m vs=([],11):=by
 unfold dH;unfold GE at h0;rw [h0]
theorem mB {p:Pattern}{h:Host}{m:Part}{vs:List Int}{q:List Int × List Bool}(h0:gW h m (GE p vs) p.slots=some q):dH p h m vs=if p.tests.all (fun x=>wY x q.1)=true then (q.1,0) else ([],16):=by
 unfold dH;unfold GE at h0;rw [h0]
structure StOk (n:Nat) (st:List Int × List Bool):Prop where
 l1:st.1.length=n
 l2:st.2.length=n
 sm:∀ v∈st.1,-2000000≤v∧v≤2000000
theorem StOk.big {n:Nat}{st:List Int × List Bool}(h:StOk n st):Sm st.1:=fun v hv=>by have:=h.sm v hv;omega
theorem H5 {p:Pattern}{vs:List Int}(hv:0≤p.vars)(hl:vs.length≤p.vars.toNat)(hs:∀ v∈vs,-2000000≤v∧v≤2000000):StOk p.vars.toNat (GE p vs):=by
 refine ⟨by simp [GE];omega,by simp [GE];omega,fun v h=>?_⟩
 simp only [GE,aW,List.mem_replicate] at h
 rcases h with h|h
 ·exact hs v h
 ·omega
theorem u3 {n:Nat}{h:Host}{m:Part}{st:List Int × List Bool}{s:Slot}(hst:StOk n st)(hb : -1000000≤jM h m s∧jM h m s≤1000000)(ht:mV s.term n):StOk n (jS h m st s):=by
 unfold jS
 split
 ·refine ⟨by simp [hst.l1],by simp [hst.l2],fun v hv=>?_⟩
  rcases kX hv with h1|rfl
  ·exact hst.sm v h1
  ·have:=ht.2;omega
 ·exact hst
theorem SOk.have_ {p:Pattern}{h:Host}{m:Part}(hO:SOk p h m){s:Slot}(hs:s∈p.slots) : -1000000≤jM h m s∧jM h m s≤1000000:=by
 have hn:=hO.node s hs
 have hn2:s.node.toNat<m.nodes.length:=by omega
 have hk:=hO.img _ (aC hn2)
 have hk2:(m.nodes[s.node.toNat]).toNat<h.values.length:=by omega
 have ha:=hO.attr s hs
 unfold jM
 rw [aA hn2,aD,aA hk2,aD] at ha ⊢
 have ha2:s.attr.toNat<(h.values[(m.nodes[s.node.toNat]).toNat]).length:=by omega
 rw [aA ha2]
 exact hO.small _ (aC hk2) _ (aC ha2)
theorem Fp {p:Pattern}{h:Host}{m:Part}(hO:SOk p h m):∀ (l:List Slot) (st q:List Int × List Bool),(∀ s∈l,s∈p.slots)→StOk p.vars.toNat st→gW h m st l=some q→StOk p.vars.toNat q
 | [],st,q,_,hst,hq=>by simp only [gW,bA] at hq;exact hq ▸ hst
 | s :: l,st,q,hl,hst,hq=>by
  simp only [gW] at hq
  split at hq
  ·have hs:=hl s (kC ..)
   exact Fp hO l _ q (fun x hx=>hl x (d8 _ hx)) (u3 hst (hO.have_ hs) (hO.term s hs)) hq
  ·cases hq
theorem xT {p:Pattern}{h:Host}{m:Part}(hO:SOk p h m){vs:List Int}(hl:vs.length≤p.vars.toNat)(hs:∀ v∈vs,-2000000≤v∧v≤2000000)(h0:(dH p h m vs).2=0) :
  (dH p h m vs).1.length=p.vars.toNat∧∀ v∈(dH p h m vs).1,-2000000≤v∧v≤2000000:=by
 cases hq:gW h m (GE p vs) p.slots with
 | none=>rw [dC hq] at h0;cases h0
 | some q =>
  have hk:=Fp hO _ _ _ (fun _ h=>h) (H5 hO.vars.1 hl hs) hq
  rw [mB hq] at h0 ⊢
  split at h0
  ·rename_i h1;rw [if_pos h1];exact ⟨hk.l1,hk.sm⟩
  ·cases h0
theorem kF (q:Pattern)(h:Host)(vars:List Int)(l:List Part)(x:Part):pM q h vars (l++[x])=pM q h vars l++if (dH q h x vars).2=0 then [⟨x,(dH q h x vars).1⟩] else []:=by
 unfold pM
 rw [List.filterMap_append]
 congr 1
 simp only [List.filterMap_cons,List.filterMap_nil]
 split<;>simp_all
theorem iR (o:Option Bool):(Option.map cB o).getD [D.bool false]=cB (o.getD false):=by cases o<;>rfl
theorem zG (p:Pattern)(h:Host)(m:Part)(hO:SOk p h m):Pure Tryz.prog 148 [p.d,h.d,m.d] (.tup [dLI (dH p h m []).1,dI (dH p h m []).2]):=by
 have hv:=hO.vars
 have h0:=H5 (vs:=[]) hv.1 (by simp) (by simp)
 rw [Cs] at h0
 refine Tz.pK ⟨fun t=>t==11,fun _=>[]⟩ Tryz.func148 rfl (fun Q hQ=>?_)
 have Y:=wa @Pattern.d.eq_1 (wa @Pattern.c.eq_1 (wa @Host.d.eq_1 (wa @Host.c.eq_1 (wa @Part.d.eq_1 (wa @Part.c.eq_1 @Term.c.eq_1)))))
 refine wp (h:=bB (fun i e H=>∃ st:List Int × List Bool,(e 3=.adr p.c∧e 4=.adr h.c∧e 5=.adr m.c∧e 8=.own 0 p.vars.toNat∧e 9=.own 1 p.vars.toNat∧e 10=dI i)∧(H.get 0=some ⟨3,1,st.1.map cI,false⟩)∧(0<H.next)∧(H.get 1=some ⟨4,1,st.2.map cB,false⟩)∧(1<H.next)∧(i≤p.slots.length)∧(StOk p.vars.toNat st)∧(gW h m (GE p []) (p.slots.take i)=some st)) (fun i=>p.slots.length - i) 0 ⟨((List.replicate p.vars.toNat 0,List.replicate p.vars.toNat false)),wg,(by (simp [go_sem,cI])),wn,(by (simp [go_sem,cB])),wn,wi,(by exact h0),(by (rw [Cs];rfl))⟩ fun I0 hI0 i e H hi0=>?_)
 obtain ⟨st,E0,g0_0,n0_0,g1_0,n1_0,hi,hst,hsl⟩:=hi0
 have Y:=wa Y (wa E0 (wa g0_0 (wa (bY n0_0) (wa g1_0 (bY n1_0)))))
 refine wv (h:=?_)
 repeat first|intro _|refine ⟨eM,?_⟩
 refine wq (fun h4=>?_) fun h4=>?_
 ·obtain ⟨x,hx⟩:∃ x,x=p.slots[i]:=⟨_,rfl⟩
  have hxm:x∈p.slots:=hx ▸ aC h4
  have hn:=hO.node x hxm
  have hn2:x.node.toNat<m.nodes.length:=by omega
  have hk:=hO.img _ (aC hn2)
  have hk2:(m.nodes[x.node.toNat]).toNat<h.values.length:=by omega
  have ha:=hO.attr x hxm
  rw [aA hn2,aD,aA hk2,aD] at ha
  have ha2:x.attr.toNat<(h.values[(m.nodes[x.node.toNat]).toNat]).length:=by omega
  have hV:jM h m x=h.values[(m.nodes[x.node.toNat]).toNat][x.attr.toNat]:=by unfold jM;rw [aA hn2,aD,aA hk2,aD,aA ha2];rfl
  have hb:=hO.have_ hxm
  have hT:=hO.term x hxm
  have hl1:=hst.l1
  have hl2:=hst.l2
  have hTv:=hT.1
  have hTa:=hT.2
  have hSt:=qS h4 hsl
  rw [← hx] at hSt
  obtain ⟨s2,hs2e⟩:∃ y,y=jS h m st x:=⟨_,rfl⟩
  have hs2:StOk p.vars.toNat s2:=hs2e ▸ u3 hst hb hT
  rw [← hs2e] at hSt
  have hs2n:¬ 0≤x.term.var→s2=st:=fun hn=>by rw [hs2e];unfold jS i7;rw [if_neg (by simp [hn])]
  have vlt:0≤x.term.var→x.term.var.toNat<st.2.length:=fun hn=>by omega
  obtain ⟨kb,hkb⟩:∃ kb,kb=st.2[x.term.var.toNat]?.getD false:=⟨_,rfl⟩
  have hcase:0≤x.term.var∨(¬ 0≤x.term.var∧st.2[x.term.var.toNat]?=none)∨(¬ 0≤x.term.var∧st.2[x.term.var.toNat]?=some kb):=by
   by_cases hsp:0≤x.term.var
   ·exact .inl hsp
   ·right
    cases ho:st.2[x.term.var.toNat]? with
    | none=>exact .inl ⟨hsp,rfl⟩
    | some b=>rw [ho] at hkb;exact .inr ⟨hsp,by rw [hkb];rfl⟩
  rcases hcase with hc|hc|hc
  ·have Y:=wa Y (wa h4 (wa (aA h4) (wa (Eq.symm hx) (wa (aA hn2) (wa (aA hk2) (wa (aA ha2) (wa (Eq.symm hV) (wa @Slot.c.eq_1 (wa @cL.eq_1 (wa hl1 (wa hl2 (wa @iR (wa @cB.eq_1 (wa hc ((aA (vlt hc)))))))))))))))))
   refine wv (h:=?_)
   repeat first|intro _|refine ⟨eM,?_⟩
   refine wq (fun h9=>?_) fun h9=>?_
   ·have hF:i7 st x=true:=by simp only [i7,aP,decide_eq_true_eq,cD];exact ⟨hc,by simpa [aA (vlt hc)] using h9⟩
    unfold jS at hs2e
    rw [if_pos hF] at hs2e
    have hvl:x.term.var.toNat<st.1.length:=by omega
    have e1:s2.1.map cI=(st.1.map cI).set x.term.var.toNat (cI (jM h m x - x.term.add)):=by rw [hs2e,cG]
    have e2:s2.2.map cB=(st.2.map cB).set x.term.var.toNat (cB true):=by rw [hs2e,cG]
    have ecl:D.clLL ((st.1.map cI).set x.term.var.toNat [D.int .i64 (jM h m x - x.term.add)])=true:=by have:=nU s2.1;rw [e1] at this;exact this
    have Y:=wa Y (wa e1 (wa e2 (wa @dLI.eq_1 (wa @cI.eq_1 (wa (aA hvl) ecl)))))
    refine wp (h:=cY (n7 x.term s2.1 (by rw [hs2.l1];exact hT) hs2.big) wr wl rfl ?_)
    refine wv (h:=?_)
    repeat first|intro _|refine ⟨eM,?_⟩
    refine wq (fun h12=>?_) fun h12=>?_
    ·have hR:=dC (hSt.2 (by first|simpa using h12|simpa [hs2n hc.1] using h12|simpa [hs2e] using h12))
     exact wv (h:=hQ _ _ (by simp [go_sem,hR]))
    ·have hstep:=hSt.1 (by first|simpa using h12|simpa [hs2n hc.1] using h12|simpa [hs2e] using h12)
     exact wp (h:=wx hI0 (i+1) ⟨s2,wg,(by (simp [go_sem,Y])),wn,(by (simp [go_sem,Y])),wn,wj,(by exact hs2),(by exact hstep)⟩)
   ·have hF:¬ i7 st x=true:=by simp only [i7,aP,decide_eq_true_eq,cD];rintro ⟨_,hk⟩;simp [aA (vlt hc)] at hk;simp [hk] at h9
    unfold jS at hs2e
    rw [if_neg hF] at hs2e
    have Y:=wa Y hs2e
    refine wv (h:=cY (n7 x.term s2.1 (by rw [hs2.l1];exact hT) hs2.big) wr wl rfl ?_)
    refine cT (fun h12=>?_) fun h12=>?_
    ·have hR:=dC (hSt.2 (by first|simpa using h12|simpa [hs2n hc.1] using h12|simpa [hs2e] using h12))
     exact wv (h:=hQ _ _ (by simp [go_sem,hR]))
    ·have hstep:=hSt.1 (by first|simpa using h12|simpa [hs2n hc.1] using h12|simpa [hs2e] using h12)
     exact wp (h:=wx hI0 (i+1) ⟨s2,wg,(by (simp [go_sem,Y])),wn,(by (simp [go_sem,Y])),wn,wj,(by exact hs2),(by exact hstep)⟩)
  ·have Y:=wa Y (wa h4 (wa (aA h4) (wa (Eq.symm hx) (wa (aA hn2) (wa (aA hk2) (wa (aA ha2) (wa (Eq.symm hV) (wa @Slot.c.eq_1 (wa @cL.eq_1 (wa hl1 (wa hl2 (wa @iR (wa @cB.eq_1 (wa hc.1 (wa hc.2 (hs2n hc.1))))))))))))))))
   refine wp (h:=cY (n7 x.term s2.1 (by rw [hs2.l1];exact hT) hs2.big) wr wl rfl ?_)
   refine wv (h:=?_)
   repeat first|intro _|refine ⟨eM,?_⟩
   refine wq (fun h12=>?_) fun h12=>?_
   ·have hR:=dC (hSt.2 (by first|simpa using h12|simpa [hs2n hc.1] using h12|simpa [hs2e] using h12))
    exact wv (h:=hQ _ _ (by simp [go_sem,hR]))
   ·have hstep:=hSt.1 (by first|simpa using h12|simpa [hs2n hc.1] using h12|simpa [hs2e] using h12)
    exact wp (h:=wx hI0 (i+1) ⟨s2,wg,(by (simp [go_sem,Y])),wn,(by (simp [go_sem,Y])),wn,wj,(by exact hs2),(by exact hstep)⟩)
  ·have Y:=wa Y (wa h4 (wa (aA h4) (wa (Eq.symm hx) (wa (aA hn2) (wa (aA hk2) (wa (aA ha2) (wa (Eq.symm hV) (wa @Slot.c.eq_1 (wa @cL.eq_1 (wa hl1 (wa hl2 (wa @iR (wa @cB.eq_1 (wa hc.1 (wa hc.2 (hs2n hc.1))))))))))))))))
   refine wp (h:=cY (n7 x.term s2.1 (by rw [hs2.l1];exact hT) hs2.big) wr wl rfl ?_)
   refine wv (h:=?_)
   repeat first|intro _|refine ⟨eM,?_⟩
   refine wq (fun h12=>?_) fun h12=>?_
   ·have hR:=dC (hSt.2 (by first|simpa using h12|simpa [hs2n hc.1] using h12|simpa [hs2e] using h12))
    exact wv (h:=hQ _ _ (by simp [go_sem,hR]))
   ·have hstep:=hSt.1 (by first|simpa using h12|simpa [hs2n hc.1] using h12|simpa [hs2e] using h12)
    exact wp (h:=wx hI0 (i+1) ⟨s2,wg,(by (simp [go_sem,Y])),wn,(by (simp [go_sem,Y])),wn,wj,(by exact hs2),(by exact hstep)⟩)
 ·rw [aJ (by omega)] at hsl
  have hR0:=mB hsl
  have hl1:=hst.l1
  have Y:=wa Y hl1
  refine wv (h:=bB (fun k e H=>(e 3=.adr p.c∧e 4=.adr h.c∧e 5=.adr m.c∧e 8=.own 0 p.vars.toNat∧e 14=dI k)∧(H.get 0=some ⟨3,1,st.1.map cI,false⟩)∧(0<H.next)∧(k≤p.tests.length)∧((p.tests.take k).all (fun x=>wY x st.1)=true)) (fun k=>p.tests.length - k) 0 ⟨wg,wn,wn,wi,(by rfl)⟩ fun I2 hI2 k e H hi2=>?_)
  obtain ⟨E2,g0_2,n0_2,hk,hall⟩:=hi2
  have Y:=wa Y (wa E2 (wa g0_2 (bY n0_2)))
  refine wv (h:=?_)
  repeat first|intro _|refine ⟨eM,?_⟩
  refine wq (fun h15=>?_) fun h15=>?_
  ·have Y:=wa Y (wa h15 (wa (aA h15) @Test.c.eq_1))
   refine wp (h:=cY (IE p.tests[k] st.1 (by rw [hst.l1];exact hO.test _ (aC h15)) hst.big) wr wl rfl ?_)
   refine wv (h:=?_)
   repeat first|intro _|refine ⟨eM,?_⟩
   refine wq (fun h17=>?_) fun h17=>?_
   ·have hR:dH p h m []=([],16):=by
     rw [hR0,if_neg]
     intro ha
     rw [bV] at ha
     have:=ha _ (aC h15)
     simp [this] at h17
    exact wv (h:=hQ _ _ (by simp [go_sem,hR]))
   ·exact wp (h:=wx hI2 (k+1) ⟨wg,wn,wn,wj,(by (rw [aF h15,yV,hall];simp;simpa using h17))⟩)
  ·rw [aJ (by omega)] at hall
   rw [if_pos hall] at hR0
   exact wv (h:=hQ _ _ (by simp [go_sem,Y,hR0,dLI]))
def oE (t:Types)(p:Pattern)(h:Host):Int:=if bT t p≠0 then bT t p else fM t h
theorem Bt (t:Types)(ht:t.ok)(p:Pattern)(h:Host):Pure Tryz.prog 146 [t.d,p.d,h.d] (dI (oE t p h)):=by
 refine Tz.pK ⟨fun _=>false,fun _=>[]⟩ Tryz.func146 rfl (fun Q hQ=>?_)
 have Y:=wa @Host.d.eq_1 @Host.c.eq_1
 refine wv (h:=aB (qU t ht p) wl ?_)
 refine cT (fun h2=>?_) fun h2=>?_
 ·exact wv (h:=hQ _ _ (by simp [go_sem,oE,h2]))
 ·refine wv (h:=aB (vB t ht h) wl ?_)
  exact wv (h:=hQ _ _ (by simp [go_sem,oE,h2,fM]))
theorem Is (t:Types)(ht:t.ok)(p:Pattern)(h:Host)(m:Part):Pure Tryz.prog 167 [t.d,p.d,h.d,m.d] (.tup [dLI (dA t p h m).1,dI (dA t p h m).2]):=by
 refine Tz.pK ⟨fun _=>false,fun _=>[]⟩ Tryz.func167 rfl (fun Q hQ=>?_)
 have Y:=wa @Pattern.d.eq_1 (wa @Pattern.c.eq_1 (wa @Host.d.eq_1 @Host.c.eq_1))
 refine wv (h:=aB (Bt t ht p h) wl ?_)
 refine cT (fun h2=>?_) fun h2=>?_
 ·have hS:dA t p h m=([],oE t p h):=by
   unfold dA oE
   unfold oE at h2
   by_cases hp:bT t p=0
   ·rw [if_neg (by omega)] at h2 ⊢
    rw [if_pos h2,if_neg (by omega)]
   ·rw [if_pos hp,if_pos hp]
  exact wv (h:=hQ _ _ (by simp [go_sem,hS]))
 ·have hp0:bT t p=0:=by
   unfold oE at h2
   refine bD fun hp=>?_
   rw [if_pos hp] at h2;exact hp h2
  have hh0:fM t h=0:=by unfold oE at h2;rw [if_neg (by omega)] at h2;exact h2
  refine wv (h:=aB (vA t ht p.graph h.graph m false) wl ?_)
  refine cT (fun h5=>?_) fun h5=>?_
  ·have hS:dA t p h m=([],eG t p.graph h.graph m false):=by unfold dA;rw [if_neg (by omega),if_neg (by omega),if_pos h5]
   exact wv (h:=hQ _ _ (by simp [go_sem,hS]))
  ·have h5':eG t p.graph h.graph m false=0:=by omega
   have hS:dA t p h m=dH p h m []:=by unfold dA;rw [if_neg (by omega),if_neg (by omega),if_neg (by omega)]
   refine wv (h:=aB (zG p h m (OU (Ds (.inr hp0)) (vO hh0) (pV (pH h5').2))) wl ?_)
   exact wv (h:=hQ _ _ (by simp [go_sem,hS]))
theorem LZ (l:List Part):(Ci l).1.length≤5000:=by
 unfold Ci;split
 ·simp
 ·simp only;omega
theorem Ef (t:Types)(p g:Graph)(inj:Bool):(jG t p g inj).1.length≤5000:=by
 unfold jG;split
 ·simp
 ·exact LZ _
theorem LT (t:Types)(p g:Graph)(q:Part)(inj:Bool):(lC t p g q inj).1.length≤5000:=by
 unfold lC;split
 ·simp
 ·split
  ·simp
  ·split
   ·simp
   ·split
    ·simp
    ·exact LZ _
theorem Gr {t:Types}{p g:Graph}{inj:Bool}{m:Part}(h:m∈(jG t p g inj).1):MOk t p g m:=by
 unfold jG at h
 split at h
 ·cases h
 ·unfold Ci at h
  split at h
  ·cases h
  ·exact JN (S:=⟨t,p,g,_,_,inj⟩) (b8 h)
theorem EN (t:Types)(ht:t.ok)(p:Pattern)(h:Host)(inj:Bool):Pure Tryz.prog 66 [t.d,p.d,h.d,.bool inj] (.tup [.list ((dG t p h inj).1.map Mat.c),dI (dG t p h inj).2]):=by
 refine Tz.pK ⟨fun t=>t==13,fun _=>[]⟩ Tryz.func66 rfl (fun Q hQ=>?_)
 have Y:=wa @Pattern.d.eq_1 (wa @Pattern.c.eq_1 (wa @Host.d.eq_1 @Host.c.eq_1))
 refine wv (h:=aB (Bt t ht p h) wl ?_)
 refine cT (fun h2=>?_) fun h2=>?_
 ·have hS:dG t p h inj=([],oE t p h):=by
   unfold dG oE
   unfold oE at h2
   by_cases hp:bT t p=0
   ·rw [if_neg (by omega)] at h2 ⊢
    rw [if_pos h2,if_neg (by omega)]
   ·rw [if_pos hp,if_pos hp]
  exact wv (h:=hQ _ _ (by simp [go_sem,hS]))
 ·have hp0:bT t p=0:=by
   unfold oE at h2
   refine bD fun hp=>?_
   rw [if_pos hp] at h2;exact hp h2
  have hh0:fM t h=0:=by unfold oE at h2;rw [if_neg (by omega)] at h2;exact h2
  have hLm0:∀ x∈(jG t p.graph h.graph inj).1,MOk t p.graph h.graph x:=fun x hx=>Gr hx
  refine wv (h:=aB (Mw t ht p.graph h.graph inj) wl ?_)
  refine cT (fun h5=>?_) fun h5=>?_
  ·have hS:dG t p h inj=([],(jG t p.graph h.graph inj).2):=by unfold dG;rw [if_neg (by omega),if_neg (by omega),if_pos h5]
   exact wv (h:=hQ _ _ (by simp [go_sem,hS]))
  ·have hS:dG t p h inj=(pM p h [] (jG t p.graph h.graph inj).1,0):=by unfold dG;rw [if_neg (by omega),if_neg (by omega),if_neg (by omega)]
   obtain ⟨L,hL⟩:∃ L,L=(jG t p.graph h.graph inj).1:=⟨_,rfl⟩
   have hL5a:=Ef t p.graph h.graph inj
   rw [← hL] at hS hLm0 hL5a
   have hLm:=hLm0
   have Y:=wa Y (Eq.symm hL)
   refine wv (h:=bB (fun i e H=>∃ ms:List Mat,(e 4=.adr t.c∧e 5=.adr p.c∧e 6=.adr h.c∧e 3=.bool inj∧e 11=.list (L.map Part.c)∧e 13=.own 0 ms.length∧e 14=dI i)∧(H.get 0=some ⟨65,3,ms.map Mat.c,false⟩)∧(0<H.next)∧(i≤L.length)∧(ms=pM p h [] (L.take i))∧(ms.length≤i)∧(L.length≤5000)) (fun i=>L.length - i) 0 ⟨([]),wg,wn,wn,wi,(by rfl),(by (simp)),(by (exact hL5a))⟩ fun I0 hI0 i e H hi0=>?_)
   obtain ⟨ms,E0,g0_0,n0_0,hi,hms,hml,hL5⟩:=hi0
   have Y:=wa Y (wa E0 (wa g0_0 (bY n0_0)))
   refine qP (fun h9=>?_) fun h9=>?_
   ·obtain ⟨v,hv⟩:∃ v,v=dH p h L[i] []:=⟨_,rfl⟩
    obtain ⟨ms2,hms2⟩:∃ y,y=ms++if v.2=0 then [(⟨L[i],v.1⟩:Mat)] else []:=⟨_,rfl⟩
    have Y:=wa Y (wa h9 (wa (aA h9) @Part.c.eq_1))
    refine wp (h:=aI ((by have hq:=zG p h L[i] (OU (Ds (.inr hp0)) (vO hh0) (hLm _ (aC h9)));rw [← hv] at hq;unfold Pattern.d Pattern.c Host.d Host.c Part.d Part.c dLI dI at hq;exact hq)) wl ?_)
    refine qP (fun h12=>?_) fun h12=>?_
    ·have hm3:ms2=ms++[⟨L[i],v.1⟩]:=by rw [hms2,if_pos (by simpa using h12)]
     have Y:=wa Y (wa hm3 @Mat.c.eq_1)
     exact wp (h:=wx hI0 (i+1) ⟨ms2,wg,wn,wn,wj,(by (rw [aF h9,kF,← hms,← hv];exact hms2)),(by (rw [hms2];split<;>simp<;>omega)),(by exact hL5)⟩)
    ·have hm3:ms2=ms:=by rw [hms2,if_neg (by simpa using h12),c5]
     have Y:=wa Y hm3
     exact wp (h:=wx hI0 (i+1) ⟨ms2,wg,wn,wn,wj,(by (rw [aF h9,kF,← hms,← hv];exact hms2)),(by (rw [hms2];split<;>simp<;>omega)),(by exact hL5)⟩)
   ·rw [aJ (by omega)] at hms
    exact wv (h:=hQ _ _ (by simp [go_sem,Y,hS,← hms]))
def IK (at_ im:List Int)(n i:Nat):List Int:=(List.range i).foldl (fun acc i=>acc.set (at_[i]?.getD 0).toNat (im[i]?.getD 0)) (List.replicate n (-1))
theorem Dr (at_ im:List Int)(n i:Nat):IK at_ im n (i+1)=(IK at_ im n i).set (at_[i]?.getD 0).toNat (im[i]?.getD 0):=by unfold IK;rw [dB]
theorem zL (at_ im:List Int)(n:Nat):∀ i,(IK at_ im n i).length=n
 | 0=>by simp [IK]
 | i+1=>by rw [Dr,iS];exact zL at_ im n i
theorem zF (n:Nat)(hn:n≤1000000)(at_ im:List Int)(h1:∀ x∈at_,0≤x∧x<n)(h2:at_.length≤im.length):Pure Tryz.prog 397 [dI n,dLI at_,dLI im] (dLI (vG n at_ im)):=by
 refine Tz.pK ⟨fun t=>t==7,fun _=>[]⟩ Tryz.func397 rfl (fun Q hQ=>?_)
 have Y:=trivial
 refine wv (h:=bB (fun i e H=>(e 0=dI n∧e 1=dLI at_∧e 2=dLI im∧e 7=.own 0 i∧e 8=dI i)∧(H.get 0=some ⟨3,1,(List.replicate i (-1:Int)).map cI,false⟩)∧(0<H.next)∧(i≤n)) (fun i=>n - i) 0 ⟨wg,(by (simp [go_sem])),wn,wi⟩ fun I0 hI0 i e H hi0=>?_)
 obtain ⟨E0,g0_0,n0_0,hi⟩:=hi0
 have Y:=wa Y (wa E0 (wa g0_0 (bY n0_0)))
 refine cT (fun h3=>?_) fun h3=>?_
 ·have Y:=wa Y h3
  exact wp (h:=wx hI0 (i+1) ⟨wg,(by (simp [go_sem,Y,w8,cI])),wn,wj⟩)
 ·have hin:i=n:=by omega
  refine wv (h:=bB (fun k e H=>(e 0=dI n∧e 1=dLI at_∧e 2=dLI im∧e 7=.own 0 n∧e 9=dI k)∧(H.get 0=some ⟨3,1,(IK at_ im n k).map cI,false⟩)∧(0<H.next)∧(k≤at_.length)∧((IK at_ im n k).length=n)) (fun k=>at_.length - k) 0 ⟨wg,(by (simp [go_sem,Y,IK,hin])),wn,wi,(by (exact zL _ _ _ _))⟩ fun I2 hI2 k e H hi2=>?_)
  obtain ⟨E2,g0_2,n0_2,hk,hpl⟩:=hi2
  have Y:=wa Y (wa E2 (wa g0_2 (wa (bY n0_2) hpl)))
  refine wv (h:=?_)
  repeat first|intro _|refine ⟨eM,?_⟩
  refine wq (fun h7=>?_) fun h7=>?_
  ·have hki:k<im.length:=by omega
   have ha:=h1 _ (aC h7)
   have ha0:at_[k]?.getD 0=at_[k]:=by rw [aA h7];rfl
   have hi0:im[k]?.getD 0=im[k]:=by rw [aA hki];rfl
   have hal:at_[k].toNat<(IK at_ im n k).length:=by omega
   have Y:=wa Y (wa h7 (wa (aA h7) (wa (aA hki) (aA hal))))
   exact wp (h:=wx hI2 (k+1) ⟨wg,(by (simp [go_sem,Y,Dr,cG,ha0,hi0,cI])),wn,wj,(by (exact zL _ _ _ _))⟩)
  ·have hP:vG n at_ im=IK at_ im n k:=by unfold vG IK;rw [show k=at_.length by omega]
   exact wv (h:=hQ _ _ (by simp [go_sem,Y,hP,dLI]))
def Ha (len i:Nat):List Bool:=(List.range i).map fun j=>decide (j<len)
theorem NU (len i:Nat):Ha len (i+1)=Ha len i++[decide (i<len)]:=by simp [Ha,e9]
theorem G8 (len i:Nat):(Ha len i).length=i:=by simp [Ha]
theorem G9 (len n:Nat)(h:len≤n):Ha len n=List.replicate len true++List.replicate (n - len) false:=by
 apply fU (by simp [Ha];omega)
 intro i h1 h2
 simp only [Ha,qF,mY,List.getElem_append,List.getElem_replicate,nY]
 split
 ·rename_i h3;simpa using h3
 ·rename_i h3;simpa using h3
theorem O7 (len i n:Nat)(h:i<n):(Ha len i++List.replicate (n - i) false).set i (decide (i<len))=Ha len (i+1)++List.replicate (n - (i+1)) false:=by
 rw [kB _ _ (by rw [G8];omega),G8,qN,NU,show n - i=(n - (i+1))+1 by omega,l5]
 simp
def MX (len n i:Nat):List Bool:=Ha len i++List.replicate (n - i) false
theorem NV (len n:Nat):MX len n 0=List.replicate n false:=by simp [MX,Ha]
theorem O9 {len n i:Nat}(h:i≤n):(MX len n i).length=n:=by simp [MX,G8];omega
theorem O8 {len n i:Nat}(h:i<n):(MX len n i).set i (decide (i<len))=MX len n (i+1):=O7 len i n h
theorem LN (len n:Nat):MX len n n=Ha len n:=by simp [MX]
def Em (vs:List Int)(i:Nat):List Int:=vs++List.replicate (i - vs.length) 0
theorem HN (vs:List Int)(i:Nat):Em vs (i+1)=if vs.length≤i then Em vs i++[0] else Em vs i:=by
 unfold Em
 split
 ·rename_i h;rw [show i+1 - vs.length=(i - vs.length)+1 by omega,w8,List.append_assoc]
 ·rename_i h;rw [show i+1 - vs.length=0 by omega,show i - vs.length=0 by omega]
theorem Lr (vs:List Int)(i:Nat):(Em vs i).length=max vs.length i:=by simp [Em];omega
theorem Nx {x:Test}{vs:List Int}{n:Nat}(hx:El x n):wY x vs = !((decide (x.kind=1)&&decide (cC x.right vs<cC x.left vs))||(decide (x.kind=2)&&!decide (cC x.left vs=cC x.right vs))):=by
 rcases hx.1 with h|h
 ·unfold wY;rw [h];simp
  rw [aV];simp
 ·unfold wY;rw [h];simp
theorem GZ (p:Pattern)(h:Host)(m:Part)(hO:SOk p h m)(vs:List Int)(hl:vs.length≤p.vars.toNat)(hs:∀ v∈vs,-2000000≤v∧v≤2000000) :
  Pure Tryz.prog 399 [p.d,h.d,m.d,dLI vs] (.tup [dLI (dH p h m vs).1,.bool (decide ((dH p h m vs).2=0))]):=by
 have hv:=hO.vars
 have h0:=H5 hv.1 hl hs
 have hva0:Em vs 0=vs:=by simp [Em]
 have hst0:GE p vs=(Em vs p.vars.toNat,Ha vs.length p.vars.toNat):=by unfold GE;rw [G9 _ _ hl];rfl
 refine Tz.pK ⟨fun t=>t==14||t==19||t==24,fun r=>match r with|15=>[(5,14),(6,14),(7,14)]|_=>[]⟩ Tryz.func399 rfl (fun Q hQ=>?_)
 have Y:=wa hva0 (wa @Pattern.d.eq_1 (wa @Pattern.c.eq_1 (wa @Host.d.eq_1 (wa @Host.c.eq_1 (wa @Part.d.eq_1 (wa @Part.c.eq_1 @Term.c.eq_1))))))
 refine wp (h:=bB (fun i e H=>(e 4=.adr p.c∧e 5=.adr h.c∧e 6=.adr m.c∧e 3=dLI vs∧e 10=.own 0 (Em vs i).length∧e 11=.own 1 p.vars.toNat∧e 12=dI i)∧(H.get 0=some ⟨3,1,(Em vs i).map cI,false⟩)∧(0<H.next)∧(H.get 1=some ⟨4,1,(MX vs.length p.vars.toNat i).map cB,false⟩)∧(1<H.next)∧(i≤p.vars.toNat)) (fun i=>p.vars.toNat - i) 0 ⟨wg,(by (simp [go_sem,Em])),wn,(by (simp [go_sem,NV,cB])),wn,wi⟩ fun I0 hI0 i e H hi0=>?_)
 obtain ⟨E0,g0_0,n0_0,g1_0,n1_0,hi⟩:=hi0
 have Y:=wa Y (wa E0 (wa g0_0 (wa (bY n0_0) (wa g1_0 (bY n1_0)))))
 refine cT (fun h4=>?_) fun h4=>?_
 ·have hI:=Lr vs i
  have hK:=O8 (len:=vs.length) (n:=p.vars.toNat) (i:=i) (by omega)
  have hKl:=O9 (len:=vs.length) (n:=p.vars.toNat) (i:=i) (by omega)
  have hKi:i<(MX vs.length p.vars.toNat i).length:=by omega
  have hKm:((MX vs.length p.vars.toNat i).map cB).set i [.bool (decide (i<vs.length))]=(MX vs.length p.vars.toNat (i+1)).map cB:=by rw [← hK,cG];rfl
  have Y:=wa Y (wa h4 (wa hKl (wa (aA hKi) hKm)))
  refine wv (h:=?_)
  repeat first|intro _|refine ⟨eM,?_⟩
  refine wq (fun h7=>?_) fun h7=>?_
  ·have hVs:Em vs (i+1)=Em vs i++[0]:=by rw [HN,if_pos (by omega)]
   have Y:=wa Y hVs
   exact wp (h:=wx hI0 (i+1) ⟨wg,(by (simp [go_sem,Y])),wn,(by (simp [go_sem,Y])),wn,wj⟩)
  ·have hVs:Em vs (i+1)=Em vs i:=by rw [HN,if_neg (by omega)]
   have Y:=wa Y hVs
   exact wp (h:=wx hI0 (i+1) ⟨wg,(by (simp [go_sem,Y])),wn,(by (simp [go_sem,Y])),wn,wj⟩)
 ·have hin:i=p.vars.toNat:=by omega
  have hI:=Lr vs i
  rw [hin,Nat.max_eq_right hl] at hI
  have hK0:MX vs.length i i=Ha vs.length i:=LN _ _
  have hK1:=LN vs.length p.vars.toNat
  have Y:=wa Y (wa hin (wa hI hK1))
  refine wv (h:=bB (fun i e H=>∃ st:List Int × List Bool,(e 4=.adr p.c∧e 5=.adr h.c∧e 6=.adr m.c∧e 3=dLI vs∧e 10=.own 0 p.vars.toNat∧e 11=.own 1 p.vars.toNat∧e 13=dI i)∧(H.get 0=some ⟨3,1,st.1.map cI,false⟩)∧(0<H.next)∧(H.get 1=some ⟨4,1,st.2.map cB,false⟩)∧(1<H.next)∧(i≤p.slots.length)∧(StOk p.vars.toNat st)∧(gW h m (GE p vs) (p.slots.take i)=some st)) (fun i=>p.slots.length - i) 0 ⟨((Em vs p.vars.toNat,Ha vs.length p.vars.toNat)),wg,(by (simp [go_sem,Y,hin])),wn,(by (simp [go_sem,Y,hin,hK1])),wn,wi,(by (rw [← hst0];exact h0)),(by (rw [hst0];rfl))⟩ fun I2 hI2 i e H hi2=>?_)
  obtain ⟨st,E2,g0_2,n0_2,g1_2,n1_2,hi,hst,hsl⟩:=hi2
  have Y:=wa Y (wa E2 (wa g0_2 (wa (bY n0_2) (wa g1_2 (bY n1_2)))))
  refine wv (h:=?_)
  repeat first|intro _|refine ⟨eM,?_⟩
  refine wq (fun h10=>?_) fun h10=>?_
  ·obtain ⟨x,hx⟩:∃ x,x=p.slots[i]:=⟨_,rfl⟩
   have hxm:x∈p.slots:=hx ▸ aC h10
   have hn:=hO.node x hxm
   have hn2:x.node.toNat<m.nodes.length:=by omega
   have hk:=hO.img _ (aC hn2)
   have hk2:(m.nodes[x.node.toNat]).toNat<h.values.length:=by omega
   have ha:=hO.attr x hxm
   rw [aA hn2,aD,aA hk2,aD] at ha
   have ha2:x.attr.toNat<(h.values[(m.nodes[x.node.toNat]).toNat]).length:=by omega
   have hV:jM h m x=h.values[(m.nodes[x.node.toNat]).toNat][x.attr.toNat]:=by unfold jM;rw [aA hn2,aD,aA hk2,aD,aA ha2];rfl
   have hb:=hO.have_ hxm
   have hT:=hO.term x hxm
   have hl1:=hst.l1
   have hl2:=hst.l2
   have hTv:=hT.1
   have hTa:=hT.2
   have hSt:=qS h10 hsl
   rw [← hx] at hSt
   obtain ⟨s2,hs2e⟩:∃ y,y=jS h m st x:=⟨_,rfl⟩
   have hs2:StOk p.vars.toNat s2:=hs2e ▸ u3 hst hb hT
   rw [← hs2e] at hSt
   have hs2n:¬ 0≤x.term.var→s2=st:=fun hn=>by rw [hs2e];unfold jS i7;rw [if_neg (by simp [hn])]
   have vlt:0≤x.term.var→x.term.var.toNat<st.2.length:=fun hn=>by omega
   obtain ⟨kb,hkb⟩:∃ kb,kb=st.2[x.term.var.toNat]?.getD false:=⟨_,rfl⟩
   have hcase:0≤x.term.var∨(¬ 0≤x.term.var∧st.2[x.term.var.toNat]?=none)∨(¬ 0≤x.term.var∧st.2[x.term.var.toNat]?=some kb):=by
    by_cases hsp:0≤x.term.var
    ·exact .inl hsp
    ·right
     cases ho:st.2[x.term.var.toNat]? with
     | none=>exact .inl ⟨hsp,rfl⟩
     | some b=>rw [ho] at hkb;exact .inr ⟨hsp,by rw [hkb];rfl⟩
   rcases hcase with hc|hc|hc
   ·have Y:=wa Y (wa h10 (wa (aA h10) (wa (Eq.symm hx) (wa (aA hn2) (wa (aA hk2) (wa (aA ha2) (wa (Eq.symm hV) (wa @Slot.c.eq_1 (wa @cL.eq_1 (wa hl1 (wa hl2 (wa @iR (wa @cB.eq_1 (wa hc ((aA (vlt hc)))))))))))))))))
    refine wv (h:=?_)
    repeat first|intro _|refine ⟨eM,?_⟩
    refine wq (fun h14=>?_) fun h14=>?_
    ·have hF:i7 st x=true:=by simp only [i7,aP,decide_eq_true_eq,cD];exact ⟨hc,by simpa [aA (vlt hc)] using h14⟩
     unfold jS at hs2e
     rw [if_pos hF] at hs2e
     have hvl:x.term.var.toNat<st.1.length:=by omega
     have e1:s2.1.map cI=(st.1.map cI).set x.term.var.toNat (cI (jM h m x - x.term.add)):=by rw [hs2e,cG]
     have e2:s2.2.map cB=(st.2.map cB).set x.term.var.toNat (cB true):=by rw [hs2e,cG]
     have ecl:D.clLL ((st.1.map cI).set x.term.var.toNat [D.int .i64 (jM h m x - x.term.add)])=true:=by have:=nU s2.1;rw [e1] at this;exact this
     have Y:=wa Y (wa e1 (wa e2 (wa @dLI.eq_1 (wa @cI.eq_1 (wa (aA hvl) ecl)))))
     refine wp (h:=cY (iF x.term s2.1 (by rw [hs2.l1];exact hT) hs2.big) wr wl rfl ?_)
     refine wv (h:=?_)
     repeat first|intro _|refine ⟨eM,?_⟩
     refine wq (fun h17=>?_) fun h17=>?_
     ·have hR:=dC (hSt.2 (by first|simpa using h17|simpa [hs2n hc.1] using h17|simpa [hs2e] using h17))
      exact wv (h:=hQ _ _ (by simp [go_sem,hR]))
     ·have hstep:=hSt.1 (by first|simpa using h17|simpa [hs2n hc.1] using h17|simpa [hs2e] using h17)
      exact wp (h:=wx hI2 (i+1) ⟨s2,wg,(by (simp [go_sem,Y])),wn,(by (simp [go_sem,Y])),wn,wj,(by exact hs2),(by exact hstep)⟩)
    ·have hF:¬ i7 st x=true:=by simp only [i7,aP,decide_eq_true_eq,cD];rintro ⟨_,hk⟩;simp [aA (vlt hc)] at hk;simp [hk] at h14
     unfold jS at hs2e
     rw [if_neg hF] at hs2e
     have Y:=wa Y hs2e
     refine wv (h:=cY ((by first|exact iF x.term s2.1 (by rw [hs2.l1];exact hT) hs2.big|exact iF p.tests[k].left st.1 (by rw [hst.l1];exact hX.2.1) hst.big)) wr wl rfl ?_)
     refine cT (fun h17=>?_) fun h17=>?_
     ·have hR:=dC (hSt.2 (by first|simpa using h17|simpa [hs2n hc.1] using h17|simpa [hs2e] using h17))
      exact wv (h:=hQ _ _ (by simp [go_sem,hR]))
     ·have hstep:=hSt.1 (by first|simpa using h17|simpa [hs2n hc.1] using h17|simpa [hs2e] using h17)
      exact wp (h:=wx hI2 (i+1) ⟨s2,wg,(by (simp [go_sem,Y])),wn,(by (simp [go_sem,Y])),wn,wj,(by exact hs2),(by exact hstep)⟩)
   ·have Y:=wa Y (wa h10 (wa (aA h10) (wa (Eq.symm hx) (wa (aA hn2) (wa (aA hk2) (wa (aA ha2) (wa (Eq.symm hV) (wa @Slot.c.eq_1 (wa @cL.eq_1 (wa hl1 (wa hl2 (wa @iR (wa @cB.eq_1 (wa hc.1 (wa hc.2 (hs2n hc.1))))))))))))))))
    refine wp (h:=cY (iF x.term s2.1 (by rw [hs2.l1];exact hT) hs2.big) wr wl rfl ?_)
    refine wv (h:=?_)
    repeat first|intro _|refine ⟨eM,?_⟩
    refine wq (fun h17=>?_) fun h17=>?_
    ·have hR:=dC (hSt.2 (by first|simpa using h17|simpa [hs2n hc.1] using h17|simpa [hs2e] using h17))
     exact wv (h:=hQ _ _ (by simp [go_sem,hR]))
    ·have hstep:=hSt.1 (by first|simpa using h17|simpa [hs2n hc.1] using h17|simpa [hs2e] using h17)
     exact wp (h:=wx hI2 (i+1) ⟨s2,wg,(by (simp [go_sem,Y])),wn,(by (simp [go_sem,Y])),wn,wj,(by exact hs2),(by exact hstep)⟩)
   ·have Y:=wa Y (wa h10 (wa (aA h10) (wa (Eq.symm hx) (wa (aA hn2) (wa (aA hk2) (wa (aA ha2) (wa (Eq.symm hV) (wa @Slot.c.eq_1 (wa @cL.eq_1 (wa hl1 (wa hl2 (wa @iR (wa @cB.eq_1 (wa hc.1 (wa hc.2 (hs2n hc.1))))))))))))))))
    refine wp (h:=cY (iF x.term s2.1 (by rw [hs2.l1];exact hT) hs2.big) wr wl rfl ?_)
    refine wv (h:=?_)
    repeat first|intro _|refine ⟨eM,?_⟩
    refine wq (fun h17=>?_) fun h17=>?_
    ·have hR:=dC (hSt.2 (by first|simpa using h17|simpa [hs2n hc.1] using h17|simpa [hs2e] using h17))
     exact wv (h:=hQ _ _ (by simp [go_sem,hR]))
    ·have hstep:=hSt.1 (by first|simpa using h17|simpa [hs2n hc.1] using h17|simpa [hs2e] using h17)
     exact wp (h:=wx hI2 (i+1) ⟨s2,wg,(by (simp [go_sem,Y])),wn,(by (simp [go_sem,Y])),wn,wj,(by exact hs2),(by exact hstep)⟩)
  ·rw [aJ (by omega)] at hsl
   have hR0:=mB hsl
   have hl1:=hst.l1
   have Y:=wa Y hl1
   refine wv (h:=bB (fun k e H=>(e 4=.adr p.c∧e 5=.adr h.c∧e 6=.adr m.c∧e 3=dLI vs∧e 10=.own 0 p.vars.toNat∧e 18=dI k)∧(H.get 0=some ⟨3,1,st.1.map cI,false⟩)∧(0<H.next)∧(k≤p.tests.length)∧((p.tests.take k).all (fun x=>wY x st.1)=true)) (fun k=>p.tests.length - k) 0 ⟨wg,wn,wn,wi,(by rfl)⟩ fun I4 hI4 k e H hi4=>?_)
   obtain ⟨E4,g0_4,n0_4,hk,hall⟩:=hi4
   have Y:=wa Y (wa E4 (wa g0_4 (bY n0_4)))
   refine wv (h:=?_)
   repeat first|intro _|refine ⟨eM,?_⟩
   refine wq (fun h20=>?_) fun h20=>?_
   ·have hX:=hO.test _ (aC h20)
    have hTn:=Nx (vs:=st.1) hX
    have Y:=wa Y (wa h20 (wa (aA h20) @Test.c.eq_1))
    refine wp (h:=cY ((by first|exact iF x.term s2.1 (by rw [hs2.l1];exact hT) hs2.big|exact iF p.tests[k].left st.1 (by rw [hst.l1];exact hX.2.1) hst.big)) wr wl rfl ?_)
    refine wp (h:=cY (iF p.tests[k].right st.1 (by rw [hst.l1];exact hX.2.2) hst.big) wr wl rfl ?_)
    refine wv (h:=?_)
    repeat first|intro _|refine ⟨eM,?_⟩
    refine wq (fun h25=>?_) fun h25=>?_
    ·have hT0:wY p.tests[k] st.1=false:=by
      rw [hTn,Bool.not_eq_false']
      rcases h25 with ⟨a,b⟩|⟨a,b⟩
      ·simp [a,b]
      ·simp [a,b]
     have hR:dH p h m vs=([],16):=by
      rw [hR0,if_neg]
      intro ha
      rw [bV] at ha
      have:=ha _ (aC h20)
      rw [hT0] at this;cases this
     exact wv (h:=hQ _ _ (by simp [go_sem,hR]))
    ·have hT1:wY p.tests[k] st.1=true:=by
      rw [hTn];simp
      exact ⟨by by_cases hk1:p.tests[k].kind=1;exact .inr (h25.1 hk1);exact .inl hk1,by by_cases hk2:p.tests[k].kind=2;exact .inr (h25.2 hk2);exact .inl hk2⟩
     exact wp (h:=wx hI4 (k+1) ⟨wg,wn,wn,wj,(by (rw [aF h20,yV,hall];simp;exact hT1))⟩)
   ·rw [aJ (by omega)] at hall
    rw [if_pos hall] at hR0
    exact wv (h:=hQ _ _ (by simp [go_sem,Y,hR0,dLI]))
/-! ### extensions -/
structure MatOk (t:Types) (p:Pattern) (h:Host) (m:Mat):Prop where
 mok:MOk t p.graph h.graph m.m
 vl:m.vars.length=p.vars.toNat
 vs:∀ v∈m.vars,-2000000≤v∧v≤2000000
structure ExOk (t:Types) (p:Pattern) (mp:Part) (q:Pattern):Prop where
 pq:PatOk t q
 pv:p.vars≤q.vars
 p0:0≤p.vars
 mo:dS p.graph q.graph mp=0
theorem ExOk.img {t:Types}{p:Pattern}{mp:Part}{q:Pattern}(h:ExOk t p mp q):(mp.nodes.length=p.graph.nodes.length∧mp.edges.length=p.graph.edges.length)∧(∀ x∈mp.nodes,0≤x∧x<q.graph.nodes.length)∧(∀ x∈mp.edges,0≤x∧x<q.graph.edges.length):=by
 have:=lR h.mo
 exact ⟨this.2.2,(wI h.mo).1,(wI h.mo).2⟩
theorem DV {t:Types}{p g:Graph}{q:Part}{inj:Bool}{m:Part}(h:m∈(lC t p g q inj).1):MOk t p g m:=by
 unfold lC at h
 split at h
 ·cases h
 ·split at h
  ·cases h
  ·split at h
   ·cases h
   ·split at h
    ·cases h
    ·unfold Ci at h
     split at h
     ·cases h
     ·exact JN (S:=⟨t,p,g,_,_,inj⟩) (b8 h)
theorem Nr {t:Types}{q:Pattern}{h:Host}{vars:List Int}{l:List Part}(hp:PatOk t q)(ho:HostOk t h)(hl:∀ x∈l,MOk t q.graph h.graph x)(hv:vars.length≤q.vars.toNat)(hs:∀ v∈vars,-2000000≤v∧v≤2000000):∀ m∈pM q h vars l,MatOk t q h m:=fun m hm=>by
 unfold pM at hm
 rw [List.mem_filterMap] at hm
 obtain ⟨x,hx,he⟩:=hm
 split at he
 ·rename_i h0
  cases he
  obtain ⟨h1,h2⟩:=xT (OU hp ho (hl x hx)) hv hs h0
  exact ⟨hl x hx,h1,h2⟩
 ·cases he
theorem LU {t:Types}{p:Pattern}{mp:Part}{q:Pattern}{h:Host}{m:Mat}{inj:Bool}(hE:ExOk t p mp q)(ho:HostOk t h)(hm:MatOk t p h m):∀ x∈(uP t mp q h m inj).1,MatOk t q h x:=by
 unfold uP
 split
 ·simp
 ·exact Nr hE.pq ho (fun x hx=>DV hx) (by have:=hm.vl;have:=hE.pv;have:=hE.p0;omega) hm.vs
theorem AN (t:Types)(ht:t.ok)(p:Pattern)(c:Cond)(hE:ExOk t p c.map c.pattern)(h:Host)(ho:HostOk t h)(m:Mat)(hm:MatOk t p h m)(inj:Bool) :
  Pure Tryz.prog 349 [t.d,.agg c.c,h.d,m.d,.bool inj] (.tup [.list ((uP t c.map c.pattern h m inj).1.map Mat.c),dI (uP t c.map c.pattern h m inj).2]):=by
 obtain ⟨⟨hl1,hl2⟩,hi1,hi2⟩:=hE.img
 have hq:=bJ hE.pq.gg
 have hn1:=hm.mok.len
 have hn2:=hm.mok.elen
 refine Tz.pK ⟨fun t=>t==12||t==13||t==16,fun r=>match r with|2=>[(0,23),(1,23),(2,23),(3,23),(4,23),(5,23),(6,23),(7,23),(8,23),(9,23),(10,23),(11,23),(12,23),(13,23),(14,23),(15,23),(16,23),(17,23),(18,23),(19,23),(20,23),(21,23)]|_=>[]⟩ Tryz.func349 rfl (fun Q hQ=>?_)
 obtain ⟨X,hX⟩:∃ X,X=lC t c.pattern.graph h.graph (mI c.map c.pattern m.m) inj:=⟨_,rfl⟩
 have hXm:∀ x∈X.1,MOk t c.pattern.graph h.graph x:=fun x hx=>DV (hX ▸ hx)
 have hX5:X.1.length≤5000:=hX ▸ LT _ _ _ _ _
 have hvl:m.vars.length≤c.pattern.vars.toNat:=by have:=hm.vl;have:=hE.pv;have:=hE.p0;omega
 have hXE:uP t c.map c.pattern h m inj=if X.2≠0 then ([],X.2) else (pM c.pattern h m.vars X.1,0):=by unfold uP;rw [← hX]
 have Y:=wa @Cond.c_eq (wa @Host.d.eq_1 (wa @Host.c.eq_1 (wa @Mat.d.eq_1 @Mat.c.eq_1)))
 refine wp (h:=aI (zF c.pattern.graph.nodes.length (by omega) c.map.nodes m.m.nodes hi1 (by omega)) wl ?_)
 refine wp (h:=aI (zF c.pattern.graph.edges.length (by omega) c.map.edges m.m.edges hi2 (by omega)) wl ?_)
 refine wp (h:=aB ((by have hq:=G1 t ht c.pattern.graph h.graph (mI c.map c.pattern m.m) inj;rw [← hX] at hq;unfold mI Types.d Types.c Graph.d Graph.c Part.d Part.c dLI at hq;exact hq)) wl ?_)
 refine qP (fun h4=>?_) fun h4=>?_
 ·rw [if_pos h4] at hXE
  exact wv (h:=hQ _ _ (by simp [go_sem,hXE]))
 ·rw [if_neg (by omega)] at hXE
  refine wv (h:=bB (fun i e H=>∃ ms:List Mat,(e 5=.adr t.c∧e 6=.adr c.c∧e 7=.adr h.c∧e 8=.adr m.c∧e 4=.bool inj∧e 12=.ptr 0 1 0 0∧e 14=.list (X.1.map Part.c)∧e 16=.own 26 ms.length∧e 17=dI i)∧(H.get 0=some ⟨53,5,[c.pattern.c],false⟩)∧(0<H.next)∧(H.get 26=some ⟨65,3,ms.map Mat.c,false⟩)∧(26<H.next)∧(i≤X.1.length)∧(ms=pM c.pattern h m.vars (X.1.take i))∧(ms.length≤i)) (fun i=>X.1.length - i) 0 ⟨([]),wg,wn,wn,wn,wn,wi,(by rfl),(by (simp))⟩ fun I0 hI0 i e H hi0=>?_)
  obtain ⟨ms,E0,g0_0,n0_0,g26_0,n26_0,hi,hms,hml⟩:=hi0
  have Y:=wa Y (wa E0 (wa g0_0 (wa (bY n0_0) (wa g26_0 (bY n26_0)))))
  refine qP (fun h8=>?_) fun h8=>?_
  ·obtain ⟨v,hv⟩:∃ v,v=dH c.pattern h X.1[i] m.vars:=⟨_,rfl⟩
   obtain ⟨ms2,hms2⟩:∃ y,y=ms++if v.2=0 then [(⟨X.1[i],v.1⟩:Mat)] else []:=⟨_,rfl⟩
   have Y:=wa Y (wa h8 (wa (aA h8) (wa @Part.c.eq_1 @Pattern.c.eq_1)))
   refine wp (h:=aI ((by have hq:=GZ c.pattern h X.1[i] (OU hE.pq ho (hXm _ (aC h8))) m.vars hvl hm.vs;rw [← hv] at hq;unfold Pattern.d Pattern.c Host.d Host.c Part.d Part.c dLI at hq;exact hq)) wl ?_)
   refine qP (fun h11=>?_) fun h11=>?_
   ·have hm3:ms2=ms++[⟨X.1[i],v.1⟩]:=by rw [hms2,if_pos (by simpa using h11)]
    have Y:=wa Y hm3
    exact wp (h:=wx hI0 (i+1) ⟨ms2,wg,wn,wn,wn,wn,wj,(by (rw [aF h8,kF,← hms,← hv];exact hms2)),(by (rw [hms2];split<;>simp<;>omega))⟩)
   ·have hm3:ms2=ms:=by rw [hms2,if_neg (by simpa using h11),c5]
    have Y:=wa Y hm3
    exact wp (h:=wx hI0 (i+1) ⟨ms2,wg,wn,wn,wn,wn,wj,(by (rw [aF h8,kF,← hms,← hv];exact hms2)),(by (rw [hms2];split<;>simp<;>omega))⟩)
  ·rw [aJ (by omega)] at hms
   exact wv (h:=hQ _ _ (by simp [go_sem,Y,hXE,← hms]))
end Go.Abs
end
