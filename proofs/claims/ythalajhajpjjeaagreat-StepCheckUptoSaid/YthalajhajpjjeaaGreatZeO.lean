/- All, Extend and Instance of the reference. · Patterns and th -/
import Derived.Test.YthalajhajpjjeaaGreatZeF
import Derived.Test.YthalajhajpjjeaaGreatZeA
import Derived.Test.YthalajhajpjjeaaGreatZeM
import Derived.Test.YthalajhajpjjeaaGreatZeN
set_option linter.unusedVariables false
set_option linter.unusedSimpArgs false
section
set_option maxRecDepth 100000
set_option maxHeartbeats 4000000
open Go Go.Proofs
namespace Go.Abs
@[go_sem] theorem SU (l:List Part):D.clLL (l.map Part.c)=true:=sR l
theorem Tt (t:Types)(p g:Graph)(hG:G17 t p g)(pn pe:List Int)(h1:pn.length=p.nodes.length)(h2:pe.length=p.edges.length)(inj:Bool) :
  Pure Tryz.prog 356 [t.d,p.d,g.d,.agg [dLI pn,dLI pe],.bool inj,dI 5000] (.list (((wR ⟨t,p,g,pn,pe,inj⟩).take 5001).map Part.c)) :=
 NG ⟨t,p,g,pn,pe,inj⟩ hG h1 h2 5000 (by omega)
theorem Rr (t:Types)(p g:Graph)(hG:G17 t p g)(pn pe:List Int)(h1:pn.length=p.nodes.length)(h2:pe.length=p.edges.length)(inj:Bool){L:List Part}(hL:L=(wR ⟨t,p,g,pn,pe,inj⟩).take 5001) :
  Pure Tryz.prog 356 [t.d,p.d,g.d,.agg [dLI pn,dLI pe],.bool inj,dI 5000] (.list (L.map Part.c)):=hL ▸ Tt t p g hG pn pe h1 h2 inj
def Ad (l:List Int)(r6 n:Int):Int:=if (l.length:Int)≠r6 then 20 else lG l n
theorem z6 (l:List Int)(r6 n:Int):Pure Tryz.prog 440 [dLI l,dI r6,dI n] (dI (Ad l r6 n)):=by
 refine Tz.pK ⟨fun _=>false,fun _=>[]⟩ Tryz.func440 rfl (fun Q hQ=>?_)
 have Y:=trivial
 refine wv (h:=?_)
 repeat first|intro _|refine ⟨dR,?_⟩
 refine wq (fun h1=>?_) fun h1=>?_
 ·have hP:Ad l r6 n=20:=by unfold Ad;rw [if_pos (by omega)]
  exact wv (h:=hQ _ _ (by simp [go_sem,hP]))
 ·have hP:Ad l r6 n=lG l n:=by unfold Ad;rw [if_neg (by omega)]
  refine wv (h:=bA (fun i e H=>(e 0=dLI l∧e 2=dI n∧e 7=dI i)∧(i≤l.length)∧(bJ (Ag n l) i (l.length - i)=lG l n)) (fun i=>l.length - i) 0 ⟨wg,wi,(by rfl)⟩ fun I0 hI0 i e H hi0=>?_)
  obtain ⟨E0,hi,hF⟩:=hi0
  have Y:=wa Y E0
  refine wv (h:=?_)
  repeat first|intro _|refine ⟨dR,?_⟩
  refine wq (fun h4=>?_) fun h4=>?_
  ·have hst:=d7 (Ag n l) h4
   rw [hF] at hst
   have hO:Ag n l i=if l[i] < -1∨n≤l[i] then 6 else 0:=by simp only [Ag,aA h4,aD]
   have Y:=wa Y (wa h4 (aA h4))
   refine wv (h:=?_)
   repeat first|intro _|refine ⟨dR,?_⟩
   refine wq (fun h6=>?_) fun h6=>?_
   ·rw [if_pos (by omega)] at hO
    rw [hO,if_pos (by omega)] at hst
    exact wv (h:=hQ _ _ (by simp [go_sem,hP,hst]))
   ·rw [if_neg (by omega)] at hO
    rw [hO,if_neg (by omega)] at hst
    exact wo (h:=wx hI0 (i+1) ⟨wg,wj,(by exact hst.symm)⟩)
  ·have hZ:lG l n=0:=by rw [← hF,show l.length - i=0 by omega];rfl
   exact wv (h:=hQ _ _ (by simp [go_sem,hP,hZ]))
theorem HP (t:Types)(ht:t.ok)(p g:Graph)(q:Part)(inj:Bool):Pure Tryz.prog 394 [t.d,p.d,g.d,q.d,.bool inj] (.tup [.list ((lK t p g q inj).1.map Part.c),dI (lK t p g q inj).2]):=by
 refine Tz.pK ⟨fun _=>false,fun _=>[]⟩ Tryz.func394 rfl (fun Q hQ=>?_)
 have Y:=trivial
 refine wv (h:=aB (vR t ht p g) wl ?_)
 refine c4 (fun h2=>?_) fun h2=>?_
 ·have hA:lK t p g q inj=([],eP t p g):=by unfold lK;rw [if_pos (by simpa using h2)]
  exact wv (h:=hQ _ _ (by simp [go_sem,hA]))
 ·have hG:=l3 (by simpa using h2)
  refine eF (fun h4=>?_) fun h4=>?_
  ·have hA:lK t p g q inj=([],20):=by unfold lK;rw [if_neg (by simpa using h2),if_pos (by omega)]
   exact wv (h:=hQ _ _ (by simp [go_sem,hA]))
  ·have hq:q.nodes.length=p.nodes.length∧q.edges.length=p.edges.length:=by omega
   have hP1:Ad q.nodes p.nodes.length g.nodes.length=lG q.nodes g.nodes.length:=by unfold Ad;rw [if_neg (by omega)]
   have hP2:Ad q.edges p.edges.length g.edges.length=lG q.edges g.edges.length:=by unfold Ad;rw [if_neg (by omega)]
   refine wo (h:=aB (z6 q.nodes p.nodes.length g.nodes.length) wl ?_)
   refine eF (fun h7=>?_) fun h7=>?_
   ·have hA:lK t p g q inj=([],lG q.nodes g.nodes.length):=by unfold lK;rw [if_neg (by simpa using h2),if_neg (by omega),if_pos (by rw [← hP1];exact h7)]
    exact wv (h:=hQ _ _ (by simp [go_sem,hA,hP1]))
   ·have h7':lG q.nodes g.nodes.length=0:=by rw [← hP1];exact h7
    refine wo (h:=aB (z6 q.edges p.edges.length g.edges.length) wl ?_)
    refine eF (fun h10=>?_) fun h10=>?_
    ·have hA:lK t p g q inj=([],lG q.edges g.edges.length):=by unfold lK;rw [if_neg (by simpa using h2),if_neg (by omega),if_neg (by omega),if_pos (by rw [← hP2];exact h10)]
     exact wv (h:=hQ _ _ (by simp [go_sem,hA,hP2]))
    ·have h10':lG q.edges g.edges.length=0:=by rw [← hP2];exact h10
     obtain ⟨L,hL⟩:∃ L,L=(wR ⟨t,p,g,q.nodes,q.edges,inj⟩).take 5001:=⟨_,rfl⟩
     have hA:lK t p g q inj=if 5000<L.length then ([],3) else (L,0):=by unfold lK;rw [if_neg (by simpa using h2),if_neg (by omega),if_neg (by omega),if_neg (by omega)];unfold EI;rw [← hL]
     refine wv (h:=aB (Rr t p g hG q.nodes q.edges hq.1 hq.2 inj hL) wl ?_)
     refine eF (fun h13=>?_) fun h13=>?_
     ·rw [if_pos (by omega)] at hA
      exact wv (h:=hQ _ _ (by simp [go_sem,hA]))
     ·rw [if_neg (by omega)] at hA
      exact wv (h:=hQ _ _ (by simp [go_sem,hA]))
/-! ### the instance of a pattern -/
def Ef (g:Graph)(ms ns:List Int)(i:Nat):List Int:=(List.range i).foldl (fun acc k=>acc.set k (gN g (ms[k]?.getD 0))) ns
theorem wD (g:Graph)(ms ns:List Int):∀ i,(Ef g ms ns i).length=ns.length
 | 0=>rfl
 | i+1=>by unfold Ef;rw [dK,i5];exact wD g ms ns i
theorem GK (g:Graph)(ms ns:List Int)(i:Nat):Ef g ms ns (i+1)=(Ef g ms ns i).set i (gN g (ms[i]?.getD 0)):=by unfold Ef;rw [dK]
theorem J8 (g:Graph)(ms ns:List Int)(k:Nat)(hk:k<ns.length):∀ i,(Ef g ms ns i)[k]?=if k<i then some (gN g (ms[k]?.getD 0)) else ns[k]?
 | 0=>by simp [Ef]
 | i+1=>by
  rw [GK,dN,wD,J8 g ms ns k hk i]
  by_cases h:i=k
  ·subst h;simp [hk]
  ·rw [if_neg h]
   by_cases h2:k<i
   ·rw [if_pos h2,if_pos (by omega)]
   ·rw [if_neg h2,if_neg (by omega)]
theorem Pa {g:Graph}{ms ns:List Int}(h:ms.length=ns.length):Ef g ms ns ns.length=ms.map (gN g):=by
 apply fP
 intro k
 by_cases hk:k<ns.length
 ·rw [J8 g ms ns k hk,if_pos hk,aR,aA (by omega)];rfl
 ·rw [bP (by rw [wD];omega),bP (by simp;omega)]
def xM (t:Types)(p g:Graph)(m:Part):Graph:=if eR t p g m false=0 then oL p g m else ⟨[],[]⟩
theorem w4 {t:Types}{p g:Graph}{m:Part}{inj:Bool}(h:gX t p g m inj=0) :
  (m.nodes.length=p.nodes.length∧m.edges.length=p.edges.length)∧(∀ x∈m.nodes,0≤x∧x<g.nodes.length)∧(∀ x∈m.edges,0≤x∧x<g.edges.length):=by
 unfold gX at h
 split at h
 ·cases h
 ·rename_i h1
  split at h
  ·exact absurd h (by assumption)
  ·rename_i h2
   split at h
   ·exact absurd h (by assumption)
   ·rename_i h3
    refine ⟨by omega,fun x hx=>?_,fun x hx=>?_⟩
    ·obtain ⟨k,hk,rfl⟩:=aO hx
     have:=dZ _ _ (by simpa using h2) k (dF _) (by omega)
     unfold GF at this
     rw [aA hk,aD] at this
     split at this
     ·cases this
     ·omega
    ·obtain ⟨k,hk,rfl⟩:=aO hx
     have:=dZ _ _ (by simpa using h3) k (dF _) (by omega)
     unfold gL at this
     rw [aA hk,aD] at this
     split at this
     ·cases this
     ·omega
theorem pR {t:Types}{p g:Graph}{m:Part}{inj:Bool}(h:eR t p g m inj=0):G17 t p g∧gX t p g m inj=0:=by
 unfold eR at h
 split at h
 ·exact absurd h (by assumption)
 ·rename_i h1;exact ⟨l3 (by simpa using h1),h⟩
theorem DM (t:Types)(ht:t.ok)(p g:Graph)(m:Part):Pure Tryz.prog 150 [t.d,p.d,g.d,m.d] (.tup [(xM t p g m).d,dI (eR t p g m false)]):=by
 refine Tz.pK ⟨fun t=>t==8||t==11,fun _=>[]⟩ Tryz.func150 rfl (fun Q hQ=>?_)
 have Y:=trivial
 refine wv (h:=aB (vT t ht p g m false) wl ?_)
 refine c4 (fun h2=>?_) fun h2=>?_
 ·have hI:xM t p g m=⟨[],[]⟩:=by unfold xM;rw [if_neg (by simpa using h2)]
  exact wv (h:=hQ _ _ (by simp [go_sem,hI]))
 ·obtain ⟨hG,hM⟩:=pR (by simpa using h2)
  obtain ⟨⟨hl1,hl2⟩,hmn,hme⟩:=w4 hM
  have hla:=bK hG.gp
  have hlb:=bK hG.gg
  have hI:xM t p g m=oL p g m:=by unfold xM;rw [if_pos (by simpa using h2)]
  refine wv (h:=?_)
  unfold fE;refine x9 p (by omega) (by omega) _ _ (fun a b H1 ha hb hab han hbn hga hgb hfr hnn=>?_)
  have h0n:(0:Nat)<H1.next:=by omega
  have ha0:a≠0:=by simp [go_sem] at ha;omega
  have hb0:b≠0:=by simp [go_sem] at hb;omega
  have hg0:=hfr 0 (by simp [go_sem])
  simp [go_sem] at hg0
  have nx:=VK H1.next
  have fr1:=And.intro (bZ (show a<H1.next by omega)) (And.intro (bZ (show b<H1.next by omega)) (bZ (show 0<H1.next by omega)))
  have di2:=And.intro (cW (show 0≠b by omega)) (And.intro (cW (show 0≠a by omega)) (cW (show b≠a by omega)))
  have Y:=wa Y (wa fr1 (wa di2 (wa hga (wa hgb (wa hg0 nx)))))
  refine wv (h:=bA (fun i e H=>∃ c:Nat,(e 4=.adr t.c∧e 5=.adr p.c∧e 6=.adr g.c∧e 7=.adr m.c∧e 8=.ptr 0 1 0 0∧e 11=.ptr c 1 0 0∧e 12=dI i)∧(H.get 0=some ⟨29,2,[[.nil,.nil]],false⟩)∧(0<H.next)∧(H.get c=some ⟨29,2,[[.own a p.nodes.length,.own b p.edges.length]],false⟩)∧(c<H.next)∧(H.get a=some ⟨3,1,(Ef g m.nodes p.nodes i).map cI,false⟩)∧(a<H.next)∧(H.get b=some ⟨122,3,p.edges.map Edge.c,false⟩)∧(b<H.next)∧(i≤p.nodes.length)∧(a<c∧b<c)∧((Ef g m.nodes p.nodes i).length=p.nodes.length)) (fun i=>p.nodes.length - i) 0 ⟨H1.next,wg,wn,wn,wn,wn,(by (simp [go_sem,Y,Ef])),wn,wn,wn,wi,(by omega),(by (exact wD _ _ _ _))⟩ fun I0 hI0 i e H hi0=>?_)
  obtain ⟨c,E0,g0_0,n0_0,gc_0,nc_0,ga_0,na_0,gb_0,nb_0,hi,hc,hrl⟩:=hi0
  have di3:=And.intro (cW (show 0≠c by omega)) (And.intro (cW (show 0≠b by omega)) (And.intro (cW (show 0≠a by omega)) (And.intro (cW (show c≠b by omega)) (And.intro (cW (show c≠a by omega)) (cW (show b≠a by omega))))))
  have Y:=wa Y (wa E0 (wa g0_0 (wa (bZ n0_0) (wa gc_0 (wa (bZ nc_0) (wa ga_0 (wa (bZ na_0) (wa gb_0 (wa (bZ nb_0) (wa hrl di3))))))))))
  refine tG (fun h6=>?_) fun h6=>?_
  ·have him:i<m.nodes.length:=by omega
   have hmi:=hmn _ (aC him)
   have hkg:m.nodes[i].toNat<g.nodes.length:=by omega
   have hgx:gN g (m.nodes[i]?.getD 0)=g.nodes[m.nodes[i].toNat]:=by rw [aA him,aD];simp [gN,aA hkg]
   have hgy:gN g m.nodes[i]=g.nodes[m.nodes[i].toNat]:=by simp [gN,aA hkg]
   have Y:=wa Y (wa h6 (wa (aA him) (aA hkg)))
   exact wp (h:=wx hI0 (i+1) ⟨c,wg,wn,wn,wn,wn,(by (simp [go_sem,Y,GK,c8,hgx,hgy,cI])),wn,wn,wn,wj,(by omega),(by (exact wD _ _ _ _))⟩)
  ·have hIe:i=p.nodes.length:=by omega
   have hE:=Pa (g:=g) hl1
   rw [hIe] at hrl
   exact wv (h:=hQ _ _ (by simp [go_sem,Y,hI,oL,Graph.d,Graph.c,hIe,hE,dLI,hl1,h2]))
theorem J4 {α:Type}{f:α→Int}{m:Int}(h0:(0:Int)≠m)(h:∀ x,f x≠m):∀ l,fO f l≠m
 | []=>h0
 | x :: l=>by
  simp only [fO];split
  ·exact h x
  ·exact J4 h0 h l
theorem Np (n:Int)(l:List Test):jN n l≠9:=by
 unfold jN
 split
 ·decide
 ·split
  ·decide
  ·refine J4 (by decide) (fun x=>?_) l
   unfold qY;split
   ·decide
   ·split<;>decide
structure PatOk (t:Types) (q:Pattern):Prop where
 vf:(b8 t).2=0
 gg:graphF q.graph=0
 ty:f8 t q.graph=true
 vars:0≤q.vars∧q.vars≤12
 few:q.slots.length≤10∧q.tests.length≤10
 slot:∀ s∈q.slots,fN t q s=0
 test:∀ x∈q.tests,qY q.vars x=0
theorem Gn {t:Types}{q:Pattern}(h:bV t q=9∨bV t q=0):PatOk t q:=by
 have hv:=jD h
 have hne:=F5 t
 have hg9:graphF q.graph≠9:=by
  unfold graphF;repeat' split
  all_goals decide
 have ht9:=Np q.vars q.tests
 unfold bV at h
 by_cases h1:(b8 t).2=0
 ·rw [if_neg (by omega)] at h
  by_cases h2:graphF q.graph=0
  ·rw [if_neg (by omega)] at h
   by_cases h3:f8 t q.graph=false
   ·rw [if_pos h3] at h;omega
   ·rw [if_neg h3] at h
    by_cases h4:inF q.vars 0 12=false
    ·rw [if_pos h4] at h;omega
    ·rw [if_neg h4] at h
     by_cases h5:10<q.slots.length∨10<q.tests.length
     ·rw [if_pos h5] at h;omega
     ·rw [if_neg h5] at h
      by_cases h6:fO (fN t q) q.slots=0
      ·rw [if_neg (by omega)] at h
       by_cases h7:jN q.vars q.tests=0
       ·refine ⟨h1,h2,by simpa using h3,hv,by omega,nM h6,nM ?_⟩
        unfold jN at h7
        split at h7
        ·cases h7
        ·split at h7
         ·cases h7
         ·exact h7
       ·rw [if_pos h7] at h;omega
      ·rw [if_pos h6] at h;omega
  ·rw [if_pos h2] at h;omega
 ·rw [if_pos h1] at h;omega
theorem IR {n:Int}{x:Term}(h:termB n x=true)(hn:0≤n):nB x n.toNat:=by
 simp only [termB,aM,decide_eq_true_eq] at h
 exact ⟨⟨by omega,by omega⟩,by omega,by omega⟩
theorem PatOk.tests {t:Types}{q:Pattern}(hp:PatOk t q):∀ x∈q.tests,Fb x q.vars.toNat:=fun x hx=>by
 have:=hp.test x hx
 unfold qY at this
 split at this
 ·cases this
 ·rename_i h1
  split at this
  ·rename_i h2
   rw [aM] at h2
   exact ⟨by omega,IR h2.1 hp.vars.1,IR h2.2 hp.vars.1⟩
  ·cases this
theorem PatOk.slots {t:Types}{q:Pattern}(hp:PatOk t q):∀ s∈q.slots,(0≤s.node∧s.node<q.graph.nodes.length)∧(0≤s.attr∧s.attr<(bI t (q.graph.nodes[s.node.toNat]?.getD 0)).length)∧nB s.term q.vars.toNat:=fun s hs=>by
 have:=hp.slot s hs
 have hv:=hp.vars
 unfold fN at this
 split at this
 ·rename_i h1
  simp only [aM,j5,decide_eq_true_eq,inF,Pattern.kind] at h1
  exact ⟨h1.1.1.1,⟨h1.1.1.2.1,of_decide_eq_true h1.1.1.2.2⟩,⟨by omega,by omega⟩,by omega,by omega⟩
 ·cases this
structure MOk (t:Types) (p g:Graph) (m:Part):Prop where
 len:m.nodes.length=p.nodes.length
 elen:m.edges.length=p.edges.length
 img:∀ (i:Nat) (hi:i<m.nodes.length) (hp:i<p.nodes.length),(0≤m.nodes[i]∧m.nodes[i]<g.nodes.length)∧uD t p.nodes[i] (g.nodes[m.nodes[i].toNat]?.getD 0)=true
 eimg:∀ (i:Nat) (hi:i<m.edges.length),0≤m.edges[i]∧m.edges[i]<g.edges.length
theorem p9 {t:Types}{p g:Graph}{m:Part}{inj:Bool}(h:gX t p g m inj=0):MOk t p g m:=by
 obtain ⟨⟨h1,h2⟩,h3,h4⟩:=w4 h
 refine ⟨h1,h2,fun i hi hp=>⟨h3 _ (aC hi),?_⟩,fun i hi=>h4 _ (aC hi)⟩
 unfold gX at h
 rw [if_neg (by omega)] at h
 split at h
 ·exact absurd h (by assumption)
 ·rename_i h5
  have:=dZ _ _ (by simpa using h5) i (dF _) (by omega)
  unfold GF at this
  rw [aA hi,aA hp,aD,aD] at this
  split at this
  ·cases this
  ·split at this
   ·assumption
   ·cases this
theorem Kj {S:Srch}{ns:List Int}:∀ (d:Nat) (l es:List Int),es∈CM S ns d l→es.length=l.length+d∧(∀ x∈l,0≤x∧x<S.g.edges.length→True)∧((∀ x∈l,0≤x∧x<S.g.edges.length)→∀ x∈es,0≤x∧x<S.g.edges.length)
 | 0,l,es,h=>by
  simp only [CM,bL] at h;subst h
  exact ⟨rfl,fun _ _ _=>trivial,fun h=>h⟩
 | d+1,l,es,h=>by
  simp only [CM,bT,fZ,b6] at h
  obtain ⟨k,⟨hk,_⟩,hr⟩:=h
  obtain ⟨h1,_,h3⟩:=Kj d _ es hr
  refine ⟨by simp at h1;omega,fun _ _ _=>trivial,fun hl=>h3 fun x hx=>?_⟩
  rw [aY,bL] at hx
  rcases hx with hx|rfl
  ·exact hl x hx
  ·omega
theorem Ki {S:Srch}:∀ (d:Nat) (l:List Int) (m:Part),m∈Aw S d l→m.nodes.length=l.length+d∧∀ i,l.length≤i→i<l.length+d→∃ k:Nat,m.nodes[i]?=some (k:Int)∧k<S.g.nodes.length∧uD S.t (S.p.nodes[i]?.getD 0) (S.g.nodes[k]?.getD 0)=true
 | 0,l,m,h=>by
  simp only [Aw,bG] at h
  obtain ⟨es,_,rfl⟩:=h
  exact ⟨rfl,fun i h1 h2=>by omega⟩
 | d+1,l,m,h=>by
  have h':=h
  simp only [Aw,bT,fZ,b6] at h
  obtain ⟨k,⟨hk,ho⟩,hr⟩:=h
  obtain ⟨h1,h2⟩:=Ki d _ m hr
  simp at h1 h2
  refine ⟨by omega,fun i h3 h4=>?_⟩
  by_cases hi:i=l.length
  ·subst hi
   obtain ⟨⟨r,hr2⟩,_⟩:=wJ d _ m hr
   refine ⟨k,by rw [hr2];simp,hk,?_⟩
   simp only [Gu,aM] at ho
   exact ho.2.2
  ·exact h2 i (by omega) (by omega)
theorem KK {S:Srch}{m:Part}(h:m∈wR S):MOk S.t S.p S.g m:=by
 unfold wR at h
 obtain ⟨h1,h2⟩:=Ki _ _ m h
 obtain ⟨_,h3⟩:=wJ _ _ m h
 obtain ⟨h4,_,h5⟩:=Kj _ _ _ h3
 simp at h1 h2 h4
 refine ⟨h1,h4,fun i hi hp=>?_,fun i hi=>h5 (by intro x hx;cases hx) _ (aC hi)⟩
 obtain ⟨k,k1,k2,k3⟩:=h2 i (by omega)
 rw [aA hi] at k1
 have hk:m.nodes[i]=(k:Int):=Option.some.inj k1
 rw [aA hp,aD] at k3
 rw [hk]
 exact ⟨by omega,by simpa using k3⟩
theorem Cf {t:Types}{h:Host}(ho:HostOk t h):∀ a∈h.graph.nodes,0≤a∧a<t.nodes.length:=fun a ha=>by
 obtain ⟨i,hi,rfl⟩:=aO ha
 have:=ho.vl
 exact ⟨((dP ho.gg).1 _ ha).1,(sZ (ho.nd i hi (by omega))).1⟩
theorem QM {t:Types}{q:Pattern}{h:Host}{m:Part}(hp:PatOk t q)(ho:HostOk t h)(hm:MOk t q.graph h.graph m):SOk q h m where
 vars:=hp.vars
 node s hs:=by have:=hp.slots s hs;have:=hm.len;omega
 img k hk:=by
  obtain ⟨i,hi,rfl⟩:=aO hk
  have:=(hm.img i hi (by have:=hm.len;omega)).1
  have:=ho.vl
  omega
 attr s hs:=by
  obtain ⟨h1,h2,_⟩:=hp.slots s hs
  have hl:=hm.len
  have hi:s.node.toNat<m.nodes.length:=by omega
  have hq:s.node.toNat<q.graph.nodes.length:=by omega
  obtain ⟨h3,h4⟩:=hm.img _ hi hq
  have hvl:=ho.vl
  have hk:m.nodes[s.node.toNat].toNat<h.graph.nodes.length:=by omega
  have hkv:m.nodes[s.node.toNat].toNat<h.values.length:=by omega
  rw [aA hi,aD,aA hkv,aD]
  rw [aA hq,aD] at h2
  rw [aA hk,aD] at h4
  have ha:=(l6 hp.gg hp.ty).1 _ (aC hq)
  have hb:=Cf ho _ (aC hk)
  rw [pS hp.vf ha.1 ha.2] at h2
  have hrow:=(sZ (ho.nd _ hk hkv)).2.2.1
  rw [pS hp.vf hb.1 hb.2] at hrow
  unfold uD at h4
  obtain ⟨r,hr⟩:=Ha (lN hp.vf) (h.graph.nodes[m.nodes[s.node.toNat].toNat]).toNat (by omega) (q.graph.nodes[s.node.toNat]).toNat (by rw [Int.toNat_of_nonneg ha.1];exact h4)
  rw [hr,aV] at hrow
  omega
 small l hl v hv:=(ho.row l hl).2 v hv
 term s hs:=(hp.slots s hs).2.2
 test:=hp.tests
/-! ### values -/
def Ho (p:Pattern)(vs:List Int):List Int × List Bool:=(vs++List.replicate (p.vars.toNat - vs.length) 0,List.replicate vs.length true++List.replicate (p.vars.toNat - vs.length) false)
theorem CZ (p:Pattern):Ho p []=(List.replicate p.vars.toNat 0,List.replicate p.vars.toNat false):=by simp [Ho]
theorem dL {p:Pattern}{h:Host}{m:Part}{vs:List Int}(h0:g9 h m (Ho p vs) p.slots=none):d8 p h m vs=([],11):=by
 unfold d8;unfold Ho at h0;rw [h0]
theorem mI {p:Pattern}{h:Host}{m:Part}{vs:List Int}{q:List Int × List Bool}(h0:g9 h m (Ho p vs) p.slots=some q):d8 p h m vs=if p.tests.all (fun x=>xK x q.1)=true then (q.1,0) else ([],16):=by
 unfold d8;unfold Ho at h0;rw [h0]
structure StOk (n:Nat) (st:List Int × List Bool):Prop where
 l1:st.1.length=n
 l2:st.2.length=n
 sm:∀ v∈st.1,-2000000≤v∧v≤2000000
theorem StOk.big {n:Nat}{st:List Int × List Bool}(h:StOk n st):Sm st.1:=fun v hv=>by have:=h.sm v hv;omega
theorem IU {p:Pattern}{vs:List Int}(hv:0≤p.vars)(hl:vs.length≤p.vars.toNat)(hs:∀ v∈vs,-2000000≤v∧v≤2000000):StOk p.vars.toNat (Ho p vs):=by
 refine ⟨by simp [Ho];omega,by simp [Ho];omega,fun v h=>?_⟩
 simp only [Ho,aY,List.mem_replicate] at h
 rcases h with h|h
 ·exact hs v h
 ·omega
theorem vJ {n:Nat}{h:Host}{m:Part}{st:List Int × List Bool}{s:Slot}(hst:StOk n st)(hb : -1000000≤jZ h m s∧jZ h m s≤1000000)(ht:nB s.term n):StOk n (j9 h m st s):=by
 unfold j9
 split
 ·refine ⟨by simp [hst.l1],by simp [hst.l2],fun v hv=>?_⟩
  rcases lA hv with h1|rfl
  ·exact hst.sm v h1
  ·have:=ht.2;omega
 ·exact hst
theorem SOk.have_ {p:Pattern}{h:Host}{m:Part}(hO:SOk p h m){s:Slot}(hs:s∈p.slots) : -1000000≤jZ h m s∧jZ h m s≤1000000:=by
 have hn:=hO.node s hs
 have hn2:s.node.toNat<m.nodes.length:=by omega
 have hk:=hO.img _ (aC hn2)
 have hk2:(m.nodes[s.node.toNat]).toNat<h.values.length:=by omega
 have ha:=hO.attr s hs
 unfold jZ
 rw [aA hn2,aD,aA hk2,aD] at ha ⊢
 have ha2:s.attr.toNat<(h.values[(m.nodes[s.node.toNat]).toNat]).length:=by omega
 rw [aA ha2]
 exact hO.small _ (aC hk2) _ (aC ha2)
theorem Gc {p:Pattern}{h:Host}{m:Part}(hO:SOk p h m):∀ (l:List Slot) (st q:List Int × List Bool),(∀ s∈l,s∈p.slots)→StOk p.vars.toNat st→g9 h m st l=some q→StOk p.vars.toNat q
 | [],st,q,_,hst,hq=>by simp only [g9,aX] at hq;exact hq ▸ hst
 | s :: l,st,q,hl,hst,hq=>by
  simp only [g9] at hq
  split at hq
  ·have hs:=hl s (kL ..)
   exact Gc hO l _ q (fun x hx=>hl x (dH _ hx)) (vJ hst (hO.have_ hs) (hO.term s hs)) hq
  ·cases hq
theorem yM {p:Pattern}{h:Host}{m:Part}(hO:SOk p h m){vs:List Int}(hl:vs.length≤p.vars.toNat)(hs:∀ v∈vs,-2000000≤v∧v≤2000000)(h0:(d8 p h m vs).2=0) :
  (d8 p h m vs).1.length=p.vars.toNat∧∀ v∈(d8 p h m vs).1,-2000000≤v∧v≤2000000:=by
 cases hq:g9 h m (Ho p vs) p.slots with
 | none=>rw [dL hq] at h0;cases h0
 | some q =>
  have hk:=Gc hO _ _ _ (fun _ h=>h) (IU hO.vars.1 hl hs) hq
  rw [mI hq] at h0 ⊢
  split at h0
  ·rename_i h1;rw [if_pos h1];exact ⟨hk.l1,hk.sm⟩
  ·cases h0
theorem nH (q:Pattern)(h:Host)(vars:List Int)(l:List Part)(x:Part):sE q h vars (l++[x])=sE q h vars l++if (d8 q h x vars).2=0 then [⟨x,(d8 q h x vars).1⟩] else []:=by
 unfold sE
 rw [List.filterMap_append]
 congr 1
 simp only [List.filterMap_cons,List.filterMap_nil]
 split<;>simp_all
theorem i4 (o:Option Bool):(Option.map cB o).getD [D.bool false]=cB (o.getD false):=by cases o<;>rfl
theorem HO (p:Pattern)(h:Host)(m:Part)(hO:SOk p h m):Pure Tryz.prog 249 [p.d,h.d,m.d] (.tup [dLI (d8 p h m []).1,dI (d8 p h m []).2]):=by
 have hv:=hO.vars
 have h0:=IU (vs:=[]) hv.1 (by simp) (by simp)
 rw [CZ] at h0
 refine Tz.pK ⟨fun t=>t==11,fun _=>[]⟩ Tryz.func249 rfl (fun Q hQ=>?_)
 have Y:=wa @Pattern.d.eq_1 (wa @Pattern.c.eq_1 (wa @Host.d.eq_1 (wa @Host.c.eq_1 (wa @Part.d.eq_1 (wa @Part.c.eq_1 @Term.c.eq_1)))))
 refine wp (h:=bA (fun i e H=>∃ st:List Int × List Bool,(e 3=.adr p.c∧e 4=.adr h.c∧e 5=.adr m.c∧e 8=.own 0 p.vars.toNat∧e 9=.own 1 p.vars.toNat∧e 10=dI i)∧(H.get 0=some ⟨3,1,st.1.map cI,false⟩)∧(0<H.next)∧(H.get 1=some ⟨4,1,st.2.map cB,false⟩)∧(1<H.next)∧(i≤p.slots.length)∧(StOk p.vars.toNat st)∧(g9 h m (Ho p []) (p.slots.take i)=some st)) (fun i=>p.slots.length - i) 0 ⟨((List.replicate p.vars.toNat 0,List.replicate p.vars.toNat false)),wg,(by (simp [go_sem,cI])),wn,(by (simp [go_sem,cB])),wn,wi,(by exact h0),(by (rw [CZ];rfl))⟩ fun I0 hI0 i e H hi0=>?_)
 obtain ⟨st,E0,g0_0,n0_0,g1_0,n1_0,hi,hst,hsl⟩:=hi0
 have Y:=wa Y (wa E0 (wa g0_0 (wa (bZ n0_0) (wa g1_0 (bZ n1_0)))))
 refine wv (h:=?_)
 repeat first|intro _|refine ⟨eZ,?_⟩
 refine wq (fun h4=>?_) fun h4=>?_
 ·obtain ⟨x,hx⟩:∃ x,x=p.slots[i]:=⟨_,rfl⟩
  have hxm:x∈p.slots:=hx ▸ aC h4
  have hn:=hO.node x hxm
  have hn2:x.node.toNat<m.nodes.length:=by omega
  have hk:=hO.img _ (aC hn2)
  have hk2:(m.nodes[x.node.toNat]).toNat<h.values.length:=by omega
  have ha:=hO.attr x hxm
  rw [aA hn2,aD,aA hk2,aD] at ha
  have ha2:x.attr.toNat<(h.values[(m.nodes[x.node.toNat]).toNat]).length:=by omega
  have hV:jZ h m x=h.values[(m.nodes[x.node.toNat]).toNat][x.attr.toNat]:=by unfold jZ;rw [aA hn2,aD,aA hk2,aD,aA ha2];rfl
  have hb:=hO.have_ hxm
  have hT:=hO.term x hxm
  have hl1:=hst.l1
  have hl2:=hst.l2
  have hTv:=hT.1
  have hTa:=hT.2
  have hSt:=qZ h4 hsl
  rw [← hx] at hSt
  obtain ⟨s2,hs2e⟩:∃ y,y=j9 h m st x:=⟨_,rfl⟩
  have hs2:StOk p.vars.toNat s2:=hs2e ▸ vJ hst hb hT
  rw [← hs2e] at hSt
  have hs2n:¬ 0≤x.term.var→s2=st:=fun hn=>by rw [hs2e];unfold j9 jH;rw [if_neg (by simp [hn])]
  have vlt:0≤x.term.var→x.term.var.toNat<st.2.length:=fun hn=>by omega
  obtain ⟨kb,hkb⟩:∃ kb,kb=st.2[x.term.var.toNat]?.getD false:=⟨_,rfl⟩
  have hcase:0≤x.term.var∨(¬ 0≤x.term.var∧st.2[x.term.var.toNat]?=none)∨(¬ 0≤x.term.var∧st.2[x.term.var.toNat]?=some kb):=by
   by_cases hsp:0≤x.term.var
   ·exact .inl hsp
   ·right
    cases ho:st.2[x.term.var.toNat]? with
    | none=>exact .inl ⟨hsp,rfl⟩
    | some b=>rw [ho] at hkb;exact .inr ⟨hsp,by rw [hkb];rfl⟩
  rcases hcase with hc|hc|hc
  ·have Y:=wa Y (wa h4 (wa (aA h4) (wa (Eq.symm hx) (wa (aA hn2) (wa (aA hk2) (wa (aA ha2) (wa (Eq.symm hV) (wa @Slot.c.eq_1 (wa @cL.eq_1 (wa hl1 (wa hl2 (wa @i4 (wa @cB.eq_1 (wa hc ((aA (vlt hc)))))))))))))))))
   refine wv (h:=?_)
   repeat first|intro _|refine ⟨eZ,?_⟩
   refine wq (fun h9=>?_) fun h9=>?_
   ·have hF:jH st x=true:=by simp only [jH,aM,decide_eq_true_eq,cE];exact ⟨hc,by simpa [aA (vlt hc)] using h9⟩
    unfold j9 at hs2e
    rw [if_pos hF] at hs2e
    have hvl:x.term.var.toNat<st.1.length:=by omega
    have e1:s2.1.map cI=(st.1.map cI).set x.term.var.toNat (cI (jZ h m x - x.term.add)):=by rw [hs2e,c8]
    have e2:s2.2.map cB=(st.2.map cB).set x.term.var.toNat (cB true):=by rw [hs2e,c8]
    have ecl:D.clLL ((st.1.map cI).set x.term.var.toNat [D.int .i64 (jZ h m x - x.term.add)])=true:=by have:=n7 s2.1;rw [e1] at this;exact this
    have Y:=wa Y (wa e1 (wa e2 (wa @dLI.eq_1 (wa @cI.eq_1 (wa (aA hvl) ecl)))))
    refine wp (h:=c9 (oG x.term s2.1 (by rw [hs2.l1];exact hT) hs2.big) wr wl rfl ?_)
    refine wv (h:=?_)
    repeat first|intro _|refine ⟨eZ,?_⟩
    refine wq (fun h12=>?_) fun h12=>?_
    ·have hR:=dL (hSt.2 (by first|simpa using h12|simpa [hs2n hc.1] using h12|simpa [hs2e] using h12))
     exact wv (h:=hQ _ _ (by simp [go_sem,hR]))
    ·have hstep:=hSt.1 (by first|simpa using h12|simpa [hs2n hc.1] using h12|simpa [hs2e] using h12)
     exact wp (h:=wx hI0 (i+1) ⟨s2,wg,(by (simp [go_sem,Y])),wn,(by (simp [go_sem,Y])),wn,wj,(by exact hs2),(by exact hstep)⟩)
   ·have hF:¬ jH st x=true:=by simp only [jH,aM,decide_eq_true_eq,cE];rintro ⟨_,hk⟩;simp [aA (vlt hc)] at hk;simp [hk] at h9
    unfold j9 at hs2e
    rw [if_neg hF] at hs2e
    have Y:=wa Y hs2e
    refine wv (h:=c9 (oG x.term s2.1 (by rw [hs2.l1];exact hT) hs2.big) wr wl rfl ?_)
    refine c4 (fun h12=>?_) fun h12=>?_
    ·have hR:=dL (hSt.2 (by first|simpa using h12|simpa [hs2n hc.1] using h12|simpa [hs2e] using h12))
     exact wv (h:=hQ _ _ (by simp [go_sem,hR]))
    ·have hstep:=hSt.1 (by first|simpa using h12|simpa [hs2n hc.1] using h12|simpa [hs2e] using h12)
     exact wp (h:=wx hI0 (i+1) ⟨s2,wg,(by (simp [go_sem,Y])),wn,(by (simp [go_sem,Y])),wn,wj,(by exact hs2),(by exact hstep)⟩)
  ·have Y:=wa Y (wa h4 (wa (aA h4) (wa (Eq.symm hx) (wa (aA hn2) (wa (aA hk2) (wa (aA ha2) (wa (Eq.symm hV) (wa @Slot.c.eq_1 (wa @cL.eq_1 (wa hl1 (wa hl2 (wa @i4 (wa @cB.eq_1 (wa hc.1 (wa hc.2 (hs2n hc.1))))))))))))))))
   refine wp (h:=c9 (oG x.term s2.1 (by rw [hs2.l1];exact hT) hs2.big) wr wl rfl ?_)
   refine wv (h:=?_)
   repeat first|intro _|refine ⟨eZ,?_⟩
   refine wq (fun h12=>?_) fun h12=>?_
   ·have hR:=dL (hSt.2 (by first|simpa using h12|simpa [hs2n hc.1] using h12|simpa [hs2e] using h12))
    exact wv (h:=hQ _ _ (by simp [go_sem,hR]))
   ·have hstep:=hSt.1 (by first|simpa using h12|simpa [hs2n hc.1] using h12|simpa [hs2e] using h12)
    exact wp (h:=wx hI0 (i+1) ⟨s2,wg,(by (simp [go_sem,Y])),wn,(by (simp [go_sem,Y])),wn,wj,(by exact hs2),(by exact hstep)⟩)
  ·have Y:=wa Y (wa h4 (wa (aA h4) (wa (Eq.symm hx) (wa (aA hn2) (wa (aA hk2) (wa (aA ha2) (wa (Eq.symm hV) (wa @Slot.c.eq_1 (wa @cL.eq_1 (wa hl1 (wa hl2 (wa @i4 (wa @cB.eq_1 (wa hc.1 (wa hc.2 (hs2n hc.1))))))))))))))))
   refine wp (h:=c9 (oG x.term s2.1 (by rw [hs2.l1];exact hT) hs2.big) wr wl rfl ?_)
   refine wv (h:=?_)
   repeat first|intro _|refine ⟨eZ,?_⟩
   refine wq (fun h12=>?_) fun h12=>?_
   ·have hR:=dL (hSt.2 (by first|simpa using h12|simpa [hs2n hc.1] using h12|simpa [hs2e] using h12))
    exact wv (h:=hQ _ _ (by simp [go_sem,hR]))
   ·have hstep:=hSt.1 (by first|simpa using h12|simpa [hs2n hc.1] using h12|simpa [hs2e] using h12)
    exact wp (h:=wx hI0 (i+1) ⟨s2,wg,(by (simp [go_sem,Y])),wn,(by (simp [go_sem,Y])),wn,wj,(by exact hs2),(by exact hstep)⟩)
 ·rw [aH (by omega)] at hsl
  have hR0:=mI hsl
  have hl1:=hst.l1
  have Y:=wa Y hl1
  refine wv (h:=bA (fun k e H=>(e 3=.adr p.c∧e 4=.adr h.c∧e 5=.adr m.c∧e 8=.own 0 p.vars.toNat∧e 14=dI k)∧(H.get 0=some ⟨3,1,st.1.map cI,false⟩)∧(0<H.next)∧(k≤p.tests.length)∧((p.tests.take k).all (fun x=>xK x st.1)=true)) (fun k=>p.tests.length - k) 0 ⟨wg,wn,wn,wi,(by rfl)⟩ fun I2 hI2 k e H hi2=>?_)
  obtain ⟨E2,g0_2,n0_2,hk,hall⟩:=hi2
  have Y:=wa Y (wa E2 (wa g0_2 (bZ n0_2)))
  refine wv (h:=?_)
  repeat first|intro _|refine ⟨eZ,?_⟩
  refine wq (fun h15=>?_) fun h15=>?_
  ·have Y:=wa Y (wa h15 (wa (aA h15) @Test.c.eq_1))
   refine wp (h:=c9 (JG p.tests[k] st.1 (by rw [hst.l1];exact hO.test _ (aC h15)) hst.big) wr wl rfl ?_)
   refine wv (h:=?_)
   repeat first|intro _|refine ⟨eZ,?_⟩
   refine wq (fun h17=>?_) fun h17=>?_
   ·have hR:d8 p h m []=([],16):=by
     rw [hR0,if_neg]
     intro ha
     rw [bX] at ha
     have:=ha _ (aC h15)
     simp [this] at h17
    exact wv (h:=hQ _ _ (by simp [go_sem,hR]))
   ·exact wp (h:=wx hI2 (k+1) ⟨wg,wn,wn,wj,(by (rw [aE h15,zI,hall];simp;simpa using h17))⟩)
  ·rw [aH (by omega)] at hall
   rw [if_pos hall] at hR0
   exact wv (h:=hQ _ _ (by simp [go_sem,Y,hR0,dLI]))
def r3 (t:Types)(p:Pattern)(h:Host):Int:=if bV t p≠0 then bV t p else fW t h
theorem Jr (t:Types)(ht:t.ok)(p:Pattern)(h:Host):Pure Tryz.prog 248 [t.d,p.d,h.d] (dI (r3 t p h)):=by
 refine Tz.pK ⟨fun _=>false,fun _=>[]⟩ Tryz.func248 rfl (fun Q hQ=>?_)
 have Y:=wa @Host.d.eq_1 @Host.c.eq_1
 refine wv (h:=aB (q8 t ht p) wl ?_)
 refine c4 (fun h2=>?_) fun h2=>?_
 ·exact wv (h:=hQ _ _ (by simp [go_sem,r3,h2]))
 ·refine wv (h:=aB (vU t ht h) wl ?_)
  exact wv (h:=hQ _ _ (by simp [go_sem,r3,h2,fW]))
theorem Js (t:Types)(ht:t.ok)(p:Pattern)(h:Host)(m:Part):Pure Tryz.prog 149 [t.d,p.d,h.d,m.d] (.tup [dLI (dD t p h m).1,dI (dD t p h m).2]):=by
 refine Tz.pK ⟨fun _=>false,fun _=>[]⟩ Tryz.func149 rfl (fun Q hQ=>?_)
 have Y:=wa @Pattern.d.eq_1 (wa @Pattern.c.eq_1 (wa @Host.d.eq_1 @Host.c.eq_1))
 refine wv (h:=aB (Jr t ht p h) wl ?_)
 refine c4 (fun h2=>?_) fun h2=>?_
 ·have hS:dD t p h m=([],r3 t p h):=by
   unfold dD r3
   unfold r3 at h2
   by_cases hp:bV t p=0
   ·rw [if_neg (by omega)] at h2 ⊢
    rw [if_pos h2,if_neg (by omega)]
   ·rw [if_pos hp,if_pos hp]
  exact wv (h:=hQ _ _ (by simp [go_sem,hS]))
 ·have hp0:bV t p=0:=by
   unfold r3 at h2
   refine bE fun hp=>?_
   rw [if_pos hp] at h2;exact hp h2
  have hh0:fW t h=0:=by unfold r3 at h2;rw [if_neg (by omega)] at h2;exact h2
  refine wv (h:=aB (vT t ht p.graph h.graph m false) wl ?_)
  refine c4 (fun h5=>?_) fun h5=>?_
  ·have hS:dD t p h m=([],eR t p.graph h.graph m false):=by unfold dD;rw [if_neg (by omega),if_neg (by omega),if_pos h5]
   exact wv (h:=hQ _ _ (by simp [go_sem,hS]))
  ·have h5':eR t p.graph h.graph m false=0:=by omega
   have hS:dD t p h m=d8 p h m []:=by unfold dD;rw [if_neg (by omega),if_neg (by omega),if_neg (by omega)]
   refine wv (h:=aB (HO p h m (QM (Gn (.inr hp0)) (tZ hh0) (p9 (pR h5').2))) wl ?_)
   exact wv (h:=hQ _ _ (by simp [go_sem,hS]))
theorem M7 (l:List Part):(EI l).1.length≤5000:=by
 unfold EI;split
 ·simp
 ·simp only;omega
theorem KL (t:Types)(p g:Graph)(inj:Bool):(oQ t p g inj).1.length≤5000:=by
 unfold oQ;split
 ·simp
 ·exact M7 _
theorem MZ (t:Types)(p g:Graph)(q:Part)(inj:Bool):(lK t p g q inj).1.length≤5000:=by
 unfold lK;split
 ·simp
 ·split
  ·simp
  ·split
   ·simp
   ·split
    ·simp
    ·exact M7 _
theorem Om {t:Types}{p g:Graph}{inj:Bool}{m:Part}(h:m∈(oQ t p g inj).1):MOk t p g m:=by
 unfold oQ at h
 split at h
 ·cases h
 ·unfold EI at h
  split at h
  ·cases h
  ·exact KK (S:=⟨t,p,g,_,_,inj⟩) (b9 h)
def JM (at_ im:List Int)(n i:Nat):List Int:=(List.range i).foldl (fun acc i=>acc.set (at_[i]?.getD 0).toNat (im[i]?.getD 0)) (List.replicate n (-1))
theorem DZ (at_ im:List Int)(n i:Nat):JM at_ im n (i+1)=(JM at_ im n i).set (at_[i]?.getD 0).toNat (im[i]?.getD 0):=by unfold JM;rw [dK]
theorem Ab (at_ im:List Int)(n:Nat):∀ i,(JM at_ im n i).length=n
 | 0=>by simp [JM]
 | i+1=>by rw [DZ,i5];exact Ab at_ im n i
theorem z2 (n:Nat)(hn:n≤1000000)(at_ im:List Int)(h1:∀ x∈at_,0≤x∧x<n)(h2:at_.length≤im.length):Pure Tryz.prog 393 [dI n,dLI at_,dLI im] (dLI (vZ n at_ im)):=by
 refine Tz.pK ⟨fun t=>t==7,fun _=>[]⟩ Tryz.func393 rfl (fun Q hQ=>?_)
 have Y:=trivial
 refine wv (h:=bA (fun i e H=>(e 0=dI n∧e 1=dLI at_∧e 2=dLI im∧e 7=.own 0 i∧e 8=dI i)∧(H.get 0=some ⟨3,1,(List.replicate i (-1:Int)).map cI,false⟩)∧(0<H.next)∧(i≤n)) (fun i=>n - i) 0 ⟨wg,(by (simp [go_sem])),wn,wi⟩ fun I0 hI0 i e H hi0=>?_)
 obtain ⟨E0,g0_0,n0_0,hi⟩:=hi0
 have Y:=wa Y (wa E0 (wa g0_0 (bZ n0_0)))
 refine c4 (fun h3=>?_) fun h3=>?_
 ·have Y:=wa Y h3
  exact wp (h:=wx hI0 (i+1) ⟨wg,(by (simp [go_sem,Y,List.replicate_succ',cI])),wn,wj⟩)
 ·have hin:i=n:=by omega
  refine wv (h:=bA (fun k e H=>(e 0=dI n∧e 1=dLI at_∧e 2=dLI im∧e 7=.own 0 n∧e 9=dI k)∧(H.get 0=some ⟨3,1,(JM at_ im n k).map cI,false⟩)∧(0<H.next)∧(k≤at_.length)∧((JM at_ im n k).length=n)) (fun k=>at_.length - k) 0 ⟨wg,(by (simp [go_sem,Y,JM,hin])),wn,wi,(by (exact Ab _ _ _ _))⟩ fun I2 hI2 k e H hi2=>?_)
  obtain ⟨E2,g0_2,n0_2,hk,hpl⟩:=hi2
  have Y:=wa Y (wa E2 (wa g0_2 (wa (bZ n0_2) hpl)))
  refine wv (h:=?_)
  repeat first|intro _|refine ⟨eZ,?_⟩
  refine wq (fun h7=>?_) fun h7=>?_
  ·have hki:k<im.length:=by omega
   have ha:=h1 _ (aC h7)
   have ha0:at_[k]?.getD 0=at_[k]:=by rw [aA h7];rfl
   have hi0:im[k]?.getD 0=im[k]:=by rw [aA hki];rfl
   have hal:at_[k].toNat<(JM at_ im n k).length:=by omega
   have Y:=wa Y (wa h7 (wa (aA h7) (wa (aA hki) (aA hal))))
   exact wp (h:=wx hI2 (k+1) ⟨wg,(by (simp [go_sem,Y,DZ,c8,ha0,hi0,cI])),wn,wj,(by (exact Ab _ _ _ _))⟩)
  ·have hP:vZ n at_ im=JM at_ im n k:=by unfold vZ JM;rw [show k=at_.length by omega]
   exact wv (h:=hQ _ _ (by simp [go_sem,Y,hP,dLI]))
def HZ (len i:Nat):List Bool:=(List.range i).map fun j=>decide (j<len)
theorem O8 (len i:Nat):HZ len (i+1)=HZ len i++[decide (i<len)]:=by simp [HZ,fG]
theorem HX (len i:Nat):(HZ len i).length=i:=by simp [HZ]
theorem HY (len n:Nat)(h:len≤n):HZ len n=List.replicate len true++List.replicate (n - len) false:=by
 apply f7 (by simp [HZ];omega)
 intro i h1 h2
 simp only [HZ,qP,nE,List.getElem_append,List.getElem_replicate,u9]
 split
 ·rename_i h3;simpa using h3
 ·rename_i h3;simpa using h3
theorem Qm (len i n:Nat)(h:i<n):(HZ len i++List.replicate (n - i) false).set i (decide (i<len))=HZ len (i+1)++List.replicate (n - (i+1)) false:=by
 rw [oA _ _ (by rw [HX];omega),HX,u7,O8,show n - i=(n - (i+1))+1 by omega,qS]
 simp
def N4 (len n i:Nat):List Bool:=HZ len i++List.replicate (n - i) false
theorem O9 (len n:Nat):N4 len n 0=List.replicate n false:=by simp [N4,HZ]
theorem Qo {len n i:Nat}(h:i≤n):(N4 len n i).length=n:=by simp [N4,HX];omega
theorem Qn {len n i:Nat}(h:i<n):(N4 len n i).set i (decide (i<len))=N4 len n (i+1):=Qm len i n h
theorem MP (len n:Nat):N4 len n n=HZ len n:=by simp [N4]
def Fc (vs:List Int)(i:Nat):List Int:=vs++List.replicate (i - vs.length) 0
theorem II (vs:List Int)(i:Nat):Fc vs (i+1)=if vs.length≤i then Fc vs i++[0] else Fc vs i:=by
 unfold Fc
 split
 ·rename_i h;rw [show i+1 - vs.length=(i - vs.length)+1 by omega,List.replicate_succ',List.append_assoc]
 ·rename_i h;rw [show i+1 - vs.length=0 by omega,show i - vs.length=0 by omega]
theorem Mr (vs:List Int)(i:Nat):(Fc vs i).length=max vs.length i:=by simp [Fc];omega
theorem OG {x:Test}{vs:List Int}{n:Nat}(hx:Fb x n):xK x vs = !((decide (x.kind=1)&&decide (cD x.right vs<cD x.left vs))||(decide (x.kind=2)&&!decide (cD x.left vs=cD x.right vs))):=by
 rcases hx.1 with h|h
 ·unfold xK;rw [h];simp
  rw [aQ];simp
 ·unfold xK;rw [h];simp
theorem HM (p:Pattern)(h:Host)(m:Part)(hO:SOk p h m)(vs:List Int)(hl:vs.length≤p.vars.toNat)(hs:∀ v∈vs,-2000000≤v∧v≤2000000) :
  Pure Tryz.prog 395 [p.d,h.d,m.d,dLI vs] (.tup [dLI (d8 p h m vs).1,.bool (decide ((d8 p h m vs).2=0))]):=by
 have hv:=hO.vars
 have h0:=IU hv.1 hl hs
 have hva0:Fc vs 0=vs:=by simp [Fc]
 have hst0:Ho p vs=(Fc vs p.vars.toNat,HZ vs.length p.vars.toNat):=by unfold Ho;rw [HY _ _ hl];rfl
 refine Tz.pK ⟨fun t=>t==14||t==19||t==24,fun r=>match r with|15=>[(5,14),(6,14),(7,14)]|_=>[]⟩ Tryz.func395 rfl (fun Q hQ=>?_)
 have Y:=wa hva0 (wa @Pattern.d.eq_1 (wa @Pattern.c.eq_1 (wa @Host.d.eq_1 (wa @Host.c.eq_1 (wa @Part.d.eq_1 (wa @Part.c.eq_1 @Term.c.eq_1))))))
 refine wp (h:=bA (fun i e H=>(e 4=.adr p.c∧e 5=.adr h.c∧e 6=.adr m.c∧e 3=dLI vs∧e 10=.own 0 (Fc vs i).length∧e 11=.own 1 p.vars.toNat∧e 12=dI i)∧(H.get 0=some ⟨3,1,(Fc vs i).map cI,false⟩)∧(0<H.next)∧(H.get 1=some ⟨4,1,(N4 vs.length p.vars.toNat i).map cB,false⟩)∧(1<H.next)∧(i≤p.vars.toNat)) (fun i=>p.vars.toNat - i) 0 ⟨wg,(by (simp [go_sem,Fc])),wn,(by (simp [go_sem,O9,cB])),wn,wi⟩ fun I0 hI0 i e H hi0=>?_)
 obtain ⟨E0,g0_0,n0_0,g1_0,n1_0,hi⟩:=hi0
 have Y:=wa Y (wa E0 (wa g0_0 (wa (bZ n0_0) (wa g1_0 (bZ n1_0)))))
 refine c4 (fun h4=>?_) fun h4=>?_
 ·have hI:=Mr vs i
  have hK:=Qn (len:=vs.length) (n:=p.vars.toNat) (i:=i) (by omega)
  have hKl:=Qo (len:=vs.length) (n:=p.vars.toNat) (i:=i) (by omega)
  have hKi:i<(N4 vs.length p.vars.toNat i).length:=by omega
  have hKm:((N4 vs.length p.vars.toNat i).map cB).set i [.bool (decide (i<vs.length))]=(N4 vs.length p.vars.toNat (i+1)).map cB:=by rw [← hK,c8];rfl
  have Y:=wa Y (wa h4 (wa hKl (wa (aA hKi) hKm)))
  refine wv (h:=?_)
  repeat first|intro _|refine ⟨eZ,?_⟩
  refine wq (fun h7=>?_) fun h7=>?_
  ·have hVs:Fc vs (i+1)=Fc vs i++[0]:=by rw [II,if_pos (by omega)]
   have Y:=wa Y hVs
   exact wp (h:=wx hI0 (i+1) ⟨wg,(by (simp [go_sem,Y])),wn,(by (simp [go_sem,Y])),wn,wj⟩)
  ·have hVs:Fc vs (i+1)=Fc vs i:=by rw [II,if_neg (by omega)]
   have Y:=wa Y hVs
   exact wp (h:=wx hI0 (i+1) ⟨wg,(by (simp [go_sem,Y])),wn,(by (simp [go_sem,Y])),wn,wj⟩)
 ·have hin:i=p.vars.toNat:=by omega
  have hI:=Mr vs i
  rw [hin,Nat.max_eq_right hl] at hI
  have hK0:N4 vs.length i i=HZ vs.length i:=MP _ _
  have hK1:=MP vs.length p.vars.toNat
  have Y:=wa Y (wa hin (wa hI hK1))
  refine wv (h:=bA (fun i e H=>∃ st:List Int × List Bool,(e 4=.adr p.c∧e 5=.adr h.c∧e 6=.adr m.c∧e 3=dLI vs∧e 10=.own 0 p.vars.toNat∧e 11=.own 1 p.vars.toNat∧e 13=dI i)∧(H.get 0=some ⟨3,1,st.1.map cI,false⟩)∧(0<H.next)∧(H.get 1=some ⟨4,1,st.2.map cB,false⟩)∧(1<H.next)∧(i≤p.slots.length)∧(StOk p.vars.toNat st)∧(g9 h m (Ho p vs) (p.slots.take i)=some st)) (fun i=>p.slots.length - i) 0 ⟨((Fc vs p.vars.toNat,HZ vs.length p.vars.toNat)),wg,(by (simp [go_sem,Y,hin])),wn,(by (simp [go_sem,Y,hin,hK1])),wn,wi,(by (rw [← hst0];exact h0)),(by (rw [hst0];rfl))⟩ fun I2 hI2 i e H hi2=>?_)
  obtain ⟨st,E2,g0_2,n0_2,g1_2,n1_2,hi,hst,hsl⟩:=hi2
  have Y:=wa Y (wa E2 (wa g0_2 (wa (bZ n0_2) (wa g1_2 (bZ n1_2)))))
  refine wv (h:=?_)
  repeat first|intro _|refine ⟨eZ,?_⟩
  refine wq (fun h10=>?_) fun h10=>?_
  ·obtain ⟨x,hx⟩:∃ x,x=p.slots[i]:=⟨_,rfl⟩
   have hxm:x∈p.slots:=hx ▸ aC h10
   have hn:=hO.node x hxm
   have hn2:x.node.toNat<m.nodes.length:=by omega
   have hk:=hO.img _ (aC hn2)
   have hk2:(m.nodes[x.node.toNat]).toNat<h.values.length:=by omega
   have ha:=hO.attr x hxm
   rw [aA hn2,aD,aA hk2,aD] at ha
   have ha2:x.attr.toNat<(h.values[(m.nodes[x.node.toNat]).toNat]).length:=by omega
   have hV:jZ h m x=h.values[(m.nodes[x.node.toNat]).toNat][x.attr.toNat]:=by unfold jZ;rw [aA hn2,aD,aA hk2,aD,aA ha2];rfl
   have hb:=hO.have_ hxm
   have hT:=hO.term x hxm
   have hl1:=hst.l1
   have hl2:=hst.l2
   have hTv:=hT.1
   have hTa:=hT.2
   have hSt:=qZ h10 hsl
   rw [← hx] at hSt
   obtain ⟨s2,hs2e⟩:∃ y,y=j9 h m st x:=⟨_,rfl⟩
   have hs2:StOk p.vars.toNat s2:=hs2e ▸ vJ hst hb hT
   rw [← hs2e] at hSt
   have hs2n:¬ 0≤x.term.var→s2=st:=fun hn=>by rw [hs2e];unfold j9 jH;rw [if_neg (by simp [hn])]
   have vlt:0≤x.term.var→x.term.var.toNat<st.2.length:=fun hn=>by omega
   obtain ⟨kb,hkb⟩:∃ kb,kb=st.2[x.term.var.toNat]?.getD false:=⟨_,rfl⟩
   have hcase:0≤x.term.var∨(¬ 0≤x.term.var∧st.2[x.term.var.toNat]?=none)∨(¬ 0≤x.term.var∧st.2[x.term.var.toNat]?=some kb):=by
    by_cases hsp:0≤x.term.var
    ·exact .inl hsp
    ·right
     cases ho:st.2[x.term.var.toNat]? with
     | none=>exact .inl ⟨hsp,rfl⟩
     | some b=>rw [ho] at hkb;exact .inr ⟨hsp,by rw [hkb];rfl⟩
   rcases hcase with hc|hc|hc
   ·have Y:=wa Y (wa h10 (wa (aA h10) (wa (Eq.symm hx) (wa (aA hn2) (wa (aA hk2) (wa (aA ha2) (wa (Eq.symm hV) (wa @Slot.c.eq_1 (wa @cL.eq_1 (wa hl1 (wa hl2 (wa @i4 (wa @cB.eq_1 (wa hc ((aA (vlt hc)))))))))))))))))
    refine wv (h:=?_)
    repeat first|intro _|refine ⟨eZ,?_⟩
    refine wq (fun h14=>?_) fun h14=>?_
    ·have hF:jH st x=true:=by simp only [jH,aM,decide_eq_true_eq,cE];exact ⟨hc,by simpa [aA (vlt hc)] using h14⟩
     unfold j9 at hs2e
     rw [if_pos hF] at hs2e
     have hvl:x.term.var.toNat<st.1.length:=by omega
     have e1:s2.1.map cI=(st.1.map cI).set x.term.var.toNat (cI (jZ h m x - x.term.add)):=by rw [hs2e,c8]
     have e2:s2.2.map cB=(st.2.map cB).set x.term.var.toNat (cB true):=by rw [hs2e,c8]
     have ecl:D.clLL ((st.1.map cI).set x.term.var.toNat [D.int .i64 (jZ h m x - x.term.add)])=true:=by have:=n7 s2.1;rw [e1] at this;exact this
     have Y:=wa Y (wa e1 (wa e2 (wa @dLI.eq_1 (wa @cI.eq_1 (wa (aA hvl) ecl)))))
     refine wp (h:=c9 (iM x.term s2.1 (by rw [hs2.l1];exact hT) hs2.big) wr wl rfl ?_)
     refine wv (h:=?_)
     repeat first|intro _|refine ⟨eZ,?_⟩
     refine wq (fun h17=>?_) fun h17=>?_
     ·have hR:=dL (hSt.2 (by first|simpa using h17|simpa [hs2n hc.1] using h17|simpa [hs2e] using h17))
      exact wv (h:=hQ _ _ (by simp [go_sem,hR]))
     ·have hstep:=hSt.1 (by first|simpa using h17|simpa [hs2n hc.1] using h17|simpa [hs2e] using h17)
      exact wp (h:=wx hI2 (i+1) ⟨s2,wg,(by (simp [go_sem,Y])),wn,(by (simp [go_sem,Y])),wn,wj,(by exact hs2),(by exact hstep)⟩)
    ·have hF:¬ jH st x=true:=by simp only [jH,aM,decide_eq_true_eq,cE];rintro ⟨_,hk⟩;simp [aA (vlt hc)] at hk;simp [hk] at h14
     unfold j9 at hs2e
     rw [if_neg hF] at hs2e
     have Y:=wa Y hs2e
     refine wv (h:=c9 ((by first|exact iM x.term s2.1 (by rw [hs2.l1];exact hT) hs2.big|exact iM p.tests[k].left st.1 (by rw [hst.l1];exact hX.2.1) hst.big)) wr wl rfl ?_)
     refine c4 (fun h17=>?_) fun h17=>?_
     ·have hR:=dL (hSt.2 (by first|simpa using h17|simpa [hs2n hc.1] using h17|simpa [hs2e] using h17))
      exact wv (h:=hQ _ _ (by simp [go_sem,hR]))
     ·have hstep:=hSt.1 (by first|simpa using h17|simpa [hs2n hc.1] using h17|simpa [hs2e] using h17)
      exact wp (h:=wx hI2 (i+1) ⟨s2,wg,(by (simp [go_sem,Y])),wn,(by (simp [go_sem,Y])),wn,wj,(by exact hs2),(by exact hstep)⟩)
   ·have Y:=wa Y (wa h10 (wa (aA h10) (wa (Eq.symm hx) (wa (aA hn2) (wa (aA hk2) (wa (aA ha2) (wa (Eq.symm hV) (wa @Slot.c.eq_1 (wa @cL.eq_1 (wa hl1 (wa hl2 (wa @i4 (wa @cB.eq_1 (wa hc.1 (wa hc.2 (hs2n hc.1))))))))))))))))
    refine wp (h:=c9 (iM x.term s2.1 (by rw [hs2.l1];exact hT) hs2.big) wr wl rfl ?_)
    refine wv (h:=?_)
    repeat first|intro _|refine ⟨eZ,?_⟩
    refine wq (fun h17=>?_) fun h17=>?_
    ·have hR:=dL (hSt.2 (by first|simpa using h17|simpa [hs2n hc.1] using h17|simpa [hs2e] using h17))
     exact wv (h:=hQ _ _ (by simp [go_sem,hR]))
    ·have hstep:=hSt.1 (by first|simpa using h17|simpa [hs2n hc.1] using h17|simpa [hs2e] using h17)
     exact wp (h:=wx hI2 (i+1) ⟨s2,wg,(by (simp [go_sem,Y])),wn,(by (simp [go_sem,Y])),wn,wj,(by exact hs2),(by exact hstep)⟩)
   ·have Y:=wa Y (wa h10 (wa (aA h10) (wa (Eq.symm hx) (wa (aA hn2) (wa (aA hk2) (wa (aA ha2) (wa (Eq.symm hV) (wa @Slot.c.eq_1 (wa @cL.eq_1 (wa hl1 (wa hl2 (wa @i4 (wa @cB.eq_1 (wa hc.1 (wa hc.2 (hs2n hc.1))))))))))))))))
    refine wp (h:=c9 (iM x.term s2.1 (by rw [hs2.l1];exact hT) hs2.big) wr wl rfl ?_)
    refine wv (h:=?_)
    repeat first|intro _|refine ⟨eZ,?_⟩
    refine wq (fun h17=>?_) fun h17=>?_
    ·have hR:=dL (hSt.2 (by first|simpa using h17|simpa [hs2n hc.1] using h17|simpa [hs2e] using h17))
     exact wv (h:=hQ _ _ (by simp [go_sem,hR]))
    ·have hstep:=hSt.1 (by first|simpa using h17|simpa [hs2n hc.1] using h17|simpa [hs2e] using h17)
     exact wp (h:=wx hI2 (i+1) ⟨s2,wg,(by (simp [go_sem,Y])),wn,(by (simp [go_sem,Y])),wn,wj,(by exact hs2),(by exact hstep)⟩)
  ·rw [aH (by omega)] at hsl
   have hR0:=mI hsl
   have hl1:=hst.l1
   have Y:=wa Y hl1
   refine wv (h:=bA (fun k e H=>(e 4=.adr p.c∧e 5=.adr h.c∧e 6=.adr m.c∧e 3=dLI vs∧e 10=.own 0 p.vars.toNat∧e 18=dI k)∧(H.get 0=some ⟨3,1,st.1.map cI,false⟩)∧(0<H.next)∧(k≤p.tests.length)∧((p.tests.take k).all (fun x=>xK x st.1)=true)) (fun k=>p.tests.length - k) 0 ⟨wg,wn,wn,wi,(by rfl)⟩ fun I4 hI4 k e H hi4=>?_)
   obtain ⟨E4,g0_4,n0_4,hk,hall⟩:=hi4
   have Y:=wa Y (wa E4 (wa g0_4 (bZ n0_4)))
   refine wv (h:=?_)
   repeat first|intro _|refine ⟨eZ,?_⟩
   refine wq (fun h20=>?_) fun h20=>?_
   ·have hX:=hO.test _ (aC h20)
    have hTn:=OG (vs:=st.1) hX
    have Y:=wa Y (wa h20 (wa (aA h20) @Test.c.eq_1))
    refine wp (h:=c9 ((by first|exact iM x.term s2.1 (by rw [hs2.l1];exact hT) hs2.big|exact iM p.tests[k].left st.1 (by rw [hst.l1];exact hX.2.1) hst.big)) wr wl rfl ?_)
    refine wp (h:=c9 (iM p.tests[k].right st.1 (by rw [hst.l1];exact hX.2.2) hst.big) wr wl rfl ?_)
    refine wv (h:=?_)
    repeat first|intro _|refine ⟨eZ,?_⟩
    refine wq (fun h25=>?_) fun h25=>?_
    ·have hT0:xK p.tests[k] st.1=false:=by
      rw [hTn,Bool.not_eq_false']
      rcases h25 with ⟨a,b⟩|⟨a,b⟩
      ·simp [a,b]
      ·simp [a,b]
     have hR:d8 p h m vs=([],16):=by
      rw [hR0,if_neg]
      intro ha
      rw [bX] at ha
      have:=ha _ (aC h20)
      rw [hT0] at this;cases this
     exact wv (h:=hQ _ _ (by simp [go_sem,hR]))
    ·have hT1:xK p.tests[k] st.1=true:=by
      rw [hTn];simp
      exact ⟨by by_cases hk1:p.tests[k].kind=1;exact .inr (h25.1 hk1);exact .inl hk1,by by_cases hk2:p.tests[k].kind=2;exact .inr (h25.2 hk2);exact .inl hk2⟩
     exact wp (h:=wx hI4 (k+1) ⟨wg,wn,wn,wj,(by (rw [aE h20,zI,hall];simp;exact hT1))⟩)
   ·rw [aH (by omega)] at hall
    rw [if_pos hall] at hR0
    exact wv (h:=hQ _ _ (by simp [go_sem,Y,hR0,dLI]))
/-! ### extensions -/
structure MatOk (t:Types) (p:Pattern) (h:Host) (m:Mat):Prop where
 mok:MOk t p.graph h.graph m.m
 vl:m.vars.length=p.vars.toNat
 vs:∀ v∈m.vars,-2000000≤v∧v≤2000000
structure ExOk (t:Types) (p:Pattern) (mp:Part) (q:Pattern):Prop where
 pq:PatOk t q
 pv:p.vars≤q.vars
 p0:0≤p.vars
 mo:dV p.graph q.graph mp=0
theorem ExOk.img {t:Types}{p:Pattern}{mp:Part}{q:Pattern}(h:ExOk t p mp q):(mp.nodes.length=p.graph.nodes.length∧mp.edges.length=p.graph.edges.length)∧(∀ x∈mp.nodes,0≤x∧x<q.graph.nodes.length)∧(∀ x∈mp.edges,0≤x∧x<q.graph.edges.length):=by
 have:=lX h.mo
 exact ⟨this.2.2,(w3 h.mo).1,(w3 h.mo).2⟩
theorem Ey {t:Types}{p g:Graph}{q:Part}{inj:Bool}{m:Part}(h:m∈(lK t p g q inj).1):MOk t p g m:=by
 unfold lK at h
 split at h
 ·cases h
 ·split at h
  ·cases h
  ·split at h
   ·cases h
   ·split at h
    ·cases h
    ·unfold EI at h
     split at h
     ·cases h
     ·exact KK (S:=⟨t,p,g,_,_,inj⟩) (b9 h)
theorem OB {t:Types}{q:Pattern}{h:Host}{vars:List Int}{l:List Part}(hp:PatOk t q)(ho:HostOk t h)(hl:∀ x∈l,MOk t q.graph h.graph x)(hv:vars.length≤q.vars.toNat)(hs:∀ v∈vars,-2000000≤v∧v≤2000000):∀ m∈sE q h vars l,MatOk t q h m:=fun m hm=>by
 unfold sE at hm
 rw [List.mem_filterMap] at hm
 obtain ⟨x,hx,he⟩:=hm
 split at he
 ·rename_i h0
  cases he
  obtain ⟨h1,h2⟩:=yM (QM hp ho (hl x hx)) hv hs h0
  exact ⟨hl x hx,h1,h2⟩
 ·cases he
theorem M2 {t:Types}{p:Pattern}{mp:Part}{q:Pattern}{h:Host}{m:Mat}{inj:Bool}(hE:ExOk t p mp q)(ho:HostOk t h)(hm:MatOk t p h m):∀ x∈(u5 t mp q h m inj).1,MatOk t q h x:=by
 unfold u5
 split
 ·simp
 ·exact OB hE.pq ho (fun x hx=>Ey hx) (by have:=hm.vl;have:=hE.pv;have:=hE.p0;omega) hm.vs
theorem Bb (t:Types)(ht:t.ok)(p:Pattern)(c:Cond)(hE:ExOk t p c.map c.pattern)(h:Host)(ho:HostOk t h)(m:Mat)(hm:MatOk t p h m)(inj:Bool) :
  Pure Tryz.prog 341 [t.d,.agg c.c,h.d,m.d,.bool inj] (.tup [.list ((u5 t c.map c.pattern h m inj).1.map Mat.c),dI (u5 t c.map c.pattern h m inj).2]):=by
 obtain ⟨⟨hl1,hl2⟩,hi1,hi2⟩:=hE.img
 have hq:=bK hE.pq.gg
 have hn1:=hm.mok.len
 have hn2:=hm.mok.elen
 refine Tz.pK ⟨fun t=>t==12||t==13||t==16,fun r=>match r with|2=>[(0,23),(1,23),(2,23),(3,23),(4,23),(5,23),(6,23),(7,23),(8,23),(9,23),(10,23),(11,23),(12,23),(13,23),(14,23),(15,23),(16,23),(17,23),(18,23),(19,23),(20,23),(21,23)]|_=>[]⟩ Tryz.func341 rfl (fun Q hQ=>?_)
 obtain ⟨X,hX⟩:∃ X,X=lK t c.pattern.graph h.graph (mP c.map c.pattern m.m) inj:=⟨_,rfl⟩
 have hXm:∀ x∈X.1,MOk t c.pattern.graph h.graph x:=fun x hx=>Ey (hX ▸ hx)
 have hX5:X.1.length≤5000:=hX ▸ MZ _ _ _ _ _
 have hvl:m.vars.length≤c.pattern.vars.toNat:=by have:=hm.vl;have:=hE.pv;have:=hE.p0;omega
 have hXE:u5 t c.map c.pattern h m inj=if X.2≠0 then ([],X.2) else (sE c.pattern h m.vars X.1,0):=by unfold u5;rw [← hX]
 have Y:=wa @Cond.c_eq (wa @Host.d.eq_1 (wa @Host.c.eq_1 (wa @Mat.d.eq_1 @Mat.c.eq_1)))
 refine wp (h:=aK (z2 c.pattern.graph.nodes.length (by omega) c.map.nodes m.m.nodes hi1 (by omega)) wl ?_)
 refine wp (h:=aK (z2 c.pattern.graph.edges.length (by omega) c.map.edges m.m.edges hi2 (by omega)) wl ?_)
 refine wp (h:=aB ((by have hq:=HP t ht c.pattern.graph h.graph (mP c.map c.pattern m.m) inj;rw [← hX] at hq;unfold mP Types.d Types.c Graph.d Graph.c Part.d Part.c dLI at hq;exact hq)) wl ?_)
 refine tG (fun h4=>?_) fun h4=>?_
 ·rw [if_pos h4] at hXE
  exact wv (h:=hQ _ _ (by simp [go_sem,hXE]))
 ·rw [if_neg (by omega)] at hXE
  refine wv (h:=bA (fun i e H=>∃ ms:List Mat,(e 5=.adr t.c∧e 6=.adr c.c∧e 7=.adr h.c∧e 8=.adr m.c∧e 4=.bool inj∧e 12=.ptr 0 1 0 0∧e 14=.list (X.1.map Part.c)∧e 16=.own 26 ms.length∧e 17=dI i)∧(H.get 0=some ⟨33,5,[c.pattern.c],false⟩)∧(0<H.next)∧(H.get 26=some ⟨46,3,ms.map Mat.c,false⟩)∧(26<H.next)∧(i≤X.1.length)∧(ms=sE c.pattern h m.vars (X.1.take i))∧(ms.length≤i)) (fun i=>X.1.length - i) 0 ⟨([]),wg,wn,wn,wn,wn,wi,(by rfl),(by (simp))⟩ fun I0 hI0 i e H hi0=>?_)
  obtain ⟨ms,E0,g0_0,n0_0,g26_0,n26_0,hi,hms,hml⟩:=hi0
  have Y:=wa Y (wa E0 (wa g0_0 (wa (bZ n0_0) (wa g26_0 (bZ n26_0)))))
  refine tG (fun h8=>?_) fun h8=>?_
  ·obtain ⟨v,hv⟩:∃ v,v=d8 c.pattern h X.1[i] m.vars:=⟨_,rfl⟩
   obtain ⟨ms2,hms2⟩:∃ y,y=ms++if v.2=0 then [(⟨X.1[i],v.1⟩:Mat)] else []:=⟨_,rfl⟩
   have Y:=wa Y (wa h8 (wa (aA h8) (wa @Part.c.eq_1 @Pattern.c.eq_1)))
   refine wp (h:=aK ((by have hq:=HM c.pattern h X.1[i] (QM hE.pq ho (hXm _ (aC h8))) m.vars hvl hm.vs;rw [← hv] at hq;unfold Pattern.d Pattern.c Host.d Host.c Part.d Part.c dLI at hq;exact hq)) wl ?_)
   refine tG (fun h11=>?_) fun h11=>?_
   ·have hm3:ms2=ms++[⟨X.1[i],v.1⟩]:=by rw [hms2,if_pos (by simpa using h11)]
    have Y:=wa Y hm3
    exact wp (h:=wx hI0 (i+1) ⟨ms2,wg,wn,wn,wn,wn,wj,(by (rw [aE h8,nH,← hms,← hv];exact hms2)),(by (rw [hms2];split<;>simp<;>omega))⟩)
   ·have hm3:ms2=ms:=by rw [hms2,if_neg (by simpa using h11),dJ]
    have Y:=wa Y hm3
    exact wp (h:=wx hI0 (i+1) ⟨ms2,wg,wn,wn,wn,wn,wj,(by (rw [aE h8,nH,← hms,← hv];exact hms2)),(by (rw [hms2];split<;>simp<;>omega))⟩)
  ·rw [aH (by omega)] at hms
   exact wv (h:=hQ _ _ (by simp [go_sem,Y,hXE,← hms]))
theorem J7 (l:List Cond):l.length≤Cond.sizes l:=by
 induction l with
 | nil=>simp [Cond.sizes]
 | cons a l ih=>have:=tM a;simp only [Cond.sizes,eK];omega
structure CondV (t:Types) (p:Pattern) (c:Cond):Prop where
 wf:IG c=true
 ins:oM t p c=0
 sz:c.size≤1000000
theorem CondV.kinds {t:Types}{p:Pattern}{c:Cond}(h:CondV t p c):(c.kind=2∨c.kind=5→c.kids.length=1)∧(1≤c.kind∧c.kind≤5):=by
 have:=h.wf
 rw [rU,aM] at this
 have h1:=this.1
 unfold o7 at h1
 split at h1
 ·omega
 ·split at h1
  ·rw [aM,decide_eq_true_eq] at h1;omega
  ·split at h1
   ·omega
   ·rw [aM,decide_eq_true_eq,decide_eq_true_eq] at h1;omega
theorem CondV.ex {t:Types}{p:Pattern}{c:Cond}(h:CondV t p c)(h5:c.kind=5)(hp:PatOk t p):ExOk t p c.map c.pattern∧∀ k∈c.kids,CondV t c.pattern k:=by
 have hi:=h.ins
 have hw:=h.wf
 rw [C5,if_pos h5,if_pos h5] at hi
 rw [rU,aM,bX] at hw
 by_cases h0:iR t p c.map c.pattern=0
 ·rw [if_neg (by omega)] at hi
  refine ⟨?_,fun k hk=>⟨hw.2 k hk,nM hi k hk,by have:=tM c;have:=zR hk;have:=h.sz;omega⟩⟩
  unfold iR at h0
  split at h0
  ·cases h0
  ·rename_i h1
   split at h0
   ·exact absurd h0 (by assumption)
   ·rename_i h2
    split at h0
    ·exact absurd h0 (by assumption)
    ·rename_i h3
     rw [iT] at h2 h3
     refine ⟨Gn ?_,by omega,hp.vars.1,h3⟩
     unfold lZ at h2
     split at h2
     ·exact .inr h2
     ·rename_i h4;left;omega
 ·rw [if_pos h0] at hi;exact absurd hi h0
theorem CondV.kid {t:Types}{p:Pattern}{c:Cond}(h:CondV t p c)(h5:c.kind≠5):∀ k∈c.kids,CondV t p k:=by
 have hi:=h.ins
 have hw:=h.wf
 rw [C5,if_neg h5,if_neg h5,if_neg (by omega)] at hi
 rw [rU,aM,bX] at hw
 exact fun k hk=>⟨hw.2 k hk,nM hi k hk,by have:=tM c;have:=zR hk;have:=h.sz;omega⟩
theorem s9 {α β:Type}(f:α→β){l:List α}{i:Nat}(h:i<l.length):(l.drop i).map f=f l[i] :: (l.drop (i+1)).map f:=by rw [eE h,f6]
theorem w5 {t:Types}{h:Host}{inj:Bool}{l:List Cond}(hl:0<l.length):Kd (l.map (mF t h inj))=mF t h inj l[0]:=by
 cases l with
 | nil=>cases hl
 | cons a l=>rfl
theorem zJ (t:Types)(h:Host)(inj:Bool)(c:Cond)(m:Mat):∃ wc wm wk we,mF t h inj c m=(Prf.mk wc wm wk,we):=by
 cases hh:mF t h inj c m with
 | mk a b=>cases a;exact ⟨_,_,_,_,rfl⟩
theorem Jm (t:Types)(ht:t.ok)(h:Host)(ho:HostOk t h)(inj:Bool):∀ (c:Cond) (p:Pattern),CondV t p c→PatOk t p→∀ m:Mat,MatOk t p h m →
  Pure Tryz.prog 255 [t.d,.agg c.c,h.d,m.d,.bool inj] (.tup [.agg (mF t h inj c m).1.c,dI (mF t h inj c m).2]):=by
 refine iP fun c ih p hC hp m hm=>?_
 obtain ⟨hK1,hK2⟩:=hC.kinds
 have hkl0:c.kids.length≤1000000:=by have:=J7 c.kids;have:=tM c;have:=hC.sz;omega
 have hW:=Hh t h inj c m
 obtain ⟨W,hWW⟩:∃ W,W=mF t h inj c m:=⟨_,rfl⟩
 rw [← hWW] at hW ⊢
 refine vY (by first|rfl|(simp [go_sem];done)) (fun Q hQ=>(aI (cfg:=⟨fun t=>t==10||t==12||t==14||t==16||t==19||t==24,fun r=>match r with|3=>[(0,12),(1,12),(2,12),(3,12),(4,12),(5,12),(6,12),(8,12)]|14=>[(0,13),(1,13),(2,13),(4,13),(5,13),(6,13),(7,13),(9,13)]|23=>[(0,13),(1,13),(2,13),(4,13),(5,13),(6,13),(7,13),(9,13)]|34=>[(0,15),(1,15),(2,15),(3,15),(4,15),(5,15),(8,15),(9,15),(11,15)]|36=>[(2,5),(3,5)]|_=>[]⟩) Tz.mixed Tryz.func255 rfl rfl (aF rfl) (by kernel_rfl) ?_))
 have Y:=wa @Cond.c_eq (wa @Host.d.eq_1 (wa @Host.c.eq_1 (wa @Mat.d.eq_1 (wa @Mat.c.eq_1 @Prf.c_eq))))
 refine c4 (fun h2=>?_) fun h2=>?_
 ·have h2':c.kind=2:=by simpa using h2
  have hl:0<c.kids.length:=by have:=hK1 (.inl h2');omega
  obtain ⟨k0,hk0e⟩:∃ k,k=c.kids[0]:=⟨_,rfl⟩
  have hk0:k0∈c.kids:=hk0e ▸ aC hl
  have hC0:=hC.kid (by omega) k0 hk0
  obtain ⟨wc,wm,wk,we,hw⟩:=zJ t h inj k0 m
  rw [if_pos h2',w5 hl,← hk0e,hw] at hW
  unfold Qi at hW
  have Y:=wa Y (wa (aA hl) (wa (Eq.symm hk0e) h2'))
  refine wp (h:=aK ((by have hq:=ih k0 hk0 p hC0 hp m hm;simp only [hw,Prf.c_eq,Cond.c_eq] at hq;unfold Types.d Types.c Host.d Host.c Mat.d Mat.c dLI dI at hq;exact hq)) wl ?_)
  refine wv (h:=?_)
  repeat first|intro _|refine ⟨eZ,?_⟩
  refine wq (fun h4=>?_) fun h4=>?_
  ·rw [if_pos (by simpa using h4)] at hW
   refine wv (h:=?_)
   exact hQ _ _ (by simp [go_sem,Y,hW,iN,iB,Prf.c_eq,lR,jE,eO,dLI,eT,e8])
  ·rw [if_neg (by simpa using h4)] at hW
   refine c4 (fun h6=>?_) fun h6=>?_
   ·rw [if_pos (by simpa using h6)] at hW
    refine wv (h:=?_)
    exact hQ _ _ (by simp [go_sem,Y,hW,iN,iB,Prf.c_eq,lR,jE,eO,dLI,eT,e8])
   ·rw [if_neg (by simpa using h6)] at hW
    refine wv (h:=?_)
    exact hQ _ _ (by simp [go_sem,Y,hW,iN,iB,Prf.c_eq,lR,jE,eO,dLI,eT,e8])
 ·have h2':c.kind≠2:=by simpa using h2
  rw [if_neg h2'] at hW
  refine c4 (fun h9=>?_) fun h9=>?_
  ·have h9':c.kind=3:=by simpa using h9
   have hCk:=hC.kid (by omega)
   rw [if_pos h9'] at hW
   have Y:=wa Y h9'
   refine wv (h:=wB (Ghosts.step (Ghosts.refl _) 1 0 4 282 5 _ _ ((by simp [go_sem];rfl)) rfl rfl rfl) (fun i e H=>∃ ps:List Prf,(e 5=.adr t.c∧e 6=.adr c.c∧e 7=.adr h.c∧e 8=.adr m.c∧e 4=.bool inj∧e 10=.ptr 0 1 0 0∧e 14=.ptr 1 1 0 0∧e 15=dI i)∧(H.get 0=some ⟨282,5,[[dI 0,.nil,.nil,.nil,.nil]],false⟩)∧(0<H.next)∧(H.get 1=some ⟨282,5,[[dI 0,.nil,.nil,.nil,.own 2 ps.length]],false⟩)∧(1<H.next)∧(H.get 2=some ⟨282,5,ps.map Prf.c,false⟩)∧(2<H.next)∧(i≤c.kids.length)∧(Iq ((c.kids.drop i).map fun k=>mF t h inj k m) ps=W)∧(ps.length≤i)∧(c.kids.length≤1000000)) (fun i=>c.kids.length - i) 0 ⟨([]),wg,wn,wn,wn,wn,wn,wn,wi,(by (exact hW.symm)),(by simp),(by (exact hkl0))⟩ fun I1 hI1 i e H hi1=>?_)
   obtain ⟨ps,E1,g0_1,n0_1,g1_1,n1_1,g2_1,n2_1,hi,hA,hpl,hkl⟩:=hi1
   have Y:=wa Y (wa E1 (wa g0_1 (wa (bZ n0_1) (wa g1_1 (wa (bZ n1_1) (wa g2_1 (bZ n2_1)))))))
   refine wv (h:=?_)
   repeat first|intro _|refine ⟨eZ,?_⟩
   refine wq (fun h12=>?_) fun h12=>?_
   ·obtain ⟨k1,hk1e⟩:∃ k,k=c.kids[i]:=⟨_,rfl⟩
    have hk1:k1∈c.kids:=hk1e ▸ aC h12
    obtain ⟨wc,wm,wk,we,hw⟩:=zJ t h inj k1 m
    have hst:=hA
    rw [s9 _ h12,← hk1e,hw] at hst
    simp only [Iq] at hst
    have Y:=wa Y (wa h12 (wa (aA h12) (Eq.symm hk1e)))
    refine wp (h:=aK ((by have hq:=ih k1 hk1 p (hCk k1 hk1) hp m hm;simp only [hw,Prf.c_eq,Cond.c_eq] at hq;unfold Types.d Types.c Host.d Host.c Mat.d Mat.c dLI dI at hq;exact hq)) wl ?_)
    refine wv (h:=?_)
    repeat first|intro _|refine ⟨eZ,?_⟩
    refine wq (fun h15=>?_) fun h15=>?_
    ·rw [if_pos (by simpa using h15)] at hst
     refine wv (h:=?_)
     exact hQ _ _ (by simp [go_sem,Y,← hst,iN,iB,Prf.c_eq,lR,jE,eO,dLI,eT,e8])
    ·rw [if_neg (by simpa using h15)] at hst
     exact wp (h:=wx hI1 (i+1) ⟨(ps++[.mk wc wm wk]),wg,wn,wn,wn,wn,wn,wn,wj,(by (exact hst)),(by (simp;omega)),(by exact hkl)⟩)
   ·rw [iL (by omega)] at hA
    simp only [iE,Iq] at hA
    refine wv (h:=?_)
    exact hQ _ _ (by simp [go_sem,Y,← hA,iN,iB,Prf.c_eq,lR,jE,eO,dLI,eT,e8])
  ·have h9':c.kind≠3:=by simpa using h9
   rw [if_neg h9'] at hW
   refine c4 (fun h19=>?_) fun h19=>?_
   ·have h19':c.kind=4:=by simpa using h19
    have hCk:=hC.kid (by omega)
    rw [if_pos h19'] at hW
    have Y:=wa Y h19'
    refine wv (h:=bA (fun i e H=>(e 5=.adr t.c∧e 6=.adr c.c∧e 7=.adr h.c∧e 8=.adr m.c∧e 4=.bool inj∧e 10=.ptr 0 1 0 0∧e 18=dI i)∧(H.get 0=some ⟨282,5,[[dI 0,.nil,.nil,.nil,.nil]],false⟩)∧(0<H.next)∧(i≤c.kids.length)∧(Qe ((c.kids.drop i).map fun k=>mF t h inj k m) i=W)) (fun i=>c.kids.length - i) 0 ⟨wg,wn,wn,wi,(by (exact hW.symm))⟩ fun I3 hI3 i e H hi3=>?_)
    obtain ⟨E3,g0_3,n0_3,hi,hA⟩:=hi3
    have Y:=wa Y (wa E3 (wa g0_3 (bZ n0_3)))
    refine wv (h:=?_)
    repeat first|intro _|refine ⟨eZ,?_⟩
    refine wq (fun h21=>?_) fun h21=>?_
    ·obtain ⟨k1,hk1e⟩:∃ k,k=c.kids[i]:=⟨_,rfl⟩
     have hk1:k1∈c.kids:=hk1e ▸ aC h21
     obtain ⟨wc,wm,wk,we,hw⟩:=zJ t h inj k1 m
     have hst:=hA
     rw [s9 _ h21,← hk1e,hw] at hst
     simp only [Qe] at hst
     have Y:=wa Y (wa h21 (wa (aA h21) (Eq.symm hk1e)))
     refine wp (h:=aK ((by have hq:=ih k1 hk1 p (hCk k1 hk1) hp m hm;simp only [hw,Prf.c_eq,Cond.c_eq] at hq;unfold Types.d Types.c Host.d Host.c Mat.d Mat.c dLI dI at hq;exact hq)) wl ?_)
     refine wv (h:=?_)
     repeat first|intro _|refine ⟨eZ,?_⟩
     refine wq (fun h24=>?_) fun h24=>?_
     ·rw [if_pos (by simpa using h24)] at hst
      refine wv (h:=?_)
      exact hQ _ _ (by simp [go_sem,Y,← hst,iN,iB,Prf.c_eq,lR,jE,eO,dLI,eT,e8])
     ·rw [if_neg (by simpa using h24)] at hst
      exact wp (h:=wx hI3 (i+1) ⟨wg,wn,wn,wj,(by (exact hst))⟩)
    ·rw [iL (by omega)] at hA
     simp only [iE,Qe] at hA
     refine wv (h:=?_)
     exact hQ _ _ (by simp [go_sem,Y,← hA,iN,iB,Prf.c_eq,lR,jE,eO,dLI,eT,e8])
   ·have h19':c.kind≠4:=by simpa using h19
    rw [if_neg h19'] at hW
    refine c4 (fun h27=>?_) fun h27=>?_
    ·have h27':c.kind=5:=by simpa using h27
     obtain ⟨hE,hCk⟩:=hC.ex h27' hp
     have hl:0<c.kids.length:=by have:=hK1 (.inr h27');omega
     obtain ⟨k0,hk0e⟩:∃ k,k=c.kids[0]:=⟨_,rfl⟩
     have hk0:k0∈c.kids:=hk0e ▸ aC hl
     obtain ⟨X,hX⟩:∃ X,X=u5 t c.map c.pattern h m inj:=⟨_,rfl⟩
     have hXm:∀ x∈X.1,MatOk t c.pattern h x:=hX ▸ M2 hE ho hm
     rw [if_pos h27',w5 hl,← hk0e,← hX] at hW
     have Y:=wa Y (wa (aA hl) (wa (Eq.symm hk0e) h27'))
     refine wv (h:=aB ((by have hq:=Bb t ht p c hE h ho m hm inj;rw [← hX,Cond.c_eq,h27'] at hq;unfold Types.d Types.c Host.d Host.c Mat.d Mat.c dLI dI at hq;exact hq)) wl ?_)
     refine c4 (fun h29=>?_) fun h29=>?_
     ·rw [if_pos (by simpa using h29)] at hW
      refine wv (h:=?_)
      exact hQ _ _ (by simp [go_sem,Y,hW,iN,iB,Prf.c_eq,lR,jE,eO,dLI,eT,e8])
     ·rw [if_neg (by simpa using h29)] at hW
      refine wv (h:=bA (fun i e H=>(e 5=.adr t.c∧e 6=.adr c.c∧e 7=.adr h.c∧e 8=.adr m.c∧e 4=.bool inj∧e 10=.ptr 0 1 0 0∧e 21=.list (X.1.map Mat.c)∧e 23=dI i)∧(H.get 0=some ⟨282,5,[[dI 0,.nil,.nil,.nil,.nil]],false⟩)∧(0<H.next)∧(i≤X.1.length)∧(Qw ((X.1.drop i).map fun x=>(x,mF t h inj k0 x))=W)) (fun i=>X.1.length - i) 0 ⟨wg,wn,wn,wi,(by (exact hW.symm))⟩ fun I5 hI5 i e H hi5=>?_)
      obtain ⟨E5,g0_5,n0_5,hi,hA⟩:=hi5
      have Y:=wa Y (wa E5 (wa g0_5 (bZ n0_5)))
      refine wv (h:=?_)
      repeat first|intro _|refine ⟨eZ,?_⟩
      refine wq (fun h32=>?_) fun h32=>?_
      ·obtain ⟨wc,wm,wk,we,hw⟩:=zJ t h inj k0 X.1[i]
       have hst:=hA
       rw [s9 _ h32,hw] at hst
       simp only [Qw] at hst
       have Y:=wa Y (wa h32 (aA h32))
       refine wp (h:=aK ((by have hq:=ih k0 hk0 c.pattern (hCk k0 hk0) hE.pq X.1[i] (hXm _ (aC h32));simp only [hw,Prf.c_eq,Cond.c_eq] at hq;unfold Types.d Types.c Host.d Host.c Mat.d Mat.c dLI dI at hq;exact hq)) wl ?_)
       refine wv (h:=?_)
       repeat first|intro _|refine ⟨eZ,?_⟩
       refine wq (fun h35=>?_) fun h35=>?_
       ·rw [if_pos (by simpa using h35)] at hst
        refine wp (h:=?_)
        exact hQ _ _ (by simp [go_sem,Y,← hst,iN,iB,Prf.c_eq,lR,jE,eO,dLI,eT,e8])
       ·rw [if_neg (by simpa using h35)] at hst
        exact wp (h:=wx hI5 (i+1) ⟨wg,wn,wn,wj,(by (exact hst))⟩)
      ·rw [iL (by omega)] at hA
       simp only [iE,Qw] at hA
       refine wv (h:=?_)
       exact hQ _ _ (by simp [go_sem,Y,← hA,iN,iB,Prf.c_eq,lR,jE,eO,dLI,eT,e8])
    ·have h27':c.kind≠5:=by simpa using h27
     rw [if_neg h27'] at hW
     refine wv (h:=?_)
     exact hQ _ _ (by simp [go_sem,Y,hW,iN,iB,Prf.c_eq,lR,jE,eO,dLI,eT,e8])
theorem Jq (t:Types)(ht:t.ok)(h:Host)(ho:HostOk t h)(inj:Bool)(c:Cond)(p:Pattern)(hC:CondV t p c)(hp:PatOk t p)(m:Mat)(hm:MatOk t p h m) :
  Pure Tryz.prog 152 [t.d,.agg c.c,h.d,m.d,.bool inj] (.tup [.bool (lP t h inj c m).1,dI (lP t h inj c m).2]):=by
 have hq:=Jm t ht h ho inj c p hC hp m hm
 rw [Cond.c_eq] at hq
 obtain ⟨wc,wm,wk,we,hw⟩:=zJ t h inj c m
 have hH:lP t h inj c m=if we=10 then (false,0) else (decide (we=0),we):=by unfold lP OD;rw [hw]
 simp only [hw,Prf.c_eq] at hq
 refine Tz.pK ⟨fun t=>t==12,fun _=>[]⟩ Tryz.func152 rfl (fun Q hQ=>?_)
 have Y:=wa @Cond.c_eq (wa @Host.d.eq_1 (wa @Host.c.eq_1 (wa @Mat.d.eq_1 (wa @Mat.c.eq_1 @Prf.c_eq))))
 refine wv (h:=aB ((by have hq:=hq;unfold Types.d Types.c Host.d Host.c Mat.d Mat.c dLI dI at hq;exact hq)) wl ?_)
 refine c4 (fun h2=>?_) fun h2=>?_
 ·rw [if_pos (by simpa using h2)] at hH
  exact wv (h:=hQ _ _ (by simp [go_sem,hH]))
 ·rw [if_neg (by simpa using h2)] at hH
  exact wv (h:=hQ _ _ (by simp [go_sem,hH,Ao]))
end Go.Abs
end
