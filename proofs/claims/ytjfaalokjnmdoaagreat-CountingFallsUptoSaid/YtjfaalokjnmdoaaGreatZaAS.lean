/- The search of the reference: nodes; All, Extend, Instance. · -/
import Derived.Test.YtjfaalokjnmdoaaGreatZaAF
import Derived.Test.YtjfaalokjnmdoaaGreatZaAA
import Derived.Test.YtjfaalokjnmdoaaGreatZaAR
set_option linter.unusedVariables false
set_option linter.unusedSimpArgs false
section
set_option maxRecDepth 100000
set_option maxHeartbeats 4000000
open Go Go.Proofs
namespace Go.Abs
theorem Lr (S:Srch)(hG:G17 S.t S.p S.g)(hpn:S.pn.length=S.p.nodes.length)(hpe:S.pe.length=S.p.edges.length)(most:Nat)(hmo:most≤5000)(f o:Nat)(hd:f≠o) :
  ∀ (d:Nat) (ns:List Int) (out:List Part) (G:AHeap) (Q:D→AHeap→Prop),ns.length+d=S.p.nodes.length→f<G.next→o<G.next→SrS f o S most out G →
  (∀ H',SrS f o S most (Nv S (most+1) d ns out) H'→(∀ j,j≠f→j≠o→j<G.next→H'.get j=G.get j)→G.next≤H'.next→Q (.tup []) H')→ACalls Tryz.prog 336 [.ptr f 1 0 0,dLI ns] G Q:=by
 have hla:=bZ hG.gp
 have hlb:=bZ hG.gg
 intro d
 induction d using Nat.strongRecOn with
 | _ d ih =>
 intro ns out G Q hk hfN hoN hF hQ
 obtain ⟨gf,go,hle⟩:=hF
 have hds:=hd.symm
 have ff:=cG hfN
 have fo:=cG hoN
 refine (aH (cfg:=⟨fun t=>t==97,fun _=>[]⟩) Tz.mixed Tryz.func336 rfl rfl (aE rfl) (by kernel_rfl) ?_)
 have Y:=wa gf (wa go (wa hd (wa hds (wa ff (wa fo (wa @Part.c.eq_1 @Srch.cells.eq_1))))))
 refine wp (h:=sZ (fun hg=>NQ S hG.gp hG.gg most (.list (out.map Part.c)) (by simp [D.cl,AU]) ns) Yf (fun hg=>wl) (fun hg=> rfl) rfl Yg ?_)
 refine pH (fun h0=>?_) fun h0=>?_
 ·have hX:Nv S (most+1) d ns out=out:=by
   cases d<;>(simp only [Nv];rw [if_pos];rcases h0 with h|h;exact .inl (by omega);exact .inr (by simpa using h))
  refine wv (h:=?_)
  exact hQ _ (by rw [hX];exact ⟨gf,go,hle⟩) (by intro j _ _ _;rfl) (by first|exact bQ _|exact Nat.le_add_right _ _)
 ·have hnf:¬ (most+1≤out.length∨sY S ns=false):=by rintro (h|h);(omega);(simp [h] at h0)
  refine pH (fun h2=>?_) fun h2=>?_
  ·have hk0:d=0:=by omega
   subst hk0
   refine wv (h:=?_)
   refine MH (args':=[.ptr f 1 0 0,dLI ns,dLI []]) (by simp [go_sem,Y,dLI,Qo]) ?_
   unfold fB
   refine Lt S hG.gp hG.gg hpe most hmo ns (by omega) f o hd S.p.edges.length [] out _ _ (by simp) (by first|exact hfN|exact Nat.lt_add_right _ hfN) (by first|exact hoN|exact Nat.lt_add_right _ hoN) ⟨gf,go,hle⟩ (fun H3 hF3 hf3 hn3=>?_)
   refine wv (h:=?_)
   exact hQ _ (by simp only [Nv];rw [if_neg hnf];exact hF3) (fun j h1 h2 h3=>hf3 j h1 h2 (by first|exact h3|exact Nat.lt_add_right _ h3)) (by first|exact hn3|exact cN (Nat.le_add_right _ _) hn3)
  ·obtain ⟨k',rfl⟩:∃ k',d=k'+1:=⟨d - 1,by omega⟩
   have hel:ns.length<S.p.nodes.length:=by omega
   have hpl:ns.length<S.pn.length:=by omega
   have hbp:=hG.tp _ (aB hel)
   have hokN:∀ j (hj:j<S.g.nodes.length),S8 S ns j=((decide (S.pn[ns.length]<0)||decide (S.pn[ns.length]=(j:Int)))&&(!(S.inj&&mem ns j)&&y0 S.t S.p.nodes[ns.length] S.g.nodes[j])):=fun j hj=>by
    simp only [S8,Mg,aA hj,aA hel,aA hpl,aD]
   have Y:=wa Y (wa (aA hel) (aA hpl))
   refine wv (h:=bG (fun j e H=>∃ ou:List Part,(e 0=.ptr f 1 0 0∧e 1=dLI ns∧e 4=dI ns.length∧e 5=dI j)∧(H.get f=some ⟨385,11,[S.cells most (.own o ou.length)],false⟩)∧(f<H.next)∧(H.get o=some ⟨56,2,ou.map Part.c,false⟩)∧(o<H.next)∧(j≤S.g.nodes.length)∧(ou.length≤most+1)∧(ou=(List.range j).foldl (fun ou k=>if S8 S ns k=true then Nv S (most+1) k' (ns++[(k:Int)]) ou else ou) out)∧(∀ q,q≠f→q≠o→q<G.next→H.get q=G.get q)∧(G.next≤H.next)) (fun j=>S.g.nodes.length - j) 0 ⟨out,wg,wn,wn,wn,wn,wi,(by (exact hle)),(by rfl),(by (intro q h1 h2 h3;rfl)),(by (simp [go_sem]))⟩ fun I0 hI0 j e H hi0=>?_)
   obtain ⟨ou,E0,gf_0,nf_0,go_0,no_0,hj,hou,hst,hfr,hnx⟩:=hi0
   have di1:=c5 (show o≠f by omega)
   have Y:=wa Y (wa E0 (wa gf_0 (wa (cG nf_0) (wa go_0 (wa (cG no_0) di1)))))
   refine pH (fun h5=>?_) fun h5=>?_
   ·have hEj:=hokN j h5
    have o1:(0≤S.pn[ns.length]→S.pn[ns.length]=(j:Int))→(S.inj=true→mem ns (j:Int)=false)→(S.pn[ns.length]<0∨S.pn[ns.length]=(j:Int))∧(S.inj=false∨mem ns (j:Int)=false):=fun a b=>⟨by omega,by cases hI:S.inj;exact .inl rfl;exact .inr (b hI)⟩
    have hbg:=hG.tg _ (aB h5)
    have Y:=wa Y (wa h5 (aA h5))
    refine wp (h:=sZ (fun hg=>EM S most (.list (ou.map Part.c)) (by simp [D.cl,AU]) ns j) Yf (fun hg=>wl) (fun hg=> rfl) rfl Yg ?_)
    refine wp (h:=c9 (fun hg=>(by have hq:=zC S.t hG.v S.g.nodes[j] S.p.nodes[ns.length] hbg.1 hbg.2 hbp.1;unfold Types.d Types.c dI at hq;exact hq)) (fun hg=>wl) ?_)
    refine pH (fun h7=>?_) fun h7=>?_
    ·have hE:S8 S ns j=false:=by
      rw [hEj,bO];intro hT;simp at hT
      obtain ⟨a,b,c⟩:=hT
      rcases h7 with (h|h)|h
      ·omega
      ·rcases b with b|b
       ·rw [b] at h;cases h.1
       ·rw [b] at h;cases h.2
      ·rw [c] at h;cases h
     obtain ⟨ou2,hou2⟩:∃ x,x=ou:=⟨_,rfl⟩
     have Y:=wa Y (wa @Part.c.eq_1 hou2)
     exact wp (h:=wx hI0 (j+1) ⟨ou2,wg,wn,wn,wn,wn,wj,(by (rw [hou2];first|exact hou|exact Rt hG.gp _ _ hou)),(by (rw [fL,← hst,hou2];first|rw [if_pos hE]|rw [if_neg (by rw [hE];simp)])),(by (first|exact hfr3|exact hfr|(intro q h1 h2 h3;simp [go_sem,h1,h2,cG (show q<H.next by omega)];exact hfr q h1 h2 h3))),(by (first|omega|(simp [go_sem];omega)))⟩)
    ·have hE:S8 S ns j=true:=by
      obtain ⟨⟨a,b⟩,c⟩:=h7
      rw [hEj];simp [c]
      exact ⟨by omega,by cases hI:S.inj;exact .inl rfl;exact .inr (b hI)⟩
     obtain ⟨ou2,hou2⟩:∃ x,x=Nv S (most+1) k' (ns++[(j:Int)]) ou:=⟨_,rfl⟩
     have Y:=wa Y (wa @Part.c.eq_1 h7)
     refine wp (h:=?_)
     refine IX (args':=[.ptr f 1 0 0,dLI (ns++[(j:Int)])]) (by simp [go_sem,Y,dLI]) rfl ?_
     unfold fB
     refine ih k' (by omega) (ns++[(j:Int)]) ou _ _ (by simp;omega) (by simp [go_sem];omega) (by simp [go_sem];omega) ⟨by simp [go_sem,Y],by simp [go_sem,Y],hou⟩ (fun H3 hF3 hf3 hn3=>?_)
     rw [← hou2] at hF3
     obtain ⟨gf3,go3,hle3⟩:=hF3
     simp [go_sem] at hn3
     have hfr3:∀ j,j≠f→j≠o→j<G.next→H3.get j=G.get j:=fun j h1 h2 h3=>by
      have e1:=cG (show j<H.next by omega)
      rw [hf3 j h1 h2 (by simp [go_sem];omega)]
      simp [go_sem,h1,h2,e1]
      exact hfr j h1 h2 h3
     have fr2:=And.intro (cG (show f<H3.next by omega)) (cG (show o<H3.next by omega))
     have Y:=wa Y (wa gf3 (wa go3 fr2))
     exact wp (h:=wx hI0 (j+1) ⟨ou2,wg,wn,wn,wn,wn,wj,(by (rw [hou2];first|exact hou|exact Rt hG.gp _ _ hou)),(by (rw [fL,← hst,hou2];first|rw [if_pos hE]|rw [if_neg (by rw [hE];simp)])),(by (first|exact hfr3|exact hfr|(intro q h1 h2 h3;simp [go_sem,h1,h2,cG (show q<H.next by omega)];exact hfr q h1 h2 h3))),(by (first|omega|(simp [go_sem];omega)))⟩)
   ·have hJ:j=S.g.nodes.length:=by omega
    have hOV:Nv S (most+1) (k'+1) ns out=ou:=by simp only [Nv];rw [if_neg hnf,hst,hJ]
    refine wv (h:=?_)
    exact hQ _ (by rw [hOV];exact ⟨by assumption,by assumption,hou⟩) hfr hnx
@[go_sem] theorem Xe {n:Nat}{c:List D}(h:D.clL c=true):D.clLL (List.replicate n c)=true:=by
 induction n with
 | zero=>rfl
 | succ n ih=>simp [jY,D.clLL,h,ih]
def M8 (n i:Nat):List Int:=List.replicate i (-1)++List.replicate (n - i) 0
theorem D4 {n i:Nat}(h:i≤n):(M8 n i).length=n:=by simp [M8];omega
theorem Pi {n i:Nat}(h:i<n):(M8 n i).set i (-1)=M8 n (i+1):=by
 unfold M8
 rw [oE _ _ (by simp),gI,Nat.sub_self,show n - i=(n - (i+1))+1 by omega,jY,y3]
 simp
theorem Pj (n:Nat):M8 n n=List.replicate n (-1):=by simp [M8]
theorem LP (n:Nat):M8 n 0=List.replicate n 0:=by simp [M8]
theorem NP (p:Graph)(hn:p.nodes.length≤100000)(he:p.edges.length≤100000):Pure Tryz.prog 245 [p.d] (.agg [dLI (List.replicate p.nodes.length (-1)),dLI (List.replicate p.edges.length (-1))]):=by
 refine Tz.pK ⟨fun t=>t==2||t==3,fun r=>match r with|1=>[(3,4),(3,5),(3,6),(0,7),(1,7),(2,7),(3,7),(0,9),(1,9),(2,9),(3,9),(4,9),(5,9),(6,9),(7,9)]|_=>[]⟩ Tryz.func245 rfl (fun Q hQ=>?_)
 try simp [go_sem,seval]
 repeat first|intro _|refine ⟨eI,?_⟩
 obtain ⟨I0,hI0⟩:∃ I0:Nat→cY→AHeap→Prop,∀ (i:Nat) (e:cY) (H:AHeap),I0 i e H↔((e 1=.adr p.c)∧(e 2=.ptr 0 1 0 0)∧(e 3=.ptr 10 1 0 0)∧(e 4=dI i)∧(H.get 0=some ⟨56,2,[[.nil,.nil]],false⟩)∧(0<H.next)∧(H.get 10=some ⟨56,2,[[.own 4 p.nodes.length,.own 8 p.edges.length]],false⟩)∧(10<H.next)∧(H.get 4=some ⟨3,1,(M8 p.nodes.length i).map cI,false⟩)∧(4<H.next)∧(H.get 8=some ⟨3,1,(M8 p.edges.length 0).map cI,false⟩)∧(8<H.next)∧(i≤p.nodes.length)∧((M8 p.nodes.length i).length=p.nodes.length)):=⟨fun i e H=>_,fun _ _ _=>Iff.rfl⟩
 refine fZ I0 (fun i=>p.nodes.length - i) (0) ((hI0 _ _ _).2 ⟨?_,?_,?_,?_,?_,?_,?_,?_,(by (simp [go_sem,LP,cI])),?_,(by (simp [go_sem,LP,cI])),?_,(by first|assumption|omega|(simp [go_sem];done)|(simp_all;done)),(by (exact D4 (by omega)))⟩) ?_
 iterate 10 (first|omega|(simp [go_sem,seval]<;>omega))
 intro i e H hi0
 obtain ⟨q1_0,q2_0,q3_0,q4_0,g0_0,n0_0,g10_0,n10_0,g4_0,n4_0,g8_0,n8_0,hi,hl⟩:=(hI0 _ _ _).1 hi0
 have x0:=cG n0_0
 have x10:=cG n10_0
 have x4:=cG n4_0
 have x8:=cG n8_0
 have F0:=And.intro q1_0 (And.intro q2_0 (And.intro q3_0 (And.intro q4_0 (And.intro g0_0 (And.intro g10_0 (And.intro g8_0 (And.intro x0 (And.intro x10 (And.intro x4 x8)))))))))
 try simp [go_sem,seval,F0,g4_0,hl]
 repeat first|intro _|refine ⟨eI,?_⟩
 refine aJ (fun h3=>?_) (fun h3=>?_)
 ·try simp [go_sem] at h3
  have hS:=Pi h3
  have hil:i<(M8 p.nodes.length i).length:=by omega
  try simp [go_sem,seval,F0,g4_0,hl,h3,aA hil]
  repeat first|intro _|refine ⟨eI,?_⟩
  refine bY (i+1) (by omega) ((hI0 _ _ _).2 ⟨?_,?_,?_,?_,?_,?_,?_,?_,(by (simp [go_sem,F0,g4_0,hl,h3,aA hil,← hS,cK,cI])),?_,(by (simp [go_sem,F0,g4_0,hl,h3,aA hil])),?_,(by first|assumption|omega|(simp [go_sem,F0,g4_0,hl,h3,aA hil];done)|(simp_all<;>omega)),(by (exact D4 (by omega)))⟩)<;>first|omega|(simp [go_sem,seval,F0,g4_0,hl,h3,aA hil]<;>omega)
 ·try simp [go_sem] at h3
  have hie:i=p.nodes.length:=by omega
  rw [hie,Pj] at g4_0
  try simp [go_sem,seval,F0,g4_0,hl,g4_0]
  obtain ⟨I2,hI2⟩:∃ I2:Nat→cY→AHeap→Prop,∀ (k:Nat) (e:cY) (H:AHeap),I2 k e H↔((e 1=.adr p.c)∧(e 2=.ptr 0 1 0 0)∧(e 3=.ptr 10 1 0 0)∧(e 5=dI k)∧(H.get 0=some ⟨56,2,[[.nil,.nil]],false⟩)∧(0<H.next)∧(H.get 10=some ⟨56,2,[[.own 4 p.nodes.length,.own 8 p.edges.length]],false⟩)∧(10<H.next)∧(H.get 4=some ⟨3,1,(List.replicate p.nodes.length (-1:Int)).map cI,false⟩)∧(4<H.next)∧(H.get 8=some ⟨3,1,(M8 p.edges.length k).map cI,false⟩)∧(8<H.next)∧(k≤p.edges.length)∧((M8 p.edges.length k).length=p.edges.length)):=⟨fun k e H=>_,fun _ _ _=>Iff.rfl⟩
  refine fZ I2 (fun k=>p.edges.length - k) (0) ((hI2 _ _ _).2 ⟨?_,?_,?_,?_,?_,?_,?_,?_,?_,?_,(by (simp [go_sem,F0,g4_0,hl,g4_0])),?_,(by first|assumption|omega|(simp [go_sem,F0,g4_0,hl,g4_0];done)|(simp_all;done)),(by (exact D4 (by omega)))⟩) ?_
  iterate 11 (first|omega|(simp [go_sem,seval,F0,g4_0,hl,g4_0]<;>omega))
  intro k e H hi2
  obtain ⟨q1_2,q2_2,q3_2,q5_2,g0_2,n0_2,g10_2,n10_2,g4_2,n4_2,g8_2,n8_2,hk,hl2⟩:=(hI2 _ _ _).1 hi2
  have x0:=cG n0_2
  have x10:=cG n10_2
  have x4:=cG n4_2
  have x8:=cG n8_2
  have F2:=And.intro q1_2 (And.intro q2_2 (And.intro q3_2 (And.intro q5_2 (And.intro g0_2 (And.intro g10_2 (And.intro g4_2 (And.intro x0 (And.intro x10 (And.intro x4 x8)))))))))
  try simp [go_sem,seval,hl,F2,g8_2,hl2]
  repeat first|intro _|refine ⟨eI,?_⟩
  refine aJ (fun h7=>?_) (fun h7=>?_)
  ·try simp [go_sem] at h7
   have hS:=Pi h7
   have hil:k<(M8 p.edges.length k).length:=by omega
   try simp [go_sem,seval,hl,F2,g8_2,hl2,h7,aA hil]
   repeat first|intro _|refine ⟨eI,?_⟩
   refine bY (k+1) (by omega) ((hI2 _ _ _).2 ⟨?_,?_,?_,?_,?_,?_,?_,?_,?_,?_,(by (simp [go_sem,hl,F2,g8_2,hl2,h7,aA hil,← hS,cK,cI])),?_,(by first|assumption|omega|(simp [go_sem,hl,F2,g8_2,hl2,h7,aA hil,h3];done)|(simp_all<;>omega)),(by (exact D4 (by omega)))⟩)<;>first|omega|(simp [go_sem,seval,hl,F2,g8_2,hl2,h7,aA hil]<;>omega)
  ·try simp [go_sem] at h7
   have hke:k=p.edges.length:=by omega
   rw [hke,Pj] at g8_2
   try simp [go_sem,seval,hl,F2,g8_2,hl2,g8_2]
   exact hQ _ _ (by first|(left;(simp [go_sem,hl,F2,g8_2,hl2,g8_2,dLI]);done)|(right;(simp [go_sem,hl,F2,g8_2,hl2,g8_2,dLI]);done))
theorem RP (l:List Part):f6 (l.map Part.c)=l.map Part.c:=AZ fun c hc=>by
 rw [aU] at hc;obtain ⟨x,_,rfl⟩:=hc
 simp [Part.c,nH,qL,dLI,jH]
theorem Qb (S:Srch)(hG:G17 S.t S.p S.g)(hpn:S.pn.length=S.p.nodes.length)(hpe:S.pe.length=S.p.edges.length)(most:Nat)(hmo:most≤5000) :
  Pure Tryz.prog 244 [S.t.d,S.p.d,S.g.d,.agg [dLI S.pn,dLI S.pe],.bool S.inj,dI most] (.list (((CL S).take (most+1)).map Part.c)):=by
 have hRn:Nv S (most+1) S.p.nodes.length [] []=(CL S).take (most+1):=by rw [Nu hG.gp (most+1) _ _ _ (by simp)];simp [CL]
 obtain ⟨L,hL⟩:∃ L,L=(CL S).take (most+1):=⟨_,rfl⟩
 rw [← hL] at hRn ⊢
 refine zZ (by first|rfl|(simp [go_sem];done)) (fun Q hQ=>(aH (cfg:=⟨fun t=>t==21,fun _=>[]⟩) Tz.mixed Tryz.func244 rfl rfl (aE rfl) (by kernel_rfl) ?_))
 have Y:=trivial
 refine wv (h:=?_)
 refine Kf (.step (.refl _) 0 0 10 56 2 _ _ (by simp [go_sem];rfl) rfl rfl rfl) ?_
 simp [go_sem]
 refine MH (args':=[.ptr 0 1 0 0,dLI []]) (by simp [go_sem,dLI,Qo]) ?_
 unfold fB
 refine Lr S hG hpn hpe most hmo 0 1 (by omega) S.p.nodes.length [] [] _ _ (by simp) (by simp [go_sem]) (by simp [go_sem]) ⟨by simp [go_sem,Srch.cells,Types.c,Graph.c,dLI,dI],by simp [go_sem],by simp⟩ (fun H3 hF3 hf3 hn3=>?_)
 rw [hRn] at hF3
 obtain ⟨gf3,go3,hle3⟩:=hF3
 have Y:=wa Y (wa gf3 (wa go3 @Srch.cells.eq_1))
 refine wv (h:=?_)
 exact hQ _ _ (by simp [go_sem,Y,qL,RP])
def gA (x:Term)(vs:List Int):Int:=if x.var<0 then x.add else vs[x.var.toNat]?.getD 0+x.add
def Sm (vs:List Int):Prop:=∀ v∈vs,-4000000≤v∧v≤4000000
theorem Sm.get {vs:List Int}(h:Sm vs){k:Nat}(hk:k<vs.length) : -4000000≤vs[k]∧vs[k]≤4000000:=h _ (aB hk)
def s8 (x:Term)(n:Nat):Prop:=(-1≤x.var∧x.var<n)∧(-1000000≤x.add∧x.add≤1000000)
theorem oM (x:Term)(vs:List Int)(hx:s8 x vs.length)(hs:Sm vs):Pure Tryz.prog 75 [.agg x.c,dLI vs] (dI (gA x vs)):=by
 have hx0:=hx
 obtain ⟨⟨a1,a2⟩,a3,a4⟩:=hx0
 refine Tz.pK ⟨fun _=>false,fun _=>[]⟩ Tryz.func75 rfl (fun Q hQ=>?_)
 have Y:=@Term.c.eq_1
 refine d7 (fun h1=>?_) fun h1=>?_
 ·exact wv (h:=hQ _ _ (by simp [go_sem,gA,h1]))
 ·have hk:x.var.toNat<vs.length:=by omega
  have hb:=hs.get hk
  have Y:=wa Y (aA hk)
  exact wo (h:=hQ _ _ (by simp [go_sem,gA,show ¬ x.var<0 by omega,aA hk]))
theorem iF (x:Term)(vs:List Int)(hx:s8 x vs.length)(hs:Sm vs):Pure Tryz.prog 27 [.agg x.c,dLI vs] (.tup [dI (gA x vs),dI 0]):=by
 have hx0:=hx
 obtain ⟨⟨a1,a2⟩,a3,a4⟩:=hx0
 refine Tz.pK ⟨fun _=>false,fun _=>[]⟩ Tryz.func27 rfl (fun Q hQ=>?_)
 have Y:=@Term.c.eq_1
 refine eJ (fun h1=>?_) fun h1=>?_
 ·have Y:=wa Y h1
  exact wv (h:=hQ _ _ wy)
 ·refine wv (h:=aC (oM x vs hx hs) wl ?_)
  have Y:=wa Y h1
  exact wv (h:=hQ _ _ wy)
theorem Db (x:Term)(vs:List Int)(hx:s8 x vs.length)(hs:Sm vs):Pure Tryz.prog 337 [.agg x.c,dLI vs] (.tup [dI (gA x vs),.bool true]):=by
 have hx0:=hx
 obtain ⟨⟨a1,a2⟩,a3,a4⟩:=hx0
 refine Tz.pK ⟨fun _=>false,fun _=>[]⟩ Tryz.func337 rfl (fun Q hQ=>?_)
 have Y:=@Term.c.eq_1
 refine d7 (fun h1=>?_) fun h1=>?_
 ·exact wv (h:=hQ _ _ (by simp [go_sem,gA,h1]))
 ·refine eJ (fun h3=>?_) fun h3=>?_
  ·have Y:=wa Y (wa h1 h3)
   exact wv (h:=hQ _ _ wy)
  ·have hk:x.var.toNat<vs.length:=by omega
   have hb:=hs.get hk
   have Y:=wa Y (aA hk)
   exact wo (h:=hQ _ _ (by simp [go_sem,gA,aA hk];omega))
def En (x:Test)(vs:List Int):Bool:=(decide (x.kind=1)&&decide (gA x.left vs≤gA x.right vs))||(decide (x.kind=2)&&decide (gA x.left vs=gA x.right vs))
def Kq (x:Test)(n:Nat):Prop:=(x.kind=1∨x.kind=2)∧s8 x.left n∧s8 x.right n
theorem LC (x:Test)(vs:List Int)(hx:Kq x vs.length)(hs:Sm vs):Pure Tryz.prog 246 [.agg x.c,dLI vs] (.bool (En x vs)):=by
 obtain ⟨hk,hl,hr⟩:=hx
 refine Tz.pK ⟨fun _=>false,fun _=>[]⟩ Tryz.func246 rfl (fun Q hQ=>?_)
 have Y:=@Test.c.eq_1
 refine wv (h:=?_)
 refine aC (Db x.left vs hl hs) wl ?_
 refine wv (h:=?_)
 refine aC (Db x.right vs hr hs) wl ?_
 refine wv (h:=?_)
 repeat first|intro _|refine ⟨d8,?_⟩
 exact hQ _ _ (by simp [go_sem,En,JY])
def nQ (h:Host)(m:Part)(s:Slot):Int:=(h.values[(m.nodes[s.node.toNat]?.getD 0).toNat]?.getD [])[s.attr.toNat]?.getD 0
def qW (st:List Int × List Bool)(s:Slot):Bool:=decide (0≤s.term.var)&&!(st.2[s.term.var.toNat]?.getD false)
def oI (h:Host)(m:Part)(st:List Int × List Bool)(s:Slot):List Int × List Bool :=
 if qW st s=true then (st.1.set s.term.var.toNat (nQ h m s - s.term.add),st.2.set s.term.var.toNat true) else st
def iU (h:Host)(m:Part):List Int × List Bool→List Slot→Option (List Int × List Bool)
 | st,[]=>some st
 | st,s :: l=>if gA s.term (oI h m st s).1=nQ h m s then iU h m (oI h m st s) l else none
theorem wM (h:Host)(m:Part)(s:Slot):∀ (l:List Slot) (st:List Int × List Bool),iU h m st (l++[s])=(iU h m st l).bind fun q=>if gA s.term (oI h m q s).1=nQ h m s then some (oI h m q s) else none
 | [],st=>by simp [iU]
 | a :: l,st=>by
  simp only [kI,iU]
  split
  ·exact wM h m s l _
  ·rfl
theorem CY (h:Host)(m:Part):∀ (l r:List Slot) (st:List Int × List Bool),iU h m st l=none→iU h m st (l++r)=none
 | [],r,st,hn=>by simp [iU] at hn
 | a :: l,r,st,hn=>by
  simp only [kI,iU] at hn ⊢
  split at hn
  ·rename_i he;rw [if_pos he];exact CY h m l r _ hn
  ·rename_i he;rw [if_neg he]
theorem CX {h:Host}{m:Part}{l:List Slot}{i:Nat}(hi:i<l.length){st q:List Int × List Bool}(hq:iU h m st (l.take i)=some q) :
  (gA l[i].term (oI h m q l[i]).1=nQ h m l[i]→iU h m st (l.take (i+1))=some (oI h m q l[i]))∧(gA l[i].term (oI h m q l[i]).1≠nQ h m l[i]→iU h m st l=none):=by
 have e:l.take (i+1)=l.take i++[l[i]]:=aF hi
 refine ⟨fun h1=>?_,fun h1=>?_⟩
 ·rw [e,wM,hq];simp [h1]
 ·have hn:iU h m st (l.take (i+1))=none:=by rw [e,wM,hq];simp [h1]
  have:=CY h m _ (l.drop (i+1)) st hn
  rw [List.take_append_drop] at this;exact this
def fX (p:Pattern)(h:Host)(m:Part)(vs:List Int):List Int × Int :=
 match iU h m (vs++List.replicate (p.vars.toNat - vs.length) 0,List.replicate vs.length true++List.replicate (p.vars.toNat - vs.length) false) p.slots with
 | none=>([],11)
 | some q=>if p.tests.all (fun x=>En x q.1)=true then (q.1,0) else ([],16)
structure SmallA (x:Attr):Prop where
 lo : -1000000≤x.low
 hi:x.high≤1000000
 le:x.low≤x.high
theorem DX {x:Attr}{b:List Attr}(h:c8 x b=0):SmallA x:=by
 unfold c8 at h
 split at h<;>try (cases h;done)
 split at h<;>try (cases h;done)
 split at h
 ·exact absurd h (by assumption)
 ·rename_i h3
  split at h
  ·rename_i h4
   split at h
   ·rename_i h5
    have hl:x.names.length≤20:=by
     refine bP fun hc=>h3 ?_
     unfold kR;rw [if_pos (by omega)];decide
    simp at h5
    exact ⟨by omega,by omega,by omega⟩
   ·cases h
  ·split at h
   ·rename_i h5
    simp at h5
    exact ⟨by omega,by omega,by omega⟩
   ·cases h
theorem LR {t:Types}{a:Nat}(ha:a<t.nodes.length)(h:fY t a=0):∀ k,(t.attrs a).length - t.nodes[a].attrs.length≤k→∀ hk:k<(t.attrs a).length,SmallA (t.attrs a)[k]:=by
 rw [A3 t a ha] at h
 split at h<;>try (cases h;done)
 split at h<;>try (cases h;done)
 split at h<;>try (cases h;done)
 split at h<;>try (cases h;done)
 split at h<;>try (cases h;done)
 intro k h1 hk
 have:=fI _ _ h k h1 (by omega)
 unfold zO at this
 rw [aA hk] at this
 exact DX this
theorem MS {t:Types}(hv:(cW t).2=0):∀ a:Nat,a<t.nodes.length→∀ x∈t.attrs a,SmallA x:=by
 have hval:=fF hv
 have hN:∀ j,j<t.nodes.length→fY t j=0:=by
  have h:=hv
  unfold cW at h
  split at h
  ·simp at h
  ·split at h
   ·simp at h
   ·obtain ⟨hN,_⟩:=pP _ _ h
    exact fun j hj=>hN j (by omega) (by omega)
 intro a
 induction a using Nat.strongRecOn with
 | _ a ih =>
 intro ha x hx
 have hrec:=CF t a ha (hval.parentsOK a)
 have hpar:=hval.parent a _ (aA ha)
 obtain ⟨k,hk,rfl⟩:=aT hx
 by_cases h0:k<(t.attrs a).length - t.nodes[a].attrs.length
 ·by_cases hp:0≤t.nodes[a].parent
  ·rw [if_pos hp] at hrec
   have hl:(t.attrs a).length=(t.attrs t.nodes[a].parent.toNat).length+t.nodes[a].attrs.length:=by rw [hrec];simp
   have hkp:k<(t.attrs t.nodes[a].parent.toNat).length:=by omega
   have he:(t.attrs a)[k]=(t.attrs t.nodes[a].parent.toNat)[k]:=by
    have:(t.attrs a)[k]?=(t.attrs t.nodes[a].parent.toNat)[k]?:=by rw [hrec,bA hkp]
    rw [aA hk,aA hkp] at this
    exact Option.some.inj this
   rw [he]
   exact ih _ (by omega) (by omega) _ (aB hkp)
  ·rw [if_neg hp] at hrec
   have hl:(t.attrs a).length=t.nodes[a].attrs.length:=by rw [hrec];simp
   omega
 ·exact LR ha (hN a ha) k (by omega) hk
theorem Ja {t:Types}(hv:t.valid):∀ b:Nat,b<t.nodes.length→∀ a:Nat,mem (t.line b) (a:Int)=true→∃ r,t.attrs b=t.attrs a++r:=by
 intro b
 induction b using Nat.strongRecOn with
 | _ b ih =>
 intro hb a hm
 have hpar:=hv.parent b _ (aA hb)
 rw [qR t b hb (hv.parentsOK b),qO,bT] at hm
 rcases hm with hm|hm
 ·by_cases h0:0≤t.nodes[b].parent
  ·rw [if_pos h0] at hm
   obtain ⟨r,hr⟩:=ih t.nodes[b].parent.toNat (by omega) (by omega) a hm
   exact ⟨r++t.nodes[b].attrs,by rw [CF t b hb (hv.parentsOK b),if_pos h0,hr,List.append_assoc]⟩
  ·rw [if_neg h0,A6] at hm;cases hm
 ·simp at hm
  have:a=b:=by omega
  subst this
  exact ⟨[],by simp⟩
structure SOk (p:Pattern) (h:Host) (m:Part):Prop where
 vars:0≤p.vars∧p.vars≤12
 node:∀ s∈p.slots,0≤s.node∧s.node<m.nodes.length
 img:∀ k∈m.nodes,0≤k∧k<h.values.length
 attr:∀ s∈p.slots,0≤s.attr∧s.attr<(h.values[(m.nodes[s.node.toNat]?.getD 0).toNat]?.getD []).length
 small:∀ l∈h.values,∀ v∈l,-1000000≤v∧v≤1000000
 term:∀ s∈p.slots,s8 s.term p.vars.toNat
 test:∀ x∈p.tests,Kq x p.vars.toNat
structure Mat where
 m:Part
 vars:List Int
def Mat.c (x:Mat):List D:=[dLI x.m.nodes,dLI x.m.edges,dLI x.vars]
def Mat.d (x:Mat):D:=.agg x.c
@[go_sem] theorem Mat.cl (x:Mat):D.clL x.c=true:=by simp [Mat.c,D.clL,n3]
@[go_sem] theorem XP (l:List Mat):D.clLL (l.map Mat.c)=true:=dA _ Mat.cl l
def Mu (l:List Part):List Part × Int:=if 5000<(l.take 5001).length then ([],3) else (l.take 5001,0)
def oU (t:Types)(p g:Graph)(inj:Bool):List Part × Int:=if iL t p g≠0 then ([],iL t p g) else Mu (CL ⟨t,p,g,List.replicate p.nodes.length (-1),List.replicate p.edges.length (-1),inj⟩)
def LO (n:Int)(l:List Int)(i:Nat):Int:=if l[i]?.getD 0 < -1∨n≤l[i]?.getD 0 then 6 else 0
def rZ (l:List Int)(n:Int):Int:=b9 (LO n l) 0 l.length
def tZ (t:Types)(p g:Graph)(q:Part)(inj:Bool):List Part × Int :=
 if iL t p g≠0 then ([],iL t p g)
 else if q.nodes.length≠p.nodes.length∨q.edges.length≠p.edges.length then ([],20)
 else if rZ q.nodes g.nodes.length≠0 then ([],rZ q.nodes g.nodes.length)
 else if rZ q.edges g.edges.length≠0 then ([],rZ q.edges g.edges.length)
 else Mu (CL ⟨t,p,g,q.nodes,q.edges,inj⟩)
def E8 (n:Nat)(at_ im:List Int):List Int:=(List.range at_.length).foldl (fun acc i=>acc.set (at_[i]?.getD 0).toNat (im[i]?.getD 0)) (List.replicate n (-1))
def tO (c:Part)(q:Pattern)(m:Part):Part:=⟨E8 q.graph.nodes.length c.nodes m.nodes,E8 q.graph.edges.length c.edges m.edges⟩
def wF (q:Pattern)(h:Host)(vars:List Int)(l:List Part):List Mat:=l.filterMap fun x=>if (fX q h x vars).2=0 then some ⟨x,(fX q h x vars).1⟩ else none
def Cr (t:Types)(c:Part)(q:Pattern)(h:Host)(m:Mat)(inj:Bool):List Mat × Int :=
 if (tZ t q.graph h.graph (tO c q m.m) inj).2≠0 then ([],(tZ t q.graph h.graph (tO c q m.m) inj).2)
 else (wF q h m.vars (tZ t q.graph h.graph (tO c q m.m) inj).1,0)
/-! ### conditions: the first witness -/
inductive Prf where
 | mk (choice:Int) (m:Mat) (kids:List Prf)
mutual
def Prf.c:Prf→List D
 | .mk ch m l=>[dI ch,dLI m.m.nodes,dLI m.m.edges,dLI m.vars,.list (Prf.cs l)]
def Prf.cs:List Prf→List (List D)
 | []=>[]
 | p :: l=>p.c :: Prf.cs l
end
theorem Prf.cs_eq (l:List Prf):Prf.cs l=l.map Prf.c:=by
 induction l with
 | nil=>simp [Prf.cs]
 | cons a l ih=>simp [Prf.cs,ih]
theorem Prf.c_eq (ch:Int)(m:Mat)(l:List Prf):(Prf.mk ch m l).c=[dI ch,dLI m.m.nodes,dLI m.m.edges,dLI m.vars,.list (l.map Prf.c)]:=by simp [Prf.c,Prf.cs_eq]
mutual
theorem Prf.cl:∀ x:Prf,D.clL x.c=true
 | .mk ch m l=>by
  have:=Prf.cls l
  simp [Prf.c,D.clL,D.cl,dI,n3,this]
theorem Prf.cls:∀ l:List Prf,D.clLL (Prf.cs l)=true
 | []=>by simp [Prf.cs,D.clLL]
 | c :: l=>by simp [Prf.cs,D.clLL,Prf.cl c,Prf.cls l]
end
attribute [go_sem] Prf.cl
@[go_sem] theorem XA (l:List Prf):D.clLL (l.map Prf.c)=true:=by rw [← Prf.cs_eq];exact Prf.cls l
mutual
theorem Prf.nz:∀ x:Prf,nH x.c=x.c
 | .mk ch m l=>by
  have:=Kr l
  simp [Prf.c,nH,qL,dI,dLI,jH,this]
theorem Kr:∀ l:List Prf,f6 (Prf.cs l)=Prf.cs l
 | []=>by simp [Prf.cs,f6]
 | c :: l=>by simp [Prf.cs,f6,Prf.nz c,Kr l]
end
theorem mV (l:List Prf):f6 (l.map Prf.c)=l.map Prf.c:=by rw [← Prf.cs_eq];exact Kr l
def tU:Mat:=⟨⟨[],[]⟩,[]⟩
def sR:Prf:=.mk 0 tU []
def UF (e:Int):Int:=if e=0 then 10 else if e=10 then 0 else e
def Q5:List (Prf × Int)→List Prf→Prf × Int
 | [],acc=>(.mk 0 tU acc,0)
 | (p,e) :: l,acc=>if e≠0 then (sR,e) else Q5 l (acc++[p])
def VI:List (Prf × Int)→Nat→Prf × Int
 | [],_=>(sR,10)
 | (p,e) :: l,i=>if e≠10 then (.mk i tU [p],e) else VI l (i+1)
def VT:List (Mat × (Prf × Int))→Prf × Int
 | []=>(sR,10)
 | (m,(p,e)) :: l=>if e≠10 then (.mk 0 m [p],e) else VT l
def Me (fs:List (Mat→Prf × Int)):Mat→Prf × Int:=fs.head?.getD fun _=>(sR,0)
mutual
def uI (t:Types)(h:Host)(inj:Bool):Cond→Mat→Prf × Int
 | .mk k l mp q=>fun m =>
  if k=2 then (sR,UF (Me (CT t h inj l) m).2)
  else if k=3 then Q5 ((CT t h inj l).map fun f=>f m) []
  else if k=4 then VI ((CT t h inj l).map fun f=>f m) 0
  else if k=5 then (if (Cr t mp q h m inj).2≠0 then (sR,(Cr t mp q h m inj).2) else VT ((Cr t mp q h m inj).1.map fun x=>(x,Me (CT t h inj l) x)))
  else (sR,0)
def CT (t:Types)(h:Host)(inj:Bool):List Cond→List (Mat→Prf × Int)
 | []=>[]
 | c :: l=>uI t h inj c :: CT t h inj l
end
theorem Rh (t:Types)(h:Host)(inj:Bool)(l:List Cond):CT t h inj l=l.map (uI t h inj):=by
 induction l with
 | nil=>simp [CT]
 | cons a l ih=>simp [CT,ih]
theorem ST (t:Types)(h:Host)(inj:Bool)(c:Cond)(m:Mat):uI t h inj c m =
  if c.kind=2 then (sR,UF (Me (c.kids.map (uI t h inj)) m).2)
  else if c.kind=3 then Q5 (c.kids.map fun k=>uI t h inj k m) []
  else if c.kind=4 then VI (c.kids.map fun k=>uI t h inj k m) 0
  else if c.kind=5 then (if (Cr t c.map c.pattern h m inj).2≠0 then (sR,(Cr t c.map c.pattern h m inj).2) else VT ((Cr t c.map c.pattern h m inj).1.map fun x=>(x,Me (c.kids.map (uI t h inj)) x)))
  else (sR,0):=by
 cases c;simp only [uI,Rh,Cond.kind,Cond.kids,Cond.map,Cond.pattern,iX];rfl
def SU (t:Types)(h:Host)(inj:Bool)(c:Cond)(m:Mat):Int:=(uI t h inj c m).2
def xD (t:Types)(h:Host)(inj:Bool)(c:Cond)(m:Mat):Bool × Int:=if SU t h inj c m=10 then (false,0) else (decide (SU t h inj c m=0),SU t h inj c m)
/-! ### a step -/
def jT (t:Types)(p:Pattern)(h:Host)(m:Part):List Int × Int :=
 if cJ t p≠0 then ([],cJ t p) else if lH t h≠0 then ([],lH t h) else if m9 t p.graph h.graph m false≠0 then ([],m9 t p.graph h.graph m false) else fX p h m []
def gY (t:Types)(p:Pattern)(h:Host)(inj:Bool):List Mat × Int :=
 if cJ t p≠0 then ([],cJ t p) else if lH t h≠0 then ([],lH t h)
 else if (oU t p.graph h.graph inj).2≠0 then ([],(oU t p.graph h.graph inj).2) else (wF p h [] (oU t p.graph h.graph inj).1,0)
def vL (p g:Graph)(m:Part):Graph:=⟨m.nodes.map (gN g),p.edges⟩
def yU (t:Types)(r:Rule)(h:Host)(m:Mat):Int :=
 if m9 t r.left.graph h.graph m.m r.inj≠0 then 1
 else if (jT t r.left h m.m).2≠0 then (jT t r.left h m.m).2
 else if (jT t r.left h m.m).1≠m.vars then 11
 else xM (vL r.left.graph h.graph m.m) h.graph r.keep m.m
def nK (t:Types)(r:Rule)(h:Host)(m:Mat):Int :=
 if yU t r h m≠0 then yU t r h m
 else if (xD t h r.inj r.cond m).2≠0 then (xD t h r.inj r.cond m).2
 else if (xD t h r.inj r.cond m).1=false then 16 else 0
def dD (r:Rule)(h:Host)(m:Mat):Part:=Bw (vL r.left.graph h.graph m.m) h.graph r.keep m.m
def j6 (l:List Int)(n:Nat)(v:Int):Int:=(List.range n).foldl (fun acc (k:Nat)=>if l[k]?.getD (-1)=v then (k:Int) else acc) (-1)
def kF (l:List Int)(n:Nat):List Int:=(List.range n).map fun (v:Nat)=>j6 l l.length v
def Fh (into:List Int)(i:Nat):Nat:=((List.range i).filter fun (j:Nat)=>decide (j6 into into.length j<0)).length
def Ss (keep into at_:List Int)(remain:Nat)(i:Nat):Int:=if 0≤j6 into into.length i then at_[(keep[(j6 into into.length i).toNat]?.getD 0).toNat]?.getD 0 else ((remain+Fh into i:Nat):Int)
def Na (keep into at_:List Int)(right remain:Nat):List Int:=(List.range right).map (Ss keep into at_ remain)
def Nh (d:List Int)(n:Nat):List Int:=kF d n
def wJ (r:Rule)(h:Host)(m:Mat):Part:=⟨Nh (dD r h m).nodes h.graph.nodes.length,Nh (dD r h m).edges h.graph.edges.length⟩
def Ea (l tr:List Int):List Int:=l.map fun k=>tr[k.toNat]?.getD 0
def v7 (r:Rule)(h:Host)(m:Mat):Part :=
 ⟨Na r.keep.nodes r.into.nodes (Ea m.m.nodes (wJ r h m).nodes) r.right.graph.nodes.length (dD r h m).nodes.length,Na r.keep.edges r.into.edges (Ea m.m.edges (wJ r h m).edges) r.right.graph.edges.length (dD r h m).edges.length⟩
def sX (t:Types)(k:Int):List Int:=(b7 t k).map fun a=>a.low
def freshE (c:Part)(y:Edge):Edge:=⟨y.type,c.nodes[y.from_.toNat]?.getD 0,c.nodes[y.to_.toNat]?.getD 0⟩
def jZ (t:Types)(r:Rule)(c:Part)(x:Host):Host :=
 ⟨⟨x.graph.nodes++r.freshN.map (gN r.right.graph),x.graph.edges++r.freshE.map (fun k=>freshE c (r.right.graph.edges[k.toNat]?.getD bS))⟩,x.values++r.freshN.map (fun k=>sX t (gN r.right.graph k))⟩
def eB (t:Types)(r:Rule)(h:Host)(m:Mat):Host:=jZ t r (v7 r h m) ⟨cM h.graph (dD r h m),(dD r h m).nodes.map fun k=>h.values[k.toNat]?.getD []⟩
def f5 (c:Part)(s:Slot):Nat:=(c.nodes[s.node.toNat]?.getD 0).toNat
def OI (c:Part)(vs:List Int)(a b:Slot):Bool:=decide (f5 c a=f5 c b)&&(decide (a.attr=b.attr)&&decide (gA a.term vs≠gA b.term vs))
def Kd (c:Part)(vs:List Int)(l:List Slot):Bool:=(List.range l.length).any fun i=>(List.range i).any fun k=>match l[k]?,l[i]? with|some a,some b=>OI c vs a b|_,_=>false
def Hc (t:Types)(g:Graph)(c:Part)(vs:List Int)(s:Slot):Bool :=
 let a:=(b7 t (g.nodes[f5 c s]?.getD 0))[s.attr.toNat]?.getD mK
 decide (gA s.term vs<a.low)||decide (a.high<gA s.term vs)
def DN (t:Types)(g:Graph)(c:Part)(vs:List Int)(l:List Slot):Int:=if Kd c vs l=true then 11 else if l.any (Hc t g c vs)=true then 6 else 0
def wY (c:Part)(vs:List Int)(l:List Slot)(vals:List (List Int)):List (List Int):=l.foldl (fun vals s=>vals.set (f5 c s) ((vals[f5 c s]?.getD []).set s.attr.toNat (gA s.term vs))) vals
def Gx (t:Types)(r:Rule)(h:Host)(m:Mat):Host:=⟨(eB t r h m).graph,wY (v7 r h m) m.vars r.right.slots (eB t r h m).values⟩
def tF (t:Types)(r:Rule)(h:Host)(m:Mat):Int :=
 if nK t r h m≠0 then nK t r h m
 else if DN t (eB t r h m).graph (v7 r h m) m.vars r.right.slots≠0 then DN t (eB t r h m).graph (v7 r h m) m.vars r.right.slots
 else if 40<(eB t r h m).graph.nodes.length∨80<(eB t r h m).graph.edges.length then 3 else 0
structure Stp26 where
 rule:Rule
 mat:Mat
 before:Host
 after:Host
 track:Part
 comatch:Part
def Stp26.c (s:Stp26):List D:=s.rule.c++s.mat.c++s.before.c++s.after.c++[dLI s.track.nodes,dLI s.track.edges,dLI s.comatch.nodes,dLI s.comatch.edges]
def lV (t:Types)(r:Rule)(h:Host):Int:=if ruleF t r≠0 then ruleF t r else lH t h
def xT (t:Types)(r:Rule)(h:Host)(m:Mat):Int:=if lV t r h≠0 then lV t r h else tF t r h m
def Nr (t:Types)(r:Rule)(h:Host)(m:Mat):Stp26:=⟨r,m,h,Gx t r h m,wJ r h m,v7 r h m⟩
def CJ (t:Types)(r:Rule)(h:Host):List Mat × Int :=
 if lV t r h≠0 then ([],lV t r h) else if (gY t r.left h r.inj).2≠0 then ([],(gY t r.left h r.inj).2) else ((gY t r.left h r.inj).1.filter fun m=>decide (tF t r h m=0),0)
@[go_sem] theorem VG (l:List Part):D.clLL (l.map Part.c)=true:=AU l
theorem Wc (t:Types)(p g:Graph)(hG:G17 t p g)(pn pe:List Int)(h1:pn.length=p.nodes.length)(h2:pe.length=p.edges.length)(inj:Bool) :
  Pure Tryz.prog 244 [t.d,p.d,g.d,.agg [dLI pn,dLI pe],.bool inj,dI 5000] (.list (((CL ⟨t,p,g,pn,pe,inj⟩).take 5001).map Part.c)) :=
 Qb ⟨t,p,g,pn,pe,inj⟩ hG h1 h2 5000 (by omega)
theorem RB (t:Types)(p g:Graph)(hG:G17 t p g)(pn pe:List Int)(h1:pn.length=p.nodes.length)(h2:pe.length=p.edges.length)(inj:Bool){L:List Part}(hL:L=(CL ⟨t,p,g,pn,pe,inj⟩).take 5001) :
  Pure Tryz.prog 244 [t.d,p.d,g.d,.agg [dLI pn,dLI pe],.bool inj,dI 5000] (.list (L.map Part.c)):=hL ▸ Wc t p g hG pn pe h1 h2 inj
theorem Uq (t:Types)(p g:Graph)(hG:G17 t p g)(inj:Bool){L:List Part}(hL:L=(CL ⟨t,p,g,List.replicate p.nodes.length (-1),List.replicate p.edges.length (-1),inj⟩).take 5001) :
  Pure Tryz.prog 244 [t.d,p.d,g.d,.agg [.list (List.replicate p.nodes.length [D.int .i64 (-1)]),.list (List.replicate p.edges.length [D.int .i64 (-1)])],.bool inj,dI 5000] (.list (L.map Part.c)):=by
 have:=RB t p g hG _ _ (by simp) (by simp) inj hL
 simpa only [dLI,List.map_replicate,cI] using this
theorem Qc (t:Types)(ht:t.ok)(p g:Graph)(inj:Bool):Pure Tryz.prog 147 [t.d,p.d,g.d,.bool inj] (.tup [.list ((oU t p g inj).1.map Part.c),dI (oU t p g inj).2]):=by
 refine Tz.pK ⟨fun _=>false,fun _=>[]⟩ Tryz.func147 rfl (fun Q hQ=>?_)
 have Y:=trivial
 refine wv (h:=aC (rQ t ht p g) wl ?_)
 refine d7 (fun h2=>?_) fun h2=>?_
 ·have hA:oU t p g inj=([],iL t p g):=by unfold oU;rw [if_pos (by simpa using h2)]
  exact wv (h:=hQ _ _ (by simp [go_sem,hA]))
 ·have hG:=u0 (by simpa using h2)
  have hla:=bZ hG.gp
  obtain ⟨L,hL⟩:∃ L,L=(CL ⟨t,p,g,List.replicate p.nodes.length (-1),List.replicate p.edges.length (-1),inj⟩).take 5001:=⟨_,rfl⟩
  have hA:oU t p g inj=if 5000<L.length then ([],3) else (L,0):=by unfold oU;rw [if_neg (by simpa using h2)];unfold Mu;rw [← hL]
  refine wv (h:=aM (NP p (by omega) (by omega)) wl ?_)
  refine wv (h:=aM (Uq t p g hG inj hL) wl ?_)
  refine eJ (fun h5=>?_) fun h5=>?_
  ·rw [if_pos (by omega)] at hA
   exact wv (h:=hQ _ _ (by simp [go_sem,hA]))
  ·rw [if_neg (by omega)] at hA
   exact wv (h:=hQ _ _ (by simp [go_sem,hA]))
def AV (l:List Int)(Cy n:Int):Int:=if (l.length:Int)≠Cy then 20 else rZ l n
theorem AN (l:List Int)(Cy n:Int):Pure Tryz.prog 434 [dLI l,dI Cy,dI n] (dI (AV l Cy n)):=by
 refine Tz.pK ⟨fun _=>false,fun _=>[]⟩ Tryz.func434 rfl (fun Q hQ=>?_)
 have Y:=trivial
 refine wv (h:=?_)
 repeat first|intro _|refine ⟨d8,?_⟩
 refine wq (fun h1=>?_) fun h1=>?_
 ·have hP:AV l Cy n=20:=by unfold AV;rw [if_pos (by omega)]
  exact wv (h:=hQ _ _ (by simp [go_sem,hP]))
 ·have hP:AV l Cy n=rZ l n:=by unfold AV;rw [if_neg (by omega)]
  refine wv (h:=bG (fun i e H=>(e 0=dLI l∧e 2=dI n∧e 7=dI i)∧(i≤l.length)∧(b9 (LO n l) i (l.length - i)=rZ l n)) (fun i=>l.length - i) 0 ⟨wg,wi,(by rfl)⟩ fun I0 hI0 i e H hi0=>?_)
  obtain ⟨E0,hi,hF⟩:=hi0
  have Y:=wa Y E0
  refine wv (h:=?_)
  repeat first|intro _|refine ⟨d8,?_⟩
  refine wq (fun h4=>?_) fun h4=>?_
  ·have hst:=fN (LO n l) h4
   rw [hF] at hst
   have hO:LO n l i=if l[i] < -1∨n≤l[i] then 6 else 0:=by simp only [LO,aA h4,aD]
   have Y:=wa Y (wa h4 (aA h4))
   refine wv (h:=?_)
   repeat first|intro _|refine ⟨d8,?_⟩
   refine wq (fun h6=>?_) fun h6=>?_
   ·rw [if_pos (by omega)] at hO
    rw [hO,if_pos (by omega)] at hst
    exact wv (h:=hQ _ _ (by simp [go_sem,hP,hst]))
   ·rw [if_neg (by omega)] at hO
    rw [hO,if_neg (by omega)] at hst
    exact wo (h:=wx hI0 (i+1) ⟨wg,wj,(by exact hst.symm)⟩)
  ·have hZ:rZ l n=0:=by rw [← hF,show l.length - i=0 by omega];rfl
   exact wv (h:=hQ _ _ (by simp [go_sem,hP,hZ]))
theorem JI (t:Types)(ht:t.ok)(p g:Graph)(q:Part)(inj:Bool):Pure Tryz.prog 398 [t.d,p.d,g.d,q.d,.bool inj] (.tup [.list ((tZ t p g q inj).1.map Part.c),dI (tZ t p g q inj).2]):=by
 refine Tz.pK ⟨fun _=>false,fun _=>[]⟩ Tryz.func398 rfl (fun Q hQ=>?_)
 have Y:=trivial
 refine wv (h:=aC (rQ t ht p g) wl ?_)
 refine d7 (fun h2=>?_) fun h2=>?_
 ·have hA:tZ t p g q inj=([],iL t p g):=by unfold tZ;rw [if_pos (by simpa using h2)]
  exact wv (h:=hQ _ _ (by simp [go_sem,hA]))
 ·have hG:=u0 (by simpa using h2)
  refine eJ (fun h4=>?_) fun h4=>?_
  ·have hA:tZ t p g q inj=([],20):=by unfold tZ;rw [if_neg (by simpa using h2),if_pos (by omega)]
   exact wv (h:=hQ _ _ (by simp [go_sem,hA]))
  ·have hq:q.nodes.length=p.nodes.length∧q.edges.length=p.edges.length:=by omega
   have hP1:AV q.nodes p.nodes.length g.nodes.length=rZ q.nodes g.nodes.length:=by unfold AV;rw [if_neg (by omega)]
   have hP2:AV q.edges p.edges.length g.edges.length=rZ q.edges g.edges.length:=by unfold AV;rw [if_neg (by omega)]
   refine wo (h:=aC (AN q.nodes p.nodes.length g.nodes.length) wl ?_)
   refine eJ (fun h7=>?_) fun h7=>?_
   ·have hA:tZ t p g q inj=([],rZ q.nodes g.nodes.length):=by unfold tZ;rw [if_neg (by simpa using h2),if_neg (by omega),if_pos (by rw [← hP1];exact h7)]
    exact wv (h:=hQ _ _ (by simp [go_sem,hA,hP1]))
   ·have h7':rZ q.nodes g.nodes.length=0:=by rw [← hP1];exact h7
    refine wo (h:=aC (AN q.edges p.edges.length g.edges.length) wl ?_)
    refine eJ (fun h10=>?_) fun h10=>?_
    ·have hA:tZ t p g q inj=([],rZ q.edges g.edges.length):=by unfold tZ;rw [if_neg (by simpa using h2),if_neg (by omega),if_neg (by omega),if_pos (by rw [← hP2];exact h10)]
     exact wv (h:=hQ _ _ (by simp [go_sem,hA,hP2]))
    ·have h10':rZ q.edges g.edges.length=0:=by rw [← hP2];exact h10
     obtain ⟨L,hL⟩:∃ L,L=(CL ⟨t,p,g,q.nodes,q.edges,inj⟩).take 5001:=⟨_,rfl⟩
     have hA:tZ t p g q inj=if 5000<L.length then ([],3) else (L,0):=by unfold tZ;rw [if_neg (by simpa using h2),if_neg (by omega),if_neg (by omega),if_neg (by omega)];unfold Mu;rw [← hL]
     refine wv (h:=aC (RB t p g hG q.nodes q.edges hq.1 hq.2 inj hL) wl ?_)
     refine eJ (fun h13=>?_) fun h13=>?_
     ·rw [if_pos (by omega)] at hA
      exact wv (h:=hQ _ _ (by simp [go_sem,hA]))
     ·rw [if_neg (by omega)] at hA
      exact wv (h:=hQ _ _ (by simp [go_sem,hA]))
/-! ### the instance of a pattern -/
def Fz (g:Graph)(ms ns:List Int)(i:Nat):List Int:=(List.range i).foldl (fun acc k=>acc.set k (gN g (ms[k]?.getD 0))) ns
theorem xB (g:Graph)(ms ns:List Int):∀ i,(Fz g ms ns i).length=ns.length
 | 0=>rfl
 | i+1=>by unfold Fz;rw [fL,dX];exact xB g ms ns i
theorem IC (g:Graph)(ms ns:List Int)(i:Nat):Fz g ms ns (i+1)=(Fz g ms ns i).set i (gN g (ms[i]?.getD 0)):=by unfold Fz;rw [fL]
theorem L8 (g:Graph)(ms ns:List Int)(k:Nat)(hk:k<ns.length):∀ i,(Fz g ms ns i)[k]?=if k<i then some (gN g (ms[k]?.getD 0)) else ns[k]?
 | 0=>by simp [Fz]
 | i+1=>by
  rw [IC,c6,xB,L8 g ms ns k hk i]
  by_cases h:i=k
  ·subst h;simp [hk]
  ·rw [if_neg h]
   by_cases h2:k<i
   ·rw [if_pos h2,if_pos (by omega)]
   ·rw [if_neg h2,if_neg (by omega)]
theorem Sb {g:Graph}{ms ns:List Int}(h:ms.length=ns.length):Fz g ms ns ns.length=ms.map (gN g):=by
 apply eK
 intro k
 by_cases hk:k<ns.length
 ·rw [L8 g ms ns k hk,if_pos hk,aR,aA (by omega)];rfl
 ·rw [aX (by rw [xB];omega),aX (by simp;omega)]
def Oh (t:Types)(p g:Graph)(m:Part):Graph:=if m9 t p g m false=0 then vL p g m else ⟨[],[]⟩
theorem Is {t:Types}{p g:Graph}{m:Part}{inj:Bool}(h:qP t p g m inj=0) :
  (m.nodes.length=p.nodes.length∧m.edges.length=p.edges.length)∧(∀ x∈m.nodes,0≤x∧x<g.nodes.length)∧(∀ x∈m.edges,0≤x∧x<g.edges.length):=by
 unfold qP at h
 split at h
 ·cases h
 ·rename_i h1
  split at h
  ·exact absurd h (by assumption)
  ·rename_i h2
   split at h
   ·exact absurd h (by assumption)
   ·rename_i h3
    refine ⟨by omega,fun x hx=>?_,fun x hx=>?_⟩
    ·obtain ⟨k,hk,rfl⟩:=aT hx
     have:=fI _ _ (by simpa using h2) k (dY _) (by omega)
     unfold Re at this
     rw [aA hk,aD] at this
     split at this
     ·cases this
     ·omega
    ·obtain ⟨k,hk,rfl⟩:=aT hx
     have:=fI _ _ (by simpa using h3) k (dY _) (by omega)
     unfold jL at this
     rw [aA hk,aD] at this
     split at this
     ·cases this
     ·omega
theorem yM {t:Types}{p g:Graph}{m:Part}{inj:Bool}(h:m9 t p g m inj=0):G17 t p g∧qP t p g m inj=0:=by
 unfold m9 at h
 split at h
 ·exact absurd h (by assumption)
 ·rename_i h1;exact ⟨u0 (by simpa using h1),h⟩
theorem EN (t:Types)(ht:t.ok)(p g:Graph)(m:Part):Pure Tryz.prog 168 [t.d,p.d,g.d,m.d] (.tup [(Oh t p g m).d,dI (m9 t p g m false)]):=by
 refine Tz.pK ⟨fun t=>t==8||t==11,fun _=>[]⟩ Tryz.func168 rfl (fun Q hQ=>?_)
 have Y:=trivial
 refine wv (h:=aC (wT t ht p g m false) wl ?_)
 refine d7 (fun h2=>?_) fun h2=>?_
 ·have hI:Oh t p g m=⟨[],[]⟩:=by unfold Oh;rw [if_neg (by simpa using h2)]
  exact wv (h:=hQ _ _ (by simp [go_sem,hI]))
 ·obtain ⟨hG,hM⟩:=yM (by simpa using h2)
  obtain ⟨⟨hl1,hl2⟩,hmn,hme⟩:=Is hM
  have hla:=bZ hG.gp
  have hlb:=bZ hG.gg
  have hI:Oh t p g m=vL p g m:=by unfold Oh;rw [if_pos (by simpa using h2)]
  refine wv (h:=?_)
  unfold fB;refine lM p (by omega) (by omega) _ _ (fun a b H1 ha hb hab han hbn hga hgb hfr hnn=>?_)
  have h0n:(0:Nat)<H1.next:=by omega
  have ha0:a≠0:=by simp [go_sem] at ha;omega
  have hb0:b≠0:=by simp [go_sem] at hb;omega
  have hg0:=hfr 0 (by simp [go_sem])
  simp [go_sem] at hg0
  have nx:=N4 H1.next
  have fr1:=And.intro (cG (show a<H1.next by omega)) (And.intro (cG (show b<H1.next by omega)) (cG (show 0<H1.next by omega)))
  have di2:=And.intro (c5 (show 0≠b by omega)) (And.intro (c5 (show 0≠a by omega)) (c5 (show b≠a by omega)))
  have Y:=wa Y (wa fr1 (wa di2 (wa hga (wa hgb (wa hg0 nx)))))
  refine wv (h:=bG (fun i e H=>∃ c:Nat,(e 4=.adr t.c∧e 5=.adr p.c∧e 6=.adr g.c∧e 7=.adr m.c∧e 8=.ptr 0 1 0 0∧e 11=.ptr c 1 0 0∧e 12=dI i)∧(H.get 0=some ⟨37,2,[[.nil,.nil]],false⟩)∧(0<H.next)∧(H.get c=some ⟨37,2,[[.own a p.nodes.length,.own b p.edges.length]],false⟩)∧(c<H.next)∧(H.get a=some ⟨3,1,(Fz g m.nodes p.nodes i).map cI,false⟩)∧(a<H.next)∧(H.get b=some ⟨101,3,p.edges.map Edge.c,false⟩)∧(b<H.next)∧(i≤p.nodes.length)∧(a<c∧b<c)∧((Fz g m.nodes p.nodes i).length=p.nodes.length)) (fun i=>p.nodes.length - i) 0 ⟨H1.next,wg,wn,wn,wn,wn,(by (simp [go_sem,Y,Fz])),wn,wn,wn,wi,(by omega),(by (exact xB _ _ _ _))⟩ fun I0 hI0 i e H hi0=>?_)
  obtain ⟨c,E0,g0_0,n0_0,gc_0,nc_0,ga_0,na_0,gb_0,nb_0,hi,hc,hrl⟩:=hi0
  have di3:=And.intro (c5 (show 0≠c by omega)) (And.intro (c5 (show 0≠b by omega)) (And.intro (c5 (show 0≠a by omega)) (And.intro (c5 (show c≠b by omega)) (And.intro (c5 (show c≠a by omega)) (c5 (show b≠a by omega))))))
  have Y:=wa Y (wa E0 (wa g0_0 (wa (cG n0_0) (wa gc_0 (wa (cG nc_0) (wa ga_0 (wa (cG na_0) (wa gb_0 (wa (cG nb_0) (wa hrl di3))))))))))
  refine pH (fun h6=>?_) fun h6=>?_
  ·have him:i<m.nodes.length:=by omega
   have hmi:=hmn _ (aB him)
   have hkg:m.nodes[i].toNat<g.nodes.length:=by omega
   have hgx:gN g (m.nodes[i]?.getD 0)=g.nodes[m.nodes[i].toNat]:=by rw [aA him,aD];simp [gN,aA hkg]
   have hgy:gN g m.nodes[i]=g.nodes[m.nodes[i].toNat]:=by simp [gN,aA hkg]
   have Y:=wa Y (wa h6 (wa (aA him) (aA hkg)))
   exact wp (h:=wx hI0 (i+1) ⟨c,wg,wn,wn,wn,wn,(by (simp [go_sem,Y,IC,cK,hgx,hgy,cI])),wn,wn,wn,wj,(by omega),(by (exact xB _ _ _ _))⟩)
  ·have hIe:i=p.nodes.length:=by omega
   have hE:=Sb (g:=g) hl1
   rw [hIe] at hrl
   exact wv (h:=hQ _ _ (by simp [go_sem,Y,hI,vL,Graph.d,Graph.c,hIe,hE,dLI,hl1,h2]))
end Go.Abs
end
section
namespace Go.Abs
theorem RepV.both {M : Nat → Prop} {σ : Nat → Option Ow} {N : Nat → Prop} {w : World} {M' : Nat → Prop} {σ' : Nat → Option Ow} {N' : Nat → Prop} {w' : World} {v : Value} {d : D} (h : RepV M σ N w v d) :
    ∀ v', RepV M' σ' N' w' v' d → RepV M σ (fun i => N i ∧ N' i) w v d := by
  induction h with
  | int => exact fun _ _ => .int _ _
  | bool => exact fun _ _ => .bool _
  | str => exact fun _ _ => .str _
  | agg vs ds hl h1 hr ih =>
    intro v' h'
    cases h' with
    | agg vs' _ hl' h1' hr' =>
      exact .agg vs ds hl h1 fun j u x hu hx => by
        have hj : j < vs'.length := by rw [hl']; exact (aO.1 hx).1
        exact ih j u x hu hx vs'[j] (hr' j _ x (aA hj) hx)
  | tup vs ds hl hr ih =>
    intro v' h'
    cases h' with
    | tup vs' _ hl' hr' =>
      exact .tup vs ds hl fun j u x hu hx => by
        have hj : j < vs'.length := by rw [hl']; exact (aO.1 hx).1
        exact ih j u x hu hx vs'[j] (hr' j _ x (aA hj) hx)
  | nil => exact fun _ _ => .nil
  | listN => exact fun _ _ => .listN
  | list ad cap sz xs es hc hm hsz hl h1 hcell hr ih =>
    intro v' h'
    cases h' with
    | listN => exact .list ad cap sz xs [] hc hm hsz hl h1 hcell fun j u x hu hx => by simp at hx
    | list ad' cap' sz' xs' _ hc' hm' hsz' hl' h1' hcell' hr' =>
      exact .list ad cap sz xs es hc hm hsz hl h1 hcell fun j u x hu hx => by
        have hj : j < xs'.length := by rw [hl']; exact (aO.1 hx).1
        exact ih j u x hu hx xs'[j] (hr' j _ x (aA hj) hx)
  | adr ad xs ds hl h1 hcell hr ih =>
    intro v' h'
    cases h' with
    | adr ad' xs' _ hl' h1' hcell' hr' =>
      exact .adr ad xs ds hl h1 hcell fun j u x hu hx => by
        have hj : j < xs'.length := by rw [hl']; exact (aO.1 hx).1
        exact ih j u x hu hx xs'[j] (hr' j _ x (aA hj) hx)
  | ne ad cap hm => exact fun _ _ => .ne ad cap hm
  | nilp => exact fun _ _ => .nilp
  | ptr v id ver i off hN h1 h =>
    intro v' h'
    cases h' with
    | ptr _ _ _ _ _ hN' _ _ => exact .ptr v id ver i off ⟨hN, hN'⟩ h1 h
  | own v id n hN h1 h =>
    intro v' h'
    cases h' with
    | own _ _ _ hN' _ _ => exact .own v id n ⟨hN, hN'⟩ h1 h
  | win v id ver lo hi hN h1 hlh h =>
    intro v' h'
    cases h' with
    | win _ _ _ _ _ hN' _ _ _ => exact .win v id ver lo hi ⟨hN, hN'⟩ h1 hlh h
  | fn f vs ds hl hr ih =>
    intro v' h'
    cases h' with
    | fn _ vs' _ hl' hr' =>
      exact .fn f vs ds hl fun j u x hu hx => by
        have hj : j < vs'.length := by rw [hl']; exact (aO.1 hx).1
        exact ih j u x hu hx vs'[j] (hr' j _ x (aA hj) hx)
  | nilf => exact fun _ _ => .nilf
  | opt v g d hf h ih =>
    intro v' h'
    cases h' with
    | opt _ _ _ hf' h'' => exact .opt v g d hf fun hg => ih hg v' (h'' hg)
  | cst v => exact fun _ _ => .cst v
  | junk v => exact fun _ _ => .junk v
def zX (τ:Nat→Nat):D→D
 | .own id n=>.own (τ id) n
 | d=>d
def VJ (A:Nat→Prop):D→Prop
 | .own id _=>A id
 | d=>d.cl=true
def RE (τ:Nat→Nat):D→D
 | .agg cs=>.agg (cs.map (zX τ))
 | d=>zX τ d
def XC (A:Nat→Prop):D→Prop
 | .agg cs=>∀ c∈cs,VJ A c
 | d=>VJ A d
theorem RepV.unren {M M':Nat→Prop}{σ1 σE:Nat→Option Ow}{N1 A:Nat→Prop}{w:World}{τ:Nat→Nat}{v:Value}{d:D}(h:RepV M σ1 N1 w v (zX τ d))(ho:VJ A d)(hs:∀ j,A j→σE j=σ1 (τ j))(hM:∀ b,¬ M b→¬ M' b):RepV M' σE A w v d:=by
 by_cases hd:∃ id n,d=.own id n
 ·obtain ⟨id,n,rfl⟩:=hd
  cases h with
  | own _ _ _ hN h1 h=>exact .own v id n ho h1 fun o he=>h o (by rw [← hs id ho];exact he)
 ·have e:zX τ d=d:=by cases d<;>first|rfl|exact absurd ⟨_,_,rfl⟩ hd
  have hc:d.cl=true:=by cases d<;>first|exact ho|exact absurd ⟨_,_,rfl⟩ hd
  rw [e] at h
  exact h.closed (fun ad u hm hu=>⟨hM _ hm,hu⟩) hc
theorem RepV.unrenC {M M' : Nat → Prop} {σ1 σE : Nat → Option Ow} {N1 A : Nat → Prop} {w : World} {τ : Nat → Nat} {v : Value} {d : D} (h : RepV M σ1 N1 w v (RE τ d)) (ho : XC A d) (hs : ∀ j, A j → σE j = σ1 (τ j)) (hM : ∀ b, ¬ M b → ¬ M' b) : RepV M' σE A w v d := by
  by_cases hd : ∃ cs, d = .agg cs
  · obtain ⟨cs, rfl⟩ := hd
    cases h with
    | agg vs _ hl h1 hr =>
      exact .agg vs cs (by simpa using hl) h1 fun j u x hu hx => (hr j u (zX τ x) hu (by rw [aR, hx]; rfl)).unren (ho x (aK hx)) hs hM
  · have e : RE τ d = zX τ d := by cases d <;> first | rfl | exact absurd ⟨_, rfl⟩ hd
    have e2 : XC A d = VJ A d := by cases d <;> first | rfl | exact absurd ⟨_, rfl⟩ hd
    rw [e] at h; rw [e2] at ho
    exact h.unren ho hs hM
structure Exact (H H1 E:AHeap) (τ:Nat→Nat):Prop where
 nx:∀ j,E.al j→j<E.next
 inj:∀ i j,E.al i→E.al j→τ i=τ j→i=j
 old:∀ j,H.al j→E.al j∧τ j=j
 non:∀ j,¬ E.al j→E.get j=none
 blk:∀ j k,E.get j=some k→(H.al j∧H.get j=some k∧H1.get j=some k) ∨
  (∃ k0,H1.get (τ j)=some k0∧k0.ty=k.ty∧k0.sz=k.sz∧k0.fz=k.fz∧k0.es=k.es.map (·.map (zX τ))∧∀ c∈k.es,∀ y∈c,VJ E.al y)
theorem ACalls.exact {P:Program}{f:FuncId}{args:List D}{H E:AHeap}{r:D}{Q:D→AHeap→Prop}(h:ACalls P f args H Q)
  (hQ:(∀ j,H.al j→j<H.next)→(∀ j,¬ H.al j→H.get j=none)→∀ d H1,Q d H1→∃ τ,Exact H H1 E τ∧d=RE τ r∧XC E.al r):ACalls P f args H fun d H1=>d=r∧H1=E :=
 ⟨h.1,fun M0 σ w vals hR ha=>(h.2 M0 σ w vals hR ha).mono fun e w' ⟨v,d,H1,σ1,he,hR1,hv,hst,hk,hq⟩=>by
  obtain ⟨τ,X,rfl,hok⟩:=hQ hR.nxt (fun j hj=>(hR.top j hj).2) d H1 hq
  classical
  obtain ⟨σE,hσ⟩:∃ σE:Nat→Option Ow,∀ j,σE j=if E.al j then σ1 (τ j) else none:=⟨fun j=>if E.al j then σ1 (τ j) else none,fun _=>rfl⟩
  have hs:∀ j,E.al j→σE j=σ1 (τ j):=fun j hj=>by rw [hσ,if_pos hj]
  have hsn:∀ j,¬ E.al j→σE j=none:=fun j hj=>by rw [hσ,if_neg hj]
  have hal:∀ j o,σE j=some o→E.al j:=fun j o ho=>bP fun hn=>by rw [hsn j hn] at ho;cases ho
  have halg:∀ j k,E.get j=some k→E.al j:=fun j k ho=>bP fun hn=>by rw [X.non j hn] at ho;cases ho
  have hmut:∀ b,¬ c7 M0 H1 σ1 b→¬ c7 M0 E σE b:=by
   rintro b hm (h0|⟨j,k,o,hk',hf,ho,hb⟩)
   ·exact hm (.inl h0)
   ·rw [hs j (halg j k hk')] at ho
    rcases X.blk j k hk' with ⟨h1,h2,h3⟩|⟨k0,h1,h2,h3,h4,_⟩
    ·rw [(X.old j h1).2] at ho
     exact hm (.inr ⟨j,k,o,h3,hf,ho,hb⟩)
    ·exact hm (.inr ⟨τ j,k0,o,h1,h4.trans hf,ho,hb⟩)
  have hkE:Keeps (c7 M0 H σ) σ H.al w (c7 M0 E σE) σE E.al w':=by
   refine ⟨fun ad u hm hu=>?_,fun id o' hid ho'=>?_,fun id hid=>(X.old id hid).1⟩
   ·obtain ⟨a1,a2⟩:=hk.cell ad u hm hu;exact ⟨hmut _ a1,a2⟩
   ·rw [hs id (X.old id hid).1,(X.old id hid).2] at ho';exact hk.own id o' hid ho'
  have hkS:Keeps (c7 M0 H1 σ1) σ1 (fun i=>H1.al i∧H.al i) w' (c7 M0 E σE) σE E.al w':=by
   refine ⟨fun ad u hm hu=>⟨hmut _ hm,hu⟩,fun id o' hid ho'=>?_,fun id hid=>(X.old id hid.2).1⟩
   rw [hs id (X.old id hid.2).1,(X.old id hid.2).2] at ho';exact ⟨o',ho',.inl rfl⟩
  have hRE:Rel M0 E σE w':=by
   refine ⟨fun j hj=>⟨hsn j hj,X.non j hj⟩,X.nx,fun j k hk'=>?_,fun i j o o' b hi hj hb hb'=>?_,fun i o b hi hb=>?_,hR1.m0⟩
   ·have hj:=halg j k hk'
    rcases X.blk j k hk' with ⟨h1,h2,h3⟩|⟨k0,h1,h2,h3,h4,h5,h6⟩
    ·obtain ⟨o,ho,l⟩:=hR1.lies j k h3
     obtain ⟨o0,ho0,l0⟩:=hR.lies j k h2
     obtain ⟨xs,a1,a2,a3⟩:=l.row
     obtain ⟨ys,b1,b2,b3⟩:=l0.row
     refine ⟨o,by rw [hs j hj,(X.old j h1).2];exact ho,l.ver,l.ty,l.sz,l.esz,xs,a1,a2,a3.len,fun q u d hu hd=>?_⟩
     have hq':q<ys.length:=by rw [b3.len];exact (aO.1 hd).1
     exact ((a3.rep q u d hu hd).both _ (b3.rep q ys[q] d (aA hq') hd)).keep hkS
    ·obtain ⟨o,ho,l⟩:=hR1.lies (τ j) k0 h1
     obtain ⟨xs,a1,a2,a3⟩:=l.row
     have hlen:k0.es.length=k.es.length:=by rw [h5,bE]
     have hfl:k0.es.flatten=k.es.flatten.map (zX τ):=by rw [h5];exact List.map_flatten.symm
     refine ⟨o,by rw [hs j hj];exact ho,by rw [l.ver,hlen],by rw [l.ty,h2],by rw [l.sz,h3],fun c hc=>?_,xs,by rw [← h2,← hlen];exact a1,a2,by rw [a3.len,hfl,bE],fun q u d hu hd=>?_⟩
     ·have:=l.esz (c.map (zX τ)) (by rw [h5];exact mE hc)
      rwa [bE] at this
     ·have hd2:k0.es.flatten[q]?=some (zX τ d):=by rw [hfl,aR,hd];rfl
      obtain ⟨c,hc,hdc⟩:=kG.1 (aK hd)
      exact (a3.rep q u _ hu hd2).unren (h6 c hc d hdc) hs hmut
   ·have hi':=hal i o hi
    have hj':=hal j o' hj
    rw [hs i hi'] at hi;rw [hs j hj'] at hj
    exact X.inj i j hi' hj' (hR1.inj _ _ o o' b hi hj hb hb')
   ·rw [hs i (hal i o hi)] at hi
    exact hR1.lt (τ i) o b hi hb
  refine ⟨v,r,E,σE,he,hRE,hv.unrenC hok hs hmut,⟨hst.os,hst.tape,hst.output,hst.size,hst.old,fun i o' b ho hb=>?_⟩,hkE,rfl,rfl⟩
  rw [hs i (hal i o' ho)] at ho
  exact hst.new (τ i) o' b ho hb⟩
end Go.Abs
end
