/- Layer 24, the reference: rules. · The abstraction layer: aft -/
import Derived.Test.YthalajhajpjjeaaGreatZgAF
import Derived.Test.YthalajhajpjjeaaGreatZgAA
import Derived.Test.YthalajhajpjjeaaGreatZgAM
import Derived.Test.YthalajhajpjjeaaGreatZgAK
set_option linter.unusedVariables false
set_option linter.unusedSimpArgs false
section
set_option maxRecDepth 100000
set_option maxHeartbeats 4000000
open Go Go.Proofs
namespace Go.Abs
theorem Ci {l:List Int}{v:Int}(e:l.Pairwise (· < ·))(f:mem l v=true):idx l v=uG l v:=by
 obtain ⟨i,d,g⟩:=aO ((mem_iff l v).1 f)
 have a:=dH.1 e
 rw [sK (i:=i) (λj c h=>by
   have b:j<l.length:=aD
   rw [aA b] at h
   have:=a j i b d c
   simp at h;omega) (by rw [aA d,g])]
 rw [PK (n:=i) (λj c h=>by have:=a j i c d h;omega) aD (λ_=>by omega)]
theorem pV {α:Type}{f:α->Int}:∀ {l:List α},gK f l=0->∀ x∈l,f x=0
 | [],_,x,hx=>by cases hx
 | a :: l,h,x,hx=>by
  unfold gK at h
  split at h
  .rename_i h1;exact absurd h h1
  .rename_i h1
   rcases aU.1 hx with h2|h2
   .subst h2;omega
   .exact pV h x h2
theorem CX {g:Graph}{p:Part}(h:subF g p=0):∀ k∈p.edges,mem p.nodes (g.edges[k.toNat]?.getD cF).from_=true/\mem p.nodes (g.edges[k.toNat]?.getD cF).to_=true:=by
 unfold subF rC at h
 split at h
 .rename_i h1;exact absurd h h1
 .split at h
  .rename_i h2;exact absurd h h2
  .split at h
   .rename_i h3;exact absurd h h3
   .intro k hk
    have:=pV h k hk
    unfold zF at this
    split at this
    .rename_i h4;simpa using h4
    .cases this
theorem AF (g:Graph)(p:Part)(hl:p.nodes.length<=1000000)(hle:p.edges.length<=1000000):Pure Tryz.prog 167 [g.d,p.d] (.tup [(cY g p).d,(AI g p).d,dI (subF g p)]):=by
 refine Tz.pK ⟨λt=>t==4||t==5||t==8||t==11||t==76||t==80,λr=>match r with|8=>[(0,11),(1,11)]|12=>[(0,9),(1,9),(2,9),(3,9),(5,9),(6,9),(7,9),(8,9)]|13=>[(0,15),(1,15)]|14=>[(0,1),(1,2),(1,3),(0,4),(0,5),(1,5),(2,5),(3,5),(4,5),(1,6),(4,6),(5,6),(1,7),(4,7),(5,7),(0,8)]|_=>[]⟩ Tryz.func167 rfl (λQ hQ=>?_)
 try simp [go_sem,seval]
 refine aB (yN g p) ((by first|rfl|(simp [go_sem,<- List.map_take,<- List.map_drop];done))) ?_
 try simp [go_sem,seval]
 refine aP (λh2=>?_) (λh2=>?_)
 .try simp [go_sem] at h2
  try simp [go_sem,seval]
  exact hQ _ _ (by first|(left;(simp [go_sem,cY,AI,h2]);done)|(right;(simp [go_sem,cY,AI,h2]);done))
 .try simp [go_sem] at h2
  obtain ⟨hg,hs,hin,hie⟩:=zQ h2
  have hends:=CX h2
  try simp [go_sem,seval]
  obtain ⟨I0,hI0⟩:∃ I0:Nat->dJ->AHeap->Prop,∀ (i:Nat) (e:dJ) (H:AHeap),I0 i e H↔(∃ xs:List Int,(e 2=.adr g.c)/\(e 3=.adr p.c)/\(e 4=.ptr 0 1 0 0)/\(e 5=.ptr 1 1 0 0)/\(e 8=.ptr 2 1 0 0)/\(e 9=dI i)/\(H.get 0=some ⟨29,2,[[.nil,.nil]],false⟩)/\(0<H.next)/\(H.get 1=some ⟨36,2,[[.nil,.nil]],false⟩)/\(1<H.next)/\(H.get 2=some ⟨29,2,[[.own 3 xs.length,.nil]],false⟩)/\(2<H.next)/\(H.get 3=some ⟨3,1,xs.map cI,false⟩)/\(3<H.next)/\(i<=p.nodes.length)/\(xs=(p.nodes.take i).map (gN g))):=⟨λi e H=>_,λ_ _ _=>Iff.rfl⟩
  refine Ky (Ghosts.step (Ghosts.refl _) 2 0 0 3 1 _ _ (rfl) rfl rfl rfl) I0 (λi=>p.nodes.length - i) (0) ((hI0 _ _ _).2 ⟨([]),?_,?_,?_,?_,?_,?_,?_,?_,?_,?_,?_,?_,?_,?_,(by first|assumption|omega|(simp [go_sem];done)|(simp_all;done)),(by rfl)⟩) ?_
  iterate 14 (first|omega|(simp [go_sem,seval]<;>omega))
  intro i e H hi0
  obtain ⟨xs,q2_0,q3_0,q4_0,q5_0,q8_0,q9_0,g0_0,n0_0,g1_0,n1_0,g2_0,n2_0,g3_0,n3_0,hi,hx⟩:=(hI0 _ _ _).1 hi0
  have x0:=b8 n0_0
  have x1:=b8 n1_0
  have x2:=b8 n2_0
  have x3:=b8 n3_0
  have F0:=And.intro q2_0 (And.intro q3_0 (And.intro q4_0 (And.intro q5_0 (And.intro q8_0 (And.intro q9_0 (And.intro g0_0 (And.intro g1_0 (And.intro g2_0 (And.intro g3_0 (And.intro x0 (And.intro x1 (And.intro x2 x3))))))))))))
  try simp [go_sem,seval,F0]
  repeat first|intro _|refine ⟨eL,?_⟩
  refine aP (λh6=>?_) (λh6=>?_)
  .try simp [go_sem] at h6
   have hin':=hin _ (aC h6)
   have hk:p.nodes[i].toNat<g.nodes.length:=aD
   have hxl:xs.length=i:=by rw [hx];simp;omega
   try simp [go_sem,seval,F0,h6,aA hk,gN]
   repeat first|intro _|refine ⟨eL,?_⟩
   refine d7 (i+1) aD ((hI0 _ _ _).2 ⟨(xs++[gN g p.nodes[i]]),?_,?_,?_,?_,?_,?_,?_,?_,?_,?_,?_,?_,?_,?_,(by first|assumption|omega|(simp [go_sem,F0,h6,aA hk,gN,h2];done)|(simp_all<;>omega)),(by rw [kW _ h6,<- hx])⟩)<;>first|omega|(simp [go_sem,seval,F0,h6,aA hk,gN]<;>omega)
  .try simp [go_sem] at h6
   have hX:xs=p.nodes.map (gN g):=by rw [hx,lW _ aD]
   try simp [go_sem,seval,F0]
   obtain ⟨I2,hI2⟩:∃ I2:Nat->dJ->AHeap->Prop,∀ (k:Nat) (e:dJ) (H:AHeap),I2 k e H↔(∃ j:Nat,∃ ys:List Edge,(e 2=.adr g.c)/\(e 3=.adr p.c)/\(e 4=.ptr 0 1 0 0)/\(e 5=.ptr 1 1 0 0)/\(e 8=.ptr 2 1 0 0)/\(e 10=dI k)/\(H.get 0=some ⟨29,2,[[.nil,.nil]],false⟩)/\(0<H.next)/\(H.get 1=some ⟨36,2,[[.nil,.nil]],false⟩)/\(1<H.next)/\(H.get 2=some ⟨29,2,[[.own 3 xs.length,.own j ys.length]],false⟩)/\(2<H.next)/\(H.get 3=some ⟨3,1,xs.map cI,false⟩)/\(3<H.next)/\(H.get j=some ⟨122,3,ys.map Edge.c,false⟩)/\(j<H.next)/\(k<=p.edges.length)/\(ys=(p.edges.take k).map (gEd g p))/\(j≠0)/\(j≠1)/\(j≠2)/\(j≠3)):=⟨λk e H=>_,λ_ _ _=>Iff.rfl⟩
   refine Ky (Ghosts.step (Ghosts.refl _) 2 0 1 122 3 _ _ (g2_0) rfl rfl rfl) I2 (λk=>p.edges.length - k) (0) ((hI2 _ _ _).2 ⟨(H.next),([]),?_,?_,?_,?_,?_,?_,?_,?_,?_,?_,?_,?_,?_,?_,?_,?_,(by first|assumption|omega|(simp [go_sem,F0];done)|(simp_all;done)),(by rfl),aD,aD,aD,aD⟩) ?_
   iterate 16 (first|omega|(simp [go_sem,seval,F0]<;>omega))
   intro k e H hi2
   obtain ⟨j,ys,q2_2,q3_2,q4_2,q5_2,q8_2,q10_2,g0_2,n0_2,g1_2,n1_2,g2_2,n2_2,g3_2,n3_2,gj_2,nj_2,hk,hy,j0,j1,j2,j3⟩:=(hI2 _ _ _).1 hi2
   have x0:=b8 n0_2
   have x1:=b8 n1_2
   have x2:=b8 n2_2
   have x3:=b8 n3_2
   have xj:=b8 nj_2
   have F2:=And.intro q2_2 (And.intro q3_2 (And.intro q4_2 (And.intro q5_2 (And.intro q8_2 (And.intro q10_2 (And.intro g0_2 (And.intro g1_2 (And.intro g2_2 (And.intro g3_2 (And.intro gj_2 (And.intro x0 (And.intro x1 (And.intro x2 (And.intro x3 xj))))))))))))))
   try simp [go_sem,seval,F2,j0,j1,j2,j3,j0.symm,j1.symm,j2.symm,j3.symm]
   repeat first|intro _|refine ⟨eL,?_⟩
   refine aP (λh10=>?_) (λh10=>?_)
   .try simp [go_sem] at h10
    have hie':=hie _ (aC h10)
    have hke:p.edges[k].toNat<g.edges.length:=aD
    have hyl:ys.length=k:=by rw [hy];simp;omega
    have hen:=hends _ (aC h10)
    rw [aA hke,Option.getD_some] at hen
    have hi1:=Ci hs hen.1
    have hi2:=Ci hs hen.2
    try simp [go_sem,seval,F2,j0,j1,j2,j3,j0.symm,j1.symm,j2.symm,j3.symm,h10,aA hke,gEd,hi1,hi2]
    repeat first|intro _|refine ⟨eL,?_⟩
    refine aI (DT p.nodes _) ((by first|rfl|(simp [go_sem,<- List.map_take,<- List.map_drop,F2,j0,j1,j2,j3,j0.symm,j1.symm,j2.symm,j3.symm,h10,aA hke,gEd,hi1,hi2];done))) ?_
    try simp [go_sem,seval,F2,j0,j1,j2,j3,j0.symm,j1.symm,j2.symm,j3.symm,h10,aA hke,gEd,hi1,hi2]
    repeat first|intro _|refine ⟨eL,?_⟩
    refine aI (DT p.nodes _) ((by first|rfl|(simp [go_sem,<- List.map_take,<- List.map_drop,F2,j0,j1,j2,j3,j0.symm,j1.symm,j2.symm,j3.symm,h10,aA hke,gEd,hi1,hi2];done))) ?_
    try simp [go_sem,seval,F2,j0,j1,j2,j3,j0.symm,j1.symm,j2.symm,j3.symm,h10,aA hke,gEd,hi1,hi2]
    repeat first|intro _|refine ⟨eL,?_⟩
    refine d7 (k+1) aD ((hI2 _ _ _).2 ⟨(j),(ys++[gEd g p p.edges[k]]),?_,?_,?_,?_,?_,?_,?_,?_,?_,?_,?_,?_,?_,?_,?_,?_,(by first|assumption|omega|(simp [go_sem,F2,j0,j1,j2,j3,j0.symm,j1.symm,j2.symm,j3.symm,h10,aA hke,gEd,hi1,hi2,h2,h6];done)|(simp_all<;>omega)),(by rw [kW _ h10,<- hy]),(by first|assumption|omega|(simp [go_sem,F2,j0,j1,j2,j3,j0.symm,j1.symm,j2.symm,j3.symm,h10,aA hke,gEd,hi1,hi2,h2,h6];done)|(simp_all<;>omega)),(by first|assumption|omega|(simp [go_sem,F2,j0,j1,j2,j3,j0.symm,j1.symm,j2.symm,j3.symm,h10,aA hke,gEd,hi1,hi2,h2,h6];done)|(simp_all<;>omega)),(by first|assumption|omega|(simp [go_sem,F2,j0,j1,j2,j3,j0.symm,j1.symm,j2.symm,j3.symm,h10,aA hke,gEd,hi1,hi2,h2,h6];done)|(simp_all<;>omega)),(by first|assumption|omega|(simp [go_sem,F2,j0,j1,j2,j3,j0.symm,j1.symm,j2.symm,j3.symm,h10,aA hke,gEd,hi1,hi2,h2,h6];done)|(simp_all<;>omega))⟩)<;>first|omega|(simp [go_sem,seval,F2,j0,j1,j2,j3,j0.symm,j1.symm,j2.symm,j3.symm,h10,aA hke,gEd,hi1,hi2]<;>omega)
   .try simp [go_sem] at h10
    have hY:ys=p.edges.map (gEd g p):=by rw [hy,lW _ aD]
    try simp [go_sem,seval,F2,j0,j1,j2,j3,j0.symm,j1.symm,j2.symm,j3.symm]
    repeat first|intro _|refine ⟨eL,?_⟩
    exact hQ _ _ (by first|(left;(simp [go_sem,F2,j0,j1,j2,j3,j0.symm,j1.symm,j2.symm,j3.symm,cY,AI,h2,hX,hY]);done)|(right;(simp [go_sem,F2,j0,j1,j2,j3,j0.symm,j1.symm,j2.symm,j3.symm,cY,AI,h2,hX,hY]);done))
theorem On (t:Types)(ht:t.ok)(p:Pattern)(hr:p.graph.nodes.length<=1000)(hs1:p.slots.length<=1000)(i:Nat)(hi:i<p.slots.length):Pure Tryz.prog 292 [t.d,p.d,dI i] (dI (v7 t p i)):=by
 have hS:=CZ (t:=t) hi
 have h8:=qA ht (p.kind p.slots[i].node)
 refine Tz.pK ⟨λt=>t==7,λ_=>[]⟩ Tryz.func292 rfl (λQ hQ=>?_)
 have Y:=wa (aA hi) hi
 refine fA (λh2=>?_) λh2=>?_
 .have hE:gJ t p p.slots[i]≠0:=by
   unfold gJ;rw [if_neg];decide;intro h;simp [lV] at h;omega
  rw [if_pos hE] at hS
  exact wv (h:=hQ _ _ (by simp [go_sem,hS]))
 .have hn:p.slots[i].node.toNat<p.graph.nodes.length:=aD
  have hk:p.kind p.slots[i].node=p.graph.nodes[p.slots[i].node.toNat]:=by simp [Pattern.kind,hn]
  rw [hk] at h8
  have Y:=wa Y (wa (aA hn) hk)
  refine wo (h:=aI (oA t ht p.graph.nodes[p.slots[i].node.toNat]) wl ?_)
  refine fA (λh5=>?_) λh5=>?_
  .have hE:gJ t p p.slots[i]≠0:=by
    unfold gJ;rw [if_neg];decide;intro h;simp [lV,inF,hk] at h;omega
   rw [if_pos hE] at hS
   exact wv (h:=hQ _ _ (by simp [go_sem,hS]))
  .have hE:gJ t p p.slots[i]=0:=by
    unfold gJ;rw [if_pos];simp [lV,inF,hk];omega
   rw [if_neg aD] at hS
   refine wv (h:=bD (λk e H=>(e 4=.adr p.c/\e 2=dI i/\e 7=.ptr 0 1 0 0/\e 10=dI k)/\(H.get 0=some ⟨159,4,[p.slots[i].c],false⟩)/\(0<H.next)/\(k<=i)/\(((p.slots.take k).any (sameSlot p.slots[i]))=false)) (λk=>i - k) 0 ⟨wg,wn,wn,wi,(by rfl)⟩ λI0 hI0 k e H hi0=>?_)
   obtain ⟨E0,g0_0,n0_0,hk2,hne⟩:=hi0
   have Y:=wa Y (wa E0 (wa g0_0 (b8 n0_0)))
   refine dP (λh8=>?_) λh8=>?_
   .have hkl:k<p.slots.length:=aD
    have Y:=wa Y (wa h8 hkl)
    refine fA (λh10=>?_) λh10=>?_
    .refine wv (h:=?_)
     have hb:=uA (p:=sameSlot p.slots[i]) h8 hkl (by simp [sameSlot];omega)
     exact hQ _ _ (by rw [hS,if_pos hb];simp [go_sem])
    .exact wo (h:=wx hI0 (k+1) ⟨wg,wn,wn,wj,(by rw [dU _ _ _ hkl,hne];simp [sameSlot];omega)⟩)
   .have hb:=rQ hne (aD:k=i)
    exact wv (h:=hQ _ _ (by rw [hS,if_neg (by simp [hb])];simp [go_sem]))
theorem LX (t:Types)(ht:t.ok)(r:Rule):Pure Tryz.prog 212 [t.d,r.d] (dI (iV t r)):=by
 refine Tz.pK ⟨λ_=>false,λ_=>[]⟩ Tryz.func212 rfl (λQ hQ=>?_)
 have Y:=trivial
 refine wv (h:=aB (lP r.right.graph) wl ?_)
 refine dP (λh2=>?_) λh2=>?_
 .exact wv (h:=hQ _ _ (.inl (by simp [go_sem,iV,h2])))
 .have hg:=bS h2
  refine wo (h:=aB (tI t r.right.graph) wl ?_)
  refine fA (λh4=>?_) λh4=>?_
  .rw [vX h2] at h4
   exact wv (h:=hQ _ _ (.inl (by simp [go_sem,iV,h2,h4])))
  .rw [vX h2] at h4
   refine fA (λh6=>?_) λh6=>?_
   .have hR:iV t r=1:=by unfold iV;rw [if_neg aD,if_neg (by simp [h4]),if_pos aD]
    exact wv (h:=hQ _ _ (.inl (by simp [go_sem,hR])))
   .have h6':¬ (r.right.vars≠r.left.vars\/0<r.right.tests.length):=by
     rintro (h|h)
     .exact h h6.1
     .have:=h6.2;simp [this] at h
    refine fA (λh8=>?_) λh8=>?_
    .have hR:iV t r=3:=by unfold iV;rw [if_neg aD,if_neg (by simp [h4]),if_neg h6',if_pos aD]
     exact wv (h:=hQ _ _ (.inl (by simp [go_sem,hR])))
    .have hR:iV t r=bQ (v7 t r.right) 0 r.right.slots.length:=by unfold iV;rw [if_neg aD,if_neg (by simp [h4]),if_neg h6',if_neg aD]
     refine wv (h:=bD (λi e H=>(e 2=.adr t.c/\e 3=.adr r.c/\e 6=dI i)/\(i<=r.right.slots.length)/\(bQ (v7 t r.right) i (r.right.slots.length - i)=iV t r)) (λi=>r.right.slots.length - i) 0 ⟨wg,wi,(by exact hR.symm)⟩ λI0 hI0 i e H hi0=>?_)
     obtain ⟨E0,hi,hF⟩:=hi0
     have Y:=wa Y E0
     refine fA (λh11=>?_) λh11=>?_
     .have hst:=hF
      rw [eI _ h11] at hst
      have Y:=wa Y h11
      refine wv (h:=aB (On t ht r.right aD aD i h11) wl ?_)
      refine dP (λh14=>?_) λh14=>?_
      .rw [if_pos aD] at hst
       exact wv (h:=hQ _ _ (.inl (by simp [go_sem,hst])))
      .rw [if_neg aD] at hst
       exact wo (h:=wx hI0 (i+1) ⟨wg,wj,(by exact hst)⟩)
     .exact wv (h:=hQ _ _ (.inl (by rw [<- hF,(aD:r.right.slots.length - i=0)];rfl)))
theorem QJ (l:List Int)(v:Int):Pure Tryz.prog 198 [dLI l,dI v] (.bool (mem l v)):=by
 refine Tz.pK ⟨λ_=>false,λ_=>[]⟩ Tryz.func198 rfl (λQ hQ=>?_)
 have Y:=trivial
 refine wv (h:=bD (λi e H=>(e 0=dLI l/\e 1=dI v/\e 5=dI i)/\(i<=l.length)/\(∀ j,j<i->l[j]?≠some v)) (λi=>l.length - i) 0 ⟨wg,wi,(by intro j hj;omega)⟩ λI0 hI0 i e H hi0=>?_)
 obtain ⟨E0,hi,hne⟩:=hi0
 have Y:=wa Y E0
 refine wv (h:=?_)
 repeat first|intro _|refine ⟨eO,?_⟩
 refine wq (λh2=>?_) λh2=>?_
 .have Y:=wa Y h2
  refine wv (h:=?_)
  repeat first|intro _|refine ⟨eO,?_⟩
  refine wq (λh4=>?_) λh4=>?_
  .refine wv (h:=?_)
   have hm:mem l v=true:=(mem_iff l v).2 (h4 ▸ aC h2)
   exact hQ _ _ (by simp [go_sem,hm])
  .exact wo (h:=wx hI0 (i+1) ⟨wg,wj,(by exact iQ hne (by rw [aA h2];simpa using h4))⟩)
 .refine wv (h:=?_)
  have hm:mem l v=false:=by rw [bH];intro h;obtain ⟨j,hj,he⟩:=aO ((mem_iff l v).1 h);exact hne j aD (by rw [aA hj,he])
  exact hQ _ _ (by simp [go_sem,hm])
theorem FV (l:List Int)(n:Nat)(hn:n<=1000000):Pure Tryz.prog 113 [dI n,dLI l] (dLI (bJ l n)):=by
 refine Tz.pK ⟨λt=>t==5,λ_=>[]⟩ Tryz.func113 rfl (λQ hQ=>?_)
 have Y:=trivial
 refine wv (h:=bD (λi e H=>∃ xs:List Int,(e 1=dLI l/\e 0=dI n/\e 5=.own 0 xs.length/\e 6=dI i)/\(H.get 0=some ⟨3,1,xs.map cI,false⟩)/\(0<H.next)/\(i<=n)/\(xs.length<=i)/\(xs=((List.range i).filter λ(b:Nat)=>!mem l b).map (λ(b:Nat)=>(b:Int)))) (λi=>n - i) 0 ⟨([]),wg,wn,wn,wi,bW,(by rfl)⟩ λI0 hI0 i e H hi0=>?_)
 obtain ⟨xs,E0,g0_0,n0_0,hi,hl,hx⟩:=hi0
 have Y:=wa Y (wa E0 (wa g0_0 (b8 n0_0)))
 refine dP (λh3=>?_) λh3=>?_
 .have Y:=wa Y h3
  refine wo (h:=aB (QJ l i) wl ?_)
  refine fA (λh5=>?_) λh5=>?_
  .have Y:=wa Y h5
   exact wo (h:=wx hI0 (i+1) ⟨(xs++(if (!mem l i)=true then [(i:Int)] else [])),wg,wn,wn,wj,(by rw [aL];split<;>simp<;>omega),(by rw [dG,<- hx])⟩)
  .have Y:=wa Y h5
   exact wo (h:=wx hI0 (i+1) ⟨(xs++(if (!mem l i)=true then [(i:Int)] else [])),wg,wn,wn,wj,(by rw [aL];split<;>simp<;>omega),(by rw [dG,<- hx])⟩)
 .exact wv (h:=hQ _ _ (by simp [go_sem,Y,bJ];rw [hx,(aD:i=n)];simp))
theorem Kh (t:Types)(ht:t.ok)(g:Graph)(h0:graphF g=0)(hT:iB t g=true)(nodes edges:List Int)(hn:∀ i∈nodes,0<=i/\i<g.nodes.length)(he:∀ k∈edges,0<=k/\k<g.edges.length):Pure Tryz.prog 110 [t.d,g.d,dLI nodes,dLI edges] (.bool (yU t g nodes edges)):=by
 have hin:=n8 h0 hT
 refine Tz.pK ⟨λt=>t==11,λr=>match r with|9=>[(0,8),(1,8),(4,8),(5,8),(6,8),(7,8)]|_=>[]⟩ Tryz.func110 rfl (λQ hQ=>?_)
 have Y:=trivial
 refine wv (h:=bD (λi e H=>(e 4=.adr t.c/\e 5=.adr g.c/\e 2=dLI nodes/\e 3=dLI edges/\e 9=dI i)/\(i<=nodes.length)/\(((nodes.take i).any (absB t g))=false)) (λi=>nodes.length - i) 0 ⟨wg,wi,(by rfl)⟩ λI0 hI0 i e H hi0=>?_)
 obtain ⟨E0,hi,ha⟩:=hi0
 have Y:=wa Y E0
 refine wv (h:=?_)
 repeat first|intro _|refine ⟨eO,?_⟩
 refine wq (λh2=>?_) λh2=>?_
 .have hn':=hn _ (aC h2)
  have hk:nodes[i].toNat<g.nodes.length:=aD
  have hin':=hin.1 _ (aC hk)
  have hkt:g.nodes[nodes[i].toNat].toNat<t.nodes.length:=aD
  have hA:absB t g nodes[i]=t.nodes[g.nodes[nodes[i].toNat].toNat].abs:=by simp [absB,gN,aA hk,aA hkt]
  have Y:=wa Y (wa h2 (wa (aA hk) (aA hkt)))
  refine wv (h:=?_)
  repeat first|intro _|refine ⟨eO,?_⟩
  refine wq (λh4=>?_) λh4=>?_
  .refine wv (h:=?_)
   have hb:nodes.any (absB t g)=true:=aX.2 ⟨_,aC h2,by rw [hA,h4]⟩
   exact hQ _ _ (.inl (by simp only [go_sem,yU,hb,Hq,Eo]))
  .exact wo (h:=wx hI0 (i+1) ⟨wg,wj,(by rw [dU _ _ _ h2,ha,hA,h4];rfl)⟩)
 .have hN:=nX ha h2
  refine wv (h:=bD (λk e H=>(e 4=.adr t.c/\e 5=.adr g.c/\e 2=dLI nodes/\e 3=dLI edges/\e 10=dI k)/\(k<=edges.length)/\(((edges.take k).any (unfitB t g))=false)) (λk=>edges.length - k) 0 ⟨wg,wi,(by rfl)⟩ λI2 hI2 k e H hi2=>?_)
  obtain ⟨E2,hk,hb⟩:=hi2
  have Y:=wa Y E2
  refine wv (h:=?_)
  repeat first|intro _|refine ⟨eO,?_⟩
  refine wq (λh7=>?_) λh7=>?_
  .have he':=he _ (aC h7)
   have hke:edges[k].toNat<g.edges.length:=aD
   have hin':=hin.2 _ (aC hke)
   have hf:g.edges[edges[k].toNat].from_.toNat<g.nodes.length:=aD
   have hto:g.edges[edges[k].toNat].to_.toNat<g.nodes.length:=aD
   have hA:unfitB t g edges[k] = !oF t g.edges[edges[k].toNat].type g.nodes[g.edges[edges[k].toNat].from_.toNat] g.nodes[g.edges[edges[k].toNat].to_.toNat]:=by simp [unfitB,gN,aA hke,aA hf,aA hto]
   have Y:=wa Y (wa h7 (wa (aA hke) (wa (aA hf) (aA hto))))
   refine wo (h:=aI (F9 t ht _ _ _) wl ?_)
   refine wv (h:=?_)
   repeat first|intro _|refine ⟨eO,?_⟩
   refine wq (λh10=>?_) λh10=>?_
   .refine wv (h:=?_)
    have hb':edges.any (unfitB t g)=true:=aX.2 ⟨_,aC h7,by rw [hA,h10];rfl⟩
    exact hQ _ _ (.inl (by simp only [go_sem,yU,hb',Hq,Bool.and_false]))
   .exact wo (h:=wx hI2 (k+1) ⟨wg,wj,(by rw [dU _ _ _ h7,hb,hA,h10];rfl)⟩)
  .refine wv (h:=?_)
   have hE:=nX hb h7
   exact hQ _ _ (.inl (by simp only [go_sem,yU,hN,hE,Bool.not_false,Bool.and_true]))
theorem HN (r:Rule)(c:r.right.graph.nodes.length<=1000000)(b:r.right.graph.edges.length<=1000000):Pure Tryz.prog 112 [r.d] (.tup [dLI r.freshN,dLI r.freshE]):=by
 refine Tz.pK ⟨λ_=>false,λ_=>[]⟩ Tryz.func112 rfl (λQ a=>?_)
 have Y:=trivial
 refine wo (h:=aI (FV r.into.nodes _ c) wl ?_)
 refine wo (h:=aI (FV r.into.edges _ b) wl ?_)
 have Y:=wa Y (wa @Rule.freshN.eq_1 @Rule.freshE.eq_1)
 exact wo (h:=a _ _ wy)
def spanF (r:Rule):Int :=
 if subF r.left.graph r.keep≠0 then subF r.left.graph r.keep
 else eV (cY r.left.graph r.keep) r.right.graph r.into
theorem Om (r:Rule)(f:r.ok):Pure Tryz.prog 213 [r.d] (dI (spanF r)):=by
 obtain ⟨_,b,a,i,g,_,_⟩:=f
 refine Tz.pK ⟨λt=>t==4||t==5,λ_=>[]⟩ Tryz.func213 rfl (λQ e=>?_)
 have Y:=trivial
 refine wv (h:=aB (yN r.left.graph r.keep) wl ?_)
 refine dP (λc=>?_) λc=>?_
 .have Y:=wa Y (wa c @spanF.eq_1)
  exact wv (h:=e _ _ wy)
 .refine wv (h:=aB (AF r.left.graph r.keep b a) wl ?_)
  refine wv (h:=aB (tK (cY r.left.graph r.keep) r.right.graph r.into) wl ?_)
  have Y:=wa Y (wa c @spanF.eq_1)
  exact wv (h:=e _ _ wy)
theorem OO (r:Rule):keptF r=if spanF r≠0 then spanF r else if (decide r.into.nodes.Nodup&&decide r.into.edges.Nodup)=true then 0 else 11:=by
 unfold keptF spanF Gy
 by_cases h1:subF r.left.graph r.keep=0
 .by_cases h2:eV (cY r.left.graph r.keep) r.right.graph r.into=0
  .simp only [h1,h2,ne_eq,not_true,if_false,decide_true,gM]
   cases (decide r.into.nodes.Nodup&&decide r.into.edges.Nodup)<;>simp
  .simp [h1,h2]
 .simp [h1]
theorem LY (t:Types)(ht:t.ok)(r:Rule)(hr:r.ok):Pure Tryz.prog 123 [t.d,r.d] (dI (ruleF t r)):=by
 have hcv:=DS t ht r.left r.cond hr.cond hr.size
 rw [Cond.c_eq] at hcv
 have hK:=OO r
 refine Tz.pK ⟨λ_=>false,λ_=>[]⟩ Tryz.func123 rfl (λQ hQ=>?_)
 have Y:=trivial
 refine wv (h:=aB (n9 t ht) wl ?_)
 refine dP (λh2=>?_) λh2=>?_
 .exact wv (h:=hQ _ _ (by simp [go_sem,ruleF,h2]))
 .refine wo (h:=aB (oY r.name hr.name) wl ?_)
  refine fA (λh4=>?_) λh4=>?_
  .exact wv (h:=hQ _ _ (by simp [go_sem,ruleF,h2,h4]))
  .refine wv (h:=aB (tH t ht r.left) wl ?_)
   refine dP (λh7=>?_) λh7=>?_
   .exact wv (h:=hQ _ _ (by simp [go_sem,ruleF,h2,h4,h7]))
   .refine wv (h:=aB (LX t ht r) wl ?_)
    refine dP (λh10=>?_) λh10=>?_
    .exact wv (h:=hQ _ _ (by simp [go_sem,ruleF,h2,h4,h7,h10]))
    .have hg:=C3 h10
     have hgl:=bS hg.1
     refine wv (h:=aB (Om r hr) wl ?_)
     refine dP (λh13=>?_) λh13=>?_
     .exact wv (h:=hQ _ _ (by simp [go_sem,ruleF,h2,h4,h7,h10,hK,h13]))
     .refine wo (h:=aB (lG r.into.nodes) wl ?_)
      refine wo (h:=aH (λhg=>lG r.into.edges) (λhg=>wl) ?_)
      refine fA (λh15=>?_) λh15=>?_
      .have hK':keptF r=11:=by rw [hK,if_neg aD,if_neg (λh=>by rw [aQ,decide_eq_true_eq,decide_eq_true_eq] at h;rcases h15 with h'|h';exact h' h.1;exact h' h.2)]
       exact wv (h:=hQ _ _ (by simp [go_sem,ruleF,h2,h4,h7,h10,hK']))
      .have hK':keptF r=0:=by rw [hK,if_neg aD,if_pos (by rw [aQ,decide_eq_true_eq,decide_eq_true_eq];exact h15)]
       refine wv (h:=aB (HN r aD aD) wl ?_)
       refine wo (h:=aB (Kh t ht r.right.graph hg.1 hg.2 r.freshN r.freshE (λi hi=>lR hi) (λi hi=>lR hi)) wl ?_)
       refine fA (λh18=>?_) λh18=>?_
       .exact wv (h:=hQ _ _ (by simp [go_sem,ruleF,h2,h4,h7,h10,hK',h18]))
       .refine wv (h:=aB (hcv) wl ?_)
        exact wv (h:=hQ _ _ (by simp [go_sem,ruleF,h2,h4,h7,h10,hK',h18]))
end Go.Abs
end
section
namespace Go.Abs
theorem RepV.both {M:Nat->Prop}{σ:Nat->Option Ow}{N:Nat->Prop}{w:World}{p:Nat->Prop}{σ':Nat->Option Ow}{o:Nat->Prop}{w':World}{v:Value}{d:D}(h:RepV M σ N w v d) :
  ∀ v',RepV p σ' o w' v' d->RepV M σ (λi=>N i/\o i) w v d:=by
 induction h with
 | int=>exact λ_ _=>.int _ _
 | bool=>exact λ_ _=>.bool _
 | str=>exact λ_ _=>.str _
 | agg vs ds hl h1 hr ih =>
  intro v' b
  cases b with
  | agg vs' _ hl' h1' hr' =>
   exact .agg vs ds hl h1 λj u x e a=>by
    have k:j<vs'.length:=by rw [hl'];exact (aM.1 a).1
    exact ih j u x e a vs'[j] (hr' j _ x (aA k) a)
 | tup vs ds hl hr ih =>
  intro v' b
  cases b with
  | tup vs' _ hl' hr' =>
   exact .tup vs ds hl λj u x e a=>by
    have k:j<vs'.length:=by rw [hl'];exact (aM.1 a).1
    exact ih j u x e a vs'[j] (hr' j _ x (aA k) a)
 | nil=>exact λ_ _=>.nil
 | listN=>exact λ_ _=>.listN
 | list ad cap sz xs es hc hm hsz hl h1 hcell hr ih =>
  intro v' b
  cases b with
  | listN=>exact .list ad cap sz xs [] hc hm hsz hl h1 hcell λj u x e a=>by simp at a
  | list ad' cap' sz' xs' _ hc' hm' hsz' hl' h1' hcell' hr' =>
   exact .list ad cap sz xs es hc hm hsz hl h1 hcell λj u x e a=>by
    have k:j<xs'.length:=by rw [hl'];exact (aM.1 a).1
    exact ih j u x e a xs'[j] (hr' j _ x (aA k) a)
 | adr ad xs ds hl h1 hcell hr ih =>
  intro v' b
  cases b with
  | adr ad' xs' _ hl' h1' hcell' hr' =>
   exact .adr ad xs ds hl h1 hcell λj u x e a=>by
    have k:j<xs'.length:=by rw [hl'];exact (aM.1 a).1
    exact ih j u x e a xs'[j] (hr' j _ x (aA k) a)
 | ne ad cap hm=>exact λ_ _=>.ne ad cap hm
 | nilp=>exact λ_ _=>.nilp
 | ptr v id ver i off l h1 h =>
  intro v' b
  cases b with
  | ptr _ _ _ _ _ c _ _=>exact .ptr v id ver i off ⟨l,c⟩ h1 h
 | own v id n l h1 h =>
  intro v' b
  cases b with
  | own _ _ _ c _ _=>exact .own v id n ⟨l,c⟩ h1 h
 | win v id ver lo hi l h1 hlh h =>
  intro v' b
  cases b with
  | win _ _ _ _ _ c _ _ _=>exact .win v id ver lo hi ⟨l,c⟩ h1 hlh h
 | fn f vs ds hl hr ih =>
  intro v' b
  cases b with
  | fn _ vs' _ hl' hr' =>
   exact .fn f vs ds hl λj u x e a=>by
    have k:j<vs'.length:=by rw [hl'];exact (aM.1 a).1
    exact ih j u x e a vs'[j] (hr' j _ x (aA k) a)
 | nilf=>exact λ_ _=>.nilf
 | opt v g d hf h ih =>
  intro v' b
  cases b with
  | opt _ _ _ hf' h''=>exact .opt v g d hf λm=>ih m v' (h'' m)
 | cst v=>exact λ_ _=>.cst v
 | junk v=>exact λ_ _=>.junk v
def AY (τ:Nat->Nat):D->D
 | .own id n=>.own (τ id) n
 | d=>d
def Wo (A:Nat->Prop):D->Prop
 | .own id _=>A id
 | d=>d.cl=true
def R1 (τ:Nat->Nat):D->D
 | .agg cs=>.agg (cs.map (AY τ))
 | d=>AY τ d
def YV (A:Nat->Prop):D->Prop
 | .agg cs=>∀ c∈cs,Wo A c
 | d=>Wo A d
theorem RepV.unren {M g:Nat->Prop}{σ1 σE:Nat->Option Ow}{r A:Nat->Prop}{w:World}{τ:Nat->Nat}{v:Value}{d:D}(h:RepV M σ1 r w v (AY τ d))(c:Wo A d)(k:∀ j,A j->σE j=σ1 (τ j))(q:∀ b,¬ M b->¬ g b):RepV g σE A w v d:=by
 by_cases f:∃ a n,d=.own a n
 .obtain ⟨a,n,rfl⟩:=f
  cases h with
  | own _ _ _ hN h1 h=>exact .own v a n c h1 λo m=>h o (by rw [<- k a c];exact m)
 .have e:AY τ d=d:=by cases d<;>first|rfl|exact absurd ⟨_,_,rfl⟩ f
  have p:d.cl=true:=by cases d<;>first|exact c|exact absurd ⟨_,_,rfl⟩ f
  rw [e] at h
  exact h.closed (λs u l i=>⟨q _ l,i⟩) p
theorem RepV.unrenC {M l:Nat->Prop}{σ1 σE:Nat->Option Ow}{o A:Nat->Prop}{w:World}{τ:Nat->Nat}{v:Value}{d:D}(h:RepV M σ1 o w v (R1 τ d))(a:YV A d)(i:∀ j,A j->σE j=σ1 (τ j))(k:∀ b,¬ M b->¬ l b):RepV l σE A w v d:=by
 by_cases c:∃ f,d=.agg f
 .obtain ⟨f,rfl⟩:=c
  cases h with
  | agg vs _ hl h1 hr =>
   exact .agg vs f (bX hl) h1 λj u x m g=>(hr j u (AY τ x) m (by rw [aN,g];rfl)).unren (a x (aK g)) i k
 .have e:R1 τ d=AY τ d:=by cases d<;>first|rfl|exact absurd ⟨_,rfl⟩ c
  have n:YV A d=Wo A d:=by cases d<;>first|rfl|exact absurd ⟨_,rfl⟩ c
  rw [e] at h;rw [n] at a
  exact h.unren a i k
structure Exact (H H1 E:AHeap) (τ:Nat->Nat):Prop where
 nx:∀ j,E.al j->j<E.next
 inj:∀ i j,E.al i->E.al j->τ i=τ j->i=j
 old:∀ j,H.al j->E.al j/\τ j=j
 non:∀ j,¬ E.al j->E.get j=none
 blk:∀ j k,E.get j=some k->(H.al j/\H.get j=some k/\H1.get j=some k) \/
  (∃ k0,H1.get (τ j)=some k0/\k0.ty=k.ty/\k0.sz=k.sz/\k0.fz=k.fz/\k0.es=k.es.map (·.map (AY τ))/\∀ c∈k.es,∀ y∈c,Wo E.al y)
theorem ACalls.exact {P:Program}{f:FuncId}{args:List D}{H E:AHeap}{r:D}{Q:D->AHeap->Prop}(h:ACalls P f args H Q)
  (hQ:(∀ j,H.al j->j<H.next)->(∀ j,¬ H.al j->H.get j=none)->∀ d H1,Q d H1->∃ τ,Exact H H1 E τ/\d=R1 τ r/\YV E.al r):ACalls P f args H λd H1=>d=r/\H1=E :=
 ⟨h.1,λM0 σ w vals hR ha=>(h.2 M0 σ w vals hR ha).mono λe w' ⟨v,d,H1,σ1,he,hR1,hv,hst,hk,hq⟩=>by
  obtain ⟨τ,X,rfl,hok⟩:=hQ hR.nxt (λj hj=>(hR.top j hj).2) d H1 hq
  classical
  obtain ⟨σE,hσ⟩:∃ σE:Nat->Option Ow,∀ j,σE j=if E.al j then σ1 (τ j) else none:=⟨λj=>if E.al j then σ1 (τ j) else none,λ_=>rfl⟩
  have hs:∀ j,E.al j->σE j=σ1 (τ j):=λj hj=>by rw [hσ,if_pos hj]
  have hsn:∀ j,¬ E.al j->σE j=none:=λj hj=>by rw [hσ,if_neg hj]
  have hal:∀ j o,σE j=some o->E.al j:=λj o ho=>bA λhn=>by rw [hsn j hn] at ho;cases ho
  have halg:∀ j k,E.get j=some k->E.al j:=λj k ho=>bA λhn=>by rw [X.non j hn] at ho;cases ho
  have hmut:∀ b,¬ dA M0 H1 σ1 b->¬ dA M0 E σE b:=by
   rintro b hm (h0|⟨j,k,o,hk',hf,ho,hb⟩)
   .exact hm (.inl h0)
   .rw [hs j (halg j k hk')] at ho
    rcases X.blk j k hk' with ⟨h1,h2,h3⟩|⟨k0,h1,h2,h3,h4,_⟩
    .rw [(X.old j h1).2] at ho
     exact hm (.inr ⟨j,k,o,h3,hf,ho,hb⟩)
    .exact hm (.inr ⟨τ j,k0,o,h1,h4.trans hf,ho,hb⟩)
  have hkE:Keeps (dA M0 H σ) σ H.al w (dA M0 E σE) σE E.al w':=by
   refine ⟨λad u hm hu=>?_,λid o' hid ho'=>?_,λid hid=>(X.old id hid).1⟩
   .obtain ⟨a1,a2⟩:=hk.cell ad u hm hu;exact ⟨hmut _ a1,a2⟩
   .rw [hs id (X.old id hid).1,(X.old id hid).2] at ho';exact hk.own id o' hid ho'
  have hkS:Keeps (dA M0 H1 σ1) σ1 (λi=>H1.al i/\H.al i) w' (dA M0 E σE) σE E.al w':=by
   refine ⟨λad u hm hu=>⟨hmut _ hm,hu⟩,λid o' hid ho'=>?_,λid hid=>(X.old id hid.2).1⟩
   rw [hs id (X.old id hid.2).1,(X.old id hid.2).2] at ho';exact ⟨o',ho',.inl rfl⟩
  have hRE:Rel M0 E σE w':=by
   refine ⟨λj hj=>⟨hsn j hj,X.non j hj⟩,X.nx,λj k hk'=>?_,λi j o o' b hi hj hb hb'=>?_,λi o b hi hb=>?_,hR1.m0⟩
   .have hj:=halg j k hk'
    rcases X.blk j k hk' with ⟨h1,h2,h3⟩|⟨k0,h1,h2,h3,h4,h5,h6⟩
    .obtain ⟨o,ho,l⟩:=hR1.lies j k h3
     obtain ⟨o0,ho0,l0⟩:=hR.lies j k h2
     obtain ⟨xs,a1,a2,a3⟩:=l.row
     obtain ⟨ys,b1,b2,b3⟩:=l0.row
     refine ⟨o,by rw [hs j hj,(X.old j h1).2];exact ho,l.ver,l.ty,l.sz,l.esz,xs,a1,a2,a3.len,λq u d hu hd=>?_⟩
     have hq':q<ys.length:=by rw [b3.len];exact (aM.1 hd).1
     exact ((a3.rep q u d hu hd).both _ (b3.rep q ys[q] d (aA hq') hd)).keep hkS
    .obtain ⟨o,ho,l⟩:=hR1.lies (τ j) k0 h1
     obtain ⟨xs,a1,a2,a3⟩:=l.row
     have hlen:k0.es.length=k.es.length:=by rw [h5,aV]
     have hfl:k0.es.flatten=k.es.flatten.map (AY τ):=by rw [h5];exact List.map_flatten.symm
     refine ⟨o,by rw [hs j hj];exact ho,by rw [l.ver,hlen],by rw [l.ty,h2],by rw [l.sz,h3],λc hc=>?_,xs,by rw [<- h2,<- hlen];exact a1,a2,by rw [a3.len,hfl,aV],λq u d hu hd=>?_⟩
     .have:=l.esz (c.map (AY τ)) (by rw [h5];exact oL hc)
      rwa [aV] at this
     .have hd2:k0.es.flatten[q]?=some (AY τ d):=by rw [hfl,aN,hd];rfl
      obtain ⟨c,hc,hdc⟩:=jC.1 (aK hd)
      exact (a3.rep q u _ hu hd2).unren (h6 c hc d hdc) hs hmut
   .have hi':=hal i o hi
    have hj':=hal j o' hj
    rw [hs i hi'] at hi;rw [hs j hj'] at hj
    exact X.inj i j hi' hj' (hR1.inj _ _ o o' b hi hj hb hb')
   .rw [hs i (hal i o hi)] at hi
    exact hR1.lt (τ i) o b hi hb
  refine ⟨v,r,E,σE,he,hRE,hv.unrenC hok hs hmut,⟨hst.os,hst.tape,hst.output,hst.size,hst.old,λi o' b ho hb=>?_⟩,hkE,rfl,rfl⟩
  rw [hs i (hal i o' ho)] at ho
  exact hst.new (τ i) o' b ho hb⟩
end Go.Abs
end
section
set_option maxRecDepth 100000
set_option maxHeartbeats 4000000
open Go Go.Proofs
namespace Go.Abs
structure SmallA (x:Attr):Prop where
 lo : -1000000<=x.low
 hi:x.high<=1000000
 le:x.low<=x.high
theorem EM {x:Attr}{b:List Attr}(h:dN x b=0):SmallA x:=by
 unfold dN at h
 split at h<;>try (cases h;done)
 split at h<;>try (cases h;done)
 split at h
 .exact absurd h (by assumption)
 .rename_i h3
  split at h
  .rename_i h4
   split at h
   .rename_i h5
    have a:x.names.length<=20:=by
     refine bA λc=>h3 ?_
     unfold n3;rw [if_pos aD];decide
    simp at h5
    exact ⟨aD,aD,aD⟩
   .cases h
  .split at h
   .rename_i h5
    simp at h5
    exact ⟨aD,aD,aD⟩
   .cases h
theorem MB {t:Types}{a:Nat}(b:a<t.nodes.length)(h:g8 t a=0):∀ k,(t.attrs a).length - t.nodes[a].attrs.length<=k->∀ hk:k<(t.attrs a).length,SmallA (t.attrs a)[k]:=by
 rw [B8 t a b] at h
 split at h<;>try (cases h;done)
 split at h<;>try (cases h;done)
 split at h<;>try (cases h;done)
 split at h<;>try (cases h;done)
 split at h<;>try (cases h;done)
 intro k c hk
 have:=eP _ _ h k c aD
 unfold AO at this
 rw [aA hk] at this
 exact EM this
theorem NG {t:Types}(g:(b9 t).2=0):∀ a:Nat,a<t.nodes.length->∀ x∈t.attrs a,SmallA x:=by
 have c:=nP g
 have f:∀ j,j<t.nodes.length->g8 t j=0:=by
  have h:=g
  unfold b9 at h
  split at h
  .simp at h
  .split at h
   .simp at h
   .obtain ⟨f,_⟩:=rM _ _ h
    exact λj p=>f j aD aD
 intro a
 induction a using Nat.strongRecOn with
 | _ a ih =>
 intro e x m
 have b:=Dv t a e (c.parentsOK a)
 have i:=c.parent a _ (aA e)
 obtain ⟨k,l,rfl⟩:=aO m
 by_cases q:k<(t.attrs a).length - t.nodes[a].attrs.length
 .by_cases hp:0<=t.nodes[a].parent
  .rw [if_pos hp] at b
   have n:(t.attrs a).length=(t.attrs t.nodes[a].parent.toNat).length+t.nodes[a].attrs.length:=by rw [b];simp
   have d:k<(t.attrs t.nodes[a].parent.toNat).length:=aD
   have o:(t.attrs a)[k]=(t.attrs t.nodes[a].parent.toNat)[k]:=by
    have:(t.attrs a)[k]?=(t.attrs t.nodes[a].parent.toNat)[k]?:=by rw [b,aS d]
    rw [aA l,aA d] at this
    exact Option.some.inj this
   rw [o]
   exact ih _ aD aD _ (aC d)
  .rw [if_neg hp] at b
   have n:(t.attrs a).length=t.nodes[a].attrs.length:=by rw [b];simp
   omega
 .exact MB e (f a e) k aD l
theorem JD {t:Types}(c:t.valid):∀ b:Nat,b<t.nodes.length->∀ a:Nat,mem (t.line b) (a:Int)=true->∃ r,t.attrs b=t.attrs a++r:=by
 intro b
 induction b using Nat.strongRecOn with
 | _ b ih =>
 intro d a hm
 have e:=c.parent b _ (aA d)
 rw [yX t b d (c.parentsOK b),vE,c4] at hm
 rcases hm with hm|hm
 .by_cases h0:0<=t.nodes[b].parent
  .rw [if_pos h0] at hm
   obtain ⟨r,f⟩:=ih t.nodes[b].parent.toNat aD aD a hm
   exact ⟨r++t.nodes[b].attrs,by rw [Dv t b d (c.parentsOK b),if_pos h0,f,List.append_assoc]⟩
  .rw [if_neg h0,zX] at hm;cases hm
 .simp at hm
  have:a=b:=aD
  subst this
  exact ⟨[],by simp⟩
structure SOk (p:Pattern) (h:Host) (m:Part):Prop where
 vars:0<=p.vars/\p.vars<=12
 node:∀ s∈p.slots,0<=s.node/\s.node<m.nodes.length
 img:∀ k∈m.nodes,0<=k/\k<h.values.length
 attr:∀ s∈p.slots,0<=s.attr/\s.attr<(h.values[(m.nodes[s.node.toNat]?.getD 0).toNat]?.getD []).length
 small:∀ l∈h.values,∀ v∈l,-1000000<=v/\v<=1000000
 term:∀ s∈p.slots,pL s.term p.vars.toNat
 test:∀ x∈p.tests,Hm x p.vars.toNat
theorem r5 {t:Types}(hv:(b9 t).2=0){a:Int}(h0:0<=a)(h1:a<t.nodes.length):bM t a=t.attrs a.toNat:=by
 unfold bM;rw [if_pos];simp [given2F,hv,insideF,h0,h1]
theorem qB {t:Types}(b:(b9 t).2=0)(a:Int):(bM t a).length<=8:=by
 by_cases h:0<=a/\a<t.nodes.length
 .rw [r5 b h.1 h.2];exact (nP b).attrs _ aD
 .unfold bM;rw [if_neg (by simp [given2F,b,insideF];omega)];simp
theorem CE {t:Types}(b:(b9 t).2=0)(a:Int):∀ x∈bM t a,SmallA x:=by
 by_cases h:0<=a/\a<t.nodes.length
 .rw [r5 b h.1 h.2];exact NG b _ aD
 .unfold bM;rw [if_neg (by simp [given2F,b,insideF];omega)];simp
structure HostOk (t:Types) (h:Host):Prop where
 vf:(b9 t).2=0
 gg:graphF h.graph=0
 vl:h.values.length=h.graph.nodes.length
 nd:∀ (i:Nat) (hi:i<h.graph.nodes.length) (hv:i<h.values.length),iC t h.graph.nodes[i] h.values[i]=0
 ed:∀ x∈h.graph.edges,x.type<t.edges.length/\oF t x.type (gN h.graph x.from_) (gN h.graph x.to_)=true
theorem sM {t:Types}{h:Host}(a:iG t h=0):HostOk t h:=by
 unfold iG oE at a
 split at a
 .rename_i h1;exact absurd a h1
 .rename_i h1
  split at a
  .rename_i h2;exact absurd a h2
  .rename_i h2
   split at a
   .cases a
   .rename_i h3
    split at a
    .rename_i h4;exact absurd a h4
    .rename_i h4
     rw [jU] at h4
     rw [tW] at h4 a
     refine ⟨aD,aD,aD,λi e c=>?_,λx b=>?_⟩
     .have:=eP _ _ h4 i (dY _) aD
      simpa only [GG,aA e,aA c,Option.getD_some] using this
     .obtain ⟨k,d,rfl⟩:=aO b
      have:=eP _ _ a k (dY _) aD
      simp only [Ri,aA d,Option.getD_some] at this
      split at this
      .cases this
      .split at this
       .exact ⟨aD,by assumption⟩
       .cases this
theorem sN {t:Types}{k:Int}{vs:List Int}(h:iC t k vs=0):k<t.nodes.length/\xD t k.toNat=false/\vs.length=(bM t k).length /\
  ∀ (j:Nat) (a:j<vs.length) (b:j<(bM t k).length),(bM t k)[j].low<=vs[j]/\vs[j]<=(bM t k)[j].high:=by
 unfold iC at h
 split at h
 .cases h
 .rename_i h1
  split at h
  .cases h
  .rename_i h2
   split at h
   .cases h
   .rename_i h3
    refine ⟨aD,by simpa using h2,aD,λj a b=>?_⟩
    have:=eP _ _ h j (dY _) aD
    simp only [Cb,aA a,aA b,Option.getD_some] at this
    split at this
    .cases this
    .omega
theorem HostOk.row {t:Types}{h:Host}(ho:HostOk t h):∀ v∈h.values,v.length<=8/\∀ x∈v,-1000000<=x/\x<=1000000:=λv hv=>by
 obtain ⟨i,hi,rfl⟩:=aO hv
 have hn:=ho.vl
 obtain ⟨h1,h2,h3,h4⟩:=sN (ho.nd i aD hi)
 have hl:=qB ho.vf (h.graph.nodes[i]' aD)
 refine ⟨aD,λx hx=>?_⟩
 obtain ⟨j,hj,rfl⟩:=aO hx
 have:=h4 j hj aD
 have hs:=CE ho.vf _ _ (aC (show j<(bM t (h.graph.nodes[i]' aD)).length by omega))
 have:=hs.lo;have:=hs.hi
 omega
/-! ### a host in owned slices -/
def k9 (qs:List Nat)(vs:List (List Int)):List (List D):=List.zipWith (λq (v:List Int)=>[D.own q v.length]) qs vs
theorem jF {a:List Nat}{vs:List (List Int)}(h:a.length=vs.length):(k9 a vs).length=vs.length:=by simp [k9,h]
theorem wF {a:List Nat}{vs:List (List Int)}(h:a.length=vs.length)(q:Nat)(v:List Int):k9 (a++[q]) (vs++[v])=k9 a vs++[[.own q v.length]]:=by
 simp [k9,List.zipWith_append h]
theorem rW {a:List Nat}{vs:List (List Int)}{i q:Nat}{v:List Int}(c:a[i]?=some q)(b:vs[i]?=some v):(k9 a vs)[i]?=some [.own q v.length]:=by
 simp [k9,List.getElem?_zipWith,c,b]
theorem Qz {a:List Nat}{vs:List (List Int)}{i:Nat}{v b:List Int}(c:vs[i]?=some v)(d:b.length=v.length):k9 a (vs.set i b)=k9 a vs:=by
 apply gL
 intro j
 simp only [k9,List.getElem?_zipWith,dZ]
 by_cases h:i=j
 .subst h
  have e:=(aM.1 c).1
  rw [if_pos rfl,if_pos e,c]
  cases a[i]?<;>simp [d]
 .rw [if_neg h]
structure HH (H:AHeap) (lo a b V:Nat) (qs:List Nat) (h:Host):Prop where
 ga:H.get a=some ⟨3,1,h.graph.nodes.map cI,false⟩
 gb:H.get b=some ⟨122,3,h.graph.edges.map Edge.c,false⟩
 gV:H.get V=some ⟨26,1,k9 qs h.values,false⟩
 len:qs.length=h.values.length
 gq:∀ (i q:Nat) (v:List Int),qs[i]?=some q->h.values[i]?=some v->H.get q=some ⟨3,1,v.map cI,false⟩
 nd:(a :: b :: V :: qs).Nodup
 rng:∀ q∈a :: b :: V :: qs,lo<=q/\q<H.next
section
variable {H H':AHeap} {lo a b V:Nat} {qs:List Nat} {x:Host}
theorem HH.a_in (h:HH H lo a b V qs x):a∈a :: b :: V :: qs:=bW
theorem HH.b_in (h:HH H lo a b V qs x):b∈a :: b :: V :: qs:=bW
theorem HH.V_in (h:HH H lo a b V qs x):V∈a :: b :: V :: qs:=bW
theorem HH.q_in (h:HH H lo a b V qs x){q:Nat}(c:q∈qs):q∈a :: b :: V :: qs:=by simp [c]
theorem HH.ab (h:HH H lo a b V qs x):a≠b/\a≠V/\b≠V:=by
 have:=h.nd;simp only [g5,aU,not_or] at this
 exact ⟨this.1.1,this.1.2.1,this.2.1.1⟩
theorem HH.qn (h:HH H lo a b V qs x){q:Nat}(c:q∈qs):q≠a/\q≠b/\q≠V:=by
 have:=h.nd;simp only [g5,aU,not_or] at this
 exact ⟨λe=>this.1.2.2 (e ▸ c),λe=>this.2.1.2 (e ▸ c),λe=>this.2.2.1 (e ▸ c)⟩
theorem HH.lower (h:HH H lo a b V qs x){lo':Nat}(hl:lo'<=lo):HH H lo' a b V qs x:=⟨h.ga,h.gb,h.gV,h.len,h.gq,h.nd,λq hq=>⟨fC hl (h.rng q hq).1,(h.rng q hq).2⟩⟩
theorem HH.same (h:HH H lo a b V qs x)(hn:H.next<=H'.next)(hf:∀ j∈a :: b :: V :: qs,H'.get j=H.get j):HH H' lo a b V qs x where
 ga:=(hf a h.a_in).trans h.ga
 gb:=(hf b h.b_in).trans h.gb
 gV:=(hf V h.V_in).trans h.gV
 len:=h.len
 gq i q v h1 h2:=(hf q (h.q_in (aK h1))).trans (h.gq i q v h1 h2)
 nd:=h.nd
 rng q hq:=⟨(h.rng q hq).1,cC (h.rng q hq).2 hn⟩
theorem HH.nodes (h:HH H lo a b V qs x)(hn:H.next<=H'.next){ns:List Int}(ga:H'.get a=some ⟨3,1,ns.map cI,false⟩)(hf:∀ j∈b :: V :: qs,H'.get j=H.get j):HH H' lo a b V qs ⟨⟨ns,x.graph.edges⟩,x.values⟩ where
 ga:=ga
 gb:=(hf b bW).trans h.gb
 gV:=(hf V bW).trans h.gV
 len:=h.len
 gq i q v h1 h2:=(hf q (by simp [aK h1])).trans (h.gq i q v h1 h2)
 nd:=h.nd
 rng q hq:=⟨(h.rng q hq).1,cC (h.rng q hq).2 hn⟩
theorem HH.edges (h:HH H lo a b V qs x)(hn:H.next<=H'.next){es:List Edge}(gb:H'.get b=some ⟨122,3,es.map Edge.c,false⟩)(hf:∀ j∈a :: V :: qs,H'.get j=H.get j):HH H' lo a b V qs ⟨⟨x.graph.nodes,es⟩,x.values⟩ where
 ga:=(hf a bW).trans h.ga
 gb:=gb
 gV:=(hf V bW).trans h.gV
 len:=h.len
 gq i q v h1 h2:=(hf q (by simp [aK h1])).trans (h.gq i q v h1 h2)
 nd:=h.nd
 rng q hq:=⟨(h.rng q hq).1,cC (h.rng q hq).2 hn⟩
theorem HH.rowAdd (h:HH H lo a b V qs x)(hn:H.next<=H'.next){q:Nat}{v:List Int}(hlo:lo<=q)(hq:∀ j∈a :: b :: V :: qs,j≠q)(hq2:q<H'.next)(gq:H'.get q=some ⟨3,1,v.map cI,false⟩)
  (gV:H'.get V=some ⟨26,1,k9 qs x.values++[[.own q v.length]],false⟩) (hf:∀ j∈a :: b :: qs,H'.get j=H.get j):HH H' lo a b V (qs++[q]) ⟨x.graph,x.values++[v]⟩ where
 ga:=(hf a bW).trans h.ga
 gb:=(hf b bW).trans h.gb
 gV:=by rw [wF h.len];exact gV
 len:=by simp [h.len]
 gq i q' v' h1 h2:=by
  by_cases hi:i<qs.length
  .rw [aS hi] at h1
   rw [aS (by rw [<- h.len];exact hi)] at h2
   exact (hf q' (by simp [aK h1])).trans (h.gq i q' v' h1 h2)
  .have h1':=(aM.1 h1).1
   have:i=qs.length:=by simp at h1';omega
   subst this
   simp at h1
   rw [h.len] at h2;simp at h2
   subst h1 h2;exact gq
 nd:=by
  have:=h.nd
  have e:a :: b :: V :: (qs++[q])=(a :: b :: V :: qs)++[q]:=rfl
  rw [e,nM]
  exact ⟨this,by simp,λy hy z hz=>by rw [bL] at hz;subst hz;exact hq y hy⟩
 rng j hj:=by
  have e:a :: b :: V :: (qs++[q])=(a :: b :: V :: qs)++[q]:=rfl
  rw [e,aW,bL] at hj
  rcases hj with hj|rfl
  .exact ⟨(h.rng j hj).1,cC (h.rng j hj).2 hn⟩
  .exact ⟨hlo,hq2⟩
theorem HH.rowSet (h:HH H lo a b V qs x)(hn:H.next<=H'.next){i q:Nat}{v v':List Int}(h1:qs[i]?=some q)(h2:x.values[i]?=some v)(hl:v'.length=v.length)(gq:H'.get q=some ⟨3,1,v'.map cI,false⟩)
  (hf:∀ j∈a :: b :: V :: qs,j≠q->H'.get j=H.get j):HH H' lo a b V qs ⟨x.graph,x.values.set i v'⟩ where
 ga:=(hf a h.a_in (Ne.symm (h.qn (aK h1)).1)).trans h.ga
 gb:=(hf b h.b_in (Ne.symm (h.qn (aK h1)).2.1)).trans h.gb
 gV:=by rw [Qz h2 hl];exact (hf V h.V_in (Ne.symm (h.qn (aK h1)).2.2)).trans h.gV
 len:=by simp [h.len]
 gq j q' w k1 k2:=by
  have hqn:qs.Nodup:=by have:=h.nd;simp only [g5] at this;exact this.2.2.2
  rw [dZ] at k2
  by_cases hj:i=j
  .subst hj
   rw [h1] at k1;cases k1
   rw [if_pos rfl] at k2
   split at k2
   .cases k2;exact gq
   .cases k2
  .rw [if_neg hj] at k2
   refine (hf q' (h.q_in (aK k1)) λe=>hj ?_).trans (h.gq j q' w k1 k2)
   subst e
   obtain ⟨a1,a2⟩:=aM.1 h1
   obtain ⟨b1,b2⟩:=aM.1 k1
   exact (mF hqn).1 (a2.trans b2.symm)
 nd:=h.nd
 rng q hq:=⟨(h.rng q hq).1,cC (h.rng q hq).2 hn⟩
theorem HH.read (h:HH H lo a b V qs x):(k9 qs x.values).map (·.map (fG H))=x.values.map cL:=by
 apply gL
 intro i
 simp only [aN]
 by_cases d:i<x.values.length
 .have hq:i<qs.length:=by rw [h.len];exact d
  have c:=aA d
  have e:=aA hq
  rw [rW e c,c]
  have:=h.gq i _ _ e c
  simp [fG,this,cL,dLI]
 .rw [b7 (by rw [jF h.len];omega),b7 aD];rfl
theorem HH.deep (h:HH H lo a b V qs x):jW H (.agg [.own a x.graph.nodes.length,.own b x.graph.edges.length,.own V x.values.length])=x.d:=by
 have h1:∀ l:List (List D),(∀ c∈l,∀ y∈c,∀ i n,y≠D.own i n/\∀ p q r,y≠D.win i p q r)->l.map (·.map (fG H))=l:=λl hl=>by
  conv=>rhs;rw [<- List.map_id l]
  refine bU λc hc=>?_
  conv=>rhs;rw [id,<- List.map_id c]
  refine bU λy hy=>?_
  cases y<;>first|rfl|(exfalso;first|exact (hl c hc _ hy _ _).1 rfl|exact (hl c hc _ hy _ 0).2 _ _ _ rfl)
 simp only [jW,pN,g9,jD,h.ga,h.gb,h.gV,aV,jF h.len,if_true,h.read]
 rw [h1 (x.graph.nodes.map cI) (λc hc y hy i n=>by
  rw [bB] at hc;obtain ⟨z,_,rfl⟩:=hc
  simp [cI] at hy;subst hy;simp),h1 (x.graph.edges.map Edge.c) (λc hc y hy i n=>by
  rw [bB] at hc;obtain ⟨z,_,rfl⟩:=hc
  simp [Edge.c,dI] at hy;rcases hy with rfl|rfl|rfl<;>simp)]
 rfl
theorem MV {l:List (List D)}(d:∀ c∈l,∀ y∈c,lC y=[]):l.flatten.flatMap lC=[]:=by
 rw [n6]
 intro i a
 rw [bT] at a
 obtain ⟨y,b,a⟩:=a
 rw [jC] at b
 obtain ⟨c,e,b⟩:=b
 rw [d c e y b] at a;cases a
theorem HH.ids (h:HH H lo a b V qs x)(n m k:Nat)(e:Int):∀ i∈AK H (.tup [.agg [.own a n,.own b m,.own V k],dI e]),i∈a :: b :: V :: qs:=by
 intro i hi
 have l:(x.graph.nodes.map cI).flatten.flatMap lC=[]:=MV λc f y d=>by
  rw [bB] at f;obtain ⟨z,_,rfl⟩:=f
  simp [cI] at d;subst d;rfl
 have g:(x.graph.edges.map Edge.c).flatten.flatMap lC=[]:=MV λc f y d=>by
  rw [bB] at f;obtain ⟨z,_,rfl⟩:=f
  simp [Edge.c,dI] at d;rcases d with rfl|rfl|rfl<;>rfl
 simp only [AK,GE,KJ,xH,Im,h.ga,h.gb,h.gV,l,g,dI,lC,dE,aW,aU,fS,or_false] at hi
 rcases hi with rfl|rfl|rfl|hi
 .exact h.a_in
 .exact h.b_in
 .exact h.V_in
 .rw [bT] at hi
  obtain ⟨y,d,hi⟩:=hi
  rw [jC] at d
  obtain ⟨c,f,d⟩:=d
  simp only [k9] at f
  obtain ⟨j,o,rfl⟩:=aO f
  rw [List.getElem_zipWith,bL] at d
  subst d
  simp only [lC,bL] at hi
  subst hi
  exact h.q_in (aC _)
end
theorem NM (h:Host):D.clL h.c=true:=by simp [Host.c,D.clL,D.cl,pD,vL];exact dK _ (λv=>by simp [cL,D.clL,pD]) _
@[go_sem] theorem Host.cld (h:Host):h.d.cl=true:=by simp [Host.d,D.cl,NM]
/-! ### Extract -/
def Vz (t:Types)(h:Host)(p:Part):Int:=if iG t h≠0 then iG t h else subF h.graph p
def Tc (t:Types)(h:Host)(p:Part):Host:=if Vz t h p=0 then ⟨cY h.graph p,p.nodes.map λk=>h.values[k.toNat]?.getD []⟩ else ⟨⟨[],[]⟩,[]⟩
theorem HR (t:Types)(ht:t.ok)(h:Host)(p:Part)(hl:p.nodes.length<=1000000)(hle:p.edges.length<=1000000):Pure Tryz.prog 153 [t.d,h.d,p.d] (.tup [(Tc t h p).d,dI (Vz t h p)]):=by
 refine Tz.pK ⟨λt=>t==6||t==10||t==11||t==13||t==48,λr=>match r with|11=>[(0,2),(1,2),(2,3),(2,4),(2,5),(2,6),(2,8),(2,9),(2,10),(2,11),(0,12),(1,12),(0,13),(1,13)]|_=>[]⟩ Tryz.func153 rfl (λQ hQ=>?_)
 have Y:=wa @Host.d.eq_1 @Host.c.eq_1
 refine wv (h:=aB (yM t ht h) wl ?_)
 refine dP (λh2=>?_) λh2=>?_
 .have hE:Vz t h p=(oE t h).2:=by unfold Vz;rw [if_pos (by unfold iG;omega)];rfl
  have hX:Tc t h p=⟨⟨[],[]⟩,[]⟩:=by unfold Tc;rw [if_neg aD]
  exact wv (h:=hQ _ _ (by simp [go_sem,hE,hX,dLI]))
 .have h0:iG t h=0:=by unfold iG;omega
  have hE:Vz t h p=subF h.graph p:=by unfold Vz;rw [if_neg aD]
  have ho:=sM h0
  have hrow:=ho.row
  have hgl:=bS ho.gg
  have hvl:=ho.vl
  refine wv (h:=aB (AF h.graph p hl hle) wl ?_)
  refine dP (λh5=>?_) λh5=>?_
  .have hX:Tc t h p=⟨⟨[],[]⟩,[]⟩:=by unfold Tc;rw [if_neg aD]
   exact wv (h:=hQ _ _ (by simp [go_sem,hE,hX,dLI]))
  .have h5':subF h.graph p=0:=aD
   obtain ⟨hs1,hs2,hs3,hs4⟩:=zQ h5'
   have hP:AI h.graph p=p:=by unfold AI;rw [if_pos h5']
   have hX:Tc t h p=⟨cY h.graph p,p.nodes.map λk=>h.values[k.toNat]?.getD []⟩:=by unfold Tc;rw [if_pos aD]
   have Y:=wa Y (wa hP (wa @Part.d.eq_1 (wa @Part.c.eq_1 (wa @Graph.d.eq_1 @Graph.c.eq_1))))
   refine wv (h:=uI (Ghosts.step (Ghosts.refl _) 3 0 2 26 1 _ _ ((by simp [go_sem];rfl)) rfl rfl rfl) (λi e H=>∃ vs:List (List Int),(e 3=.adr t.c/\e 4=.adr h.c/\e 5=.adr p.c/\e 6=.ptr 0 1 0 0/\e 10=.ptr 1 1 0 0/\e 11=.ptr 2 1 0 0/\e 13=.ptr 3 1 0 0/\e 14=dI i)/\(H.get 0=some ⟨44,3,[[.nil,.nil,.nil]],false⟩)/\(0<H.next)/\(H.get 1=some ⟨29,2,[(cY h.graph p).c],false⟩)/\(1<H.next)/\(H.get 2=some ⟨36,2,[p.c],false⟩)/\(2<H.next)/\(H.get 3=some ⟨44,3,[[dLI (cY h.graph p).nodes,.list ((cY h.graph p).edges.map Edge.c),.own 4 vs.length]],false⟩)/\(3<H.next)/\(H.get 4=some ⟨26,1,vs.map cL,false⟩)/\(4<H.next)/\(i<=p.nodes.length)/\(vs=(p.nodes.take i).map λk=>h.values[k.toNat]?.getD [])/\(vs.length=i)) (λi=>p.nodes.length - i) 0 ⟨([]),wg,wn,wn,wn,wn,wn,wn,wn,wn,wn,wn,wi,(by rfl),(by rfl)⟩ λI0 hI0 i e H hi0=>?_)
   obtain ⟨vs,E0,g0_0,n0_0,g1_0,n1_0,g2_0,n2_0,g3_0,n3_0,g4_0,n4_0,hi,hvs,hvl2⟩:=hi0
   have Y:=wa Y (wa E0 (wa g0_0 (wa (b8 n0_0) (wa g1_0 (wa (b8 n1_0) (wa g2_0 (wa (b8 n2_0) (wa g3_0 (wa (b8 n3_0) (wa g4_0 (b8 n4_0)))))))))))
   refine rT (λh9=>?_) λh9=>?_
   .have hk:=hs3 _ (aC h9)
    have hkv:p.nodes[i].toNat<h.values.length:=aD
    have hr8:=(hrow _ (aC hkv)).1
    have Y:=wa Y (wa h9 (wa (aA h9) (wa (aA hkv) @cL.eq_1)))
    exact wp (h:=wx hI0 (i+1) ⟨(vs++[h.values[p.nodes[i].toNat]]),wg,wn,wn,wn,wn,wn,wn,wn,wn,wn,wn,wj,(by rw [kW _ h9,<- hvs,aA hkv];rfl),(by simp;omega)⟩)
   .have hVS:vs=p.nodes.map λk=>h.values[k.toNat]?.getD []:=by rw [hvs,lW _ aD]
    exact wv (h:=hQ _ _ (by simp [go_sem,Y,hE,hX,h5',hVS,cL]))
theorem HT (h:Host)(hn:h.graph.nodes.length<=100000)(he:h.graph.edges.length<=100000)(hv:h.values.length<=100000)(hr:∀ v∈h.values,v.length<=100000)(G:AHeap)(Q:D->AHeap->Prop)
  (hQ:∀ a b V qs H',HH H' G.next a b V qs h->(∀ j,j<G.next->H'.get j=G.get j)->G.next<=H'.next->Q (.agg [.own a h.graph.nodes.length,.own b h.graph.edges.length,.own V h.values.length]) H'):ACalls Tryz.prog 65 [h.d] G Q:=by
 refine (aJ (cfg:=⟨λt=>t==2||t==3||t==18||t==1000001,λr=>match r with|5=>[(0,2),(1,2),(2,3),(2,4),(2,6),(2,7),(0,8),(1,8),(0,9),(1,9)]|_=>[]⟩) Tz.mixed Tryz.func65 rfl rfl (aF rfl) (by kernel_rfl) ?_)
 have Y:=wa @Host.d.eq_1 @Host.c.eq_1
 refine wv (h:=?_)
 unfold fL;refine uD h.graph aD aD _ _ (λa b H1 ha hb hab han hbn hga hgb hfr hnn=>?_)
 simp [go_sem] at ha hb hnn
 have hgR:=hfr G.next (by simp [go_sem])
 simp [go_sem] at hgR
 have hfr1:∀ j,j<G.next->H1.get j=G.get j:=λj hj=>by
  rw [hfr j (by simp [go_sem];omega)];simp [go_sem,(aD:j≠G.next)]
 have nx:=Wp H1.next
 have fr1:=And.intro (b8 (aD:a<H1.next)) (And.intro (b8 (aD:b<H1.next)) (b8 (aD:G.next<H1.next)))
 have di2:=And.intro (dF (aD:G.next≠b)) (And.intro (dF (aD:G.next≠a)) (dF (aD:b≠a)))
 have Y:=wa Y (wa fr1 (wa di2 (wa hga (wa hgb (wa hgR nx)))))
 refine wv (h:=uI (Ghosts.step (Ghosts.refl _) H1.next 0 2 26 1 _ _ ((by simp [go_sem];rfl)) rfl rfl rfl) (λi e H=>∃ R:Nat,∃ c:Nat,∃ V:Nat,∃ qs:List Nat,(e 1=.adr h.c/\e 2=.ptr R 1 0 0/\e 3=.ptr c 1 0 0/\e 4=dI i)/\(H.get R=some ⟨44,3,[[.nil,.nil,.nil]],false⟩)/\(R<H.next)/\(H.get c=some ⟨44,3,[[.own a h.graph.nodes.length,.own b h.graph.edges.length,.own V i]],false⟩)/\(c<H.next)/\(H.get V=some ⟨26,1,k9 qs (h.values.take i),false⟩)/\(V<H.next)/\(i<=h.values.length)/\(HH H (G.next+1) a b V qs ⟨h.graph,h.values.take i⟩)/\((a<c/\b<c/\c<V/\V<H.next/\R<a/\R<b/\R<c/\G.next<=R))/\(∀ q∈qs,V<q)/\(∀ j,j<G.next->H.get j=G.get j)/\(G.next<=H.next)) (λi=>h.values.length - i) 0 ⟨G.next,H1.next,(H1.next+1),([]),wg,wn,wn,wn,wn,(by simp [go_sem,Y,k9]),wn,wi,(by refine ⟨by simp [go_sem,Y],by simp [go_sem,Y],by simp [go_sem,k9],rfl,by simp,by simp;omega,by simp [go_sem];omega⟩),(by simp [go_sem];omega),(by intro q hq;cases hq),(by intro j hj;simp [go_sem,(aD:j≠H1.next),(aD:j≠H1.next+1)];exact hfr1 j hj),(by simp [go_sem];omega)⟩ λI0 hI0 i e H hi0=>?_)
 obtain ⟨R,c,V,qs,E0,gR_0,nR_0,gc_0,nc_0,gV_0,nV_0,hi,hh,hc,hq,hG,hnx⟩:=hi0
 have di3:=And.intro (dF (aD:R≠V)) (And.intro (dF (aD:R≠c)) (And.intro (dF (aD:R≠b)) (And.intro (dF (aD:R≠a)) (And.intro (dF (aD:V≠c)) (And.intro (dF (aD:V≠b)) (And.intro (dF (aD:V≠a)) (And.intro (dF (aD:c≠b)) (And.intro (dF (aD:c≠a)) (dF (aD:b≠a))))))))))
 have Y:=wa Y (wa @Host.c.eq_1 (wa E0 (wa gR_0 (wa (b8 nR_0) (wa gc_0 (wa (b8 nc_0) (wa gV_0 (wa (b8 nV_0) di3))))))))
 refine rT (λh3=>?_) λh3=>?_
 .have hr8:=hr _ (aC h3)
  have hfrm:∀ j∈a :: b :: qs,j≠V/\j≠c/\j<H.next:=λj hj=>by
   simp only [aU] at hj
   rcases hj with rfl|rfl|hj
   .exact ⟨aD,aD,(hh.rng _ hh.a_in).2⟩
   .exact ⟨aD,aD,(hh.rng _ hh.b_in).2⟩
   .have:=hq j hj;exact ⟨aD,aD,(hh.rng _ (hh.q_in hj)).2⟩
  have hrl:(k9 qs (h.values.take i)).length=i:=by rw [jF hh.len];simp;omega
  have Y:=wa Y (wa h3 (wa (aA h3) (wa @cL.eq_1 hrl)))
  exact wp (h:=wx hI0 (i+1) ⟨R,c,V,(qs++[H.next+2]),wg,wn,wn,wn,wn,(by rw [aE h3,wF hh.len];simp [go_sem,Y,cL]),wn,wj,(by rw [aE h3];exact hh.rowAdd (by first|(simp [go_sem];done)|(simp [go_sem];omega)) aD (λj hj=>by have:=(hh.rng j hj).2;omega) (by simp [go_sem]) (by simp [go_sem,Y]) (by simp [go_sem,Y,cL]) (λj hj=>by obtain ⟨k1,k2,k3⟩:=hfrm j hj;simp [go_sem,k1,k2,b8 k3])),(by simp [go_sem];omega),(by intro q hq';rw [aW,bL] at hq';rcases hq' with h1|rfl;exact hq q h1;omega),(by intro j hj;simp [go_sem,(aD:j≠H.next+2),(aD:j≠V),(aD:j≠c)];exact hG j hj),(by simp [go_sem];omega)⟩)
 .rw [aG aD] at hh
  have hie:i=h.values.length:=aD
  have hRj:∀ j∈a :: b :: V :: qs,j≠R:=λj hj=>by
   simp only [aU] at hj
   rcases hj with rfl|rfl|rfl|hj
   .omega
   .omega
   .omega
   .have:=hq j hj;omega
  refine wv (h:=?_)
  rw [hie];exact hQ a b V qs _ ((hh.lower aD).same (by simp [go_sem]) (λj hj=>by simp [go_sem,hRj j hj])) (λj hj=>by simp [go_sem,(aD:j≠R)];exact hG j hj) (by simp [go_sem];omega)
/-! ### exact numbers -/
def FQ (l l1:List Nat)(j:Nat):Nat:=if j∈l then l1[l.idxOf j]?.getD 0 else j
theorem BO {l a:List Nat}(e:l.Nodup){i j b:Nat}(h:l[i]?=some j)(f:a[i]?=some b):FQ l a j=b:=by
 obtain ⟨c,d⟩:=aM.1 h
 unfold FQ
 rw [if_pos (d ▸ aC c)]
 have:l.idxOf j=i:=by rw [<- d];exact e.idxOf_getElem i c
 rw [this,f];rfl
theorem yG {l a:List Nat}{j:Nat}(h:j∉l):FQ l a j=j:=by unfold FQ;rw [if_neg h]
theorem yT {τ:Nat->Nat}{l:List (List D)}(b:∀ c∈l,∀ y∈c,AY τ y=y):l.map (·.map (AY τ))=l:=by
 conv=>rhs;rw [<- List.map_id l]
 refine bU λc d=>?_
 conv=>rhs;rw [id,<- List.map_id c]
 exact bU λy a=>b c d y a
theorem HH.exact {H H1 E:AHeap}{lo a2 a b V a1 b1 V1:Nat}{P u:List Nat}{x:Host}(J:HH E lo a b V P x)(O:HH H1 a2 a1 b1 V1 u x)
  (a3:∀ j,H.al j->j<H.next) (Q:∀ j,¬ H.al j->H.get j=none) (GG:H.next<=E.next)
  (g:∀ j,E.al j↔H.al j\/j∈a :: b :: V :: P) (a0:∀ j,H.al j->j∉a :: b :: V :: P->H1.get j=H.get j) (S:∀ j,j∉a :: b :: V :: P->E.get j=H.get j)
  (f:∀ (i j I:Nat),(a :: b :: V :: P)[i]?=some j->(a1 :: b1 :: V1 :: u)[i]?=some I->(H.al j->I=j)/\(¬ H.al j->¬ H.al I)) :
  ∃ τ,Exact H H1 E τ/\.agg [.own a1 x.graph.nodes.length,.own b1 x.graph.edges.length,.own V1 x.values.length]=R1 τ (.agg [.own a x.graph.nodes.length,.own b x.graph.edges.length,.own V x.values.length])/\YV E.al (.agg [.own a x.graph.nodes.length,.own b x.graph.edges.length,.own V x.values.length]):=by
 obtain ⟨l,B⟩:=cW (a :: b :: V :: P)
 obtain ⟨G,A⟩:=cW (a1 :: b1 :: V1 :: u)
 have w:=J.nd
 have R:=O.nd
 have Y:=J.rng
 rw [<- B] at g a0 S f w Y
 rw [<- A] at f R
 have a4:G.length=l.length:=by rw [B,A];simp [O.len,J.len]
 have o:∀ j∈l,∃ i I,l[i]?=some j/\G[i]?=some I/\FQ l G j=I:=λj C=>by
  obtain ⟨i,D,N⟩:=aO C
  have m:l[i]?=some j:=by rw [aA D,N]
  have n:=aA (aD:i<G.length)
  exact ⟨i,_,m,n,BO w m n⟩
 have ra:FQ l G a=a1:=BO w (i:=0) (by rw [B];rfl) (by rw [A];rfl)
 have rb:FQ l G b=b1:=BO w (i:=1) (by rw [B];rfl) (by rw [A];rfl)
 have rV:FQ l G V=V1:=BO w (i:=2) (by rw [B];rfl) (by rw [A];rfl)
 have rq:∀ i q q1,P[i]?=some q->u[i]?=some q1->FQ l G q=q1:=λi q q1 e m=>BO w (i:=i+3) (by rw [B];exact e) (by rw [A];exact m)
 have t:∀ (v:List Int),(v.map cI).map (·.map (AY (FQ l G)))=v.map cI:=λv=>yT λc r y s=>by
  rw [bB] at r;obtain ⟨z,_,rfl⟩:=r
  simp [cI] at s;subst s;rfl
 have F:∀ (v:List Int),∀ c∈v.map cI,∀ y∈c,Wo E.al y:=λv c r y s=>by
  rw [bB] at r;obtain ⟨z,_,rfl⟩:=r
  simp [cI] at s;subst s;rfl
 refine ⟨FQ l G,⟨λj C=>?_,λi j D C N=>?_,λj C=>⟨(g j).2 (.inl C),?_⟩,λj C=>?_,λj k K=>?_⟩,?_,?_⟩
 .rcases (g j).1 C with h|h
  .exact cC (a3 j h) GG
  .exact (Y j h).2
 .by_cases hi2:i∈l<;>by_cases d:j∈l
  .obtain ⟨p,U,m,n,T⟩:=o i hi2
   obtain ⟨p',I,f1,f2,f3⟩:=o j d
   rw [T,f3] at N
   subst N
   obtain ⟨u1,u2⟩:=aM.1 n
   obtain ⟨v1,v2⟩:=aM.1 f2
   have:p=p':=(mF R).1 (u2.trans v2.symm)
   subst this
   rw [m] at f1;cases f1;rfl
  .obtain ⟨p,U,m,n,T⟩:=o i hi2
   rw [T,yG d] at N
   subst N
   have L:H.al U:=(((g U).1 C).resolve_right d)
   by_cases M:H.al i
   .exact ((f p i U m n).1 M).symm
   .exact absurd L ((f p i U m n).2 M)
  .obtain ⟨p,I,m,n,T⟩:=o j d
   rw [T,yG hi2] at N
   subst N
   have M:H.al i:=(((g i).1 D).resolve_right hi2)
   by_cases L:H.al j
   .exact (f p j i m n).1 L
   .exact absurd M ((f p j i m n).2 L)
  .rwa [yG hi2,yG d] at N
 .by_cases d:j∈l
  .obtain ⟨p,I,m,n,T⟩:=o j d
   rw [T];exact (f p j I m n).1 C
  .exact yG d
 .have h2:¬ H.al j/\j∉l:=⟨λh=>C ((g j).2 (.inl h)),λh=>C ((g j).2 (.inr h))⟩
  rw [S j h2.2];exact Q j h2.1
 .by_cases d:j∈l
  .right
   have W:=d
   rw [B,aU,aU,aU] at W
   rcases W with rfl|rfl|rfl|hq
   .rw [J.ga] at K;cases K
    rw [ra]
    exact ⟨_,O.ga,rfl,rfl,rfl,(t _).symm,F _⟩
   .rw [J.gb] at K;cases K
    rw [rb]
    refine ⟨_,O.gb,rfl,rfl,rfl,(yT λc r y s=>?_).symm,λc r y s=>?_⟩
    .rw [bB] at r;obtain ⟨z,_,rfl⟩:=r
     simp [Edge.c,dI] at s;rcases s with rfl|rfl|rfl<;>rfl
    .rw [bB] at r;obtain ⟨z,_,rfl⟩:=r
     simp [Edge.c,dI] at s;rcases s with rfl|rfl|rfl<;>rfl
   .rw [J.gV] at K;cases K
    rw [rV]
    refine ⟨_,O.gV,rfl,rfl,rfl,?_,λc r y s=>?_⟩
    .apply gL
     intro i
     simp only [aN]
     by_cases D:i<x.values.length
     .have e0:=aA D
      have m:=aA (show i<P.length by rw [J.len];exact D)
      have n:=aA (show i<u.length by rw [O.len];exact D)
      rw [rW m e0,rW n e0]
      simp [AY,rq i _ _ m n]
     .rw [b7 (by rw [jF O.len];omega),b7 (by rw [jF J.len];omega)];rfl
    .simp only [k9] at r
     obtain ⟨i,D,rfl⟩:=aO r
     rw [List.getElem_zipWith,bL] at s
     subst s
     show E.al _
     exact (g _).2 (.inr (by rw [B];exact dC _ (dC _ (dC _ (aC _)))))
   .obtain ⟨i,D,rfl⟩:=aO hq
    have m:=aA D
    have X:i<x.values.length:=by rw [<- J.len];exact D
    have e0:=aA X
    have n:=aA (show i<u.length by rw [O.len];exact X)
    rw [J.gq i _ _ m e0] at K;cases K
    rw [rq i _ _ m n]
    exact ⟨_,O.gq i _ _ n e0,rfl,rfl,rfl,(t _).symm,F _⟩
  .left
   have Z:=S j d
   rw [K] at Z
   have hA:H.al j:=bA λhn=>by rw [Q j hn] at Z;cases Z
   exact ⟨hA,Z.symm,(a0 j hA d).trans Z.symm⟩
 .simp [R1,AY,ra,rb,rV]
 .intro c r
  simp only [aU,fS,or_false] at r
  rcases r with rfl|rfl|rfl
  .exact (g _).2 (.inr (by rw [B];simp))
  .exact (g _).2 (.inr (by rw [B];simp))
  .exact (g _).2 (.inr (by rw [B];simp))
theorem u7 {j:Nat}{k:Blk}:∀ (q:List (Nat × Blk)) (H:AHeap),(q.map (·.1)).Nodup->(j,k)∈q->(H.pushs q).get j=some k
 | p :: q,H,hn,hm=>by
  rw [g9,g5] at hn
  rw [aU] at hm
  simp only [AHeap.pushs]
  rcases hm with rfl|hm
  .rw [oB q _ _ hn.1];simp [AHeap.push]
  .exact u7 q _ hn.2 hm
def QA (qs:List Nat)(vs:List (List Int)):List (Nat × Blk):=List.zipWith (λq (v:List Int)=>(q,(⟨3,1,v.map cI,false⟩:Blk))) qs vs
theorem FL {a:List Nat}{vs:List (List Int)}(h:a.length=vs.length):(QA a vs).map (·.1)=a:=by
 unfold QA
 rw [List.map_zipWith]
 apply fT (by simp [h])
 intro i c b;simp
theorem LN {qs:List Nat}{vs:List (List Int)}{i q:Nat}{v:List Int}(h1:qs[i]?=some q)(h2:vs[i]?=some v):(q,(⟨3,1,v.map cI,false⟩:Blk))∈QA qs vs :=
 aK (i:=i) (by simp [QA,List.getElem?_zipWith,h1,h2])
def Ib (a b V:Nat)(qs:List Nat)(h:Host):List (Nat × Blk):=(a,⟨3,1,h.graph.nodes.map cI,false⟩) :: (b,⟨122,3,h.graph.edges.map Edge.c,false⟩) :: (V,⟨26,1,k9 qs h.values,false⟩) :: QA qs h.values
theorem Ni {a b V:Nat}{c:List Nat}{h:Host}(d:c.length=h.values.length):(Ib a b V c h).map (·.1)=a :: b :: V :: c:=by simp [Ib,FL d]
theorem P7 {H:AHeap}{a b V:Nat}{d:List Nat}{h:Host}(l:d.length=h.values.length)(e:(a :: b :: V :: d).Nodup)(f:∀ j∈a :: b :: V :: d,j<H.next):HH (H.pushs (Ib a b V d h)) 0 a b V d h:=by
 have c:=Ni (a:=a) (b:=b) (V:=V) l
 have g:((Ib a b V d h).map (·.1)).Nodup:=by rw [c];exact e
 have k:(H.pushs (Ib a b V d h)).next=H.next:=pU _ _ λp n=>f p.1 (by rw [<- c];exact oL n)
 refine ⟨u7 _ _ g (by simp [Ib]),u7 _ _ g (by simp [Ib]),u7 _ _ g (by simp [Ib]),l,λi q v r o=>u7 _ _ g ?_,e,λq m=>⟨dY _,by rw [k];exact f q m⟩⟩
 exact dC _ (dC _ (dC _ (LN r o)))
theorem Ia {md:Nat->Bool}{ops:Array Oper}{F:List (Nat × Nat)}{B i:Nat}{n:List Oper}{s:List (Nat × List Nat)}{e:dJ}{r:Option Tmp}{K:dJ->AHeap->Prop}{H:AHeap}
  (h:Host) (P:h.graph.nodes.length<=100000) (Q:h.graph.edges.length<=100000) (N:h.values.length<=100000) (O:∀ v∈h.values,v.length<=100000)
  (a b V:Nat) (k:List Nat) (I:k.length=h.values.length) (w:(a :: b :: V :: k).Nodup) (x:B<=H.next) (q:∀ j∈a :: b :: V :: k,j<B/\¬ H.al j) (G:De md r=true) (R:chk F i (a :: b :: V :: k) s)
  (S:∀ E,HH E 0 a b V k h->(∀ j,j∉a :: b :: V :: k->E.get j=H.get j)->(∀ j,E.al j↔H.al j\/j∈a :: b :: V :: k)->E.next=H.next ->
   jZ Tryz.prog md ops F B (i+1) n ((i,a :: b :: V :: k) :: s) (oP e r (.agg [.own a h.graph.nodes.length,.own b h.graph.edges.length,.own V h.values.length])) E K) :
  p6 Tryz.prog md ops F B i n s e r K 65 [h.d] H:=by
 have c:=Ni (a:=a) (b:=b) (V:=V) I
 unfold p6
 refine Or.inr ⟨G,.agg [.own a h.graph.nodes.length,.own b h.graph.edges.length,.own V h.values.length],[],[],Ib a b V k h,λp m=>absurd m (fS),λp m=>q p.1 (by rw [<- c];exact oL m),λt _ f=>?_,?_,?_⟩
 .have hf':∀ j∈a :: b :: V :: k,j<t.next/\¬ t.al j:=λj g=>by
   rw [<- c,bB] at g
   obtain ⟨p,m,rfl⟩:=g
   exact f p m
  refine ACalls.exact (E:=t.pushs (Ib a b V k h)) (HT h P Q N O t (λd D=>∃ z y A l,HH D t.next z y A l h/\(∀ j,j<t.next->D.get j=t.get j)/\d=.agg [.own z h.graph.nodes.length,.own y h.graph.edges.length,.own A h.values.length]) (λz y A l D C L _=>⟨z,y,A,l,C,L,rfl⟩)) ?_
  rintro o u d D ⟨z,y,A,l,C,L,rfl⟩
  refine HH.exact (P7 I w λj g=>(hf' j g).1) C o u ?_ (λj=>?_) (λj g _=>L j (o j g)) (λj g=>oB _ _ _ (by rw [c];exact g)) (λi j M e T=>⟨λJ=>absurd J (hf' j (aK e)).2,λ_ J=>?_⟩)
  .rw [pU _ _ λp m=>(f p m).1];exact bC _
  .rw [sF,c]
  .have:=(C.rng M (aK T)).1
   have:=o M J
   omega
 .rw [c];exact R
 .rw [c]
  refine S _ (P7 I w λj g=>cC (q j g).1 x) (λj g=>oB _ _ _ (by rw [c];exact g)) (λj=>by rw [sF,c];rfl) (pU _ _ λp m=>cC (q p.1 (by rw [<- c];exact oL m)).1 x)
end Go.Abs
end
