/- Layer 24, the reference: rules. · The abstraction layer: aft -/
import Derived.Test.YthalajhajpjjeaaGreatZfAF
import Derived.Test.YthalajhajpjjeaaGreatZfAA
import Derived.Test.YthalajhajpjjeaaGreatZfAM
import Derived.Test.YthalajhajpjjeaaGreatZfAK
set_option linter.unusedVariables false
set_option linter.unusedSimpArgs false
section
set_option maxRecDepth 100000
set_option maxHeartbeats 4000000
open Go Go.Proofs
namespace Go.Abs
theorem BO {l:List Int}{v:Int}(hs:l.Pairwise (· < ·))(hm:mem l v=true):idx l v=tL l v:=by
 obtain ⟨i,hi,he⟩:=aO ((mem_iff l v).1 hm)
 have hpw:=dK.1 hs
 rw [rZ (i:=i) (λj hj h=>by
   have hjl:j<l.length:=aD
   rw [aA hjl] at h
   have:=hpw j i hjl hi hj
   simp at h;omega) (by rw [aA hi,he])]
 rw [Pc (n:=i) (λj hj h=>by have:=hpw j i hj hi h;omega) aD (λ_=>by omega)]
theorem pH {α:Type}{f:α->Int}:∀ {l:List α},gK f l=0->∀ x∈l,f x=0
 | [],_,x,hx=>by cases hx
 | a :: l,h,x,hx=>by
  unfold gK at h
  split at h
  .rename_i h1;exact absurd h h1
  .rename_i h1
   rcases aU.1 hx with h2|h2
   .subst h2;omega
   .exact pH h x h2
theorem Cv {g:Graph}{p:Part}(h:subF g p=0):∀ k∈p.edges,mem p.nodes (g.edges[k.toNat]?.getD cC).from_=true/\mem p.nodes (g.edges[k.toNat]?.getD cC).to_=true:=by
 unfold subF qR at h
 split at h
 .rename_i h1;exact absurd h h1
 .split at h
  .rename_i h2;exact absurd h h2
  .split at h
   .rename_i h3;exact absurd h h3
   .intro k hk
    have:=pH h k hk
    unfold yM at this
    split at this
    .rename_i h4;simpa using h4
    .cases this
theorem Aa (g:Graph)(p:Part)(hl:p.nodes.length<=1000000)(hle:p.edges.length<=1000000):Pure Tryz.prog 167 [g.d,p.d] (.tup [(cY g p).d,(Ae g p).d,dI (subF g p)]):=by
 refine Tz.pK ⟨λt=>t==4||t==5||t==8||t==11||t==76||t==80,λr=>match r with|8=>[(0,11),(1,11)]|12=>[(0,9),(1,9),(2,9),(3,9),(5,9),(6,9),(7,9),(8,9)]|13=>[(0,15),(1,15)]|14=>[(0,1),(1,2),(1,3),(0,4),(0,5),(1,5),(2,5),(3,5),(4,5),(1,6),(4,6),(5,6),(1,7),(4,7),(5,7),(0,8)]|_=>[]⟩ Tryz.func167 rfl (λQ hQ=>?_)
 try simp [go_sem,seval]
 refine aB (xQ g p) ((by first|rfl|(simp [go_sem,<- List.map_take,<- List.map_drop];done))) ?_
 try simp [go_sem,seval]
 refine aP (λh2=>?_) (λh2=>?_)
 .try simp [go_sem] at h2
  try simp [go_sem,seval]
  exact hQ _ _ (by first|(left;(simp [go_sem,cY,Ae,h2]);done)|(right;(simp [go_sem,cY,Ae,h2]);done))
 .try simp [go_sem] at h2
  obtain ⟨hg,hs,hin,hie⟩:=yW h2
  have hends:=Cv h2
  try simp [go_sem,seval]
  obtain ⟨I0,hI0⟩:∃ I0:Nat->dM->AHeap->Prop,∀ (i:Nat) (e:dM) (H:AHeap),I0 i e H↔(∃ xs:List Int,(e 2=.adr g.c)/\(e 3=.adr p.c)/\(e 4=.ptr 0 1 0 0)/\(e 5=.ptr 1 1 0 0)/\(e 8=.ptr 2 1 0 0)/\(e 9=dI i)/\(H.get 0=some ⟨29,2,[[.nil,.nil]],false⟩)/\(0<H.next)/\(H.get 1=some ⟨36,2,[[.nil,.nil]],false⟩)/\(1<H.next)/\(H.get 2=some ⟨29,2,[[.own 3 xs.length,.nil]],false⟩)/\(2<H.next)/\(H.get 3=some ⟨3,1,xs.map cI,false⟩)/\(3<H.next)/\(i<=p.nodes.length)/\(xs=(p.nodes.take i).map (gN g))):=⟨λi e H=>_,λ_ _ _=>Iff.rfl⟩
  refine J7 (Ghosts.step (Ghosts.refl _) 2 0 0 3 1 _ _ (rfl) rfl rfl rfl) I0 (λi=>p.nodes.length - i) (0) ((hI0 _ _ _).2 ⟨([]),?_,?_,?_,?_,?_,?_,?_,?_,?_,?_,?_,?_,?_,?_,(by first|assumption|omega|(simp [go_sem];done)|(simp_all;done)),(by rfl)⟩) ?_
  iterate 14 (first|omega|(simp [go_sem,seval]<;>omega))
  intro i e H hi0
  obtain ⟨xs,q2_0,q3_0,q4_0,q5_0,q8_0,q9_0,g0_0,n0_0,g1_0,n1_0,g2_0,n2_0,g3_0,n3_0,hi,hx⟩:=(hI0 _ _ _).1 hi0
  have x0:=cD n0_0
  have x1:=cD n1_0
  have x2:=cD n2_0
  have x3:=cD n3_0
  have F0:=And.intro q2_0 (And.intro q3_0 (And.intro q4_0 (And.intro q5_0 (And.intro q8_0 (And.intro q9_0 (And.intro g0_0 (And.intro g1_0 (And.intro g2_0 (And.intro g3_0 (And.intro x0 (And.intro x1 (And.intro x2 x3))))))))))))
  try simp [go_sem,seval,F0]
  repeat first|intro _|refine ⟨eQ,?_⟩
  refine aP (λh6=>?_) (λh6=>?_)
  .try simp [go_sem] at h6
   have hin':=hin _ (aC h6)
   have hk:p.nodes[i].toNat<g.nodes.length:=aD
   have hxl:xs.length=i:=by rw [hx];simp;omega
   try simp [go_sem,seval,F0,h6,aA hk,gN]
   repeat first|intro _|refine ⟨eQ,?_⟩
   refine eB (i+1) aD ((hI0 _ _ _).2 ⟨(xs++[gN g p.nodes[i]]),?_,?_,?_,?_,?_,?_,?_,?_,?_,?_,?_,?_,?_,?_,(by first|assumption|omega|(simp [go_sem,F0,h6,aA hk,gN,h2];done)|(simp_all<;>omega)),(by rw [kH _ h6,<- hx])⟩)<;>first|omega|(simp [go_sem,seval,F0,h6,aA hk,gN]<;>omega)
  .try simp [go_sem] at h6
   have hX:xs=p.nodes.map (gN g):=by rw [hx,lK _ aD]
   try simp [go_sem,seval,F0]
   obtain ⟨I2,hI2⟩:∃ I2:Nat->dM->AHeap->Prop,∀ (k:Nat) (e:dM) (H:AHeap),I2 k e H↔(∃ j:Nat,∃ ys:List Edge,(e 2=.adr g.c)/\(e 3=.adr p.c)/\(e 4=.ptr 0 1 0 0)/\(e 5=.ptr 1 1 0 0)/\(e 8=.ptr 2 1 0 0)/\(e 10=dI k)/\(H.get 0=some ⟨29,2,[[.nil,.nil]],false⟩)/\(0<H.next)/\(H.get 1=some ⟨36,2,[[.nil,.nil]],false⟩)/\(1<H.next)/\(H.get 2=some ⟨29,2,[[.own 3 xs.length,.own j ys.length]],false⟩)/\(2<H.next)/\(H.get 3=some ⟨3,1,xs.map cI,false⟩)/\(3<H.next)/\(H.get j=some ⟨122,3,ys.map Edge.c,false⟩)/\(j<H.next)/\(k<=p.edges.length)/\(ys=(p.edges.take k).map (gEd g p))/\(j≠0)/\(j≠1)/\(j≠2)/\(j≠3)):=⟨λk e H=>_,λ_ _ _=>Iff.rfl⟩
   refine J7 (Ghosts.step (Ghosts.refl _) 2 0 1 122 3 _ _ (g2_0) rfl rfl rfl) I2 (λk=>p.edges.length - k) (0) ((hI2 _ _ _).2 ⟨(H.next),([]),?_,?_,?_,?_,?_,?_,?_,?_,?_,?_,?_,?_,?_,?_,?_,?_,(by first|assumption|omega|(simp [go_sem,F0];done)|(simp_all;done)),(by rfl),aD,aD,aD,aD⟩) ?_
   iterate 16 (first|omega|(simp [go_sem,seval,F0]<;>omega))
   intro k e H hi2
   obtain ⟨j,ys,q2_2,q3_2,q4_2,q5_2,q8_2,q10_2,g0_2,n0_2,g1_2,n1_2,g2_2,n2_2,g3_2,n3_2,gj_2,nj_2,hk,hy,j0,j1,j2,j3⟩:=(hI2 _ _ _).1 hi2
   have x0:=cD n0_2
   have x1:=cD n1_2
   have x2:=cD n2_2
   have x3:=cD n3_2
   have xj:=cD nj_2
   have F2:=And.intro q2_2 (And.intro q3_2 (And.intro q4_2 (And.intro q5_2 (And.intro q8_2 (And.intro q10_2 (And.intro g0_2 (And.intro g1_2 (And.intro g2_2 (And.intro g3_2 (And.intro gj_2 (And.intro x0 (And.intro x1 (And.intro x2 (And.intro x3 xj))))))))))))))
   try simp [go_sem,seval,F2,j0,j1,j2,j3,j0.symm,j1.symm,j2.symm,j3.symm]
   repeat first|intro _|refine ⟨eQ,?_⟩
   refine aP (λh10=>?_) (λh10=>?_)
   .try simp [go_sem] at h10
    have hie':=hie _ (aC h10)
    have hke:p.edges[k].toNat<g.edges.length:=aD
    have hyl:ys.length=k:=by rw [hy];simp;omega
    have hen:=hends _ (aC h10)
    rw [aA hke,Option.getD_some] at hen
    have hi1:=BO hs hen.1
    have hi2:=BO hs hen.2
    try simp [go_sem,seval,F2,j0,j1,j2,j3,j0.symm,j1.symm,j2.symm,j3.symm,h10,aA hke,gEd,hi1,hi2]
    repeat first|intro _|refine ⟨eQ,?_⟩
    refine aJ (Dv p.nodes _) ((by first|rfl|(simp [go_sem,<- List.map_take,<- List.map_drop,F2,j0,j1,j2,j3,j0.symm,j1.symm,j2.symm,j3.symm,h10,aA hke,gEd,hi1,hi2];done))) ?_
    try simp [go_sem,seval,F2,j0,j1,j2,j3,j0.symm,j1.symm,j2.symm,j3.symm,h10,aA hke,gEd,hi1,hi2]
    repeat first|intro _|refine ⟨eQ,?_⟩
    refine aJ (Dv p.nodes _) ((by first|rfl|(simp [go_sem,<- List.map_take,<- List.map_drop,F2,j0,j1,j2,j3,j0.symm,j1.symm,j2.symm,j3.symm,h10,aA hke,gEd,hi1,hi2];done))) ?_
    try simp [go_sem,seval,F2,j0,j1,j2,j3,j0.symm,j1.symm,j2.symm,j3.symm,h10,aA hke,gEd,hi1,hi2]
    repeat first|intro _|refine ⟨eQ,?_⟩
    refine eB (k+1) aD ((hI2 _ _ _).2 ⟨(j),(ys++[gEd g p p.edges[k]]),?_,?_,?_,?_,?_,?_,?_,?_,?_,?_,?_,?_,?_,?_,?_,?_,(by first|assumption|omega|(simp [go_sem,F2,j0,j1,j2,j3,j0.symm,j1.symm,j2.symm,j3.symm,h10,aA hke,gEd,hi1,hi2,h2,h6];done)|(simp_all<;>omega)),(by rw [kH _ h10,<- hy]),(by first|assumption|omega|(simp [go_sem,F2,j0,j1,j2,j3,j0.symm,j1.symm,j2.symm,j3.symm,h10,aA hke,gEd,hi1,hi2,h2,h6];done)|(simp_all<;>omega)),(by first|assumption|omega|(simp [go_sem,F2,j0,j1,j2,j3,j0.symm,j1.symm,j2.symm,j3.symm,h10,aA hke,gEd,hi1,hi2,h2,h6];done)|(simp_all<;>omega)),(by first|assumption|omega|(simp [go_sem,F2,j0,j1,j2,j3,j0.symm,j1.symm,j2.symm,j3.symm,h10,aA hke,gEd,hi1,hi2,h2,h6];done)|(simp_all<;>omega)),(by first|assumption|omega|(simp [go_sem,F2,j0,j1,j2,j3,j0.symm,j1.symm,j2.symm,j3.symm,h10,aA hke,gEd,hi1,hi2,h2,h6];done)|(simp_all<;>omega))⟩)<;>first|omega|(simp [go_sem,seval,F2,j0,j1,j2,j3,j0.symm,j1.symm,j2.symm,j3.symm,h10,aA hke,gEd,hi1,hi2]<;>omega)
   .try simp [go_sem] at h10
    have hY:ys=p.edges.map (gEd g p):=by rw [hy,lK _ aD]
    try simp [go_sem,seval,F2,j0,j1,j2,j3,j0.symm,j1.symm,j2.symm,j3.symm]
    repeat first|intro _|refine ⟨eQ,?_⟩
    exact hQ _ _ (by first|(left;(simp [go_sem,F2,j0,j1,j2,j3,j0.symm,j1.symm,j2.symm,j3.symm,cY,Ae,h2,hX,hY]);done)|(right;(simp [go_sem,F2,j0,j1,j2,j3,j0.symm,j1.symm,j2.symm,j3.symm,cY,Ae,h2,hX,hY]);done))
theorem NR (t:Types)(ht:t.ok)(p:Pattern)(hr:p.graph.nodes.length<=1000)(hs1:p.slots.length<=1000)(i:Nat)(hi:i<p.slots.length):Pure Tryz.prog 292 [t.d,p.d,dI i] (dI (vE t p i)):=by
 have hS:=Cx (t:=t) hi
 have h8:=pR ht (p.kind p.slots[i].node)
 refine Tz.pK ⟨λt=>t==7,λ_=>[]⟩ Tryz.func292 rfl (λQ hQ=>?_)
 have Y:=wa (aA hi) hi
 refine fA (λh2=>?_) λh2=>?_
 .have hE:gJ t p p.slots[i]≠0:=by
   unfold gJ;rw [if_neg];decide;intro h;simp [lJ] at h;omega
  rw [if_pos hE] at hS
  exact wv (h:=hQ _ _ (by simp [go_sem,hS]))
 .have hn:p.slots[i].node.toNat<p.graph.nodes.length:=aD
  have hk:p.kind p.slots[i].node=p.graph.nodes[p.slots[i].node.toNat]:=by simp [Pattern.kind,hn]
  rw [hk] at h8
  have Y:=wa Y (wa (aA hn) hk)
  refine wo (h:=aJ (nW t ht p.graph.nodes[p.slots[i].node.toNat]) wl ?_)
  refine fA (λh5=>?_) λh5=>?_
  .have hE:gJ t p p.slots[i]≠0:=by
    unfold gJ;rw [if_neg];decide;intro h;simp [lJ,inF,hk] at h;omega
   rw [if_pos hE] at hS
   exact wv (h:=hQ _ _ (by simp [go_sem,hS]))
  .have hE:gJ t p p.slots[i]=0:=by
    unfold gJ;rw [if_pos];simp [lJ,inF,hk];omega
   rw [if_neg aD] at hS
   refine wv (h:=bF (λk e H=>(e 4=.adr p.c/\e 2=dI i/\e 7=.ptr 0 1 0 0/\e 10=dI k)/\(H.get 0=some ⟨159,4,[p.slots[i].c],false⟩)/\(0<H.next)/\(k<=i)/\(((p.slots.take k).any (sameSlot p.slots[i]))=false)) (λk=>i - k) 0 ⟨wg,wn,wn,wi,(by rfl)⟩ λI0 hI0 k e H hi0=>?_)
   obtain ⟨E0,g0_0,n0_0,hk2,hne⟩:=hi0
   have Y:=wa Y (wa E0 (wa g0_0 (cD n0_0)))
   refine dP (λh8=>?_) λh8=>?_
   .have hkl:k<p.slots.length:=aD
    have Y:=wa Y (wa h8 hkl)
    refine fA (λh10=>?_) λh10=>?_
    .refine wv (h:=?_)
     have hb:=tF (p:=sameSlot p.slots[i]) h8 hkl (by simp [sameSlot];omega)
     exact hQ _ _ (by rw [hS,if_pos hb];simp [go_sem])
    .exact wo (h:=wx hI0 (k+1) ⟨wg,wn,wn,wj,(by rw [dS _ _ _ hkl,hne];simp [sameSlot];omega)⟩)
   .have hb:=rA hne (aD:k=i)
    exact wv (h:=hQ _ _ (by rw [hS,if_neg (by simp [hb])];simp [go_sem]))
theorem Lx (t:Types)(ht:t.ok)(r:Rule):Pure Tryz.prog 212 [t.d,r.d] (dI (iW t r)):=by
 refine Tz.pK ⟨λ_=>false,λ_=>[]⟩ Tryz.func212 rfl (λQ hQ=>?_)
 have Y:=trivial
 refine wv (h:=aB (lD r.right.graph) wl ?_)
 refine dP (λh2=>?_) λh2=>?_
 .exact wv (h:=hQ _ _ (.inl (by simp [go_sem,iW,h2])))
 .have hg:=bR h2
  refine wo (h:=aB (sU t r.right.graph) wl ?_)
  refine fA (λh4=>?_) λh4=>?_
  .rw [vA h2] at h4
   exact wv (h:=hQ _ _ (.inl (by simp [go_sem,iW,h2,h4])))
  .rw [vA h2] at h4
   refine fA (λh6=>?_) λh6=>?_
   .have hR:iW t r=1:=by unfold iW;rw [if_neg aD,if_neg (by simp [h4]),if_pos aD]
    exact wv (h:=hQ _ _ (.inl (by simp [go_sem,hR])))
   .have h6':¬ (r.right.vars≠r.left.vars\/0<r.right.tests.length):=by
     rintro (h|h)
     .exact h h6.1
     .have:=h6.2;simp [this] at h
    refine fA (λh8=>?_) λh8=>?_
    .have hR:iW t r=3:=by unfold iW;rw [if_neg aD,if_neg (by simp [h4]),if_neg h6',if_pos aD]
     exact wv (h:=hQ _ _ (.inl (by simp [go_sem,hR])))
    .have hR:iW t r=bT (vE t r.right) 0 r.right.slots.length:=by unfold iW;rw [if_neg aD,if_neg (by simp [h4]),if_neg h6',if_neg aD]
     refine wv (h:=bF (λi e H=>(e 2=.adr t.c/\e 3=.adr r.c/\e 6=dI i)/\(i<=r.right.slots.length)/\(bT (vE t r.right) i (r.right.slots.length - i)=iW t r)) (λi=>r.right.slots.length - i) 0 ⟨wg,wi,(by exact hR.symm)⟩ λI0 hI0 i e H hi0=>?_)
     obtain ⟨E0,hi,hF⟩:=hi0
     have Y:=wa Y E0
     refine fA (λh11=>?_) λh11=>?_
     .have hst:=hF
      rw [eZ _ h11] at hst
      have Y:=wa Y h11
      refine wv (h:=aB (NR t ht r.right aD aD i h11) wl ?_)
      refine dP (λh14=>?_) λh14=>?_
      .rw [if_pos aD] at hst
       exact wv (h:=hQ _ _ (.inl (by simp [go_sem,hst])))
      .rw [if_neg aD] at hst
       exact wo (h:=wx hI0 (i+1) ⟨wg,wj,(by exact hst)⟩)
     .exact wv (h:=hQ _ _ (.inl (by rw [<- hF,(aD:r.right.slots.length - i=0)];rfl)))
theorem Qa (l:List Int)(v:Int):Pure Tryz.prog 198 [dLI l,dI v] (.bool (mem l v)):=by
 refine Tz.pK ⟨λ_=>false,λ_=>[]⟩ Tryz.func198 rfl (λQ hQ=>?_)
 have Y:=trivial
 refine wv (h:=bF (λi e H=>(e 0=dLI l/\e 1=dI v/\e 5=dI i)/\(i<=l.length)/\(∀ j,j<i->l[j]?≠some v)) (λi=>l.length - i) 0 ⟨wg,wi,(by intro j hj;omega)⟩ λI0 hI0 i e H hi0=>?_)
 obtain ⟨E0,hi,hne⟩:=hi0
 have Y:=wa Y E0
 refine wv (h:=?_)
 repeat first|intro _|refine ⟨eO,?_⟩
 refine wq (λh2=>?_) λh2=>?_
 .have Y:=wa Y h2
  refine wv (h:=?_)
  repeat first|intro _|refine ⟨eO,?_⟩
  refine wq (λh4=>?_) λh4=>?_
  .refine wv (h:=?_)
   have hm:mem l v=true:=(mem_iff l v).2 (h4 ▸ aC h2)
   exact hQ _ _ (by simp [go_sem,hm])
  .exact wo (h:=wx hI0 (i+1) ⟨wg,wj,(by exact iP hne (by rw [aA h2];simpa using h4))⟩)
 .refine wv (h:=?_)
  have hm:mem l v=false:=by rw [bH];intro h;obtain ⟨j,hj,he⟩:=aO ((mem_iff l v).1 h);exact hne j aD (by rw [aA hj,he])
  exact hQ _ _ (by simp [go_sem,hm])
theorem Fx (l:List Int)(n:Nat)(hn:n<=1000000):Pure Tryz.prog 113 [dI n,dLI l] (dLI (bJ l n)):=by
 refine Tz.pK ⟨λt=>t==5,λ_=>[]⟩ Tryz.func113 rfl (λQ hQ=>?_)
 have Y:=trivial
 refine wv (h:=bF (λi e H=>∃ xs:List Int,(e 1=dLI l/\e 0=dI n/\e 5=.own 0 xs.length/\e 6=dI i)/\(H.get 0=some ⟨3,1,xs.map cI,false⟩)/\(0<H.next)/\(i<=n)/\(xs.length<=i)/\(xs=((List.range i).filter λ(b:Nat)=>!mem l b).map (λ(b:Nat)=>(b:Int)))) (λi=>n - i) 0 ⟨([]),wg,wn,wn,wi,bV,(by rfl)⟩ λI0 hI0 i e H hi0=>?_)
 obtain ⟨xs,E0,g0_0,n0_0,hi,hl,hx⟩:=hi0
 have Y:=wa Y (wa E0 (wa g0_0 (cD n0_0)))
 refine dP (λh3=>?_) λh3=>?_
 .have Y:=wa Y h3
  refine wo (h:=aB (Qa l i) wl ?_)
  refine fA (λh5=>?_) λh5=>?_
  .have Y:=wa Y h5
   exact wo (h:=wx hI0 (i+1) ⟨(xs++(if (!mem l i)=true then [(i:Int)] else [])),wg,wn,wn,wj,(by rw [aL];split<;>simp<;>omega),(by rw [dJ,<- hx])⟩)
  .have Y:=wa Y h5
   exact wo (h:=wx hI0 (i+1) ⟨(xs++(if (!mem l i)=true then [(i:Int)] else [])),wg,wn,wn,wj,(by rw [aL];split<;>simp<;>omega),(by rw [dJ,<- hx])⟩)
 .exact wv (h:=hQ _ _ (by simp [go_sem,Y,bJ];rw [hx,(aD:i=n)];simp))
theorem JQ (t:Types)(ht:t.ok)(g:Graph)(h0:graphF g=0)(hT:g7 t g=true)(nodes edges:List Int)(hn:∀ i∈nodes,0<=i/\i<g.nodes.length)(he:∀ k∈edges,0<=k/\k<g.edges.length):Pure Tryz.prog 110 [t.d,g.d,dLI nodes,dLI edges] (.bool (x9 t g nodes edges)):=by
 have hin:=nT h0 hT
 refine Tz.pK ⟨λt=>t==11,λr=>match r with|9=>[(0,8),(1,8),(4,8),(5,8),(6,8),(7,8)]|_=>[]⟩ Tryz.func110 rfl (λQ hQ=>?_)
 have Y:=trivial
 refine wv (h:=bF (λi e H=>(e 4=.adr t.c/\e 5=.adr g.c/\e 2=dLI nodes/\e 3=dLI edges/\e 9=dI i)/\(i<=nodes.length)/\(((nodes.take i).any (absB t g))=false)) (λi=>nodes.length - i) 0 ⟨wg,wi,(by rfl)⟩ λI0 hI0 i e H hi0=>?_)
 obtain ⟨E0,hi,ha⟩:=hi0
 have Y:=wa Y E0
 refine wv (h:=?_)
 repeat first|intro _|refine ⟨eO,?_⟩
 refine wq (λh2=>?_) λh2=>?_
 .have hn':=hn _ (aC h2)
  have hk:nodes[i].toNat<g.nodes.length:=aD
  have hin':=hin.1 _ (aC hk)
  have hkt:g.nodes[nodes[i].toNat].toNat<t.nodes.length:=aD
  have hA:absB t g nodes[i]=t.nodes[g.nodes[nodes[i].toNat].toNat].abs:=by simp [absB,gN,aA hk,aA hkt]
  have Y:=wa Y (wa h2 (wa (aA hk) (aA hkt)))
  refine wv (h:=?_)
  repeat first|intro _|refine ⟨eO,?_⟩
  refine wq (λh4=>?_) λh4=>?_
  .refine wv (h:=?_)
   have hb:nodes.any (absB t g)=true:=aX.2 ⟨_,aC h2,by rw [hA,h4]⟩
   exact hQ _ _ (.inl (by simp only [go_sem,x9,hb,G6,D1]))
  .exact wo (h:=wx hI0 (i+1) ⟨wg,wj,(by rw [dS _ _ _ h2,ha,hA,h4];rfl)⟩)
 .have hN:=nJ ha h2
  refine wv (h:=bF (λk e H=>(e 4=.adr t.c/\e 5=.adr g.c/\e 2=dLI nodes/\e 3=dLI edges/\e 10=dI k)/\(k<=edges.length)/\(((edges.take k).any (unfitB t g))=false)) (λk=>edges.length - k) 0 ⟨wg,wi,(by rfl)⟩ λI2 hI2 k e H hi2=>?_)
  obtain ⟨E2,hk,hb⟩:=hi2
  have Y:=wa Y E2
  refine wv (h:=?_)
  repeat first|intro _|refine ⟨eO,?_⟩
  refine wq (λh7=>?_) λh7=>?_
  .have he':=he _ (aC h7)
   have hke:edges[k].toNat<g.edges.length:=aD
   have hin':=hin.2 _ (aC hke)
   have hf:g.edges[edges[k].toNat].from_.toNat<g.nodes.length:=aD
   have hto:g.edges[edges[k].toNat].to_.toNat<g.nodes.length:=aD
   have hA:unfitB t g edges[k] = !n3 t g.edges[edges[k].toNat].type g.nodes[g.edges[edges[k].toNat].from_.toNat] g.nodes[g.edges[edges[k].toNat].to_.toNat]:=by simp [unfitB,gN,aA hke,aA hf,aA hto]
   have Y:=wa Y (wa h7 (wa (aA hke) (wa (aA hf) (aA hto))))
   refine wo (h:=aJ (FI t ht _ _ _) wl ?_)
   refine wv (h:=?_)
   repeat first|intro _|refine ⟨eO,?_⟩
   refine wq (λh10=>?_) λh10=>?_
   .refine wv (h:=?_)
    have hb':edges.any (unfitB t g)=true:=aX.2 ⟨_,aC h7,by rw [hA,h10];rfl⟩
    exact hQ _ _ (.inl (by simp only [go_sem,x9,hb',G6,Bool.and_false]))
   .exact wo (h:=wx hI2 (k+1) ⟨wg,wj,(by rw [dS _ _ _ h7,hb,hA,h10];rfl)⟩)
  .refine wv (h:=?_)
   have hE:=nJ hb h7
   exact hQ _ _ (.inl (by simp only [go_sem,x9,hN,hE,Bool.not_false,Bool.and_true]))
theorem Hr (r:Rule)(h1:r.right.graph.nodes.length<=1000000)(h2:r.right.graph.edges.length<=1000000):Pure Tryz.prog 112 [r.d] (.tup [dLI r.freshN,dLI r.freshE]):=by
 refine Tz.pK ⟨λ_=>false,λ_=>[]⟩ Tryz.func112 rfl (λQ hQ=>?_)
 have Y:=trivial
 refine wo (h:=aJ (Fx r.into.nodes _ h1) wl ?_)
 refine wo (h:=aJ (Fx r.into.edges _ h2) wl ?_)
 have Y:=wa Y (wa @Rule.freshN.eq_1 @Rule.freshE.eq_1)
 exact wo (h:=hQ _ _ wy)
def spanF (r:Rule):Int :=
 if subF r.left.graph r.keep≠0 then subF r.left.graph r.keep
 else eJ (cY r.left.graph r.keep) r.right.graph r.into
theorem NQ (r:Rule)(hr:r.ok):Pure Tryz.prog 213 [r.d] (dI (spanF r)):=by
 obtain ⟨_,hk1,hk2,hi1,hi2,_,_⟩:=hr
 refine Tz.pK ⟨λt=>t==4||t==5,λ_=>[]⟩ Tryz.func213 rfl (λQ hQ=>?_)
 have Y:=trivial
 refine wv (h:=aB (xQ r.left.graph r.keep) wl ?_)
 refine dP (λh2=>?_) λh2=>?_
 .have Y:=wa Y (wa h2 @spanF.eq_1)
  exact wv (h:=hQ _ _ wy)
 .refine wv (h:=aB (Aa r.left.graph r.keep hk1 hk2) wl ?_)
  refine wv (h:=aB (qB (cY r.left.graph r.keep) r.right.graph r.into) wl ?_)
  have Y:=wa Y (wa h2 @spanF.eq_1)
  exact wv (h:=hQ _ _ wy)
theorem Of (r:Rule):keptF r=if spanF r≠0 then spanF r else if (decide r.into.nodes.Nodup&&decide r.into.edges.Nodup)=true then 0 else 11:=by
 unfold keptF spanF CQ
 by_cases h1:subF r.left.graph r.keep=0
 .by_cases h2:eJ (cY r.left.graph r.keep) r.right.graph r.into=0
  .simp only [h1,h2,ne_eq,not_true,if_false,decide_true,gM]
   cases (decide r.into.nodes.Nodup&&decide r.into.edges.Nodup)<;>simp
  .simp [h1,h2]
 .simp [h1]
theorem Ly (t:Types)(ht:t.ok)(r:Rule)(hr:r.ok):Pure Tryz.prog 123 [t.d,r.d] (dI (ruleF t r)):=by
 have hcv:=Du t ht r.left r.cond hr.cond hr.size
 rw [Cond.c_eq] at hcv
 have hK:=Of r
 refine Tz.pK ⟨λ_=>false,λ_=>[]⟩ Tryz.func123 rfl (λQ hQ=>?_)
 have Y:=trivial
 refine wv (h:=aB (nU t ht) wl ?_)
 refine dP (λh2=>?_) λh2=>?_
 .exact wv (h:=hQ _ _ (by simp [go_sem,ruleF,h2]))
 .refine wo (h:=aB (oM r.name hr.name) wl ?_)
  refine fA (λh4=>?_) λh4=>?_
  .exact wv (h:=hQ _ _ (by simp [go_sem,ruleF,h2,h4]))
  .refine wv (h:=aB (sS t ht r.left) wl ?_)
   refine dP (λh7=>?_) λh7=>?_
   .exact wv (h:=hQ _ _ (by simp [go_sem,ruleF,h2,h4,h7]))
   .refine wv (h:=aB (Lx t ht r) wl ?_)
    refine dP (λh10=>?_) λh10=>?_
    .exact wv (h:=hQ _ _ (by simp [go_sem,ruleF,h2,h4,h7,h10]))
    .have hg:=CB h10
     have hgl:=bR hg.1
     refine wv (h:=aB (NQ r hr) wl ?_)
     refine dP (λh13=>?_) λh13=>?_
     .exact wv (h:=hQ _ _ (by simp [go_sem,ruleF,h2,h4,h7,h10,hK,h13]))
     .refine wo (h:=aB (kY r.into.nodes) wl ?_)
      refine wo (h:=aG (λhg=>kY r.into.edges) (λhg=>wl) ?_)
      refine fA (λh15=>?_) λh15=>?_
      .have hK':keptF r=11:=by rw [hK,if_neg aD,if_neg (λh=>by rw [aR,decide_eq_true_eq,decide_eq_true_eq] at h;rcases h15 with h'|h';exact h' h.1;exact h' h.2)]
       exact wv (h:=hQ _ _ (by simp [go_sem,ruleF,h2,h4,h7,h10,hK']))
      .have hK':keptF r=0:=by rw [hK,if_neg aD,if_pos (by rw [aR,decide_eq_true_eq,decide_eq_true_eq];exact h15)]
       refine wv (h:=aB (Hr r aD aD) wl ?_)
       refine wo (h:=aB (JQ t ht r.right.graph hg.1 hg.2 r.freshN r.freshE (λi hi=>lF hi) (λi hi=>lF hi)) wl ?_)
       refine fA (λh18=>?_) λh18=>?_
       .exact wv (h:=hQ _ _ (by simp [go_sem,ruleF,h2,h4,h7,h10,hK',h18]))
       .refine wv (h:=aB (hcv) wl ?_)
        exact wv (h:=hQ _ _ (by simp [go_sem,ruleF,h2,h4,h7,h10,hK',h18]))
end Go.Abs
end
section
namespace Go.Abs
theorem RepV.both {M:Nat->Prop}{σ:Nat->Option Ow}{N:Nat->Prop}{w:World}{M':Nat->Prop}{σ':Nat->Option Ow}{N':Nat->Prop}{w':World}{v:Value}{d:D}(h:RepV M σ N w v d) :
  ∀ v',RepV M' σ' N' w' v' d->RepV M σ (λi=>N i/\N' i) w v d:=by
 induction h with
 | int=>exact λ_ _=>.int _ _
 | bool=>exact λ_ _=>.bool _
 | str=>exact λ_ _=>.str _
 | agg vs ds hl h1 hr ih =>
  intro v' h'
  cases h' with
  | agg vs' _ hl' h1' hr' =>
   exact .agg vs ds hl h1 λj u x hu hx=>by
    have hj:j<vs'.length:=by rw [hl'];exact (aM.1 hx).1
    exact ih j u x hu hx vs'[j] (hr' j _ x (aA hj) hx)
 | tup vs ds hl hr ih =>
  intro v' h'
  cases h' with
  | tup vs' _ hl' hr' =>
   exact .tup vs ds hl λj u x hu hx=>by
    have hj:j<vs'.length:=by rw [hl'];exact (aM.1 hx).1
    exact ih j u x hu hx vs'[j] (hr' j _ x (aA hj) hx)
 | nil=>exact λ_ _=>.nil
 | listN=>exact λ_ _=>.listN
 | list ad cap sz xs es hc hm hsz hl h1 hcell hr ih =>
  intro v' h'
  cases h' with
  | listN=>exact .list ad cap sz xs [] hc hm hsz hl h1 hcell λj u x hu hx=>by simp at hx
  | list ad' cap' sz' xs' _ hc' hm' hsz' hl' h1' hcell' hr' =>
   exact .list ad cap sz xs es hc hm hsz hl h1 hcell λj u x hu hx=>by
    have hj:j<xs'.length:=by rw [hl'];exact (aM.1 hx).1
    exact ih j u x hu hx xs'[j] (hr' j _ x (aA hj) hx)
 | adr ad xs ds hl h1 hcell hr ih =>
  intro v' h'
  cases h' with
  | adr ad' xs' _ hl' h1' hcell' hr' =>
   exact .adr ad xs ds hl h1 hcell λj u x hu hx=>by
    have hj:j<xs'.length:=by rw [hl'];exact (aM.1 hx).1
    exact ih j u x hu hx xs'[j] (hr' j _ x (aA hj) hx)
 | ne ad cap hm=>exact λ_ _=>.ne ad cap hm
 | nilp=>exact λ_ _=>.nilp
 | ptr v id ver i off hN h1 h =>
  intro v' h'
  cases h' with
  | ptr _ _ _ _ _ hN' _ _=>exact .ptr v id ver i off ⟨hN,hN'⟩ h1 h
 | own v id n hN h1 h =>
  intro v' h'
  cases h' with
  | own _ _ _ hN' _ _=>exact .own v id n ⟨hN,hN'⟩ h1 h
 | win v id ver lo hi hN h1 hlh h =>
  intro v' h'
  cases h' with
  | win _ _ _ _ _ hN' _ _ _=>exact .win v id ver lo hi ⟨hN,hN'⟩ h1 hlh h
 | fn f vs ds hl hr ih =>
  intro v' h'
  cases h' with
  | fn _ vs' _ hl' hr' =>
   exact .fn f vs ds hl λj u x hu hx=>by
    have hj:j<vs'.length:=by rw [hl'];exact (aM.1 hx).1
    exact ih j u x hu hx vs'[j] (hr' j _ x (aA hj) hx)
 | nilf=>exact λ_ _=>.nilf
 | opt v g d hf h ih =>
  intro v' h'
  cases h' with
  | opt _ _ _ hf' h''=>exact .opt v g d hf λhg=>ih hg v' (h'' hg)
 | cst v=>exact λ_ _=>.cst v
 | junk v=>exact λ_ _=>.junk v
def Av (τ:Nat->Nat):D->D
 | .own id n=>.own (τ id) n
 | d=>d
def VJ (A:Nat->Prop):D->Prop
 | .own id _=>A id
 | d=>d.cl=true
def Rq (τ:Nat->Nat):D->D
 | .agg cs=>.agg (cs.map (Av τ))
 | d=>Av τ d
def Yi (A:Nat->Prop):D->Prop
 | .agg cs=>∀ c∈cs,VJ A c
 | d=>VJ A d
theorem RepV.unren {M M':Nat->Prop}{σ1 σE:Nat->Option Ow}{N1 A:Nat->Prop}{w:World}{τ:Nat->Nat}{v:Value}{d:D}(h:RepV M σ1 N1 w v (Av τ d))(ho:VJ A d)(hs:∀ j,A j->σE j=σ1 (τ j))(hM:∀ b,¬ M b->¬ M' b):RepV M' σE A w v d:=by
 by_cases hd:∃ id n,d=.own id n
 .obtain ⟨id,n,rfl⟩:=hd
  cases h with
  | own _ _ _ hN h1 h=>exact .own v id n ho h1 λo he=>h o (by rw [<- hs id ho];exact he)
 .have e:Av τ d=d:=by cases d<;>first|rfl|exact absurd ⟨_,_,rfl⟩ hd
  have hc:d.cl=true:=by cases d<;>first|exact ho|exact absurd ⟨_,_,rfl⟩ hd
  rw [e] at h
  exact h.closed (λad u hm hu=>⟨hM _ hm,hu⟩) hc
theorem RepV.unrenC {M M':Nat->Prop}{σ1 σE:Nat->Option Ow}{N1 A:Nat->Prop}{w:World}{τ:Nat->Nat}{v:Value}{d:D}(h:RepV M σ1 N1 w v (Rq τ d))(ho:Yi A d)(hs:∀ j,A j->σE j=σ1 (τ j))(hM:∀ b,¬ M b->¬ M' b):RepV M' σE A w v d:=by
 by_cases hd:∃ cs,d=.agg cs
 .obtain ⟨cs,rfl⟩:=hd
  cases h with
  | agg vs _ hl h1 hr =>
   exact .agg vs cs (bW hl) h1 λj u x hu hx=>(hr j u (Av τ x) hu (by rw [aN,hx];rfl)).unren (ho x (aK hx)) hs hM
 .have e:Rq τ d=Av τ d:=by cases d<;>first|rfl|exact absurd ⟨_,rfl⟩ hd
  have e2:Yi A d=VJ A d:=by cases d<;>first|rfl|exact absurd ⟨_,rfl⟩ hd
  rw [e] at h;rw [e2] at ho
  exact h.unren ho hs hM
structure Exact (H H1 E:AHeap) (τ:Nat->Nat):Prop where
 nx:∀ j,E.al j->j<E.next
 inj:∀ i j,E.al i->E.al j->τ i=τ j->i=j
 old:∀ j,H.al j->E.al j/\τ j=j
 non:∀ j,¬ E.al j->E.get j=none
 blk:∀ j k,E.get j=some k->(H.al j/\H.get j=some k/\H1.get j=some k) \/
  (∃ k0,H1.get (τ j)=some k0/\k0.ty=k.ty/\k0.sz=k.sz/\k0.fz=k.fz/\k0.es=k.es.map (·.map (Av τ))/\∀ c∈k.es,∀ y∈c,VJ E.al y)
theorem ACalls.exact {P:Program}{f:FuncId}{args:List D}{H E:AHeap}{r:D}{Q:D->AHeap->Prop}(h:ACalls P f args H Q)
  (hQ:(∀ j,H.al j->j<H.next)->(∀ j,¬ H.al j->H.get j=none)->∀ d H1,Q d H1->∃ τ,Exact H H1 E τ/\d=Rq τ r/\Yi E.al r):ACalls P f args H λd H1=>d=r/\H1=E :=
 ⟨h.1,λM0 σ w vals hR ha=>(h.2 M0 σ w vals hR ha).mono λe w' ⟨v,d,H1,σ1,he,hR1,hv,hst,hk,hq⟩=>by
  obtain ⟨τ,X,rfl,hok⟩:=hQ hR.nxt (λj hj=>(hR.top j hj).2) d H1 hq
  classical
  obtain ⟨σE,hσ⟩:∃ σE:Nat->Option Ow,∀ j,σE j=if E.al j then σ1 (τ j) else none:=⟨λj=>if E.al j then σ1 (τ j) else none,λ_=>rfl⟩
  have hs:∀ j,E.al j->σE j=σ1 (τ j):=λj hj=>by rw [hσ,if_pos hj]
  have hsn:∀ j,¬ E.al j->σE j=none:=λj hj=>by rw [hσ,if_neg hj]
  have hal:∀ j o,σE j=some o->E.al j:=λj o ho=>bB λhn=>by rw [hsn j hn] at ho;cases ho
  have halg:∀ j k,E.get j=some k->E.al j:=λj k ho=>bB λhn=>by rw [X.non j hn] at ho;cases ho
  have hmut:∀ b,¬ dB M0 H1 σ1 b->¬ dB M0 E σE b:=by
   rintro b hm (h0|⟨j,k,o,hk',hf,ho,hb⟩)
   .exact hm (.inl h0)
   .rw [hs j (halg j k hk')] at ho
    rcases X.blk j k hk' with ⟨h1,h2,h3⟩|⟨k0,h1,h2,h3,h4,_⟩
    .rw [(X.old j h1).2] at ho
     exact hm (.inr ⟨j,k,o,h3,hf,ho,hb⟩)
    .exact hm (.inr ⟨τ j,k0,o,h1,h4.trans hf,ho,hb⟩)
  have hkE:Keeps (dB M0 H σ) σ H.al w (dB M0 E σE) σE E.al w':=by
   refine ⟨λad u hm hu=>?_,λid o' hid ho'=>?_,λid hid=>(X.old id hid).1⟩
   .obtain ⟨a1,a2⟩:=hk.cell ad u hm hu;exact ⟨hmut _ a1,a2⟩
   .rw [hs id (X.old id hid).1,(X.old id hid).2] at ho';exact hk.own id o' hid ho'
  have hkS:Keeps (dB M0 H1 σ1) σ1 (λi=>H1.al i/\H.al i) w' (dB M0 E σE) σE E.al w':=by
   refine ⟨λad u hm hu=>⟨hmut _ hm,hu⟩,λid o' hid ho'=>?_,λid hid=>(X.old id hid.2).1⟩
   rw [hs id (X.old id hid.2).1,(X.old id hid.2).2] at ho';exact ⟨o',ho',.inl rfl⟩
  have hRE:Rel M0 E σE w':=by
   refine ⟨λj hj=>⟨hsn j hj,X.non j hj⟩,X.nx,λj k hk'=>?_,λi j o o' b hi hj hb hb'=>?_,λi o b hi hb=>?_,hR1.m0⟩
   .have hj:=halg j k hk'
    rcases X.blk j k hk' with ⟨h1,h2,h3⟩|⟨k0,h1,h2,h3,h4,h5,h6⟩
    .obtain ⟨o,ho,l⟩:=hR1.lies j k h3
     obtain ⟨o0,ho0,l0⟩:=hR.lies j k h2
     obtain ⟨xs,a1,a2,a3⟩:=l.row
     obtain ⟨ys,b1,b2,b3⟩:=l0.row
     refine ⟨o,by rw [hs j hj,(X.old j h1).2];exact ho,l.ver,l.ty,l.sz,l.esz,xs,a1,a2,a3.len,λq u d hu hd=>?_⟩
     have hq':q<ys.length:=by rw [b3.len];exact (aM.1 hd).1
     exact ((a3.rep q u d hu hd).both _ (b3.rep q ys[q] d (aA hq') hd)).keep hkS
    .obtain ⟨o,ho,l⟩:=hR1.lies (τ j) k0 h1
     obtain ⟨xs,a1,a2,a3⟩:=l.row
     have hlen:k0.es.length=k.es.length:=by rw [h5,aW]
     have hfl:k0.es.flatten=k.es.flatten.map (Av τ):=by rw [h5];exact List.map_flatten.symm
     refine ⟨o,by rw [hs j hj];exact ho,by rw [l.ver,hlen],by rw [l.ty,h2],by rw [l.sz,h3],λc hc=>?_,xs,by rw [<- h2,<- hlen];exact a1,a2,by rw [a3.len,hfl,aW],λq u d hu hd=>?_⟩
     .have:=l.esz (c.map (Av τ)) (by rw [h5];exact n8 hc)
      rwa [aW] at this
     .have hd2:k0.es.flatten[q]?=some (Av τ d):=by rw [hfl,aN,hd];rfl
      obtain ⟨c,hc,hdc⟩:=jC.1 (aK hd)
      exact (a3.rep q u _ hu hd2).unren (h6 c hc d hdc) hs hmut
   .have hi':=hal i o hi
    have hj':=hal j o' hj
    rw [hs i hi'] at hi;rw [hs j hj'] at hj
    exact X.inj i j hi' hj' (hR1.inj _ _ o o' b hi hj hb hb')
   .rw [hs i (hal i o hi)] at hi
    exact hR1.lt (τ i) o b hi hb
  refine ⟨v,r,E,σE,he,hRE,hv.unrenC hok hs hmut,⟨hst.os,hst.tape,hst.output,hst.size,hst.old,λi o' b ho hb=>?_⟩,hkE,rfl,rfl⟩
  rw [hs i (hal i o' ho)] at ho
  exact hst.new (τ i) o' b ho hb⟩
end Go.Abs
end
section
set_option maxRecDepth 100000
set_option maxHeartbeats 4000000
open Go Go.Proofs
namespace Go.Abs
structure SmallA (x:Attr):Prop where
 lo : -1000000<=x.low
 hi:x.high<=1000000
 le:x.low<=x.high
theorem Eo {x:Attr}{b:List Attr}(h:dN x b=0):SmallA x:=by
 unfold dN at h
 split at h<;>try (cases h;done)
 split at h<;>try (cases h;done)
 split at h
 .exact absurd h (by assumption)
 .rename_i h3
  split at h
  .rename_i h4
   split at h
   .rename_i h5
    have hl:x.names.length<=20:=by
     refine bB λhc=>h3 ?_
     unfold nM;rw [if_pos aD];decide
    simp at h5
    exact ⟨aD,aD,aD⟩
   .cases h
  .split at h
   .rename_i h5
    simp at h5
    exact ⟨aD,aD,aD⟩
   .cases h
theorem Mb {t:Types}{a:Nat}(ha:a<t.nodes.length)(h:g5 t a=0):∀ k,(t.attrs a).length - t.nodes[a].attrs.length<=k->∀ hk:k<(t.attrs a).length,SmallA (t.attrs a)[k]:=by
 rw [BC t a ha] at h
 split at h<;>try (cases h;done)
 split at h<;>try (cases h;done)
 split at h<;>try (cases h;done)
 split at h<;>try (cases h;done)
 split at h<;>try (cases h;done)
 intro k h1 hk
 have:=eY _ _ h k h1 aD
 unfold Al at this
 rw [aA hk] at this
 exact Eo this
theorem M8 {t:Types}(hv:(cZ t).2=0):∀ a:Nat,a<t.nodes.length->∀ x∈t.attrs a,SmallA x:=by
 have hval:=nC hv
 have hN:∀ j,j<t.nodes.length->g5 t j=0:=by
  have h:=hv
  unfold cZ at h
  split at h
  .simp at h
  .split at h
   .simp at h
   .obtain ⟨hN,_⟩:=q6 _ _ h
    exact λj hj=>hN j aD aD
 intro a
 induction a using Nat.strongRecOn with
 | _ a ih =>
 intro ha x hx
 have hrec:=C5 t a ha (hval.parentsOK a)
 have hpar:=hval.parent a _ (aA ha)
 obtain ⟨k,hk,rfl⟩:=aO hx
 by_cases h0:k<(t.attrs a).length - t.nodes[a].attrs.length
 .by_cases hp:0<=t.nodes[a].parent
  .rw [if_pos hp] at hrec
   have hl:(t.attrs a).length=(t.attrs t.nodes[a].parent.toNat).length+t.nodes[a].attrs.length:=by rw [hrec];simp
   have hkp:k<(t.attrs t.nodes[a].parent.toNat).length:=aD
   have he:(t.attrs a)[k]=(t.attrs t.nodes[a].parent.toNat)[k]:=by
    have:(t.attrs a)[k]?=(t.attrs t.nodes[a].parent.toNat)[k]?:=by rw [hrec,aQ hkp]
    rw [aA hk,aA hkp] at this
    exact Option.some.inj this
   rw [he]
   exact ih _ aD aD _ (aC hkp)
  .rw [if_neg hp] at hrec
   have hl:(t.attrs a).length=t.nodes[a].attrs.length:=by rw [hrec];simp
   omega
 .exact Mb ha (hN a ha) k aD hk
theorem Je {t:Types}(hv:t.valid):∀ b:Nat,b<t.nodes.length->∀ a:Nat,mem (t.line b) (a:Int)=true->∃ r,t.attrs b=t.attrs a++r:=by
 intro b
 induction b using Nat.strongRecOn with
 | _ b ih =>
 intro hb a hm
 have hpar:=hv.parent b _ (aA hb)
 rw [yB t b hb (hv.parentsOK b),uM,c4] at hm
 rcases hm with hm|hm
 .by_cases h0:0<=t.nodes[b].parent
  .rw [if_pos h0] at hm
   obtain ⟨r,hr⟩:=ih t.nodes[b].parent.toNat aD aD a hm
   exact ⟨r++t.nodes[b].attrs,by rw [C5 t b hb (hv.parentsOK b),if_pos h0,hr,List.append_assoc]⟩
  .rw [if_neg h0,vT] at hm;cases hm
 .simp at hm
  have:a=b:=aD
  subst this
  exact ⟨[],by simp⟩
structure SOk (p:Pattern) (h:Host) (m:Part):Prop where
 vars:0<=p.vars/\p.vars<=12
 node:∀ s∈p.slots,0<=s.node/\s.node<m.nodes.length
 img:∀ k∈m.nodes,0<=k/\k<h.values.length
 attr:∀ s∈p.slots,0<=s.attr/\s.attr<(h.values[(m.nodes[s.node.toNat]?.getD 0).toNat]?.getD []).length
 small:∀ l∈h.values,∀ v∈l,-1000000<=v/\v<=1000000
 term:∀ s∈p.slots,o8 s.term p.vars.toNat
 test:∀ x∈p.tests,G2 x p.vars.toNat
theorem rK {t:Types}(hv:(cZ t).2=0){a:Int}(h0:0<=a)(h1:a<t.nodes.length):bL t a=t.attrs a.toNat:=by
 unfold bL;rw [if_pos];simp [given2F,hv,insideF,h0,h1]
theorem pS {t:Types}(hv:(cZ t).2=0)(a:Int):(bL t a).length<=8:=by
 by_cases h:0<=a/\a<t.nodes.length
 .rw [rK hv h.1 h.2];exact (nC hv).attrs _ aD
 .unfold bL;rw [if_neg (by simp [given2F,hv,insideF];omega)];simp
theorem Cc {t:Types}(hv:(cZ t).2=0)(a:Int):∀ x∈bL t a,SmallA x:=by
 by_cases h:0<=a/\a<t.nodes.length
 .rw [rK hv h.1 h.2];exact M8 hv _ aD
 .unfold bL;rw [if_neg (by simp [given2F,hv,insideF];omega)];simp
structure HostOk (t:Types) (h:Host):Prop where
 vf:(cZ t).2=0
 gg:graphF h.graph=0
 vl:h.values.length=h.graph.nodes.length
 nd:∀ (i:Nat) (hi:i<h.graph.nodes.length) (hv:i<h.values.length),g9 t h.graph.nodes[i] h.values[i]=0
 ed:∀ x∈h.graph.edges,x.type<t.edges.length/\n3 t x.type (gN h.graph x.from_) (gN h.graph x.to_)=true
theorem r4 {t:Types}{h:Host}(h0:iF t h=0):HostOk t h:=by
 unfold iF nZ at h0
 split at h0
 .rename_i h1;exact absurd h0 h1
 .rename_i h1
  split at h0
  .rename_i h2;exact absurd h0 h2
  .rename_i h2
   split at h0
   .cases h0
   .rename_i h3
    split at h0
    .rename_i h4;exact absurd h0 h4
    .rename_i h4
     rw [jS] at h4
     rw [s8] at h4 h0
     refine ⟨aD,aD,aD,λi hi hv=>?_,λx hx=>?_⟩
     .have:=eY _ _ h4 i (dY _) aD
      simpa only [Gk,aA hi,aA hv,Option.getD_some] using this
     .obtain ⟨k,hk,rfl⟩:=aO hx
      have:=eY _ _ h0 k (dY _) aD
      simp only [QK,aA hk,Option.getD_some] at this
      split at this
      .cases this
      .split at this
       .exact ⟨aD,by assumption⟩
       .cases this
theorem r5 {t:Types}{k:Int}{vs:List Int}(h:g9 t k vs=0):k<t.nodes.length/\wP t k.toNat=false/\vs.length=(bL t k).length /\
  ∀ (j:Nat) (hj:j<vs.length) (ha:j<(bL t k).length),(bL t k)[j].low<=vs[j]/\vs[j]<=(bL t k)[j].high:=by
 unfold g9 at h
 split at h
 .cases h
 .rename_i h1
  split at h
  .cases h
  .rename_i h2
   split at h
   .cases h
   .rename_i h3
    refine ⟨aD,by simpa using h2,aD,λj hj ha=>?_⟩
    have:=eY _ _ h j (dY _) aD
    simp only [BF,aA hj,aA ha,Option.getD_some] at this
    split at this
    .cases this
    .omega
theorem HostOk.row {t:Types}{h:Host}(ho:HostOk t h):∀ v∈h.values,v.length<=8/\∀ x∈v,-1000000<=x/\x<=1000000:=λv hv=>by
 obtain ⟨i,hi,rfl⟩:=aO hv
 have hn:=ho.vl
 obtain ⟨h1,h2,h3,h4⟩:=r5 (ho.nd i aD hi)
 have hl:=pS ho.vf (h.graph.nodes[i]' aD)
 refine ⟨aD,λx hx=>?_⟩
 obtain ⟨j,hj,rfl⟩:=aO hx
 have:=h4 j hj aD
 have hs:=Cc ho.vf _ _ (aC (show j<(bL t (h.graph.nodes[i]' aD)).length by omega))
 have:=hs.lo;have:=hs.hi
 omega
/-! ### a host in owned slices -/
def kQ (qs:List Nat)(vs:List (List Int)):List (List D):=List.zipWith (λq (v:List Int)=>[D.own q v.length]) qs vs
theorem jF {qs:List Nat}{vs:List (List Int)}(h:qs.length=vs.length):(kQ qs vs).length=vs.length:=by simp [kQ,h]
theorem vM {qs:List Nat}{vs:List (List Int)}(h:qs.length=vs.length)(q:Nat)(v:List Int):kQ (qs++[q]) (vs++[v])=kQ qs vs++[[.own q v.length]]:=by
 simp [kQ,List.zipWith_append h]
theorem rE {qs:List Nat}{vs:List (List Int)}{i q:Nat}{v:List Int}(h1:qs[i]?=some q)(h2:vs[i]?=some v):(kQ qs vs)[i]?=some [.own q v.length]:=by
 simp [kQ,List.getElem?_zipWith,h1,h2]
theorem P2 {qs:List Nat}{vs:List (List Int)}{i:Nat}{v v':List Int}(h2:vs[i]?=some v)(hl:v'.length=v.length):kQ qs (vs.set i v')=kQ qs vs:=by
 apply gL
 intro j
 simp only [kQ,List.getElem?_zipWith,dX]
 by_cases h:i=j
 .subst h
  have hi:=(aM.1 h2).1
  rw [if_pos rfl,if_pos hi,h2]
  cases qs[i]?<;>simp [hl]
 .rw [if_neg h]
structure HH (H:AHeap) (lo a b V:Nat) (qs:List Nat) (h:Host):Prop where
 ga:H.get a=some ⟨3,1,h.graph.nodes.map cI,false⟩
 gb:H.get b=some ⟨122,3,h.graph.edges.map Edge.c,false⟩
 gV:H.get V=some ⟨26,1,kQ qs h.values,false⟩
 len:qs.length=h.values.length
 gq:∀ (i q:Nat) (v:List Int),qs[i]?=some q->h.values[i]?=some v->H.get q=some ⟨3,1,v.map cI,false⟩
 nd:(a :: b :: V :: qs).Nodup
 rng:∀ q∈a :: b :: V :: qs,lo<=q/\q<H.next
section
variable {H H':AHeap} {lo a b V:Nat} {qs:List Nat} {x:Host}
theorem HH.a_in (h:HH H lo a b V qs x):a∈a :: b :: V :: qs:=bV
theorem HH.b_in (h:HH H lo a b V qs x):b∈a :: b :: V :: qs:=bV
theorem HH.V_in (h:HH H lo a b V qs x):V∈a :: b :: V :: qs:=bV
theorem HH.q_in (h:HH H lo a b V qs x){q:Nat}(hq:q∈qs):q∈a :: b :: V :: qs:=by simp [hq]
theorem HH.ab (h:HH H lo a b V qs x):a≠b/\a≠V/\b≠V:=by
 have:=h.nd;simp only [gY,aU,not_or] at this
 exact ⟨this.1.1,this.1.2.1,this.2.1.1⟩
theorem HH.qn (h:HH H lo a b V qs x){q:Nat}(hq:q∈qs):q≠a/\q≠b/\q≠V:=by
 have:=h.nd;simp only [gY,aU,not_or] at this
 exact ⟨λe=>this.1.2.2 (e ▸ hq),λe=>this.2.1.2 (e ▸ hq),λe=>this.2.2.1 (e ▸ hq)⟩
theorem HH.lower (h:HH H lo a b V qs x){lo':Nat}(hl:lo'<=lo):HH H lo' a b V qs x:=⟨h.ga,h.gb,h.gV,h.len,h.gq,h.nd,λq hq=>⟨fD hl (h.rng q hq).1,(h.rng q hq).2⟩⟩
theorem HH.same (h:HH H lo a b V qs x)(hn:H.next<=H'.next)(hf:∀ j∈a :: b :: V :: qs,H'.get j=H.get j):HH H' lo a b V qs x where
 ga:=(hf a h.a_in).trans h.ga
 gb:=(hf b h.b_in).trans h.gb
 gV:=(hf V h.V_in).trans h.gV
 len:=h.len
 gq i q v h1 h2:=(hf q (h.q_in (aK h1))).trans (h.gq i q v h1 h2)
 nd:=h.nd
 rng q hq:=⟨(h.rng q hq).1,b8 (h.rng q hq).2 hn⟩
theorem HH.nodes (h:HH H lo a b V qs x)(hn:H.next<=H'.next){ns:List Int}(ga:H'.get a=some ⟨3,1,ns.map cI,false⟩)(hf:∀ j∈b :: V :: qs,H'.get j=H.get j):HH H' lo a b V qs ⟨⟨ns,x.graph.edges⟩,x.values⟩ where
 ga:=ga
 gb:=(hf b bV).trans h.gb
 gV:=(hf V bV).trans h.gV
 len:=h.len
 gq i q v h1 h2:=(hf q (by simp [aK h1])).trans (h.gq i q v h1 h2)
 nd:=h.nd
 rng q hq:=⟨(h.rng q hq).1,b8 (h.rng q hq).2 hn⟩
theorem HH.edges (h:HH H lo a b V qs x)(hn:H.next<=H'.next){es:List Edge}(gb:H'.get b=some ⟨122,3,es.map Edge.c,false⟩)(hf:∀ j∈a :: V :: qs,H'.get j=H.get j):HH H' lo a b V qs ⟨⟨x.graph.nodes,es⟩,x.values⟩ where
 ga:=(hf a bV).trans h.ga
 gb:=gb
 gV:=(hf V bV).trans h.gV
 len:=h.len
 gq i q v h1 h2:=(hf q (by simp [aK h1])).trans (h.gq i q v h1 h2)
 nd:=h.nd
 rng q hq:=⟨(h.rng q hq).1,b8 (h.rng q hq).2 hn⟩
theorem HH.rowAdd (h:HH H lo a b V qs x)(hn:H.next<=H'.next){q:Nat}{v:List Int}(hlo:lo<=q)(hq:∀ j∈a :: b :: V :: qs,j≠q)(hq2:q<H'.next)(gq:H'.get q=some ⟨3,1,v.map cI,false⟩)
  (gV:H'.get V=some ⟨26,1,kQ qs x.values++[[.own q v.length]],false⟩) (hf:∀ j∈a :: b :: qs,H'.get j=H.get j):HH H' lo a b V (qs++[q]) ⟨x.graph,x.values++[v]⟩ where
 ga:=(hf a bV).trans h.ga
 gb:=(hf b bV).trans h.gb
 gV:=by rw [vM h.len];exact gV
 len:=by simp [h.len]
 gq i q' v' h1 h2:=by
  by_cases hi:i<qs.length
  .rw [aQ hi] at h1
   rw [aQ (by rw [<- h.len];exact hi)] at h2
   exact (hf q' (by simp [aK h1])).trans (h.gq i q' v' h1 h2)
  .have h1':=(aM.1 h1).1
   have:i=qs.length:=by simp at h1';omega
   subst this
   simp at h1
   rw [h.len] at h2;simp at h2
   subst h1 h2;exact gq
 nd:=by
  have:=h.nd
  have e:a :: b :: V :: (qs++[q])=(a :: b :: V :: qs)++[q]:=rfl
  rw [e,nA]
  exact ⟨this,by simp,λy hy z hz=>by rw [bK] at hz;subst hz;exact hq y hy⟩
 rng j hj:=by
  have e:a :: b :: V :: (qs++[q])=(a :: b :: V :: qs)++[q]:=rfl
  rw [e,aV,bK] at hj
  rcases hj with hj|rfl
  .exact ⟨(h.rng j hj).1,b8 (h.rng j hj).2 hn⟩
  .exact ⟨hlo,hq2⟩
theorem HH.rowSet (h:HH H lo a b V qs x)(hn:H.next<=H'.next){i q:Nat}{v v':List Int}(h1:qs[i]?=some q)(h2:x.values[i]?=some v)(hl:v'.length=v.length)(gq:H'.get q=some ⟨3,1,v'.map cI,false⟩)
  (hf:∀ j∈a :: b :: V :: qs,j≠q->H'.get j=H.get j):HH H' lo a b V qs ⟨x.graph,x.values.set i v'⟩ where
 ga:=(hf a h.a_in (Ne.symm (h.qn (aK h1)).1)).trans h.ga
 gb:=(hf b h.b_in (Ne.symm (h.qn (aK h1)).2.1)).trans h.gb
 gV:=by rw [P2 h2 hl];exact (hf V h.V_in (Ne.symm (h.qn (aK h1)).2.2)).trans h.gV
 len:=by simp [h.len]
 gq j q' w k1 k2:=by
  have hqn:qs.Nodup:=by have:=h.nd;simp only [gY] at this;exact this.2.2.2
  rw [dX] at k2
  by_cases hj:i=j
  .subst hj
   rw [h1] at k1;cases k1
   rw [if_pos rfl] at k2
   split at k2
   .cases k2;exact gq
   .cases k2
  .rw [if_neg hj] at k2
   refine (hf q' (h.q_in (aK k1)) λe=>hj ?_).trans (h.gq j q' w k1 k2)
   subst e
   obtain ⟨a1,a2⟩:=aM.1 h1
   obtain ⟨b1,b2⟩:=aM.1 k1
   exact (l4 hqn).1 (a2.trans b2.symm)
 nd:=h.nd
 rng q hq:=⟨(h.rng q hq).1,b8 (h.rng q hq).2 hn⟩
theorem HH.read (h:HH H lo a b V qs x):(kQ qs x.values).map (·.map (fH H))=x.values.map cL:=by
 apply gL
 intro i
 simp only [aN]
 by_cases hi:i<x.values.length
 .have hq:i<qs.length:=by rw [h.len];exact hi
  have e1:=aA hi
  have e2:=aA hq
  rw [rE e2 e1,e1]
  have:=h.gq i _ _ e2 e1
  simp [fH,this,cL,dLI]
 .rw [b5 (by rw [jF h.len];omega),b5 aD];rfl
theorem HH.deep (h:HH H lo a b V qs x):jT H (.agg [.own a x.graph.nodes.length,.own b x.graph.edges.length,.own V x.values.length])=x.d:=by
 have h1:∀ l:List (List D),(∀ c∈l,∀ y∈c,∀ i n,y≠D.own i n/\∀ p q r,y≠D.win i p q r)->l.map (·.map (fH H))=l:=λl hl=>by
  conv=>rhs;rw [<- List.map_id l]
  refine b6 λc hc=>?_
  conv=>rhs;rw [id,<- List.map_id c]
  refine b6 λy hy=>?_
  cases y<;>first|rfl|(exfalso;first|exact (hl c hc _ hy _ _).1 rfl|exact (hl c hc _ hy _ 0).2 _ _ _ rfl)
 simp only [jT,o9,g6,jD,h.ga,h.gb,h.gV,aW,jF h.len,if_true,h.read]
 rw [h1 (x.graph.nodes.map cI) (λc hc y hy i n=>by
  rw [bA] at hc;obtain ⟨z,_,rfl⟩:=hc
  simp [cI] at hy;subst hy;simp),h1 (x.graph.edges.map Edge.c) (λc hc y hy i n=>by
  rw [bA] at hc;obtain ⟨z,_,rfl⟩:=hc
  simp [Edge.c,dI] at hy;rcases hy with rfl|rfl|rfl<;>simp)]
 rfl
theorem Mt {l:List (List D)}(hl:∀ c∈l,∀ y∈c,kV y=[]):l.flatten.flatMap kV=[]:=by
 rw [nQ]
 intro i hi
 rw [bS] at hi
 obtain ⟨y,hy,hi⟩:=hi
 rw [jC] at hy
 obtain ⟨c,hc,hy⟩:=hy
 rw [hl c hc y hy] at hi;cases hi
theorem HH.ids (h:HH H lo a b V qs x)(n m k:Nat)(e:Int):∀ i∈Ah H (.tup [.agg [.own a n,.own b m,.own V k],dI e]),i∈a :: b :: V :: qs:=by
 intro i hi
 have e1:(x.graph.nodes.map cI).flatten.flatMap kV=[]:=Mt λc hc y hy=>by
  rw [bA] at hc;obtain ⟨z,_,rfl⟩:=hc
  simp [cI] at hy;subst hy;rfl
 have e2:(x.graph.edges.map Edge.c).flatten.flatMap kV=[]:=Mt λc hc y hy=>by
  rw [bA] at hc;obtain ⟨z,_,rfl⟩:=hc
  simp [Edge.c,dI] at hy;rcases hy with rfl|rfl|rfl<;>rfl
 simp only [Ah,Gh,Ki,wT,HV,h.ga,h.gb,h.gV,e1,e2,dI,kV,dG,aV,aU,fU,or_false] at hi
 rcases hi with rfl|rfl|rfl|hi
 .exact h.a_in
 .exact h.b_in
 .exact h.V_in
 .rw [bS] at hi
  obtain ⟨y,hy,hi⟩:=hi
  rw [jC] at hy
  obtain ⟨c,hc,hy⟩:=hy
  simp only [kQ] at hc
  obtain ⟨j,hj,rfl⟩:=aO hc
  rw [List.getElem_zipWith,bK] at hy
  subst hy
  simp only [kV,bK] at hi
  subst hi
  exact h.q_in (aC _)
end
theorem Nf (h:Host):D.clL h.c=true:=by simp [Host.c,D.clL,D.cl,oV,uU];exact dL _ (λv=>by simp [cL,D.clL,oV]) _
@[go_sem] theorem Host.cld (h:Host):h.d.cl=true:=by simp [Host.d,D.cl,Nf]
/-! ### Extract -/
def UW (t:Types)(h:Host)(p:Part):Int:=if iF t h≠0 then iF t h else subF h.graph p
def Sz (t:Types)(h:Host)(p:Part):Host:=if UW t h p=0 then ⟨cY h.graph p,p.nodes.map λk=>h.values[k.toNat]?.getD []⟩ else ⟨⟨[],[]⟩,[]⟩
theorem Hw (t:Types)(ht:t.ok)(h:Host)(p:Part)(hl:p.nodes.length<=1000000)(hle:p.edges.length<=1000000):Pure Tryz.prog 153 [t.d,h.d,p.d] (.tup [(Sz t h p).d,dI (UW t h p)]):=by
 refine Tz.pK ⟨λt=>t==6||t==10||t==11||t==13||t==48,λr=>match r with|11=>[(0,2),(1,2),(2,3),(2,4),(2,5),(2,6),(2,8),(2,9),(2,10),(2,11),(0,12),(1,12),(0,13),(1,13)]|_=>[]⟩ Tryz.func153 rfl (λQ hQ=>?_)
 have Y:=wa @Host.d.eq_1 @Host.c.eq_1
 refine wv (h:=aB (xO t ht h) wl ?_)
 refine dP (λh2=>?_) λh2=>?_
 .have hE:UW t h p=(nZ t h).2:=by unfold UW;rw [if_pos (by unfold iF;omega)];rfl
  have hX:Sz t h p=⟨⟨[],[]⟩,[]⟩:=by unfold Sz;rw [if_neg aD]
  exact wv (h:=hQ _ _ (by simp [go_sem,hE,hX,dLI]))
 .have h0:iF t h=0:=by unfold iF;omega
  have hE:UW t h p=subF h.graph p:=by unfold UW;rw [if_neg aD]
  have ho:=r4 h0
  have hrow:=ho.row
  have hgl:=bR ho.gg
  have hvl:=ho.vl
  refine wv (h:=aB (Aa h.graph p hl hle) wl ?_)
  refine dP (λh5=>?_) λh5=>?_
  .have hX:Sz t h p=⟨⟨[],[]⟩,[]⟩:=by unfold Sz;rw [if_neg aD]
   exact wv (h:=hQ _ _ (by simp [go_sem,hE,hX,dLI]))
  .have h5':subF h.graph p=0:=aD
   obtain ⟨hs1,hs2,hs3,hs4⟩:=yW h5'
   have hP:Ae h.graph p=p:=by unfold Ae;rw [if_pos h5']
   have hX:Sz t h p=⟨cY h.graph p,p.nodes.map λk=>h.values[k.toNat]?.getD []⟩:=by unfold Sz;rw [if_pos aD]
   have Y:=wa Y (wa hP (wa @Part.d.eq_1 (wa @Part.c.eq_1 (wa @Graph.d.eq_1 @Graph.c.eq_1))))
   refine wv (h:=tN (Ghosts.step (Ghosts.refl _) 3 0 2 26 1 _ _ ((by simp [go_sem];rfl)) rfl rfl rfl) (λi e H=>∃ vs:List (List Int),(e 3=.adr t.c/\e 4=.adr h.c/\e 5=.adr p.c/\e 6=.ptr 0 1 0 0/\e 10=.ptr 1 1 0 0/\e 11=.ptr 2 1 0 0/\e 13=.ptr 3 1 0 0/\e 14=dI i)/\(H.get 0=some ⟨44,3,[[.nil,.nil,.nil]],false⟩)/\(0<H.next)/\(H.get 1=some ⟨29,2,[(cY h.graph p).c],false⟩)/\(1<H.next)/\(H.get 2=some ⟨36,2,[p.c],false⟩)/\(2<H.next)/\(H.get 3=some ⟨44,3,[[dLI (cY h.graph p).nodes,.list ((cY h.graph p).edges.map Edge.c),.own 4 vs.length]],false⟩)/\(3<H.next)/\(H.get 4=some ⟨26,1,vs.map cL,false⟩)/\(4<H.next)/\(i<=p.nodes.length)/\(vs=(p.nodes.take i).map λk=>h.values[k.toNat]?.getD [])/\(vs.length=i)) (λi=>p.nodes.length - i) 0 ⟨([]),wg,wn,wn,wn,wn,wn,wn,wn,wn,wn,wn,wi,(by rfl),(by rfl)⟩ λI0 hI0 i e H hi0=>?_)
   obtain ⟨vs,E0,g0_0,n0_0,g1_0,n1_0,g2_0,n2_0,g3_0,n3_0,g4_0,n4_0,hi,hvs,hvl2⟩:=hi0
   have Y:=wa Y (wa E0 (wa g0_0 (wa (cD n0_0) (wa g1_0 (wa (cD n1_0) (wa g2_0 (wa (cD n2_0) (wa g3_0 (wa (cD n3_0) (wa g4_0 (cD n4_0)))))))))))
   refine sG (λh9=>?_) λh9=>?_
   .have hk:=hs3 _ (aC h9)
    have hkv:p.nodes[i].toNat<h.values.length:=aD
    have hr8:=(hrow _ (aC hkv)).1
    have Y:=wa Y (wa h9 (wa (aA h9) (wa (aA hkv) @cL.eq_1)))
    exact wp (h:=wx hI0 (i+1) ⟨(vs++[h.values[p.nodes[i].toNat]]),wg,wn,wn,wn,wn,wn,wn,wn,wn,wn,wn,wj,(by rw [kH _ h9,<- hvs,aA hkv];rfl),(by simp;omega)⟩)
   .have hVS:vs=p.nodes.map λk=>h.values[k.toNat]?.getD []:=by rw [hvs,lK _ aD]
    exact wv (h:=hQ _ _ (by simp [go_sem,Y,hE,hX,h5',hVS,cL]))
theorem Hx (h:Host)(hn:h.graph.nodes.length<=100000)(he:h.graph.edges.length<=100000)(hv:h.values.length<=100000)(hr:∀ v∈h.values,v.length<=100000)(G:AHeap)(Q:D->AHeap->Prop)
  (hQ:∀ a b V qs H',HH H' G.next a b V qs h->(∀ j,j<G.next->H'.get j=G.get j)->G.next<=H'.next->Q (.agg [.own a h.graph.nodes.length,.own b h.graph.edges.length,.own V h.values.length]) H'):ACalls Tryz.prog 65 [h.d] G Q:=by
 refine (aI (cfg:=⟨λt=>t==2||t==3||t==18||t==1000001,λr=>match r with|5=>[(0,2),(1,2),(2,3),(2,4),(2,6),(2,7),(0,8),(1,8),(0,9),(1,9)]|_=>[]⟩) Tz.mixed Tryz.func65 rfl rfl (aF rfl) (by kernel_rfl) ?_)
 have Y:=wa @Host.d.eq_1 @Host.c.eq_1
 refine wv (h:=?_)
 unfold fM;refine tI h.graph aD aD _ _ (λa b H1 ha hb hab han hbn hga hgb hfr hnn=>?_)
 simp [go_sem] at ha hb hnn
 have hgR:=hfr G.next (by simp [go_sem])
 simp [go_sem] at hgR
 have hfr1:∀ j,j<G.next->H1.get j=G.get j:=λj hj=>by
  rw [hfr j (by simp [go_sem];omega)];simp [go_sem,(aD:j≠G.next)]
 have nx:=W6 H1.next
 have fr1:=And.intro (cD (aD:a<H1.next)) (And.intro (cD (aD:b<H1.next)) (cD (aD:G.next<H1.next)))
 have di2:=And.intro (dH (aD:G.next≠b)) (And.intro (dH (aD:G.next≠a)) (dH (aD:b≠a)))
 have Y:=wa Y (wa fr1 (wa di2 (wa hga (wa hgb (wa hgR nx)))))
 refine wv (h:=tN (Ghosts.step (Ghosts.refl _) H1.next 0 2 26 1 _ _ ((by simp [go_sem];rfl)) rfl rfl rfl) (λi e H=>∃ R:Nat,∃ c:Nat,∃ V:Nat,∃ qs:List Nat,(e 1=.adr h.c/\e 2=.ptr R 1 0 0/\e 3=.ptr c 1 0 0/\e 4=dI i)/\(H.get R=some ⟨44,3,[[.nil,.nil,.nil]],false⟩)/\(R<H.next)/\(H.get c=some ⟨44,3,[[.own a h.graph.nodes.length,.own b h.graph.edges.length,.own V i]],false⟩)/\(c<H.next)/\(H.get V=some ⟨26,1,kQ qs (h.values.take i),false⟩)/\(V<H.next)/\(i<=h.values.length)/\(HH H (G.next+1) a b V qs ⟨h.graph,h.values.take i⟩)/\((a<c/\b<c/\c<V/\V<H.next/\R<a/\R<b/\R<c/\G.next<=R))/\(∀ q∈qs,V<q)/\(∀ j,j<G.next->H.get j=G.get j)/\(G.next<=H.next)) (λi=>h.values.length - i) 0 ⟨G.next,H1.next,(H1.next+1),([]),wg,wn,wn,wn,wn,(by simp [go_sem,Y,kQ]),wn,wi,(by refine ⟨by simp [go_sem,Y],by simp [go_sem,Y],by simp [go_sem,kQ],rfl,by simp,by simp;omega,by simp [go_sem];omega⟩),(by simp [go_sem];omega),(by intro q hq;cases hq),(by intro j hj;simp [go_sem,(aD:j≠H1.next),(aD:j≠H1.next+1)];exact hfr1 j hj),(by simp [go_sem];omega)⟩ λI0 hI0 i e H hi0=>?_)
 obtain ⟨R,c,V,qs,E0,gR_0,nR_0,gc_0,nc_0,gV_0,nV_0,hi,hh,hc,hq,hG,hnx⟩:=hi0
 have di3:=And.intro (dH (aD:R≠V)) (And.intro (dH (aD:R≠c)) (And.intro (dH (aD:R≠b)) (And.intro (dH (aD:R≠a)) (And.intro (dH (aD:V≠c)) (And.intro (dH (aD:V≠b)) (And.intro (dH (aD:V≠a)) (And.intro (dH (aD:c≠b)) (And.intro (dH (aD:c≠a)) (dH (aD:b≠a))))))))))
 have Y:=wa Y (wa @Host.c.eq_1 (wa E0 (wa gR_0 (wa (cD nR_0) (wa gc_0 (wa (cD nc_0) (wa gV_0 (wa (cD nV_0) di3))))))))
 refine sG (λh3=>?_) λh3=>?_
 .have hr8:=hr _ (aC h3)
  have hfrm:∀ j∈a :: b :: qs,j≠V/\j≠c/\j<H.next:=λj hj=>by
   simp only [aU] at hj
   rcases hj with rfl|rfl|hj
   .exact ⟨aD,aD,(hh.rng _ hh.a_in).2⟩
   .exact ⟨aD,aD,(hh.rng _ hh.b_in).2⟩
   .have:=hq j hj;exact ⟨aD,aD,(hh.rng _ (hh.q_in hj)).2⟩
  have hrl:(kQ qs (h.values.take i)).length=i:=by rw [jF hh.len];simp;omega
  have Y:=wa Y (wa h3 (wa (aA h3) (wa @cL.eq_1 hrl)))
  exact wp (h:=wx hI0 (i+1) ⟨R,c,V,(qs++[H.next+2]),wg,wn,wn,wn,wn,(by rw [aE h3,vM hh.len];simp [go_sem,Y,cL]),wn,wj,(by rw [aE h3];exact hh.rowAdd (by first|(simp [go_sem];done)|(simp [go_sem];omega)) aD (λj hj=>by have:=(hh.rng j hj).2;omega) (by simp [go_sem]) (by simp [go_sem,Y]) (by simp [go_sem,Y,cL]) (λj hj=>by obtain ⟨k1,k2,k3⟩:=hfrm j hj;simp [go_sem,k1,k2,cD k3])),(by simp [go_sem];omega),(by intro q hq';rw [aV,bK] at hq';rcases hq' with h1|rfl;exact hq q h1;omega),(by intro j hj;simp [go_sem,(aD:j≠H.next+2),(aD:j≠V),(aD:j≠c)];exact hG j hj),(by simp [go_sem];omega)⟩)
 .rw [aH aD] at hh
  have hie:i=h.values.length:=aD
  have hRj:∀ j∈a :: b :: V :: qs,j≠R:=λj hj=>by
   simp only [aU] at hj
   rcases hj with rfl|rfl|rfl|hj
   .omega
   .omega
   .omega
   .have:=hq j hj;omega
  refine wv (h:=?_)
  rw [hie];exact hQ a b V qs _ ((hh.lower aD).same (by simp [go_sem]) (λj hj=>by simp [go_sem,hRj j hj])) (λj hj=>by simp [go_sem,(aD:j≠R)];exact hG j hj) (by simp [go_sem];omega)
/-! ### exact numbers -/
def Ft (l l1:List Nat)(j:Nat):Nat:=if j∈l then l1[l.idxOf j]?.getD 0 else j
theorem Bl {l l1:List Nat}(hn:l.Nodup){i j j1:Nat}(h:l[i]?=some j)(h1:l1[i]?=some j1):Ft l l1 j=j1:=by
 obtain ⟨hi,he⟩:=aM.1 h
 unfold Ft
 rw [if_pos (he ▸ aC hi)]
 have:l.idxOf j=i:=by rw [<- he];exact hn.idxOf_getElem i hi
 rw [this,h1];rfl
theorem xI {l l1:List Nat}{j:Nat}(h:j∉l):Ft l l1 j=j:=by unfold Ft;rw [if_neg h]
theorem x8 {τ:Nat->Nat}{l:List (List D)}(hl:∀ c∈l,∀ y∈c,Av τ y=y):l.map (·.map (Av τ))=l:=by
 conv=>rhs;rw [<- List.map_id l]
 refine b6 λc hc=>?_
 conv=>rhs;rw [id,<- List.map_id c]
 exact b6 λy hy=>hl c hc y hy
theorem HH.exact {H H1 E:AHeap}{lo lo1 a b V a1 b1 V1:Nat}{qs qs1:List Nat}{x:Host}(hE:HH E lo a b V qs x)(h1:HH H1 lo1 a1 b1 V1 qs1 x)
  (hnx:∀ j,H.al j->j<H.next) (hnon:∀ j,¬ H.al j->H.get j=none) (Gk:H.next<=E.next)
  (hal:∀ j,E.al j↔H.al j\/j∈a :: b :: V :: qs) (hf1:∀ j,H.al j->j∉a :: b :: V :: qs->H1.get j=H.get j) (hfE:∀ j,j∉a :: b :: V :: qs->E.get j=H.get j)
  (hold:∀ (i j j1:Nat),(a :: b :: V :: qs)[i]?=some j->(a1 :: b1 :: V1 :: qs1)[i]?=some j1->(H.al j->j1=j)/\(¬ H.al j->¬ H.al j1)) :
  ∃ τ,Exact H H1 E τ/\.agg [.own a1 x.graph.nodes.length,.own b1 x.graph.edges.length,.own V1 x.values.length]=Rq τ (.agg [.own a x.graph.nodes.length,.own b x.graph.edges.length,.own V x.values.length])/\Yi E.al (.agg [.own a x.graph.nodes.length,.own b x.graph.edges.length,.own V x.values.length]):=by
 obtain ⟨l,hl⟩:=cF (a :: b :: V :: qs)
 obtain ⟨l1,hl1⟩:=cF (a1 :: b1 :: V1 :: qs1)
 have hnd:=hE.nd
 have hnd1:=h1.nd
 have hin:=hE.rng
 rw [<- hl] at hal hf1 hfE hold hnd hin
 rw [<- hl1] at hold hnd1
 have hlen:l1.length=l.length:=by rw [hl,hl1];simp [h1.len,hE.len]
 have hpos:∀ j∈l,∃ i j1,l[i]?=some j/\l1[i]?=some j1/\Ft l l1 j=j1:=λj hj=>by
  obtain ⟨i,hi,he⟩:=aO hj
  have e1:l[i]?=some j:=by rw [aA hi,he]
  have e2:=aA (aD:i<l1.length)
  exact ⟨i,_,e1,e2,Bl hnd e1 e2⟩
 have ra:Ft l l1 a=a1:=Bl hnd (i:=0) (by rw [hl];rfl) (by rw [hl1];rfl)
 have rb:Ft l l1 b=b1:=Bl hnd (i:=1) (by rw [hl];rfl) (by rw [hl1];rfl)
 have rV:Ft l l1 V=V1:=Bl hnd (i:=2) (by rw [hl];rfl) (by rw [hl1];rfl)
 have rq:∀ i q q1,qs[i]?=some q->qs1[i]?=some q1->Ft l l1 q=q1:=λi q q1 e e1=>Bl hnd (i:=i+3) (by rw [hl];exact e) (by rw [hl1];exact e1)
 have cI_ren:∀ (v:List Int),(v.map cI).map (·.map (Av (Ft l l1)))=v.map cI:=λv=>x8 λc hc y hy=>by
  rw [bA] at hc;obtain ⟨z,_,rfl⟩:=hc
  simp [cI] at hy;subst hy;rfl
 have cI_ok:∀ (v:List Int),∀ c∈v.map cI,∀ y∈c,VJ E.al y:=λv c hc y hy=>by
  rw [bA] at hc;obtain ⟨z,_,rfl⟩:=hc
  simp [cI] at hy;subst hy;rfl
 refine ⟨Ft l l1,⟨λj hj=>?_,λi j hi hj he=>?_,λj hj=>⟨(hal j).2 (.inl hj),?_⟩,λj hj=>?_,λj k hk=>?_⟩,?_,?_⟩
 .rcases (hal j).1 hj with h|h
  .exact b8 (hnx j h) Gk
  .exact (hin j h).2
 .by_cases hi2:i∈l<;>by_cases hj2:j∈l
  .obtain ⟨p,i1,e1,e2,e3⟩:=hpos i hi2
   obtain ⟨p',j1,f1,f2,f3⟩:=hpos j hj2
   rw [e3,f3] at he
   subst he
   obtain ⟨u1,u2⟩:=aM.1 e2
   obtain ⟨v1,v2⟩:=aM.1 f2
   have:p=p':=(l4 hnd1).1 (u2.trans v2.symm)
   subst this
   rw [e1] at f1;cases f1;rfl
  .obtain ⟨p,i1,e1,e2,e3⟩:=hpos i hi2
   rw [e3,xI hj2] at he
   subst he
   have hjA:H.al i1:=(((hal i1).1 hj).resolve_right hj2)
   by_cases hiA:H.al i
   .exact ((hold p i i1 e1 e2).1 hiA).symm
   .exact absurd hjA ((hold p i i1 e1 e2).2 hiA)
  .obtain ⟨p,j1,e1,e2,e3⟩:=hpos j hj2
   rw [e3,xI hi2] at he
   subst he
   have hiA:H.al i:=(((hal i).1 hi).resolve_right hi2)
   by_cases hjA:H.al j
   .exact (hold p j i e1 e2).1 hjA
   .exact absurd hiA ((hold p j i e1 e2).2 hjA)
  .rwa [xI hi2,xI hj2] at he
 .by_cases hj2:j∈l
  .obtain ⟨p,j1,e1,e2,e3⟩:=hpos j hj2
   rw [e3];exact (hold p j j1 e1 e2).1 hj
  .exact xI hj2
 .have h2:¬ H.al j/\j∉l:=⟨λh=>hj ((hal j).2 (.inl h)),λh=>hj ((hal j).2 (.inr h))⟩
  rw [hfE j h2.2];exact hnon j h2.1
 .by_cases hj2:j∈l
  .right
   have hj3:=hj2
   rw [hl,aU,aU,aU] at hj3
   rcases hj3 with rfl|rfl|rfl|hq
   .rw [hE.ga] at hk;cases hk
    rw [ra]
    exact ⟨_,h1.ga,rfl,rfl,rfl,(cI_ren _).symm,cI_ok _⟩
   .rw [hE.gb] at hk;cases hk
    rw [rb]
    refine ⟨_,h1.gb,rfl,rfl,rfl,(x8 λc hc y hy=>?_).symm,λc hc y hy=>?_⟩
    .rw [bA] at hc;obtain ⟨z,_,rfl⟩:=hc
     simp [Edge.c,dI] at hy;rcases hy with rfl|rfl|rfl<;>rfl
    .rw [bA] at hc;obtain ⟨z,_,rfl⟩:=hc
     simp [Edge.c,dI] at hy;rcases hy with rfl|rfl|rfl<;>rfl
   .rw [hE.gV] at hk;cases hk
    rw [rV]
    refine ⟨_,h1.gV,rfl,rfl,rfl,?_,λc hc y hy=>?_⟩
    .apply gL
     intro i
     simp only [aN]
     by_cases hi:i<x.values.length
     .have e0:=aA hi
      have e1:=aA (show i<qs.length by rw [hE.len];exact hi)
      have e2:=aA (show i<qs1.length by rw [h1.len];exact hi)
      rw [rE e1 e0,rE e2 e0]
      simp [Av,rq i _ _ e1 e2]
     .rw [b5 (by rw [jF h1.len];omega),b5 (by rw [jF hE.len];omega)];rfl
    .simp only [kQ] at hc
     obtain ⟨i,hi,rfl⟩:=aO hc
     rw [List.getElem_zipWith,bK] at hy
     subst hy
     show E.al _
     exact (hal _).2 (.inr (by rw [hl];exact dD _ (dD _ (dD _ (aC _)))))
   .obtain ⟨i,hi,rfl⟩:=aO hq
    have e1:=aA hi
    have hiv:i<x.values.length:=by rw [<- hE.len];exact hi
    have e0:=aA hiv
    have e2:=aA (show i<qs1.length by rw [h1.len];exact hiv)
    rw [hE.gq i _ _ e1 e0] at hk;cases hk
    rw [rq i _ _ e1 e2]
    exact ⟨_,h1.gq i _ _ e2 e0,rfl,rfl,rfl,(cI_ren _).symm,cI_ok _⟩
  .left
   have hg:=hfE j hj2
   rw [hk] at hg
   have hA:H.al j:=bB λhn=>by rw [hnon j hn] at hg;cases hg
   exact ⟨hA,hg.symm,(hf1 j hA hj2).trans hg.symm⟩
 .simp [Rq,Av,ra,rb,rV]
 .intro c hc
  simp only [aU,fU,or_false] at hc
  rcases hc with rfl|rfl|rfl
  .exact (hal _).2 (.inr (by rw [hl];simp))
  .exact (hal _).2 (.inr (by rw [hl];simp))
  .exact (hal _).2 (.inr (by rw [hl];simp))
theorem uG {j:Nat}{k:Blk}:∀ (q:List (Nat × Blk)) (H:AHeap),(q.map (·.1)).Nodup->(j,k)∈q->(H.pushs q).get j=some k
 | p :: q,H,hn,hm=>by
  rw [g6,gY] at hn
  rw [aU] at hm
  simp only [AHeap.pushs]
  rcases hm with rfl|hm
  .rw [nX q _ _ hn.1];simp [AHeap.push]
  .exact uG q _ hn.2 hm
def P3 (qs:List Nat)(vs:List (List Int)):List (Nat × Blk):=List.zipWith (λq (v:List Int)=>(q,(⟨3,1,v.map cI,false⟩:Blk))) qs vs
theorem Fp {qs:List Nat}{vs:List (List Int)}(h:qs.length=vs.length):(P3 qs vs).map (·.1)=qs:=by
 unfold P3
 rw [List.map_zipWith]
 apply fV (by simp [h])
 intro i h1 h2;simp
theorem Lm {qs:List Nat}{vs:List (List Int)}{i q:Nat}{v:List Int}(h1:qs[i]?=some q)(h2:vs[i]?=some v):(q,(⟨3,1,v.map cI,false⟩:Blk))∈P3 qs vs :=
 aK (i:=i) (by simp [P3,List.getElem?_zipWith,h1,h2])
def HJ (a b V:Nat)(qs:List Nat)(h:Host):List (Nat × Blk):=(a,⟨3,1,h.graph.nodes.map cI,false⟩) :: (b,⟨122,3,h.graph.edges.map Edge.c,false⟩) :: (V,⟨26,1,kQ qs h.values,false⟩) :: P3 qs h.values
theorem ML {a b V:Nat}{qs:List Nat}{h:Host}(hl:qs.length=h.values.length):(HJ a b V qs h).map (·.1)=a :: b :: V :: qs:=by simp [HJ,Fp hl]
theorem Py {H:AHeap}{a b V:Nat}{qs:List Nat}{h:Host}(hl:qs.length=h.values.length)(hnd:(a :: b :: V :: qs).Nodup)(hlt:∀ j∈a :: b :: V :: qs,j<H.next):HH (H.pushs (HJ a b V qs h)) 0 a b V qs h:=by
 have hids:=ML (a:=a) (b:=b) (V:=V) hl
 have hn:((HJ a b V qs h).map (·.1)).Nodup:=by rw [hids];exact hnd
 have hnx:(H.pushs (HJ a b V qs h)).next=H.next:=pG _ _ λp hp=>hlt p.1 (by rw [<- hids];exact n8 hp)
 refine ⟨uG _ _ hn (by simp [HJ]),uG _ _ hn (by simp [HJ]),uG _ _ hn (by simp [HJ]),hl,λi q v h1 h2=>uG _ _ hn ?_,hnd,λq hq=>⟨dY _,by rw [hnx];exact hlt q hq⟩⟩
 exact dD _ (dD _ (dD _ (Lm h1 h2)))
theorem HI {md:Nat->Bool}{ops:Array Oper}{sp:List (Nat × Nat)}{n0 i:Nat}{rest:List Oper}{acc:List (Nat × List Nat)}{e:dM}{dst:Option Tmp}{K:dM->AHeap->Prop}{H:AHeap}
  (h:Host) (hn:h.graph.nodes.length<=100000) (he:h.graph.edges.length<=100000) (hv:h.values.length<=100000) (hr:∀ v∈h.values,v.length<=100000)
  (a b V:Nat) (qs:List Nat) (hl:qs.length=h.values.length) (hnd:(a :: b :: V :: qs).Nodup) (hn0:n0<=H.next) (hfr:∀ j∈a :: b :: V :: qs,j<n0/\¬ H.al j) (hmd:CN md dst=true) (hc:G4 sp i (a :: b :: V :: qs) acc)
  (hK:∀ E,HH E 0 a b V qs h->(∀ j,j∉a :: b :: V :: qs->E.get j=H.get j)->(∀ j,E.al j↔H.al j\/j∈a :: b :: V :: qs)->E.next=H.next ->
   jX Tryz.prog md ops sp n0 (i+1) rest ((i,a :: b :: V :: qs) :: acc) (oD e dst (.agg [.own a h.graph.nodes.length,.own b h.graph.edges.length,.own V h.values.length])) E K) :
  pN Tryz.prog md ops sp n0 i rest acc e dst K 65 [h.d] H:=by
 have hids:=ML (a:=a) (b:=b) (V:=V) hl
 unfold pN
 refine Or.inr ⟨hmd,.agg [.own a h.graph.nodes.length,.own b h.graph.edges.length,.own V h.values.length],[],[],HJ a b V qs h,λp hp=>absurd hp (fU),λp hp=>hfr p.1 (by rw [<- hids];exact n8 hp),λH' _ hfresh=>?_,?_,?_⟩
 .have hf':∀ j∈a :: b :: V :: qs,j<H'.next/\¬ H'.al j:=λj hj=>by
   rw [<- hids,bA] at hj
   obtain ⟨p,hp,rfl⟩:=hj
   exact hfresh p hp
  refine ACalls.exact (E:=H'.pushs (HJ a b V qs h)) (Hx h hn he hv hr H' (λd H1=>∃ a1 b1 V1 qs1,HH H1 H'.next a1 b1 V1 qs1 h/\(∀ j,j<H'.next->H1.get j=H'.get j)/\d=.agg [.own a1 h.graph.nodes.length,.own b1 h.graph.edges.length,.own V1 h.values.length]) (λa1 b1 V1 qs1 H1 h1 h2 _=>⟨a1,b1,V1,qs1,h1,h2,rfl⟩)) ?_
  rintro hnx hnon d H1 ⟨a1,b1,V1,qs1,h1,h2,rfl⟩
  refine HH.exact (Py hl hnd λj hj=>(hf' j hj).1) h1 hnx hnon ?_ (λj=>?_) (λj hj _=>h2 j (hnx j hj)) (λj hj=>nX _ _ _ (by rw [hids];exact hj)) (λi j j1 e e1=>⟨λhA=>absurd hA (hf' j (aK e)).2,λ_ hA=>?_⟩)
  .rw [pG _ _ λp hp=>(hfresh p hp).1];exact bC _
  .rw [rS,hids]
  .have:=(h1.rng j1 (aK e1)).1
   have:=hnx j1 hA
   omega
 .rw [hids];exact hc
 .rw [hids]
  refine hK _ (Py hl hnd λj hj=>b8 (hfr j hj).1 hn0) (λj hj=>nX _ _ _ (by rw [hids];exact hj)) (λj=>by rw [rS,hids];rfl) (pG _ _ λp hp=>b8 (hfr p.1 (by rw [<- hids];exact n8 hp)).1 hn0)
end Go.Abs
end
