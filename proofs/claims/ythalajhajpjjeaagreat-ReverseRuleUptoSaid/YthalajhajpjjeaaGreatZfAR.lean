/- The search of the program: within, valid, below, shape, Chec -/
import Derived.Test.YthalajhajpjjeaaGreatZfAF
import Derived.Test.YthalajhajpjjeaaGreatZfAA
import Derived.Test.YthalajhajpjjeaaGreatZfAQ
import Derived.RangeFuncBox
import Derived.RangeFuncLeaves
import Derived.Shelf.Abstract
import Derived.WalkKit
import Derived.OwnWalkIn
import Derived.TacticsInMore
import Derived.LoopNIn
import Derived.LoopIn
import Derived.Maps.AppendAt
set_option linter.unusedVariables false
set_option linter.unusedSimpArgs false
section
set_option maxRecDepth 100000
set_option maxHeartbeats 4000000
open Go Go.Proofs
namespace Go.Abs
theorem Fh (t:Types)(a:Int):Pure Tryz.prog 384 [dI a,.adr t.c] (.bool (decide ((t.nodes.length:Int)<=a))):=by
 refine Tz.pK ⟨λ_=>false,λ_=>[]⟩ Tryz.func384 rfl (λQ hQ=>?_)
 have Y:=trivial
 exact wo (h:=hQ _ _ wy)
theorem Fg (t:Types)(x:Edge):Pure Tryz.prog 385 [.agg x.c,.adr t.c] (.bool (decide ((t.edges.length:Int)<=x.type))):=by
 refine Tz.pK ⟨λ_=>false,λ_=>[]⟩ Tryz.func385 rfl (λQ hQ=>?_)
 have Y:=trivial
 exact wo (h:=hQ _ _ wy)
theorem zW (t:Types)(g:Graph):Pure Tryz.prog 326 [t.d,g.d] (.bool (g7 t g)):=by
 refine Tz.pK ⟨λ_=>false,λ_=>[]⟩ Tryz.func326 rfl (λQ hQ=>?_)
 have Y:=trivial
 refine wo (h:=aB (gC g.nodes 384 [.adr t.c] (λa=>decide ((t.nodes.length:Int)<=a)) (by simp [go_sem]) (by simp [go_sem]) (λa _=>Fh t a)) wl ?_)
 refine wo (h:=aG (λhg=>lM g.edges 385 [.adr t.c] (λx=>decide ((t.edges.length:Int)<=x.type)) (by simp [go_sem]) (by simp [go_sem]) (λx _=>Fg t x)) (λhg=>wl) ?_)
 exact wo (h:=hQ _ _ (by simp [go_sem,g7];rw [aT];simp))
theorem H7 (t:Types){g:Graph}(hg:graphF g=0):g7 t g=lZ t g:=by
 have hi:=eL hg
 have h1:(g.nodes.any λn=>decide ((t.nodes.length:Int)<=n))=g.nodes.any λa=>!insideF t a:=by
  rw [aT,aX,aX]
  constructor<;>rintro ⟨a,ha,h⟩<;>refine ⟨a,ha,?_⟩<;>have:=hi.1 a ha<;>simp [insideF] at h ⊢<;>omega
 have h2:(g.edges.any λx=>decide ((t.edges.length:Int)<=x.type))=g.edges.any λx=>!n4 t x:=by
  rw [aT,aX,aX]
  constructor<;>rintro ⟨a,ha,h⟩<;>refine ⟨a,ha,?_⟩<;>have:=(hi.2 a ha).1<;>simp [n4] at h ⊢<;>omega
 unfold g7 lZ
 rw [h1,h2]
def UR (p g:Graph)(i:Nat):Int:=if i=0 then graphF p else graphF g
theorem UQ (p g:Graph):bT (UR p g) 0 2=if graphF p≠0 then graphF p else if graphF g≠0 then graphF g else 0:=by simp [bT,UR]
theorem vI (t:Types)(ht:t.ok)(p g:Graph):Pure Tryz.prog 232 [t.d,p.d,g.d] (dI (f5 t p g)):=by
 refine Tz.pK ⟨λt=>t==10,λ_=>[]⟩ Tryz.func232 rfl (λQ hQ=>?_)
 have Y:=trivial
 refine wv (h:=aB (l7 t ht) wl ?_)
 refine dP (λh2=>?_) λh2=>?_
 .have hA:f5 t p g=(cZ t).2:=by unfold f5;rw [if_pos (bW h2)]
  exact wv (h:=hQ _ _ (by simp [go_sem,hA]))
 .have hA:f5 t p g=if graphF p≠0 then graphF p else if graphF g≠0 then graphF g else if (!lZ t p||!lZ t g)=true then 13 else 0:=by unfold f5;rw [if_neg (bW h2)]
  refine wo (h:=bF (λi e H=>(e 3=.adr t.c/\e 4=.adr p.c/\e 5=.adr g.c/\e 22=.list [p.c,g.c]/\e 23=dI 2/\e 24=dI i)/\(i<=2)/\(bT (UR p g) i (2 - i)=bT (UR p g) 0 2)) (λi=>2 - i) 0 ⟨wg,wi,(by rfl)⟩ λI0 hI0 i e H hi0=>?_)
  obtain ⟨E0,hi,hF⟩:=hi0
  have Y:=wa Y E0
  refine dP (λh5=>?_) λh5=>?_
  .have hi2:i<2:=aD
   have hst:=eZ (UR p g) hi2
   rw [hF] at hst
   obtain ⟨x,hx,hgx⟩:∃ x:Graph,[[D.list (p.nodes.map cI),D.list (p.edges.map Edge.c)],[D.list (g.nodes.map cI),D.list (g.edges.map Edge.c)]][i]?=some [D.list (x.nodes.map cI),D.list (x.edges.map Edge.c)]/\UR p g i=graphF x:=by
    rcases bZ i 1 with h|h
    .obtain rfl:i=0:=aD
     exact ⟨p,rfl,rfl⟩
    .obtain rfl:i=1:=aD
     exact ⟨g,rfl,rfl⟩
   have hgr:=mC x
   have Y:=wa Y (wa h5 hx)
   refine wo (h:=aB (hgr) wl ?_)
   refine fA (λh8=>?_) λh8=>?_
   .have hR:f5 t p g=graphF x:=by
     rw [hgx,if_pos (bW h8),UQ] at hst
     rw [hA]
     by_cases h1:graphF p=0
     .rw [if_neg (by simp [h1])] at hst ⊢
      by_cases h2':graphF g=0
      .rw [if_neg (by simp [h2'])] at hst;exact absurd hst.symm h8
      .rw [if_pos h2'] at hst ⊢;exact hst
     .rw [if_pos h1] at hst ⊢;exact hst
    exact wv (h:=hQ _ _ (by simp [go_sem,hR]))
   .rw [hgx,if_neg (bW h8)] at hst
    exact wo (h:=wx hI0 (i+1) ⟨wg,wj,(by exact hst.symm)⟩)
  .have hz:bT (UR p g) 0 2=0:=by rw [<- hF,(aD:2 - i=0)];rfl
   have hp0:graphF p=0:=eY _ _ hz 0 aD aD
   have hg0:graphF g=0:=eY _ _ hz 1 aD aD
   rw [if_neg (bW hp0),if_neg (bW hg0),<- H7 t hp0,<- H7 t hg0] at hA
   refine wo (h:=aB (zW t p) wl ?_)
   refine wo (h:=aG (λhg=>zW t g) (λhg=>wl) ?_)
   refine fA (λh11=>?_) λh11=>?_
   .rw [if_pos (by simpa [oG] using h11)] at hA
    exact wv (h:=hQ _ _ (by simp [go_sem,hA]))
   .rw [if_neg (by simpa [oG] using h11)] at hA
    exact wv (h:=hQ _ _ (by simp [go_sem,hA]))
/-! ### below -/
def qT (n:Nat)(l:List Int):List Bool:=(List.range n).map λ(b:Nat)=>mem l (b:Int)
@[go_sem] theorem Qz (n:Nat)(l:List Int):(qT n l).length=n:=by simp [qT]
theorem Qy (n:Nat):qT n []=List.replicate n false:=by
 apply fV (by simp [qT]);intro i h1 h2;simp [qT,vT]
theorem N8 (n:Nat)(l:List Int)(x:Int)(h0:0<=x):qT n (l++[x])=(qT n l).set x.toNat true:=by
 apply fV (by simp [qT]);intro i h2 h3
 rw [zI]
 simp only [qT,oF,pA,uM]
 split
 .rename_i h;rw [c4];right;simp;omega
 .rename_i h;rw [show decide ((i:Int)=x)=false by simp;omega,qJ]
def JL (t:Types)(a:Nat):List Bool:=qT t.nodes.length (j4 t a)
def qQ (t:Types)(n:Nat):List (List D):=(List.range n).map λa=>[.list ((JL t a).map cB)]
def belowD (t:Types):D:=.list (qQ t t.nodes.length)
theorem NK (t:Types)(n:Nat):qQ t (n+1)=qQ t n++[[.list ((JL t n).map cB)]]:=by simp [qQ,dF]
@[go_sem] theorem VG (t:Types)(n:Nat):(qQ t n).length=n:=by simp [qQ]
@[go_sem] theorem Rp (t:Types)(n:Nat):D.clLL (qQ t n)=true:=by
 unfold qQ;exact dL (λa=>[.list ((JL t a).map cB)]) (λa=>by simp [D.clL,go_sem]) _
theorem QU {t:Types}{a:Int}{x:Int}(h:x∈j4 t a):0<=x/\x<t.nodes.length:=by
 unfold j4 at h
 split at h
 .simp at h;omega
 .cases h
theorem ON (t:Types)(a:Int):(j4 t a).length<=t.nodes.length:=by
 unfold j4
 split
 .rw [aW];exact fD (l6 _ _) bV
 .simp
@[go_sem] theorem VZ (t:Types):(belowD t).cl=true:=Rp t _
theorem Bc (t:Types)(ht:t.ok):Pure Tryz.prog 327 [t.d] (belowD t):=by
 have hfew:=ht.fewN
 refine Tz.pK ⟨λt=>t==3||t==5||t==19,λ_=>[]⟩ Tryz.func327 rfl (λQ hQ=>?_)
 have Y:=trivial
 refine wo (h:=bF (λi e H=>(e 1=.adr t.c/\e 11=.list (t.nodes.map NodeTy.c)/\e 12=dI t.nodes.length/\e 3=.own 0 i/\e 13=dI i)/\(H.get 0=some ⟨306,1,qQ t i,false⟩)/\(0<H.next)/\(i<=t.nodes.length)) (λi=>t.nodes.length - i) 0 ⟨wg,(by simp [go_sem,qQ]),wn,wi⟩ λI0 hI0 i e H hi0=>?_)
 obtain ⟨E0,g0_0,n0_0,hi⟩:=hi0
 have Y:=wa Y (wa E0 (wa g0_0 (cD n0_0)))
 refine dP (λh3=>?_) λh3=>?_
 .have hll:=ON t i
  have Y:=wa Y h3
  refine wo (h:=aB (K6 t ht i) wl ?_)
  refine wo (h:=bF (λk e H=>∃ q:Nat,(e 1=.adr t.c/\e 11=.list (t.nodes.map NodeTy.c)/\e 12=dI t.nodes.length/\e 3=.own 0 i/\e 13=dI i/\e 4=dI i/\e 5=.own q t.nodes.length/\e 26=dLI (j4 t i)/\e 27=dI (j4 t i).length/\e 28=dI k)/\(H.get 0=some ⟨306,1,qQ t i,false⟩)/\(0<H.next)/\(H.get q=some ⟨4,1,(qT t.nodes.length ((j4 t i).take k)).map cB,false⟩)/\(q<H.next)/\(k<=(j4 t i).length)/\(0<q)) (λk=>(j4 t i).length - k) 0 ⟨H.next,wg,wn,wn,(by simp [go_sem,Qy]),wn,wi,wi⟩ λI2 hI2 k e H hi2=>?_)
  obtain ⟨q,E2,g0_2,n0_2,gq_2,nq_2,hk,hq0⟩:=hi2
  have di1:=dH (aD:q≠0)
  have Y:=wa Y (wa E2 (wa g0_2 (wa (cD n0_2) (wa gq_2 (wa (cD nq_2) di1)))))
  refine dP (λh8=>?_) λh8=>?_
  .have hbx:=QU (aC h8)
   have hbl:(j4 t i)[k].toNat<(qT t.nodes.length ((j4 t i).take k)).length:=by rw [Qz];omega
   have hms:qT t.nodes.length ((j4 t i).take (k+1))=(qT t.nodes.length ((j4 t i).take k)).set (j4 t i)[k].toNat true:=by rw [aE h8,N8 _ _ _ hbx.1]
   have Y:=wa Y (wa h8 (wa (aA h8) (wa (aA hbl) (wa hbx.1 hbx.2))))
   exact wo (h:=wx hI2 (k+1) ⟨q,wg,wn,wn,(by simp [go_sem,Y,hms,bX,cB]),wn,wj,wj⟩)
  .have hke:(j4 t i).take k=j4 t i:=aH aD
   have Y:=wa Y hke
   exact wo (h:=wx hI0 (i+1) ⟨wg,(by simp [go_sem,Y,NK,JL]),wn,wj⟩)
 .exact wv (h:=hQ _ _ (by simp [go_sem,Y,belowD,(aD:i=t.nodes.length)]))
theorem Kl {t:Types}(hv:(cZ t).2=0){k:Int}(h:0<=k/\k<t.nodes.length):given2F t k k=0:=by
 unfold given2F;rw [if_neg (by rw [hv];simp),if_pos (by simp [insideF];omega)]
@[go_sem] theorem WF (t:Types)(a:Nat):(JL t a).length=t.nodes.length:=by simp [JL,qT]
theorem Ih {t:Types}{a:Int}(h:0<=a/\a<t.nodes.length):(qQ t t.nodes.length)[a.toNat]?=some [.list ((JL t a.toNat).map cB)]:=by
 unfold qQ
 rw [aN,n9 aD];rfl
theorem OM {t:Types}(hv:(cZ t).2=0){a b:Int}(ha:0<=a/\a<t.nodes.length)(hb:0<=b/\b<t.nodes.length):mem (j4 t a) b=v7 t a b:=by
 unfold j4 v7
 rw [if_pos (Kl hv ha),aT,mem_iff,bA]
 constructor
 .rintro ⟨k,hk,rfl⟩
  rw [gZ] at hk
  simpa using hk.2
 .intro h
  exact ⟨b.toNat,by rw [gZ];exact ⟨by simp;omega,h⟩,aD⟩
theorem Ln {t:Types}(hv:(cZ t).2=0){a b:Int}(ha:0<=a/\a<t.nodes.length)(hb:0<=b/\b<t.nodes.length):(JL t a.toNat)[b.toNat]?=some (v7 t a b):=by
 unfold JL qT
 rw [aN,n9 aD,dQ,Int.toNat_of_nonneg ha.1,Int.toNat_of_nonneg hb.1,OM hv ha hb]
theorem Bb (t:Types)(ht:t.ok)(p g:Graph)(hG:G17 t p g)(hv:(cZ t).2=0)(m:Part):Pure Tryz.prog 233 [t.d,p.d,g.d,m.d] (dI (iX t p g m false)):=by
 have hga:=bR hG.gp
 have hgb:=bR hG.gg
 have hia:=(eL hG.gp).2
 refine Tz.pK ⟨λt=>t==14||t==15,λr=>match r with|17=>[(0,10),(1,10),(3,10),(4,10),(5,10),(6,10),(8,10),(9,10),(0,11),(1,11),(3,11),(4,11),(5,11),(6,11),(8,11),(9,11),(10,11),(5,12),(6,12),(8,12),(9,12)]|_=>[]⟩ Tryz.func233 rfl (λQ hQ=>?_)
 have Y:=@belowD.eq_1
 refine fA (λh1=>?_) λh1=>?_
 .have hM:iX t p g m false=20:=by unfold iX;rw [if_pos aD]
  exact wv (h:=hQ _ _ (by simp [go_sem,hM]))
 .have hM:iX t p g m false=(if bT (IG t p g m) 0 p.nodes.length≠0 then bT (IG t p g m) 0 p.nodes.length else if bT (iE p g m) 0 p.edges.length≠0 then bT (iE p g m) 0 p.edges.length else if false=true/\(¬ m.nodes.Nodup\/¬ m.edges.Nodup) then 5 else 0):=by unfold iX;rw [if_neg aD]
  have hl1:m.nodes.length=p.nodes.length:=aD
  have hl2:m.edges.length=p.edges.length:=aD
  refine wv (h:=aB (Bc t ht) wl ?_)
  refine wo (h:=bF (λi e H=>(e 4=.adr t.c/\e 5=.adr p.c/\e 6=.adr g.c/\e 7=.adr m.c/\e 9=.list (qQ t t.nodes.length)/\e 35=dLI m.nodes/\e 36=dI m.nodes.length/\e 37=dI i)/\(i<=m.nodes.length)/\(bT (IG t p g m) i (p.nodes.length - i)=bT (IG t p g m) 0 p.nodes.length)) (λi=>m.nodes.length - i) 0 ⟨wg,wi,(by rfl)⟩ λI0 hI0 i e H hi0=>?_)
  obtain ⟨E0,hi,hF⟩:=hi0
  have Y:=wa Y E0
  refine dP (λh5=>?_) λh5=>?_
  .have hn:i<p.nodes.length:=aD
   have hst:=eZ (IG t p g m) hn
   rw [hF] at hst
   have hNE:IG t p g m i=(if m.nodes[i]<0\/(g.nodes.length:Int)<=m.nodes[i] then 6 else if v7 t p.nodes[i] (g.nodes[m.nodes[i].toNat]?.getD 0)=true then 0 else 13):=by simp only [IG,aA h5,aA hn,Option.getD_some]
   have hbp:=hG.tp _ (aC hn)
   have Y:=wa Y (wa h5 (wa (aA h5) (aA hn)))
   refine fA (λh7=>?_) λh7=>?_
   .rw [if_pos aD] at hNE
    rw [hNE,if_pos aD] at hst
    rw [hst,if_pos aD] at hM
    exact wv (h:=hQ _ _ (by simp [go_sem,hM]))
   .have hkb:m.nodes[i].toNat<g.nodes.length:=aD
    rw [if_neg aD,aA hkb,Option.getD_some] at hNE
    have hbg:=hG.tg _ (aC hkb)
    have hrw:=Ih hbp
    have hrb:=Ln hv hbp hbg
    have Y:=wa Y (wa (aA hkb) (wa hrw hrb))
    refine fA (λh9=>?_) λh9=>?_
    .rw [if_neg (bW h9)] at hNE
     rw [hNE,if_pos aD] at hst
     rw [hst,if_pos aD] at hM
     exact wv (h:=hQ _ _ (by simp [go_sem,hM]))
    .rw [if_pos (bW h9)] at hNE
     rw [hNE,if_neg aD] at hst
     exact wo (h:=wx hI0 (i+1) ⟨wg,wj,(by exact hst.symm)⟩)
  .have hN0:bT (IG t p g m) 0 p.nodes.length=0:=by rw [<- hF,(aD:p.nodes.length - i=0)];rfl
   rw [hN0,if_neg aD] at hM
   refine wo (h:=bF (λk e H=>(e 4=.adr t.c/\e 5=.adr p.c/\e 6=.adr g.c/\e 7=.adr m.c/\e 9=.list (qQ t t.nodes.length)/\e 69=dLI m.edges/\e 70=dI m.edges.length/\e 71=dI k)/\(k<=m.edges.length)/\(bT (iE p g m) k (p.edges.length - k)=bT (iE p g m) 0 p.edges.length)) (λk=>m.edges.length - k) 0 ⟨wg,wi,(by rfl)⟩ λI2 hI2 k e H hi2=>?_)
   obtain ⟨E2,hk,hE⟩:=hi2
   have Y:=wa Y E2
   refine dP (λh13=>?_) λh13=>?_
   .have hn:k<p.edges.length:=aD
    have hst:=eZ (iE p g m) hn
    rw [hE] at hst
    have hx:=hia _ (aC hn)
    have hxf:p.edges[k].from_.toNat<m.nodes.length:=aD
    have hxt:p.edges[k].to_.toNat<m.nodes.length:=aD
    have hEE:iE p g m k=(if m.edges[k]<0\/(g.edges.length:Int)<=m.edges[k] then 6 else if p.edges[k].type≠(g.edges[m.edges[k].toNat]?.getD cC).type then 13 else if m.nodes[p.edges[k].from_.toNat]≠(g.edges[m.edges[k].toNat]?.getD cC).from_\/m.nodes[p.edges[k].to_.toNat]≠(g.edges[m.edges[k].toNat]?.getD cC).to_ then 11 else 0):=by
     simp only [iE,aA h13,aA hn,Option.getD_some,aA hxf,aA hxt]
    have Y:=wa Y (wa h13 (wa (aA h13) (wa (aA hn) (wa (aA hxf) (aA hxt)))))
    refine fA (λh15=>?_) λh15=>?_
    .rw [if_pos aD] at hEE
     rw [hEE,if_pos aD] at hst
     rw [hst,if_pos aD] at hM
     exact wv (h:=hQ _ _ (by simp [go_sem,hM]))
    .have hkb:m.edges[k].toNat<g.edges.length:=aD
     rw [if_neg aD,aA hkb,Option.getD_some] at hEE
     have Y:=wa Y (aA hkb)
     refine fA (λh18=>?_) λh18=>?_
     .rw [if_pos h18] at hEE
      rw [hEE,if_pos aD] at hst
      rw [hst,if_pos aD] at hM
      exact wv (h:=hQ _ _ (by simp [go_sem,hM]))
     .rw [if_neg (bW h18)] at hEE
      refine fA (λh20=>?_) λh20=>?_
      .rw [if_pos aD] at hEE
       rw [hEE,if_pos aD] at hst
       rw [hst,if_pos aD] at hM
       exact wv (h:=hQ _ _ (by simp [go_sem,hM]))
      .rw [if_neg aD] at hEE
       rw [hEE,if_neg aD] at hst
       exact wo (h:=wx hI2 (k+1) ⟨wg,wj,(by exact hst.symm)⟩)
   .have hE0:bT (iE p g m) 0 p.edges.length=0:=by rw [<- hE,(aD:p.edges.length - k=0)];rfl
    rw [hE0,if_neg aD] at hM
    rw [if_neg bV] at hM
    exact wv (h:=hQ _ _ (by simp [go_sem,hM]))
/-! ### the finder -/
theorem Hh (i:Nat):Pure Tryz.prog 441 [.nil,dI i] (dI (-1)):=by
 refine Tz.pK ⟨λ_=>false,λ_=>[]⟩ Tryz.func441 rfl (λQ hQ=>?_)
 have Y:=trivial
 exact wv (h:=hQ _ _ wy)
theorem JC (l:List Int){i:Nat}(h:i<l.length):Pure Tryz.prog 441 [dLI l,dI i] (dI l[i]):=by
 have hne:l≠[]:=λe=>by rw [e] at h;simp at h
 refine Tz.pK ⟨λ_=>false,λ_=>[]⟩ Tryz.func441 rfl (λQ hQ=>?_)
 have Y:=wa (aA h) hne
 exact wo (h:=hQ _ _ wy)
def GivD (d:D)(l:List Int)(n:Nat):Prop:=d.cl=true/\∀ i,i<n->Pure Tryz.prog 441 [d,dI i] (dI (l[i]?.getD (-1)))
theorem GivD.nil (n:Nat):GivD .nil (List.replicate n (-1)) n:=⟨rfl,λi hi=>by
 have:=Hh i
 rw [tZ,if_pos hi];exact this⟩
theorem GivD.list (l:List Int):GivD (dLI l) l l.length:=⟨oV l,λi hi=>by rw [aA hi];exact JC l hi⟩
theorem JB (k n:Int):Pure Tryz.prog 463 [dI k,.adr [dI n]] (.bool (decide (k < -1)||decide (n<=k))):=by
 refine Tz.pK ⟨λ_=>false,λ_=>[]⟩ Tryz.func463 rfl (λQ hQ=>?_)
 have Y:=trivial
 exact wo (h:=hQ _ _ wy)
theorem IT {f:Nat->Int}{c:Int}(h:∀ j,f j=0\/f j=c):∀ n k,bT f k n=0\/bT f k n=c
 | 0,k=>.inl rfl
 | n+1,k=>by
  unfold bT
  split
  .rename_i h1;exact .inr ((h k).resolve_left h1)
  .exact IT h n (k+1)
theorem L7 (l:List Int)(n:Int):mT l n=if (l.any λk=>decide (k < -1)||decide (n<=k))=true then 6 else 0:=by
 by_cases h:(l.any λk=>decide (k < -1)||decide (n<=k))=true
 .rw [if_pos h]
  rcases IT (f:=Bz n l) (c:=6) (λj=>by unfold Bz;split<;>simp) l.length 0 with h0|h0
  .obtain ⟨x,hx,hk⟩:=aX.1 h
   obtain ⟨i,hi,rfl⟩:=aO hx
   have:=eY _ _ h0 i aD aD
   unfold Bz at this
   rw [aA hi,Option.getD_some] at this
   simp only [c4,decide_eq_true_eq] at hk
   rw [if_pos hk] at this;cases this
  .exact h0
 .rw [if_neg h]
  refine mQ _ _ λj _ hj=>?_
  unfold Bz
  rw [if_neg]
  intro hk
  have hj':j<l.length:=aD
  rw [aA hj',Option.getD_some] at hk
  exact h (aX.2 ⟨_,aC hj',by simpa using hk⟩)
theorem Dl (l:List Int)(n:Int):Pure Tryz.prog 462 [dLI l,dI n] (dI (mT l n)):=by
 refine Tz.pK ⟨λ_=>false,λ_=>[]⟩ Tryz.func462 rfl (λQ hQ=>?_)
 have Y:=trivial
 refine wv (h:=aB (gC l 463 [.adr [dI n]] (λk=>decide (k < -1)||decide (n<=k)) (by simp [go_sem]) (by simp [go_sem]) (λk _=>JB k n)) wl ?_)
 refine dP (λh1=>?_) λh1=>?_
 .have hO:mT l n=6:=by rw [L7,if_pos (bW h1)]
  exact wv (h:=hQ _ _ (by simp [go_sem,hO]))
 .have hO:mT l n=0:=by rw [L7,if_neg (bW h1)]
  exact wv (h:=hQ _ _ (by simp [go_sem,hO]))
def Srch.cellP (S:Srch)(most:Int)(pn pe ns es ou:D):List D:=[dLI S.p.nodes,.list (S.p.edges.map Edge.c),dLI S.g.nodes,.list (S.g.edges.map Edge.c),.list (qQ S.t S.t.nodes.length),pn,pe,.bool S.inj,dI most,ns,es,ou]
def Eg (S:Srch)(l:List Int)(i k:Nat):Bool:=yJ S.pe i k&&yG S l i k
theorem Dm (S:Srch)(most:Int)(pn pe es ou:D)(hpn:pn.cl=true)(hes:es.cl=true)(hou:ou.cl=true)(l:List Int)(i k:Nat)(hi:i<S.p.edges.length)(hk:k<S.g.edges.length)
  (hpe:GivD pe S.pe S.p.edges.length) (hf0:0<=S.p.edges[i].from_) (hf:S.p.edges[i].from_.toNat<l.length) (hf0':0<=S.p.edges[i].to_) (hft:S.p.edges[i].to_.toNat<l.length) :
  Pure Tryz.prog 443 [.adr (S.cellP most pn pe (dLI l) es ou),dI i,dI k] (.bool (Eg S l i k)):=by
 have hpc:=hpe.1
 obtain ⟨v,hv⟩:=cF (S.pe[i]?.getD (-1))
 have hgv:=hpe.2 i hi
 rw [<- hv] at hgv
 have hFr:yJ S.pe i k=(decide (v<0)||decide (v=(k:Int))):=by unfold yJ;rw [<- hv]
 have hH:yG S l i k=(decide (S.g.edges[k].type=S.p.edges[i].type)&&(decide (S.g.edges[k].from_=l[S.p.edges[i].from_.toNat])&&decide (S.g.edges[k].to_=l[S.p.edges[i].to_.toNat]))):=by
  simp only [yG,UY,RZ,aA hk,aA hi,Option.getD_some,aA hf,aA hft]
  simp
 refine Tz.pK ⟨λt=>t==7,λ_=>[]⟩ Tryz.func443 rfl (λQ hQ=>?_)
 have Y:=wa @Srch.cellP.eq_1 (wa (aA hi) (wa (aA hk) (wa (aA hf) (wa (aA hft) (wa @Edge.c.eq_1 (wa hpn (wa hes (wa hou hpc))))))))
 refine wo (h:=aB (hgv) wl ?_)
 refine fA (λh3=>?_) λh3=>?_
 .have hE:Eg S l i k=false:=by unfold Eg;rw [hFr,show decide (v<0)=false by simp;omega,show decide (v=(k:Int))=false by simp;omega];rfl
  exact wv (h:=hQ _ _ (by simp [go_sem,hE]))
 .have hE:Eg S l i k=yG S l i k:=by
   unfold Eg;rw [hFr]
   rcases Int.lt_or_le v 0 with h|h
   .simp [h]
   .simp [h3 h]
  exact wo (h:=hQ _ _ (by simp [go_sem,hE,hH,BN,lB]))
theorem D7 (S:Srch)(hp:graphF S.p=0)(hg:graphF S.g=0)(most:Int)(pn pe es ou:D)(hpn:pn.cl=true)(hes:es.cl=true)(hou:ou.cl=true)(l:List Int)(hpe:GivD pe S.pe S.p.edges.length) :
  Pure Tryz.prog 442 [.adr (S.cellP most pn pe (dLI l) es ou)] (.bool (sX S l)):=by
 have hpc:=hpe.1
 have hpi:=(eL hp).2
 have hla:=bR hp
 have hlb:=bR hg
 have hcl:D.clL (S.cellP most pn pe (dLI l) es ou)=true:=by simp [go_sem,Srch.cellP,D.clL,hpn,hes,hou,hpc]
 refine Tz.pK ⟨λt=>t==5,λ_=>[]⟩ Tryz.func442 rfl (λQ hQ=>?_)
 have Y:=wa @Srch.cellP.eq_1 (wa hpn (wa hes (wa hou hpc)))
 refine wo (h:=bF (λi e H=>(e 0=.adr (S.cellP most pn pe (dLI l) es ou)/\e 3=dI ((l.length:Int) - 1)/\e 18=.list (S.p.edges.map Edge.c)/\e 19=dI S.p.edges.length/\e 20=dI i)/\(i<=S.p.edges.length)/\(∀ j,j<i->FP S l j=true)) (λi=>S.p.edges.length - i) 0 ⟨wg,wi,(by intro j hj;omega)⟩ λI0 hI0 i e H hi0=>?_)
 obtain ⟨E0,hi,hK⟩:=hi0
 have Y:=wa Y E0
 refine dP (λh3=>?_) λh3=>?_
 .have hxi:=(hpi _ (aC h3)).2
  have hKe:FP S l i=(decide (max S.p.edges[i].from_ S.p.edges[i].to_≠(l.length:Int) - 1)||(List.range S.g.edges.length).any (Eg S l i)):=by
   unfold FP;rw [aA h3,Option.getD_some];rfl
  have Y:=wa Y (wa h3 (wa (aA h3) @Edge.c.eq_1))
  refine fA (λh5=>?_) λh5=>?_
  .have hKi:FP S l i=true:=by rw [hKe];simp;omega
   exact wo (h:=wx hI0 (i+1) ⟨wg,wj,(by intro j hj;rcases bZ j i with hji|hji;exact hK j hji;(obtain rfl:j=i:=aD;exact hKi))⟩)
  .have hf:S.p.edges[i].from_.toNat<l.length:=aD
   have hft:S.p.edges[i].to_.toNat<l.length:=aD
   have hx0:=hxi.1.1
   have hx1:=hxi.2.1
   have h2:=h3
   have Y:=wa Y h5
   refine wo (h:=bF (λk e H=>(e 0=.adr (S.cellP most pn pe (dLI l) es ou)/\e 3=dI ((l.length:Int) - 1)/\e 18=.list (S.p.edges.map Edge.c)/\e 19=dI S.p.edges.length/\e 20=dI i/\e 4=dI i/\e 6=.bool false/\e 37=dI S.g.edges.length/\e 38=dI k)/\(k<=S.g.edges.length)/\((List.range k).any (Eg S l i)=false)) (λk=>S.g.edges.length - k) 0 ⟨wg,wi,(by rfl)⟩ λI2 hI2 k e H hi2=>?_)
   obtain ⟨E2,hk,hb⟩:=hi2
   have Y:=wa Y E2
   refine dP (λh8=>?_) λh8=>?_
   .obtain ⟨fb,hfb0⟩:∃ b,b=Eg S l i k:=⟨_,rfl⟩
    have Y:=wa Y h8
    refine wv (h:=aB (Dm S most pn pe es ou hpn hes hou l i k h2 h8 hpe hx0 hf hx1 hft) wl ?_)
    refine dP (λh10=>?_) λh10=>?_
    .have hKi:FP S l i=true:=by
      rw [hKe,c4];right
      exact aX.2 ⟨k,by simpa using h8,by simpa using h10⟩
     exact wo (h:=wx hI0 (i+1) ⟨wg,wj,(by intro j hj;rcases bZ j i with hji|hji;exact hK j hji;(obtain rfl:j=i:=aD;exact hKi))⟩)
    .have hfb:Eg S l i k=false:=by simpa using h10
     have Y:=wa Y h10
     exact wo (h:=wx hI2 (k+1) ⟨wg,wj,(by rw [yS,hb,hfb];rfl)⟩)
   .have hb0:(List.range S.g.edges.length).any (Eg S l i)=false:=by rw [(aD:S.g.edges.length=k)];exact hb
    have hE:sX S l=false:=by
     simp only [sX,EN,bP]
     exact ⟨i,h3,by rw [hKe,hb0];simp;omega⟩
    exact wo (h:=hQ _ _ (by simp [go_sem,hE]))
 .have hE:sX S l=true:=by
   simp only [sX,cO,bP]
   exact λj hj=>hK j aD
  exact wv (h:=hQ _ _ (by simp [go_sem,hE]))
def IV (S:Srch)(N:Nat)(ns es:List Int)(out:List Part):List Part:=if ns.length<S.p.nodes.length then Pb S N (S.p.nodes.length - ns.length) ns out else He S N ns (S.p.edges.length - es.length) es out
theorem Rs (S:Srch){N:Nat}(d:Nat)(l:List Int){ou:List Part}(h:N<=ou.length):Pb S N d l ou=ou:=by cases d<;>simp only [Pb,if_pos h]
theorem Gs (S:Srch){N:Nat}(ns es:List Int){ou:List Part}(h:N<=ou.length):IV S N ns es ou=ou:=by
 unfold IV;split;exact Rs S _ _ h;exact E9 _ _ _ h
theorem Gr (S:Srch)(N:Nat)(ns:List Int)(ou:List Part):IV S N ns [] ou=Pb S N (S.p.nodes.length - ns.length) ns ou:=by
 unfold IV
 split
 .rfl
 .rename_i h
  rw [(aD:S.p.nodes.length - ns.length=0)]
  simp only [Pb,p7,Nat.sub_zero]
  split
  .rename_i h2;exact E9 _ _ _ h2
  .rfl
structure FdS (f a b o:Nat) (S:Srch) (N:Nat) (pn pe:D) (ns es:List Int) (out:List Part) (H:AHeap):Prop where
 bf:H.get f=some ⟨400,12,[S.cellP N pn pe (.own a ns.length) (.own b es.length) (.own o out.length)],false⟩
 ba:H.get a=some ⟨3,1,ns.map cI,false⟩
 bb:H.get b=some ⟨3,1,es.map cI,false⟩
 bo:H.get o=some ⟨36,2,out.map Part.c,false⟩
 le:out.length<=N
 nf:f<H.next/\a<H.next/\b<H.next/\o<H.next
 d:(f≠a/\f≠b/\f≠o)/\(a≠b/\a≠o)/\b≠o
@[go_sem] theorem U0 (H:AHeap)(i:Nat):(H.drop i).next=H.next:=rfl
@[go_sem] theorem VW (H:AHeap)(i j:Nat):(H.drop i).get j=if j=i then none else H.get j:=rfl
theorem uA {H:AHeap}{d:D}(h:d.cl=true):fH H d=d:=by cases d<;>first|rfl|simp [D.cl] at h
def Sr (S:Srch)(N:Nat)(pn pe:D)(f o m:Nat):Prop :=
  ∀ (ns es:List Int) (out:List Part) (a b:Nat) (G:AHeap) (Q:D->AHeap->Prop),(S.p.nodes.length - ns.length)+(S.p.edges.length - es.length)=m->ns.length<=S.p.nodes.length->es.length<=S.p.edges.length->(ns.length<S.p.nodes.length->es=[])->FdS f a b o S N pn pe ns es out G ->
  (∀ a' b' H',FdS f a' b' o S N pn pe ns es (IV S N ns es out) H'->Q (.tup []) H')->ACalls Tryz.prog 398 [.ptr f 1 0 0] G Q
theorem JG (S:Srch)(hG:G17 S.t S.p S.g)(hv:(cZ S.t).2=0)(N:Nat)(hN:N<=5001)(pn pe:D)(hpn:GivD pn S.pn S.p.nodes.length)(hpe:GivD pe S.pe S.p.edges.length)(f o:Nat)(m:Nat)(ih:∀ k,k<m->Sr S N pn pe f o k)(ns es:List Int)(out:List Part)(a b:Nat)(G:AHeap)(Q:D->AHeap->Prop)(hm:(S.p.nodes.length - ns.length)+(S.p.edges.length - es.length)=m)(hnl:ns.length<=S.p.nodes.length)(hel0:es.length<=S.p.edges.length)(hes:ns.length<S.p.nodes.length->es=[])(hF:FdS f a b o S N pn pe ns es out G)
  (hQ:∀ a' b' H',FdS f a' b' o S N pn pe ns es (IV S N ns es out) H'->Q (.tup []) H') (hc1:ns.length<S.p.nodes.length) :
  ACalls Tryz.prog 398 [.ptr f 1 0 0] G Q:=by
 have hla:=bR hG.gp
 have hlb:=bR hG.gg
 have hib:∀ x∈S.p.edges,(0<=x.from_/\x.from_<S.p.nodes.length)/\(0<=x.to_/\x.to_<S.p.nodes.length):=λx hx=>((eL hG.gp).2 x hx).2
 obtain ⟨gf,ga,gb,go,hle,⟨lf,la,lb,lo⟩,⟨d1,d2,d3⟩,⟨d4,d5⟩,d6⟩:=hF
 have ff:=cD lf
 have fa:=cD la
 have fb:=cD lb
 have fo:=cD lo
 have hpnc:=hpn.1
 have hpec:=hpe.1
 have hpr:∀ H:AHeap,fH H pn=pn:=λH=>uA hpnc
 have hpr2:∀ H:AHeap,fH H pe=pe:=λH=>uA hpec
 refine (aI (cfg:=⟨λ_=>false,λr=>match r with|0=>[(2,16),(3,16),(4,16)]|_=>[]⟩) Tz.mixed Tryz.func398 rfl rfl (aF rfl) (by kernel_rfl) ?_)
 have di1:=And.intro (dH (aD:o≠b)) (And.intro (dH (aD:o≠a)) (And.intro (dH (aD:o≠f)) (And.intro (dH (aD:b≠a)) (And.intro (dH (aD:b≠f)) (dH (aD:a≠f))))))
 have Y:=wa gf (wa ga (wa gb (wa go (wa ff (wa fa (wa fb (wa fo (wa @Part.c.eq_1 (wa @Srch.cellP.eq_1 (wa hpnc (wa hpec (wa hpr (wa hpr2 (wa hc1 di1))))))))))))))
 refine sG (λh1=>?_) λh1=>?_
 .have hX:IV S N ns es out=out:=Gs S _ _ aD
  refine wv (h:=?_)
  exact hQ a b _ (by rw [hX];exact ⟨gf,ga,gb,go,hle,⟨by first|exact lf|(simp;omega),by first|exact la|(simp;omega),by first|exact lb|(simp;omega),by first|exact lo|(simp;omega)⟩,⟨d1,d2,d3⟩,⟨d4,d5⟩,d6⟩)
 .have hnf:¬ N<=out.length:=aD
  have hE0:=hes aD
  subst hE0
  obtain ⟨k',hk'⟩:∃ k',S.p.nodes.length - ns.length=k'+1:=⟨S.p.nodes.length - ns.length - 1,aD⟩
  have hel:ns.length<S.p.nodes.length:=aD
  have hbp:=hG.tp _ (aC hel)
  have hrw:=Ih hbp
  obtain ⟨v,hv0⟩:=cF (S.pn[ns.length]?.getD (-1))
  have hgv:=hpn.2 ns.length hel
  rw [<- hv0] at hgv
  have hokN:∀ j (hj:j<S.g.nodes.length),It S ns j=((decide (v<0)||decide (v=(j:Int)))&&(!(S.inj&&mem ns j)&&v7 S.t S.p.nodes[ns.length] S.g.nodes[j])):=λj hj=>by
   simp only [It,yJ,<- hv0,aA hj,aA hel,Option.getD_some]
  have Y:=wa Y (wa (aA hel) hrw)
  refine wp (h:=bF (λj e H=>∃ a1:Nat,∃ b1:Nat,∃ ou:List Part,(e 0=.ptr f 1 0 0/\e 2=dI ns.length/\e 61=dLI S.g.nodes/\e 62=dI S.g.nodes.length/\e 63=dI j)/\(H.get f=some ⟨400,12,[S.cellP N pn pe (.own a1 ns.length) (.own b1 0) (.own o ou.length)],false⟩)/\(f<H.next)/\(H.get a1=some ⟨3,1,ns.map cI,false⟩)/\(a1<H.next)/\(H.get b1=some ⟨3,1,[],false⟩)/\(b1<H.next)/\(H.get o=some ⟨36,2,ou.map Part.c,false⟩)/\(o<H.next)/\(f≠a1)/\(f≠b1)/\(a1≠b1)/\(a1≠o)/\(b1≠o)/\(j<=S.g.nodes.length)/\(ou.length<=N)/\(ou=(List.range j).foldl (λou k=>if (It S ns k&&sX S (ns++[(k:Int)]))=true then Pb S N k' (ns++[(k:Int)]) ou else ou) out)) (λj=>S.g.nodes.length - j) 0 ⟨a,b,out,wg,wn,wn,wn,wn,wn,wn,wn,wn,wi,wi,wi,wi,wi,wi,(by exact hle),(by rfl)⟩ λI1 hI1 j e H hi1=>?_)
  obtain ⟨a1,b1,ou,E1,gf_1,nf_1,ga1_1,na1_1,gb1_1,nb1_1,go_1,no_1,e1,e2,e3,e4,e5,hj,hou,hst⟩:=hi1
  have di2:=And.intro (dH (aD:o≠b1)) (And.intro (dH (aD:o≠a1)) (And.intro (dH (aD:o≠f)) (And.intro (dH (aD:b1≠a1)) (And.intro (dH (aD:b1≠f)) (dH (aD:a1≠f))))))
  have Y:=wa Y (wa E1 (wa gf_1 (wa (cD nf_1) (wa ga1_1 (wa (cD na1_1) (wa gb1_1 (wa (cD nb1_1) (wa go_1 (wa (cD no_1) di2)))))))))
  refine dP (λh5=>?_) λh5=>?_
  .have hEj:=hokN j h5
   have hbg:=hG.tg _ (aC h5)
   have hrb:=Ln hv hbp hbg
   have Y:=wa Y (wa h5 (wa (aA h5) hrb))
   refine wp (h:=aB (hgv) wl ?_)
   refine wp (h:=HG (λhg=>fT ns j) wr (λhg=>wl) (λhg=> rfl) rfl wrd ?_)
   refine sG (λh8=>?_) λh8=>?_
   .have hE:(It S ns j&&sX S (ns++[(j:Int)]))=false:=by
     have:It S ns j=false:=by
      rw [hEj,bH];intro hT;simp at hT
      obtain ⟨c1,c2,c3⟩:=hT
      rcases h8 with (⟨k1,k2⟩|k1)|⟨k1,k2⟩
      .rcases c1 with c1|c1
       .omega
       .exact k2 c1
      .rw [k1] at c3;cases c3
      .rcases c2 with c2|c2
       .rw [k1] at c2;cases c2
       .rw [k2] at c2;cases c2
     rw [this];rfl
    obtain ⟨ou2,hou2⟩:∃ x,x=ou:=⟨_,rfl⟩
    obtain ⟨a2,ha2⟩:∃ x,x=a1:=⟨_,rfl⟩
    obtain ⟨b2,hb2⟩:∃ x,x=b1:=⟨_,rfl⟩
    have Y:=wa Y (wa hou2 (wa ha2 hb2))
    exact wp (h:=wx hI1 (j+1) ⟨a2,b2,ou2,wg,wn,wn,wn,wn,wn,wn,wn,wn,wj,wj,wj,wj,wj,wj,(by rw [hou2];first|exact hou|exact NZ hG.gp _ _ hou),(by rw [eE,<- hst,hou2];first|rw [if_pos hE]|rw [if_neg (by rw [hE];simp)])⟩)
   .have hO:It S ns j=true:=by
     obtain ⟨⟨k1,k2⟩,k3⟩:=h8
     have c1:(decide (v<0)||decide (v=(j:Int)))=true:=by simp;omega
     have c2:(S.inj&&mem ns (j:Int))=false:=by cases hI:S.inj;rfl;simp [k3 hI]
     rw [hEj,c1,k2,c2];rfl
    have hm1:(S.p.nodes.length - (ns++[(j:Int)]).length)+(S.p.edges.length - ([]:List Int).length)=m - 1:=by simp at hm ⊢;omega
    obtain ⟨m',hm'⟩:∃ x,x=m - 1:=⟨_,rfl⟩
    rw [<- hm'] at hm1
    have Y:=wa Y h8
    refine wp (h:=DR (D7 S hG.gp hG.gg N pn pe (dLI []) (.list (ou.map Part.c)) hpnc (by simp [D.cl,go_sem]) (by simp [D.cl,uI]) (ns++[(j:Int)]) hpe) V4 wl rfl ?_)
    refine sG (λh10=>?_) λh10=>?_
    .have hE:(It S ns j&&sX S (ns++[(j:Int)]))=true:=by rw [hO,h10];rfl
     obtain ⟨ou2,hou2⟩:∃ x,x=Pb S N k' (ns++[(j:Int)]) ou:=⟨_,rfl⟩
     have hk2:S.p.nodes.length - (ns.length+1)=k':=aD
     have Y:=wa Y (wa hk2 (Eq.symm hou2))
     refine wv (h:=?_)
     unfold fM
     refine ih m' aD (ns++[(j:Int)]) [] ou a1 b1 _ _ hm1 (by simp;omega) bV (λ_=>rfl) ⟨by simp [go_sem,Y],by simp [go_sem,Y],by simp [go_sem,Y],by simp [go_sem,Y],hou,⟨by simp [go_sem];omega,by simp [go_sem];omega,by simp [go_sem];omega,by simp [go_sem];omega⟩,⟨e1,e2,d3⟩,⟨e3,e4⟩,e5⟩ (λa3 b3 H3 hF3=>?_)
     rw [Gr] at hF3
     obtain ⟨gf3,ga3,gb3,go3,hle3,⟨lf3,la3,lb3,lo3⟩,⟨x1,x2,x3⟩,⟨x4,x5⟩,x6⟩:=hF3
     have fr3:=And.intro (cD (aD:f<H3.next)) (And.intro (cD (aD:a3<H3.next)) (And.intro (cD (aD:b3<H3.next)) (cD (aD:o<H3.next))))
     have di4:=And.intro (dH (aD:o≠b3)) (And.intro (dH (aD:o≠a3)) (And.intro (dH (aD:o≠f)) (And.intro (dH (aD:b3≠a3)) (And.intro (dH (aD:b3≠f)) (dH (aD:a3≠f))))))
     obtain ⟨a2,ha2⟩:∃ x,x=H3.next:=⟨_,rfl⟩
     obtain ⟨b2,hb2⟩:∃ x,x=b3:=⟨_,rfl⟩
     have Y:=wa Y (wa gf3 (wa ga3 (wa gb3 (wa go3 (wa fr3 (wa di4 (wa ha2 hb2)))))))
     exact wp (h:=FV (Ghosts.trunc (.refl _) f 0 9 a3 ns.length _ _ _ (by simp [go_sem,Y];rfl) rfl rfl (by simp [go_sem,Y];rfl) (by simp [go_sem,Y]) rfl aD) (j+1) aD ((hI1 _ _ _).2 ⟨a2,b2,ou2,wg,wn,wn,wn,wn,wn,wn,wn,wn,wj,wj,wj,wj,wj,wj,(by rw [hou2];first|exact hou|exact NZ hG.gp _ _ hou),(by rw [eE,<- hst,hou2];first|rw [if_pos hE]|rw [if_neg (by rw [hE];simp)])⟩))
    .have hE:(It S ns j&&sX S (ns++[(j:Int)]))=false:=by rw [hO,h10];rfl
     obtain ⟨ou2,hou2⟩:∃ x,x=ou:=⟨_,rfl⟩
     obtain ⟨a2,ha2⟩:∃ x,x=H.next+41:=⟨_,rfl⟩
     obtain ⟨b2,hb2⟩:∃ x,x=b1:=⟨_,rfl⟩
     have Y:=wa Y (wa hou2 (wa ha2 hb2))
     exact wp (h:=FV (Ghosts.trunc (.refl _) f 0 9 a1 ns.length _ _ _ (by simp [go_sem,Y];rfl) rfl rfl (by simp [go_sem,Y];rfl) (by simp [go_sem,Y]) rfl aD) (j+1) aD ((hI1 _ _ _).2 ⟨a2,b2,ou2,wg,wn,wn,wn,wn,wn,wn,wn,wn,wj,wj,wj,wj,wj,wj,(by rw [hou2];first|exact hou|exact NZ hG.gp _ _ hou),(by rw [eE,<- hst,hou2];first|rw [if_pos hE]|rw [if_neg (by rw [hE];simp)])⟩))
  .have hJ:j=S.g.nodes.length:=aD
   have hOV:IV S N ns [] out=ou:=by rw [Gr,hk'];simp only [Pb];rw [if_neg hnf,hst,hJ]
   refine wv (h:=?_)
   exact hQ a1 b1 _ (by rw [hOV];exact ⟨by assumption,by assumption,by assumption,by assumption,hou,⟨by assumption,by assumption,by assumption,by assumption⟩,⟨e1,e2,d3⟩,⟨e3,e4⟩,e5⟩)
theorem ZN (a k:Nat):a+(k+1) - (a+1)=k+1 - 1:=aD
theorem ZM (a k:Nat):a+(k+1) - (a+1)=k:=aD
theorem ZL (a k:Nat):a+(k+1) - a=k+1:=aD
theorem JF (S:Srch)(hG:G17 S.t S.p S.g)(hv:(cZ S.t).2=0)(N:Nat)(hN:N<=5001)(pn pe:D)(hpn:GivD pn S.pn S.p.nodes.length)(hpe:GivD pe S.pe S.p.edges.length)(f o:Nat)(m:Nat)(ih:∀ k,k<m->Sr S N pn pe f o k)(ns es:List Int)(out:List Part)(a b:Nat)(G:AHeap)(Q:D->AHeap->Prop)(hm:(S.p.nodes.length - ns.length)+(S.p.edges.length - es.length)=m)(hnl:ns.length<=S.p.nodes.length)(hel0:es.length<=S.p.edges.length)(hes:ns.length<S.p.nodes.length->es=[])(hF:FdS f a b o S N pn pe ns es out G)
  (hQ:∀ a' b' H',FdS f a' b' o S N pn pe ns es (IV S N ns es out) H'->Q (.tup []) H') (hc1:¬ ns.length<S.p.nodes.length) (hc2:es.length<S.p.edges.length) :
  ACalls Tryz.prog 398 [.ptr f 1 0 0] G Q:=by
 have hla:=bR hG.gp
 have hlb:=bR hG.gg
 have hib:∀ x∈S.p.edges,(0<=x.from_/\x.from_<S.p.nodes.length)/\(0<=x.to_/\x.to_<S.p.nodes.length):=λx hx=>((eL hG.gp).2 x hx).2
 obtain ⟨gf,ga,gb,go,hle,⟨lf,la,lb,lo⟩,⟨d1,d2,d3⟩,⟨d4,d5⟩,d6⟩:=hF
 have ff:=cD lf
 have fa:=cD la
 have fb:=cD lb
 have fo:=cD lo
 have hpnc:=hpn.1
 have hpec:=hpe.1
 have hpr:∀ H:AHeap,fH H pn=pn:=λH=>uA hpnc
 have hpr2:∀ H:AHeap,fH H pe=pe:=λH=>uA hpec
 refine (aI (cfg:=⟨λ_=>false,λr=>match r with|0=>[(2,16),(3,16),(4,16)]|_=>[]⟩) Tz.mixed Tryz.func398 rfl rfl (aF rfl) (by kernel_rfl) ?_)
 have di1:=And.intro (dH (aD:o≠b)) (And.intro (dH (aD:o≠a)) (And.intro (dH (aD:o≠f)) (And.intro (dH (aD:b≠a)) (And.intro (dH (aD:b≠f)) (dH (aD:a≠f))))))
 have Y:=wa gf (wa ga (wa gb (wa go (wa ff (wa fa (wa fb (wa fo (wa @Part.c.eq_1 (wa @Srch.cellP.eq_1 (wa hpnc (wa hpec (wa hpr (wa hpr2 (wa hc1 (wa hc2 di1)))))))))))))))
 refine sG (λh1=>?_) λh1=>?_
 .have hX:IV S N ns es out=out:=Gs S _ _ aD
  refine wv (h:=?_)
  exact hQ a b _ (by rw [hX];exact ⟨gf,ga,gb,go,hle,⟨by first|exact lf|(simp;omega),by first|exact la|(simp;omega),by first|exact lb|(simp;omega),by first|exact lo|(simp;omega)⟩,⟨d1,d2,d3⟩,⟨d4,d5⟩,d6⟩)
 .have hnf:¬ N<=out.length:=aD
  obtain ⟨k',hk'⟩:∃ k',S.p.edges.length - es.length=k'+1:=⟨S.p.edges.length - es.length - 1,aD⟩
  have hmk:m=k'+1:=by rw [<- hm,Nat.sub_eq_zero_of_le (Nat.not_lt.1 hc1),eP,hk']
  have hks:S.p.edges.length=es.length+(k'+1):=aD
  clear hm hk'
  have hel2:es.length<S.p.edges.length:=aD
  have hbx:=hib _ (aC hel2)
  have hf1:S.p.edges[es.length].from_.toNat<ns.length:=aD
  have hft:S.p.edges[es.length].to_.toNat<ns.length:=aD
  refine wp (h:=bF (λj e H=>∃ a1:Nat,∃ b1:Nat,∃ ou:List Part,(e 0=.ptr f 1 0 0/\e 6=dI es.length/\e 162=.list (S.g.edges.map Edge.c)/\e 163=dI S.g.edges.length/\e 164=dI j)/\(H.get f=some ⟨400,12,[S.cellP N pn pe (.own a1 ns.length) (.own b1 es.length) (.own o ou.length)],false⟩)/\(f<H.next)/\(H.get a1=some ⟨3,1,ns.map cI,false⟩)/\(a1<H.next)/\(H.get b1=some ⟨3,1,es.map cI,false⟩)/\(b1<H.next)/\(H.get o=some ⟨36,2,ou.map Part.c,false⟩)/\(o<H.next)/\(f≠a1)/\(f≠b1)/\(a1≠b1)/\(a1≠o)/\(b1≠o)/\(j<=S.g.edges.length)/\(ou.length<=N)/\(ou=(List.range j).foldl (λou k=>if Pg S ns es k=true then He S N ns k' (es++[(k:Int)]) ou else ou) out)) (λj=>S.g.edges.length - j) 0 ⟨a,b,out,wg,wn,wn,wn,wn,wn,wn,wn,wn,wi,wi,wi,wi,wi,wi,(by exact hle),(by rfl)⟩ λI3 hI3 j e H hi3=>?_)
  obtain ⟨a1,b1,ou,E3,gf_3,nf_3,ga1_3,na1_3,gb1_3,nb1_3,go_3,no_3,e1,e2,e3,e4,e5,hj,hou,hst⟩:=hi3
  have di2:=And.intro (dH (aD:o≠b1)) (And.intro (dH (aD:o≠a1)) (And.intro (dH (aD:o≠f)) (And.intro (dH (aD:b1≠a1)) (And.intro (dH (aD:b1≠f)) (dH (aD:a1≠f))))))
  have Y:=wa Y (wa E3 (wa gf_3 (wa (cD nf_3) (wa ga1_3 (wa (cD na1_3) (wa gb1_3 (wa (cD nb1_3) (wa go_3 (wa (cD no_3) di2)))))))))
  refine dP (λh17=>?_) λh17=>?_
  .have hEj:Pg S ns es j=(Eg S ns es.length j&&!(S.inj&&mem es j)):=by
    simp only [Pg,Eg]
    cases yJ S.pe es.length j<;>cases yG S ns es.length j<;>cases (S.inj&&mem es j)<;>rfl
   have Y:=wa Y h17
   refine wp (h:=DR (Dm S N pn pe (dLI es) (.list (ou.map Part.c)) hpnc (by simp [D.cl,go_sem]) (by simp [D.cl,uI]) ns es.length j hel2 h17 hpe hbx.1.1 hf1 hbx.2.1 hft) V4 wl rfl ?_)
   refine wp (h:=Kn (λhg=>fT es j) wr (λhg=>wl) (λhg=> rfl) ?_)
   refine sG (λh19=>?_) λh19=>?_
   .have hE:Pg S ns es j=false:=by
     rw [hEj]
     rcases h19 with k1|⟨k1,k2⟩
     .rw [k1];rfl
     .rw [k1,k2];simp
    obtain ⟨ou2,hou2⟩:∃ x,x=ou:=⟨_,rfl⟩
    obtain ⟨a2,ha2⟩:∃ x,x=a1:=⟨_,rfl⟩
    obtain ⟨b2,hb2⟩:∃ x,x=b1:=⟨_,rfl⟩
    have Y:=wa Y (wa hou2 (wa ha2 hb2))
    exact wp (h:=wx hI3 (j+1) ⟨a2,b2,ou2,wg,wn,wn,wn,wn,wn,wn,wn,wn,wj,wj,wj,wj,wj,wj,(by rw [hou2];first|exact hou|exact Cw _ _ _ _ hou),(by rw [eE,<- hst,hou2];first|rw [if_pos hE]|rw [if_neg (by rw [hE];simp)])⟩)
   .have hE:Pg S ns es j=true:=by
     obtain ⟨k1,k2⟩:=h19
     have c2:(S.inj&&mem es (j:Int))=false:=by cases hI:S.inj;rfl;simp [k2 hI]
     rw [hEj,k1,c2];rfl
    have hm1:(S.p.nodes.length - ns.length)+(S.p.edges.length - (es++[(j:Int)]).length)=m - 1:=by
     rw [Nat.sub_eq_zero_of_le (Nat.not_lt.1 hc1),aL,List.length_singleton,eP,hks,hmk];exact ZN _ _
    have hmm:m - 1<m:=by rw [hmk];exact Nat.lt_succ_self k'
    obtain ⟨m',hm'⟩:∃ x,x=m - 1:=⟨_,rfl⟩
    rw [<- hm'] at hm1 hmm
    obtain ⟨ou2,hou2⟩:∃ x,x=He S N ns k' (es++[(j:Int)]) ou:=⟨_,rfl⟩
    have hfd:IV S N ns (es++[(j:Int)]) ou=ou2:=by
     have hk3:S.p.edges.length - (es++[(j:Int)]).length=k':=by
      rw [aL,List.length_singleton,hks];exact ZM _ _
     rw [hou2];unfold IV;rw [if_neg (aD:¬ ns.length<S.p.nodes.length),hk3]
    have Y:=wa Y (wa h19 hfd)
    refine wp (h:=?_)
    unfold fM
    refine ih m' hmm ns (es++[(j:Int)]) ou a1 b1 _ _ hm1 aD (by simp;omega) (λh=>absurd h aD) ⟨by simp [go_sem,Y],by simp [go_sem,Y],by simp [go_sem,Y],by simp [go_sem,Y],hou,⟨by simp [go_sem];omega,by simp [go_sem];omega,by simp [go_sem];omega,by simp [go_sem];omega⟩,⟨e1,e2,d3⟩,⟨e3,e4⟩,e5⟩ (λa3 b3 H3 hF3=>?_)
    obtain ⟨gf3,ga3,gb3,go3,hle3,⟨lf3,la3,lb3,lo3⟩,⟨x1,x2,x3⟩,⟨x4,x5⟩,x6⟩:=hF3
    have fr3:=And.intro (cD (aD:f<H3.next)) (And.intro (cD (aD:a3<H3.next)) (And.intro (cD (aD:b3<H3.next)) (cD (aD:o<H3.next))))
    have di4:=And.intro (dH (aD:o≠b3)) (And.intro (dH (aD:o≠a3)) (And.intro (dH (aD:o≠f)) (And.intro (dH (aD:b3≠a3)) (And.intro (dH (aD:b3≠f)) (dH (aD:a3≠f))))))
    obtain ⟨a2,ha2⟩:∃ x,x=a3:=⟨_,rfl⟩
    obtain ⟨b2,hb2⟩:∃ x,x=H3.next:=⟨_,rfl⟩
    have Y:=wa Y (wa gf3 (wa ga3 (wa gb3 (wa go3 (wa fr3 (wa di4 (wa ha2 hb2)))))))
    exact wp (h:=FV (Ghosts.trunc (.refl _) f 0 10 b3 es.length _ _ _ (by simp [go_sem,Y];rfl) rfl rfl (by simp [go_sem,Y];rfl) (by simp [go_sem,Y]) rfl aD) (j+1) aD ((hI3 _ _ _).2 ⟨a2,b2,ou2,wg,wn,wn,wn,wn,wn,wn,wn,wn,wj,wj,wj,wj,wj,wj,(by rw [hou2];first|exact hou|exact Cw _ _ _ _ hou),(by rw [eE,<- hst,hou2];first|rw [if_pos hE]|rw [if_neg (by rw [hE];simp)])⟩))
  .have hJ:j=S.g.edges.length:=aD
   have hk2:S.p.edges.length - es.length=k'+1:=by
    rw [hks];exact ZL _ _
   have hOV:IV S N ns es out=ou:=by unfold IV;rw [if_neg hc1,hk2];simp only [He];rw [if_neg hnf,hst,hJ]
   refine wv (h:=?_)
   exact hQ a1 b1 _ (by rw [hOV];exact ⟨by assumption,by assumption,by assumption,by assumption,hou,⟨by assumption,by assumption,by assumption,by assumption⟩,⟨e1,e2,d3⟩,⟨e3,e4⟩,e5⟩)
theorem JE (S:Srch)(hG:G17 S.t S.p S.g)(hv:(cZ S.t).2=0)(N:Nat)(hN:N<=5001)(pn pe:D)(hpn:GivD pn S.pn S.p.nodes.length)(hpe:GivD pe S.pe S.p.edges.length)(f o:Nat)(m:Nat)(ih:∀ k,k<m->Sr S N pn pe f o k)(ns es:List Int)(out:List Part)(a b:Nat)(G:AHeap)(Q:D->AHeap->Prop)(hm:(S.p.nodes.length - ns.length)+(S.p.edges.length - es.length)=m)(hnl:ns.length<=S.p.nodes.length)(hel0:es.length<=S.p.edges.length)(hes:ns.length<S.p.nodes.length->es=[])(hF:FdS f a b o S N pn pe ns es out G)
  (hQ:∀ a' b' H',FdS f a' b' o S N pn pe ns es (IV S N ns es out) H'->Q (.tup []) H') (hc1:¬ ns.length<S.p.nodes.length) (hc2:¬ es.length<S.p.edges.length) :
  ACalls Tryz.prog 398 [.ptr f 1 0 0] G Q:=by
 have hla:=bR hG.gp
 have hlb:=bR hG.gg
 have hib:∀ x∈S.p.edges,(0<=x.from_/\x.from_<S.p.nodes.length)/\(0<=x.to_/\x.to_<S.p.nodes.length):=λx hx=>((eL hG.gp).2 x hx).2
 obtain ⟨gf,ga,gb,go,hle,⟨lf,la,lb,lo⟩,⟨d1,d2,d3⟩,⟨d4,d5⟩,d6⟩:=hF
 have ff:=cD lf
 have fa:=cD la
 have fb:=cD lb
 have fo:=cD lo
 have hpnc:=hpn.1
 have hpec:=hpe.1
 have hpr:∀ H:AHeap,fH H pn=pn:=λH=>uA hpnc
 have hpr2:∀ H:AHeap,fH H pe=pe:=λH=>uA hpec
 refine (aI (cfg:=⟨λ_=>false,λr=>match r with|0=>[(2,16),(3,16),(4,16)]|_=>[]⟩) Tz.mixed Tryz.func398 rfl rfl (aF rfl) (by kernel_rfl) ?_)
 have di1:=And.intro (dH (aD:o≠b)) (And.intro (dH (aD:o≠a)) (And.intro (dH (aD:o≠f)) (And.intro (dH (aD:b≠a)) (And.intro (dH (aD:b≠f)) (dH (aD:a≠f))))))
 have Y:=wa gf (wa ga (wa gb (wa go (wa ff (wa fa (wa fb (wa fo (wa @Part.c.eq_1 (wa @Srch.cellP.eq_1 (wa hpnc (wa hpec (wa hpr (wa hpr2 (wa hc1 (wa hc2 di1)))))))))))))))
 refine sG (λh1=>?_) λh1=>?_
 .have hX:IV S N ns es out=out:=Gs S _ _ aD
  refine wv (h:=?_)
  exact hQ a b _ (by rw [hX];exact ⟨gf,ga,gb,go,hle,⟨by first|exact lf|(simp;omega),by first|exact la|(simp;omega),by first|exact lb|(simp;omega),by first|exact lo|(simp;omega)⟩,⟨d1,d2,d3⟩,⟨d4,d5⟩,d6⟩)
 .have hnf:¬ N<=out.length:=aD
  have hX:IV S N ns es out=out++[⟨ns,es⟩]:=by
   unfold IV;rw [if_neg aD,(aD:S.p.edges.length - es.length=0)];simp only [He];rw [if_neg hnf]
  refine wp (h:=?_)
  refine mE (jG ns aD) (by simp [go_sem,Y,dLI]) (by simp [go_sem]) (IQ _) rfl (by simp [go_sem]) ?_
  refine wp (h:=?_)
  refine mE (jG es aD) (by simp [go_sem,Y,dLI]) (by simp [go_sem]) (IQ _) rfl (by simp [go_sem]) ?_
  refine wp (h:=?_)
  exact hQ a b _ (by rw [hX];exact ⟨by simp [go_sem,Y],by simp [go_sem,Y],by simp [go_sem,Y],by simp [go_sem,Y],by simp;omega,⟨by simp [go_sem];omega,by simp [go_sem];omega,by simp [go_sem];omega,by simp [go_sem];omega⟩,⟨d1,d2,d3⟩,⟨d4,d5⟩,d6⟩)
theorem Lh (S:Srch)(hG:G17 S.t S.p S.g)(hv:(cZ S.t).2=0)(N:Nat)(hN:N<=5001)(pn pe:D)(hpn:GivD pn S.pn S.p.nodes.length)(hpe:GivD pe S.pe S.p.edges.length)(f o:Nat) :
  ∀ (m:Nat) (ns es:List Int) (out:List Part) (a b:Nat) (G:AHeap) (Q:D->AHeap->Prop),(S.p.nodes.length - ns.length)+(S.p.edges.length - es.length)=m->ns.length<=S.p.nodes.length->es.length<=S.p.edges.length->(ns.length<S.p.nodes.length->es=[])->FdS f a b o S N pn pe ns es out G ->
  (∀ a' b' H',FdS f a' b' o S N pn pe ns es (IV S N ns es out) H'->Q (.tup []) H')->ACalls Tryz.prog 398 [.ptr f 1 0 0] G Q:=by
 intro m
 induction m using Nat.strongRecOn with
 | _ m ih =>
 intro ns es out a b G Q hm hnl hel0 hes hF hQ
 by_cases hc1:ns.length<S.p.nodes.length
 .exact JG S hG hv N hN pn pe hpn hpe f o m ih ns es out a b G Q hm hnl hel0 hes hF hQ hc1
 .by_cases hc2:es.length<S.p.edges.length
  .exact JF S hG hv N hN pn pe hpn hpe f o m ih ns es out a b G Q hm hnl hel0 hes hF hQ hc1 hc2
  .exact JE S hG hv N hN pn pe hpn hpe f o m ih ns es out a b G Q hm hnl hel0 hes hF hQ hc1 hc2
theorem JD (S:Srch)(hG:G17 S.t S.p S.g)(ht:S.t.ok)(hv:(cZ S.t).2=0)(N:Nat)(hN:N<=5001)(pn pe:D)(hpn:GivD pn S.pn S.p.nodes.length)(hpe:GivD pe S.pe S.p.edges.length)(hcn:pn.cell=true)(hce:pe.cell=true){L:List Part}(hL:L=(AW S).take N) :
  Pure Tryz.prog 346 [S.t.d,S.p.d,S.g.d,.agg [pn,pe],.bool S.inj,dI N] (.list (L.map Part.c)):=by
 have hRn:IV S N [] [] []=L:=by rw [Gr,N0 hG.gp N _ _ _ bV,hL];simp [AW]
 have hpnc:=hpn.1
 have hpec:=hpe.1
 have hcn':=hcn
 have hce':=hce
 unfold D.cell at hcn' hce'
 refine tK (by first|rfl|(simp [go_sem];done)) (λQ hQ=>(aI (cfg:=⟨λt=>t==22,λ_=>[]⟩) Tz.mixed Tryz.func346 rfl rfl (aF rfl) (by kernel_rfl) ?_))
 have Y:=wa hpnc (wa hpec (wa @belowD.eq_1 (wa hcn' hce')))
 refine wv (h:=aJ (Bc S.t ht) wl ?_)
 refine wv (h:=?_)
 refine v6 (.step (.step (.step (.refl _) 8 0 9 3 1 _ _ (by simp [go_sem];rfl) rfl rfl rfl) 8 0 10 3 1 _ _ (by simp [go_sem];rfl) rfl rfl rfl) 8 0 11 36 2 _ _ (by simp [go_sem];rfl) rfl rfl rfl) ?_
 simp [go_sem]
 unfold fM
 refine Lh S hG hv N hN pn pe hpn hpe 8 12 _ [] [] [] 10 11 _ _ rfl bV bV (λ_=>rfl) ⟨by simp [go_sem,Srch.cellP,Graph.c,dLI,dI],by simp [go_sem],by simp [go_sem],by simp [go_sem],by simp,by simp [go_sem],by simp,by simp,by simp⟩ (λa3 b3 H3 hF3=>?_)
 rw [hRn] at hF3
 obtain ⟨gf3,ga3,gb3,go3,hle3,hn3,hd3⟩:=hF3
 have Y:=wa Y (wa gf3 (wa go3 @Srch.cellP.eq_1))
 refine wv (h:=?_)
 exact hQ _ _ (by simp [go_sem,Y,lU,Ma])
theorem NC (t:Types)(ht:t.ok)(hv:(cZ t).2=0)(p g:Graph)(hG:G17 t p g)(pl el:List Int)(inj:Bool)(pn pe:D)(hpn:GivD pn pl p.nodes.length)(hpe:GivD pe el p.edges.length)(hcn:pn.cell=true)(hce:pe.cell=true){w:List Part × Int}(hw:w=MK (AW ⟨t,p,g,pl,el,inj⟩)) :
  Pure Tryz.prog 269 [t.d,p.d,g.d,.agg [pn,pe],.bool inj] (.tup [.list (w.1.map Part.c),dI w.2]):=by
 obtain ⟨L,hL⟩:=cF ((AW ⟨t,p,g,pl,el,inj⟩).take 5001)
 have hA:w=if 5000<L.length then ([],3) else (L,0):=by rw [hw];unfold MK;rw [<- hL]
 have hpnc:=hpn.1
 have hpec:=hpe.1
 have hcn':=hcn
 have hce':=hce
 unfold D.cell at hcn' hce'
 refine Tz.pK ⟨λ_=>false,λ_=>[]⟩ Tryz.func269 rfl (λQ hQ=>?_)
 have Y:=wa hpnc (wa hpec (wa hcn' hce'))
 refine wv (h:=aB (JD ⟨t,p,g,pl,el,inj⟩ hG ht hv 5001 aD pn pe hpn hpe hcn hce hL) wl ?_)
 refine fA (λh2=>?_) λh2=>?_
 .rw [if_pos aD] at hA
  exact wv (h:=hQ _ _ (by simp [go_sem,hA]))
 .rw [if_neg aD] at hA
  exact wv (h:=hQ _ _ (by simp [go_sem,hA]))
theorem CU {t:Types}{p g:Graph}(h:f5 t p g=0):(cZ t).2=0:=by
 unfold f5 at h
 split at h
 .exact absurd h (by assumption)
 .rename_i h1;simpa using h1
theorem Hi (t:Types)(ht:t.ok)(p g:Graph)(q:Part)(inj:Bool):Pure Tryz.prog 458 [t.d,p.d,g.d,q.d,.bool inj] (.tup [.list ((mY t p g q inj).1.map Part.c),dI (mY t p g q inj).2]):=by
 refine Tz.pK ⟨λ_=>false,λ_=>[]⟩ Tryz.func458 rfl (λQ hQ=>?_)
 have Y:=trivial
 refine wv (h:=aB (vI t ht p g) wl ?_)
 refine dP (λh2=>?_) λh2=>?_
 .have hA:mY t p g q inj=([],f5 t p g):=by unfold mY;rw [if_pos (bW h2)]
  exact wv (h:=hQ _ _ (by simp [go_sem,hA]))
 .have hG:=pM (bW h2)
  have hv:=CU (bW h2)
  refine fA (λh4=>?_) λh4=>?_
  .have hA:mY t p g q inj=([],20):=by unfold mY;rw [if_neg (bW h2),if_pos aD]
   exact wv (h:=hQ _ _ (by simp [go_sem,hA]))
  .have hq:q.nodes.length=p.nodes.length/\q.edges.length=p.edges.length:=aD
   refine wo (h:=aB (Dl q.nodes g.nodes.length) wl ?_)
   refine fA (λh7=>?_) λh7=>?_
   .have hA:mY t p g q inj=([],mT q.nodes g.nodes.length):=by unfold mY;rw [if_neg (bW h2),if_neg aD,if_pos (bW h7)]
    exact wv (h:=hQ _ _ (by simp [go_sem,hA]))
   .have h7':mT q.nodes g.nodes.length=0:=by simpa using h7
    refine wo (h:=aB (Dl q.edges g.edges.length) wl ?_)
    refine fA (λh10=>?_) λh10=>?_
    .have hA:mY t p g q inj=([],mT q.edges g.edges.length):=by unfold mY;rw [if_neg (bW h2),if_neg aD,if_neg aD,if_pos (bW h10)]
     exact wv (h:=hQ _ _ (by simp [go_sem,hA]))
    .have h10':mT q.edges g.edges.length=0:=by simpa using h10
     obtain ⟨w,hw⟩:=cF (MK (AW ⟨t,p,g,q.nodes,q.edges,inj⟩))
     have hA:mY t p g q inj=w:=by unfold mY;rw [if_neg (bW h2),if_neg aD,if_neg aD,if_neg aD,hw]
     refine wv (h:=aB (NC t ht hv p g hG q.nodes q.edges inj (dLI q.nodes) (dLI q.edges) (hq.1 ▸ GivD.list q.nodes) (hq.2 ▸ GivD.list q.edges) rfl rfl hw) wl ?_)
     exact wv (h:=hQ _ _ (by simp [go_sem,hA]))
theorem RW (l:List Edge):∀ d∈(l.map Edge.c).flatten,d.flat=true:=by
 intro d hd
 rw [jC] at hd
 obtain ⟨c,hc,hd⟩:=hd
 rw [bA] at hc
 obtain ⟨x,_,rfl⟩:=hc
 simp only [Edge.c,aU,fU,or_false] at hd
 rcases hd with rfl|rfl|rfl<;>rfl
theorem D8 (t:Types)(ht:t.ok)(p g:Graph)(m:Part):Pure Tryz.prog 139 [t.d,p.d,g.d,m.d] (.tup [(zM t p g m).d,dI (fN t p g m false)]):=by
 refine Tz.pK ⟨λt=>t==8||t==12,λr=>match r with|11=>[(0,7),(1,7)]|_=>[]⟩ Tryz.func139 rfl (λQ hQ=>?_)
 have Y:=trivial
 refine wv (h:=aB (vI t ht p g) wl ?_)
 refine dP (λh2=>?_) λh2=>?_
 .have hC:fN t p g m false=f5 t p g:=by unfold fN;rw [if_pos (bW h2)]
  have hI:zM t p g m=⟨[],[]⟩:=by unfold zM;rw [if_neg (by rw [hC];simpa using h2)]
  exact wv (h:=hQ _ _ (by simp [go_sem,hI,hC]))
 .have hG:=pM (bW h2)
  have hv:=CU (bW h2)
  have hla:=bR hG.gp
  have hlb:=bR hG.gg
  have hC:fN t p g m false=iX t p g m false:=by unfold fN;rw [if_neg (bW h2)]
  refine wv (h:=aB (Bb t ht p g hG hv m) wl ?_)
  refine dP (λh5=>?_) λh5=>?_
  .have hI:zM t p g m=⟨[],[]⟩:=by unfold zM;rw [if_neg (by rw [hC];simpa using h5)]
   exact wv (h:=hQ _ _ (by simp [go_sem,hI,hC]))
  .have hM:iX t p g m false=0:=by simpa using h5
   obtain ⟨⟨hl1,hl2⟩,hmn,hme⟩:=y4 hM
   have hI:zM t p g m=lQ p g m:=by unfold zM;rw [if_pos (by rw [hC];exact hM)]
   refine wv (h:=?_)
   refine GR (AQ p.edges aD) (by simp [go_sem]) (by simp [go_sem]) (RW _) ?_
   refine wp (h:=tN (Ghosts.step (Ghosts.refl _) 1 0 0 3 1 _ _ (rfl) rfl rfl rfl) (λi e H=>∃ xs:List Int,(e 4=.adr t.c/\e 5=.adr p.c/\e 6=.adr g.c/\e 7=.adr m.c/\e 8=.ptr 0 1 0 0/\e 12=.ptr 1 1 0 0/\e 37=dLI m.nodes/\e 38=dI m.nodes.length/\e 39=dI i)/\(H.get 0=some ⟨29,2,[[.nil,.nil]],false⟩)/\(0<H.next)/\(H.get 1=some ⟨29,2,[[.own 2 xs.length,.list (p.edges.map Edge.c)]],false⟩)/\(1<H.next)/\(H.get 2=some ⟨3,1,xs.map cI,false⟩)/\(2<H.next)/\(i<=m.nodes.length)/\(xs=(m.nodes.take i).map (gN g))) (λi=>m.nodes.length - i) 0 ⟨([]),wg,wn,wn,wn,wn,wn,wn,wi,(by rfl)⟩ λI0 hI0 i e H hi0=>?_)
   obtain ⟨xs,E0,g0_0,n0_0,g1_0,n1_0,g2_0,n2_0,hi,hx⟩:=hi0
   have Y:=wa Y (wa E0 (wa g0_0 (wa (cD n0_0) (wa g1_0 (wa (cD n1_0) (wa g2_0 (cD n2_0)))))))
   refine dP (λh9=>?_) λh9=>?_
   .have hmi:=hmn _ (aC h9)
    have hk:m.nodes[i].toNat<g.nodes.length:=aD
    have hxl:xs.length=i:=by rw [hx];simp;omega
    have Y:=wa Y (wa h9 (wa (aA h9) (wa (aA hk) @gN.eq_1)))
    exact wp (h:=wx hI0 (i+1) ⟨(xs++[gN g m.nodes[i]]),wg,wn,wn,wn,wn,wn,wn,wj,(by rw [kH _ h9,<- hx])⟩)
   .have hX:xs=m.nodes.map (gN g):=by rw [hx,lK _ aD]
    exact wv (h:=hQ _ _ (by simp [go_sem,Y,hI,hC,hM,lQ,Graph.d,Graph.c,hX,dLI]))
end Go.Abs
end
section
set_option maxRecDepth 100000
set_option maxHeartbeats 4000000
namespace Go.Abs
open Go Go.Proofs Go.RowKit Go.Shelf
attribute [local go_sem] Oper.semAt_some
theorem Fd:(Tryz.prog.info? 3).map (λi=>(i.zero,i.size,i.bytes))=some (some (.int .i64 0),1,8):=by kernel_rfl
theorem Nk (F:Fence)(n:Nat)(h7:F.fn 436)(hro:F.round=none)(hn:1<=n)(l n₀:Nat)(a ad:Addr)(cap:Nat)(zs:List Int)(hreach:zs.length<=1000000)(hb:zs≠[]->ad.block<n₀)(J Jx:List Int->World->Prop)
  (hY:∀ pre x W,J pre W->pre.length<zs.length->YieldAt F (n - 1) Tryz.prog l #[.int .i64 x] W λe W' =>
   (e=.returned (.bool true)/\J (pre++[x]) W'/\Below n₀ W W')\/(e=.returned (.bool false)/\Jx (pre++[x]) W'))
  (W:World) (hBs:W.cell? a=some (.slice (some ad) zs.length cap)) (hc:∀ j x,zs[j]?=some x->W.cell? (ad.add j)=some (.int .i64 x)) (h0:J [] W) :
  CallsIn F n Tryz.prog 436 #[.func (.yield l) #[] #[],.pointer (some a)] W λe W'=>(∃ v,e=.returned v) /\
   ((∃ ys,ys=zs/\J ys W')\/(∃ pre,True/\Jx pre W')):=by
 refine callsIn_of_wp Tryz.func436 rfl h7 ?_ hro
 simp only [Tryz.ntmps436,mZ,fI,p7,Nat.reduceAdd,Nat.reduceSub,zS,zR,EL,AY,dA,c7]
 gi_wp2
 gi_loopw [7] (λi wr=>∃ k:Nat,k<=zs.length/\i=.int .i64 k/\J (zs.take k) wr/\Below n₀ W wr)
  (λi _=>zs.length - (RowKit.intOf i).toNat)
 case atStart=>exact ⟨0,dY _,rfl,h0,Below.refl _ _⟩
 case round =>
  obtain ⟨k,hk,rfl,hJs,hnx⟩:=hrel
  by_cases hlt:k<zs.length
  .have hcx':wr.cell? (ad.add k)=some (.int .i64 zs[k]):=(hnx.cell (p:=ad.add k) (by rw [iB];exact hb (λe=>by rw [e] at hlt;cases hlt))).trans (hc k _ (aA hlt))
   obtain ⟨fn,tmps,assign,body,hy,hR⟩:=hY _ zs[k] wr hJs (by simp;omega)
   gi_wp2
   refine hR.mono ?_
   rintro e W3 (⟨rfl,hJ3,hk3⟩|⟨rfl,hJx3⟩)
   .gi_wp2
    go_roundw
    case rel=>exact ⟨k+1,aD,by simp,by rw [aE hlt];exact hJ3,hnx.trans hk3⟩
    case measure=>simp [RowKit.intOf];omega
   .gi_wp2
    refine bodyPost_ret (results_none rfl _ _ _) rfl ?_
    exact ⟨⟨_,rfl⟩,.inr ⟨_,trivial,hJx3⟩⟩
  .obtain rfl:k=zs.length:=aD
   gi_wp2
   go_end0
   exact ⟨⟨_,rfl⟩,.inl ⟨_,rfl,by rw [zG] at hJs;exact hJs⟩⟩
theorem EP (F:Fence)(n:Nat)(h7:F.fn 436)(hro:F.round=none)(l:Nat)(a:Addr)(J:List Int->World->Prop)(W:World)(hBs:W.cell? a=some (.slice none 0 0))(h0:J [] W) :
  CallsIn F n Tryz.prog 436 #[.func (.yield l) #[] #[],.pointer (some a)] W λe W'=>(∃ v,e=.returned v)/\J [] W':=by
 refine callsIn_of_wp Tryz.func436 rfl h7 ?_ hro
 simp only [Tryz.ntmps436,mZ,fI,p7,Nat.reduceAdd,Nat.reduceSub,zS,zR,EL,AY,dA,c7]
 gi_wp2
 gi_loopw [7] (λi wr=>i=.int .i64 0/\J [] wr) (λ_ _=>0)
 case atStart=>exact ⟨rfl,h0⟩
 case round =>
  obtain ⟨rfl,hJs⟩:=hrel
  gi_wp2
  go_end0
  exact ⟨⟨_,rfl⟩,hJs⟩
def IntsB (n₀:Nat)(W:World)(sv:Value)(zs:List Int):Prop :=
 (sv=.slice none 0 0/\zs=[])\/∃ ad cap,sv=.slice (some ad) zs.length cap/\(zs≠[]->ad.block<n₀)/\∀ j x,zs[j]?=some x->W.cell? (ad.add j)=some (.int .i64 x)
theorem IntsB.below {n₀:Nat}{A B:World}(h:Below n₀ A B){sv:Value}{zs:List Int}:IntsB n₀ A sv zs->IntsB n₀ B sv zs
 | .inl e=>.inl e
 | .inr ⟨ad,cap,e,hb,hc⟩=>.inr ⟨ad,cap,e,hb,λj x hj=>(h.cell (p:=ad.add j) (by rw [iB];exact hb (λe=>by rw [e] at hj;cases hj))).trans (hc j x hj)⟩
theorem Jo (F:Fence)(n:Nat)(h7:F.fn 436)(hro:F.round=none)(hn:1<=n)(a:Addr)(n₀:Nat)(sv:Value)(zs:List Int)(hreach:zs.length<=1000000)(w:World)(hBs:a.block<w.heap.size)(hn₀:n₀<=w.heap.size)
  (hc:w.cell? a=some sv) (hI:IntsB n₀ w sv zs) :
  SeqStopsK F n Tryz.prog 436 #[.pointer (some a)] (λx:Int=>#[Value.int .i64 x]) (Below n₀) (λys=>ys=zs) (λ_=>True) zs.length w:=λl J Jx W hW _ _ hY h0=>by
 have hc':=(hW.cell (p:=a) hBs).trans hc
 rcases hI.below (hW.mono hn₀) with ⟨rfl,rfl⟩|⟨ad,cap,rfl,hb,hcs⟩
 .exact (EP F n h7 hro l a J W hc' h0).mono λe W' ⟨he,hj⟩=>⟨he,.inl ⟨_,rfl,hj⟩⟩
 .exact Nk F n h7 hro hn l n₀ a ad cap zs hreach hb J Jx hY W hc' hcs h0
theorem Ky (F:Fence)(n:Nat)(h3:F.fn 456)(h5:F.fn 436)(hro:F.round=none)(hn:3<=n)(a:Addr)(sv:Value)(zs:List Int)(hlen:zs.length<=1000000)(w:World)
  (hBs:a.block<w.heap.size) (hc:w.cell? a=some sv) (hI:IntsB w.heap.size w sv zs) :
  CallsIn F n Tryz.prog 456 #[.slice none 0 0,.func (.func 436) #[] #[.pointer (some a)]] w λe W'=>∃ v,e=.returned v/\W'.ownsRow w.heap.size 3 1 v zs.length (zs.map (Value.int .i64))/\Below w.heap.size w W':=by
 have h1:1<=n:=aD
 obtain ⟨i0,hi,hz0,hz1,hz2⟩:=info_parts Fd
 refine callsIn_of_wp_marks Tryz.func456 rfl h3 ?_ hro
 simp only [Tryz.ntmps456,mZ,fI,p7,Nat.reduceAdd,Nat.reduceSub,zS,zR,EL,AY,dA,c7]
 gi_wp2
 have bO:=Boxed.new w 26 (.slice none 0 0)
 have hB0:Below w.heap.size w (w.alloc (.cells #[.slice none 0 0] 26)):=(Below.refl _ w).alloc (bC _) _
 refine wpIn_rangeFunc_ownG hro h1 (gf:=436) (lb:=#[.pointer (some a)]) rfl h5 (enters_of Tryz.func436 (by kernel_rfl) rfl)
  (Jo F (n - 1) h5 hro aD a w.heap.size sv zs hlen _ (by simp;omega) bV ((hB0.cell (p:=a) hBs).trans hc) (hI.below hB0)) belowK_t (belowK_b bV) (Below.refl _ _) (λ_=>rfl)
  (λpre W=>(∃ v,Boxed W w.heap.size 26 v/\W.ownsRow w.heap.size 3 1 v pre.length (pre.map (Value.int .i64))/\True)/\Below w.heap.size w W)
  (λ_ _ _=>False)
  (OwnFrom.and (Own.from (holdsRow_own w.heap.size w.heap.size 26 3 1 (λpre=>pre.length) (λpre:List Int=>pre.map (Value.int .i64)) (λ_ _=>True)) _) (ownFrom_below (bC _) bV))
  (λ_ _ _ _ _ hs _ _=>hs)
  ⟨⟨_,bO,World.ownsRow_nil _ _ _ _,trivial⟩,hB0⟩
  (λx=>{ tmps:=#[.slice none 0 0,.func (.func 436) #[] #[.pointer (some a)],.pointer (some ⟨w.heap.size,0,none⟩),undef,.slice none 0 0,.int .i64 x,.func (.func 436) #[] #[.pointer (some a)],.int .i64 x,undef,undef,undef,undef,undef],defers:=[] }) ?assign ?body ?done ?stop
 case assign =>
  intro l x W K hK
  gi_wp2
  exact hK
 case body =>
  rintro l pre x W ⟨⟨v,hv,hrow,_⟩,hB⟩ hlt
  have hc:=hv.cell
  gi_wp2_with (gi_at_builtin;refine wpListIn_append_own _ rfl _ _ 26 rfl w.heap.size 3 i0 (.int .i64 0) 1 8 Tryz.underlying26 hi hz0 hz1 hz2 rfl (by decide) _ _ _ rfl (hrow.alloc _) ⟨W.heap.size,0,none⟩ 1 1 [.int .i64 x] rfl rfl (cell_one_new _ _ _) (by simp [Value.oneCell']) (by simp only [maxLen];omega) aD (by have:=hB.size;simp;omega) ?_;intro v' w1 hown' hgrow _;obtain ⟨g',cap',rfl⟩:=ownsRow_succ hown';obtain ⟨hv1,hv2,hr2,hk2,hb2⟩:=hv.appended (by decide) hrow hB.size (bC _) hown' hgrow;have hc1:=hv1.cell;have hf1:=hv1.frozen)
  exact ⟨hk2.from _,hb2,⟨_,hv2,by simpa using hr2,trivial⟩,hB.trans hb2⟩
 case done =>
  rintro D ys W hD rfl ⟨⟨v,hv,hrow,_⟩,hB⟩ hK
  have hc:=hv.cell
  gi_wp2
  refine ⟨by simp,.inl ⟨_,_,rfl,run_takeDeferred hK,?_⟩⟩
  exact ⟨_,results_tmp rfl _ _ _,v,rfl,ownsRow_putObj hrow _ hK rfl,hB.trans (belowK_b (w:=w) (bC _) W D _ _ (by simp at hD;omega) hK rfl rfl)⟩
 case stop =>
  rintro D c pre W _ _ h _
  exact h.elim
theorem Oy (F:Fence)(n:Nat)(h2:F.fn 435)(h3:F.fn 456)(h5:F.fn 436)(hro:F.round=none)(hn:4<=n)(a:Addr)(sv:Value)(zs:List Int)(hlen:zs.length<=1000000)(w:World)
  (hBs:a.block<w.heap.size) (hc:w.cell? a=some sv) (hI:IntsB w.heap.size w sv zs) :
  CallsIn F n Tryz.prog 435 #[.func (.func 436) #[] #[.pointer (some a)]] w λe W'=>∃ v,e=.returned v/\W'.ownsRow w.heap.size 3 1 v zs.length (zs.map (Value.int .i64))/\Below w.heap.size w W':=by
 refine callsIn_of_wp Tryz.func435 rfl h2 ?_ hro
 simp only [Tryz.ntmps435,mZ,fI,p7,Nat.reduceAdd,Nat.reduceSub,zS,zR,EL,AY,dA,c7]
 gi_wp2_with (refine ⟨λ_=>by omega,(Ky F (n - 1) h3 h5 hro aD a sv zs hlen _ hBs hc hI).mono ?_⟩;rintro e w' ⟨v,rfl,hrow,hb⟩)
 go_ret
 exact ⟨v,rfl,hrow,hb⟩
theorem MN (l:List Int)(hl:l.length<=1000000):Own Tryz.prog 435 [.fn 436 [.adr [dLI l]]] 3 1 (l.map cI):=by
 refine ⟨⟨Tryz.f435,Tryz.func435,rfl,rfl⟩,λM w vals hM ha=>?_⟩
 obtain ⟨hlen,hr⟩:=ha
 match vals,hlen with
 | [v],_ =>
  have h0:=hr 0 v _ rfl rfl
  obtain ⟨p,rfl,h1⟩:∃ p,v=.func (.func 436) #[] #[p]/\RepV M iS rU w p (.adr [dLI l]):=by
   cases h0 with
   | fn _ vs _ hl hr=>match vs,hl with
    | [p],_=>exact ⟨p,rfl,hr 0 p _ rfl rfl⟩
  obtain ⟨a,sv,rfl,hxc,hsv⟩:∃ a sv,p=.pointer (some a)/\(¬ M a.block/\w.cell? (a.add 0)=some sv)/\RepV M iS rU w sv (dLI l):=by
   cases h1 with
   | adr a xs _ hl h1 hc hr=>match xs,hl with
    | [sv],_=>exact ⟨a,sv,rfl,hc 0 sv rfl,hr 0 sv _ rfl rfl⟩
  have hca:=hxc.2
  have hca0:w.cell? a=some sv:=by rw [show a.add 0=a by unfold Addr.add;simp] at hca;exact hca
  have hab:=World.block_lt_of_cell? w _ hca0
  have hI:IntsB w.heap.size w sv l:=by
   unfold dLI at hsv
   rcases rY hsv with ⟨rfl,he⟩|⟨ad,cap,sz,xs,rfl,hrep,_,hcell,_,_,_⟩
   .exact .inl ⟨rfl,by simpa using he⟩
   .have hcl:∀ j x,l[j]?=some x->w.cell? (ad.add j)=some (.int .i64 x):=λj x hj=>by
     have hlen2:=hrep.len
     rw [y6,aW] at hlen2
     have hjl:j<l.length:=(aM.1 hj).1
     have hu:xs[j]?=some xs[j]:=aA aD
     have hd:=hrep.rep j _ (D.int .i64 x) hu (by rw [y6,aN,hj];rfl)
     generalize hq:xs[j]=q at hu hd
     cases hd
     exact (hcell j _ hu).2
    refine .inr ⟨ad,cap,by simp,λhl0=>?_,hcl⟩
    have hp:0<l.length:=List.length_pos_iff.2 hl0
    have:=World.block_lt_of_cell? w _ (hcl 0 _ (aA hp))
    rwa [iB] at this
  refine (CallsIn.calls (Oy Fence.wide 4 trivial trivial trivial rfl (bC _) a sv l hl w hab hca0 hI) (λk=>room_wide k)).mono λe w' ⟨v,he,hrow,hb⟩=>?_
  exact ⟨v,_,he,by simpa using hrow,λu hu=>by obtain ⟨x,_,rfl⟩:=bA.1 hu;rfl,yZ l,pZ l,λc hc=>by obtain ⟨x,_,rfl⟩:=bA.1 hc;rfl,hb⟩
theorem KR (l:List Int):Pure Tryz.prog 383 [dLI l] (.fn 436 [.adr [dLI l]]):=by
 refine Tz.pK ⟨λ_=>false,λ_=>[]⟩ Tryz.func383 rfl (λQ hQ=>?_)
 have Y:=trivial
 exact wv (h:=hQ _ _ wy)
theorem NA (l:List Int)(hl:l.length<=1000000):Own Tryz.prog 382 [.fn 436 [.adr [dLI l]]] 3 1 ((jZ l).map cI):=by
 refine Tz.oK ⟨λt=>t==5||t==3||t==2,λ_=>[]⟩ Tryz.func382 rfl (λQ hQ=>?_)
 have Y:=trivial
 refine wv (h:=lN (MN l hl) wl ?_)
 refine wv (h:=?_)
 unfold fM;refine A8 (ty:=3) (xs:=l) (by simp [go_sem]) hl ?_
 refine wv (h:=?_)
 exact hQ _ _ _ (by simp [go_sem,Y,kD]) (by simp [go_sem,Y,kD])
end Go.Abs
end
section
set_option maxRecDepth 100000
set_option maxHeartbeats 4000000
open Go Go.Proofs
namespace Go.Abs
theorem Ba (l:List Int)(hl:l.length<=1000):Pure Tryz.prog 325 [dLI l] (.bool (decide (¬ l.Nodup))):=by
 have hlen:=kD l
 have hI:decide (imagesN l<l.length)=decide (¬ l.Nodup):=by
  have h1:=yE l
  have h2:imagesN l<=l.length:=by unfold imagesN;have:=AO (jZ l);omega
  rw [aT];simp only [decide_eq_true_eq]
  constructor
  .intro h hn;have:=h1.2 hn;omega
  .intro hn;have:imagesN l≠l.length:=λhe=>hn (h1.1 he);omega
 unfold imagesN at hI
 refine Tz.pK ⟨λ_=>false,λ_=>[]⟩ Tryz.func325 rfl (λQ hQ=>?_)
 have Y:=trivial
 refine wo (h:=aB (KR l) wl ?_)
 refine wo (h:=lN (NA l aD) wl ?_)
 refine wo (h:=?_)
 unfold fM;refine yQ (ty:=3) (xs:=jZ l) (by simp [go_sem]) aD λk=>?_
 exact wo (h:=hQ _ _ (by simp [go_sem,hI]))
theorem N7 (t:Types)(p g:Graph)(m:Part)(inj:Bool):iX t p g m inj=if iX t p g m false≠0 then iX t p g m false else if inj=true/\(¬ m.nodes.Nodup\/¬ m.edges.Nodup) then 5 else 0:=by
 unfold iX
 split
 .simp
 .split
  .simp_all
  .split
   .simp_all
   .simp
theorem vJ (t:Types)(ht:t.ok)(p g:Graph)(m:Part)(inj:Bool):Pure Tryz.prog 230 [t.d,p.d,g.d,m.d,.bool inj] (dI (fN t p g m inj)):=by
 refine Tz.pK ⟨λ_=>false,λ_=>[]⟩ Tryz.func230 rfl (λQ hQ=>?_)
 have Y:=trivial
 refine wv (h:=aB (vI t ht p g) wl ?_)
 refine dP (λh2=>?_) λh2=>?_
 .have hC:fN t p g m inj=f5 t p g:=by unfold fN;rw [if_pos (bW h2)]
  exact wv (h:=hQ _ _ (by simp [go_sem,hC]))
 .have hG:=pM (bW h2)
  have hv:=CU (bW h2)
  have hla:=bR hG.gp
  have hC:fN t p g m inj=iX t p g m inj:=by unfold fN;rw [if_neg (bW h2)]
  rw [N7] at hC
  refine wv (h:=aB (Bb t ht p g hG hv m) wl ?_)
  refine dP (λh5=>?_) λh5=>?_
  .rw [if_pos (bW h5)] at hC
   exact wv (h:=hQ _ _ (by simp [go_sem,hC]))
  .rw [if_neg (bW h5)] at hC
   have hML:=(y4 (show iX t p g m false=0 by simpa using h5)).1
   refine wo (h:=aG (λhg=>Ba m.nodes aD) (λhg=>wl) ?_)
   refine wo (h:=aG (λhg=>Ba m.edges aD) (λhg=>wl) ?_)
   refine fA (λh7=>?_) λh7=>?_
   .rw [if_pos (bW h7)] at hC
    exact wv (h:=hQ _ _ (by simp [go_sem,hC]))
   .rw [if_neg (bW h7)] at hC
    exact wv (h:=hQ _ _ (by simp [go_sem,hC]))
end Go.Abs
end
