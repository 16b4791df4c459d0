/- The search of the program: within, valid, below, shape, Chec -/
import Derived.Test.YthalajhajpjjeaaGreatZgAF
import Derived.Test.YthalajhajpjjeaaGreatZgAA
import Derived.Test.YthalajhajpjjeaaGreatZgAQ
import Derived.RangeFuncBox
import Derived.RangeFuncLeaves
import Derived.Shelf.Abstract
import Derived.WalkKit
import Derived.OwnWalkIn
import Derived.TacticsInMore
import Derived.LoopNIn
import Derived.LoopIn
import Derived.Maps.AppendAt
set_option linter.unusedVariables false
set_option linter.unusedSimpArgs false
section
set_option maxRecDepth 100000
set_option maxHeartbeats 4000000
open Go Go.Proofs
namespace Go.Abs
theorem FD (t:Types)(a:Int):Pure Tryz.prog 384 [dI a,.adr t.c] (.bool (decide ((t.nodes.length:Int)<=a))):=by
 refine Tz.pK ⟨λ_=>false,λ_=>[]⟩ Tryz.func384 rfl (λQ b=>?_)
 have Y:=trivial
 exact wo (h:=b _ _ wy)
theorem FC (t:Types)(x:Edge):Pure Tryz.prog 385 [.agg x.c,.adr t.c] (.bool (decide ((t.edges.length:Int)<=x.type))):=by
 refine Tz.pK ⟨λ_=>false,λ_=>[]⟩ Tryz.func385 rfl (λQ a=>?_)
 have Y:=trivial
 exact wo (h:=a _ _ wy)
theorem Aw (t:Types)(g:Graph):Pure Tryz.prog 326 [t.d,g.d] (.bool (iB t g)):=by
 refine Tz.pK ⟨λ_=>false,λ_=>[]⟩ Tryz.func326 rfl (λQ e=>?_)
 have Y:=trivial
 refine wo (h:=aB (gC g.nodes 384 [.adr t.c] (λa=>decide ((t.nodes.length:Int)<=a)) (by simp [go_sem]) (by simp [go_sem]) (λa _=>FD t a)) wl ?_)
 refine wo (h:=aH (λb=>lX g.edges 385 [.adr t.c] (λx=>decide ((t.edges.length:Int)<=x.type)) (by simp [go_sem]) (by simp [go_sem]) (λx _=>FC t x)) (λb=>wl) ?_)
 exact wo (h:=e _ _ (by simp [go_sem,iB];rw [aR];simp))
theorem Iu (t:Types){g:Graph}(d:graphF g=0):iB t g=mD t g:=by
 have c:=eK d
 have f:(g.nodes.any λn=>decide ((t.nodes.length:Int)<=n))=g.nodes.any λa=>!insideF t a:=by
  rw [aR,aX,aX]
  constructor<;>rintro ⟨a,b,h⟩<;>refine ⟨a,b,?_⟩<;>have:=c.1 a b<;>simp [insideF] at h ⊢<;>omega
 have e:(g.edges.any λx=>decide ((t.edges.length:Int)<=x.type))=g.edges.any λx=>!oG t x:=by
  rw [aR,aX,aX]
  constructor<;>rintro ⟨a,b,h⟩<;>refine ⟨a,b,?_⟩<;>have:=(c.2 a b).1<;>simp [oG] at h ⊢<;>omega
 unfold iB mD
 rw [f,e]
def Vu (p g:Graph)(i:Nat):Int:=if i=0 then graphF p else graphF g
theorem Vt (p g:Graph):bQ (Vu p g) 0 2=if graphF p≠0 then graphF p else if graphF g≠0 then graphF g else 0:=by simp [bQ,Vu]
theorem wB (t:Types)(z:t.ok)(p g:Graph):Pure Tryz.prog 232 [t.d,p.d,g.d] (dI (fZ t p g)):=by
 refine Tz.pK ⟨λt=>t==10,λ_=>[]⟩ Tryz.func232 rfl (λQ m=>?_)
 have Y:=trivial
 refine wv (h:=aB (mI t z) wl ?_)
 refine dP (λs=>?_) λs=>?_
 .have hA:fZ t p g=(b9 t).2:=by unfold fZ;rw [if_pos (bX s)]
  exact wv (h:=m _ _ (by simp [go_sem,hA]))
 .have hA:fZ t p g=if graphF p≠0 then graphF p else if graphF g≠0 then graphF g else if (!mD t p||!mD t g)=true then 13 else 0:=by unfold fZ;rw [if_neg (bX s)]
  refine wo (h:=bD (λi e H=>(e 3=.adr t.c/\e 4=.adr p.c/\e 5=.adr g.c/\e 22=.list [p.c,g.c]/\e 23=dI 2/\e 24=dI i)/\(i<=2)/\(bQ (Vu p g) i (2 - i)=bQ (Vu p g) 0 2)) (λi=>2 - i) 0 ⟨wg,wi,(by rfl)⟩ λE r i e H o=>?_)
  obtain ⟨B,C,u⟩:=o
  have Y:=wa Y B
  refine dP (λv=>?_) λv=>?_
  .have hi2:i<2:=aD
   have a:=eI (Vu p g) hi2
   rw [u] at a
   obtain ⟨x,y,j⟩:∃ x:Graph,[[D.list (p.nodes.map cI),D.list (p.edges.map Edge.c)],[D.list (g.nodes.map cI),D.list (g.edges.map Edge.c)]][i]?=some [D.list (x.nodes.map cI),D.list (x.edges.map Edge.c)]/\Vu p g i=graphF x:=by
    rcases b6 i 1 with h|h
    .obtain rfl:i=0:=aD
     exact ⟨p,rfl,rfl⟩
    .obtain rfl:i=1:=aD
     exact ⟨g,rfl,rfl⟩
   have q:=mO x
   have Y:=wa Y (wa v y)
   refine wo (h:=aB (q) wl ?_)
   refine fA (λn=>?_) λn=>?_
   .have hR:fZ t p g=graphF x:=by
     rw [j,if_pos (bX n),Vt] at a
     rw [hA]
     by_cases w:graphF p=0
     .rw [if_neg (by simp [w])] at a ⊢
      by_cases l:graphF g=0
      .rw [if_neg (by simp [l])] at a;exact absurd a.symm n
      .rw [if_pos l] at a ⊢;exact a
     .rw [if_pos w] at a ⊢;exact a
    exact wv (h:=m _ _ (by simp [go_sem,hR]))
   .rw [j,if_neg (bX n)] at a
    exact wo (h:=wx r (i+1) ⟨wg,wj,(by exact a.symm)⟩)
  .have hz:bQ (Vu p g) 0 2=0:=by rw [<- u,(aD:2 - i=0)];rfl
   have f:graphF p=0:=eP _ _ hz 0 aD aD
   have k:graphF g=0:=eP _ _ hz 1 aD aD
   rw [if_neg (bX f),if_neg (bX k),<- Iu t f,<- Iu t k] at hA
   refine wo (h:=aB (Aw t p) wl ?_)
   refine wo (h:=aH (λA=>Aw t g) (λA=>wl) ?_)
   refine fA (λb=>?_) λb=>?_
   .rw [if_pos (by simpa [oS] using b)] at hA
    exact wv (h:=m _ _ (by simp [go_sem,hA]))
   .rw [if_neg (by simpa [oS] using b)] at hA
    exact wv (h:=m _ _ (by simp [go_sem,hA]))
/-! ### below -/
def rE (n:Nat)(l:List Int):List Bool:=(List.range n).map λ(b:Nat)=>mem l (b:Int)
@[go_sem] theorem Q7 (n:Nat)(l:List Int):(rE n l).length=n:=by simp [rE]
theorem Q6 (n:Nat):rE n []=List.replicate n false:=by
 apply fT (by simp [rE]);intro i b a;simp [rE,zX]
theorem OH (n:Nat)(l:List Int)(x:Int)(c:0<=x):rE n (l++[x])=(rE n l).set x.toNat true:=by
 apply fT (by simp [rE]);intro i b a
 rw [Ah]
 simp only [rE,oR,pO,vE]
 split
 .rename_i h;rw [c4];right;simp;omega
 .rename_i h;rw [show decide ((i:Int)=x)=false by simp;omega,qY]
def J9 (t:Types)(a:Nat):List Bool:=rE t.nodes.length (j6 t a)
def rB (t:Types)(n:Nat):List (List D):=(List.range n).map λa=>[.list ((J9 t a).map cB)]
def belowD (t:Types):D:=.list (rB t t.nodes.length)
theorem Oi (t:Types)(n:Nat):rB t (n+1)=rB t n++[[.list ((J9 t n).map cB)]]:=by simp [rB,c7]
@[go_sem] theorem Wl (t:Types)(n:Nat):(rB t n).length=n:=by simp [rB]
@[go_sem] theorem R0 (t:Types)(n:Nat):D.clLL (rB t n)=true:=by
 unfold rB;exact dK (λa=>[.list ((J9 t a).map cB)]) (λa=>by simp [D.clL,go_sem]) _
theorem Rs {t:Types}{a:Int}{x:Int}(h:x∈j6 t a):0<=x/\x<t.nodes.length:=by
 unfold j6 at h
 split at h
 .simp at h;omega
 .cases h
theorem Pk (t:Types)(a:Int):(j6 t a).length<=t.nodes.length:=by
 unfold j6
 split
 .rw [aV];exact fC (mH _ _) bW
 .simp
@[go_sem] theorem WF (t:Types):(belowD t).cl=true:=R0 t _
theorem BG (t:Types)(w:t.ok):Pure Tryz.prog 327 [t.d] (belowD t):=by
 have x:=w.fewN
 refine Tz.pK ⟨λt=>t==3||t==5||t==19,λ_=>[]⟩ Tryz.func327 rfl (λQ A=>?_)
 have Y:=trivial
 refine wo (h:=bD (λi e H=>(e 1=.adr t.c/\e 11=.list (t.nodes.map NodeTy.c)/\e 12=dI t.nodes.length/\e 3=.own 0 i/\e 13=dI i)/\(H.get 0=some ⟨306,1,rB t i,false⟩)/\(0<H.next)/\(i<=t.nodes.length)) (λi=>t.nodes.length - i) 0 ⟨wg,(by simp [go_sem,rB]),wn,wi⟩ λG u i e H p=>?_)
 obtain ⟨C,m,f,E⟩:=p
 have Y:=wa Y (wa C (wa m (b8 f)))
 refine dP (λy=>?_) λy=>?_
 .have hll:=Pk t i
  have Y:=wa Y y
  refine wo (h:=aB (Lx t w i) wl ?_)
  refine wo (h:=bD (λk e H=>∃ q:Nat,(e 1=.adr t.c/\e 11=.list (t.nodes.map NodeTy.c)/\e 12=dI t.nodes.length/\e 3=.own 0 i/\e 13=dI i/\e 4=dI i/\e 5=.own q t.nodes.length/\e 26=dLI (j6 t i)/\e 27=dI (j6 t i).length/\e 28=dI k)/\(H.get 0=some ⟨306,1,rB t i,false⟩)/\(0<H.next)/\(H.get q=some ⟨4,1,(rE t.nodes.length ((j6 t i).take k)).map cB,false⟩)/\(q<H.next)/\(k<=(j6 t i).length)/\(0<q)) (λk=>(j6 t i).length - k) 0 ⟨H.next,wg,wn,wn,(by simp [go_sem,Q6]),wn,wi,wi⟩ λF s k e H o=>?_)
  obtain ⟨q,B,l,b,j,a,D,z⟩:=o
  have v:=dF (aD:q≠0)
  have Y:=wa Y (wa B (wa l (wa (b8 b) (wa j (wa (b8 a) v)))))
  refine dP (λg=>?_) λg=>?_
  .have hbx:=Rs (aC g)
   have r:(j6 t i)[k].toNat<(rE t.nodes.length ((j6 t i).take k)).length:=by rw [Q7];omega
   have n:rE t.nodes.length ((j6 t i).take (k+1))=(rE t.nodes.length ((j6 t i).take k)).set (j6 t i)[k].toNat true:=by rw [aE g,OH _ _ _ hbx.1]
   have Y:=wa Y (wa g (wa (aA g) (wa (aA r) (wa hbx.1 hbx.2))))
   exact wo (h:=wx s (k+1) ⟨q,wg,wn,wn,(by simp [go_sem,Y,n,bY,cB]),wn,wj,wj⟩)
  .have hke:(j6 t i).take k=j6 t i:=aG aD
   have Y:=wa Y hke
   exact wo (h:=wx u (i+1) ⟨wg,(by simp [go_sem,Y,Oi,J9]),wn,wj⟩)
 .exact wv (h:=A _ _ (by simp [go_sem,Y,belowD,(aD:i=t.nodes.length)]))
theorem KM {t:Types}(a:(b9 t).2=0){k:Int}(h:0<=k/\k<t.nodes.length):given2F t k k=0:=by
 unfold given2F;rw [if_neg (by rw [a];simp),if_pos (by simp [insideF];omega)]
@[go_sem] theorem Xk (t:Types)(a:Nat):(J9 t a).length=t.nodes.length:=by simp [J9,rE]
theorem IE {t:Types}{a:Int}(h:0<=a/\a<t.nodes.length):(rB t t.nodes.length)[a.toNat]?=some [.list ((J9 t a.toNat).map cB)]:=by
 unfold rB
 rw [aN,oM aD];rfl
theorem Pj {t:Types}(d:(b9 t).2=0){a b:Int}(e:0<=a/\a<t.nodes.length)(f:0<=b/\b<t.nodes.length):mem (j6 t a) b=wT t a b:=by
 unfold j6 wT
 rw [if_pos (KM d e),aR,mem_iff,bB]
 constructor
 .rintro ⟨k,c,rfl⟩
  rw [g6] at c
  simpa using c.2
 .intro h
  exact ⟨b.toNat,by rw [g6];exact ⟨by simp;omega,h⟩,aD⟩
theorem LO {t:Types}(e:(b9 t).2=0){a b:Int}(d:0<=a/\a<t.nodes.length)(c:0<=b/\b<t.nodes.length):(J9 t a.toNat)[b.toNat]?=some (wT t a b):=by
 unfold J9 rE
 rw [aN,oM aD,dQ,Int.toNat_of_nonneg d.1,Int.toNat_of_nonneg c.1,Pj e d c]
theorem BF (t:Types)(L:t.ok)(p g:Graph)(u:G17 t p g)(K:(b9 t).2=0)(m:Part):Pure Tryz.prog 233 [t.d,p.d,g.d,m.d] (dI (iX t p g m false)):=by
 have P:=bS u.gp
 have O:=bS u.gg
 have y:=(eK u.gp).2
 refine Tz.pK ⟨λt=>t==14||t==15,λr=>match r with|17=>[(0,10),(1,10),(3,10),(4,10),(5,10),(6,10),(8,10),(9,10),(0,11),(1,11),(3,11),(4,11),(5,11),(6,11),(8,11),(9,11),(10,11),(5,12),(6,12),(8,12),(9,12)]|_=>[]⟩ Tryz.func233 rfl (λQ l=>?_)
 have Y:=@belowD.eq_1
 refine fA (λS=>?_) λS=>?_
 .have hM:iX t p g m false=20:=by unfold iX;rw [if_pos aD]
  exact wv (h:=l _ _ (by simp [go_sem,hM]))
 .have hM:iX t p g m false=(if bQ (I9 t p g m) 0 p.nodes.length≠0 then bQ (I9 t p g m) 0 p.nodes.length else if bQ (iP p g m) 0 p.edges.length≠0 then bQ (iP p g m) 0 p.edges.length else if false=true/\(¬ m.nodes.Nodup\/¬ m.edges.Nodup) then 5 else 0):=by unfold iX;rw [if_neg aD]
  have N:m.nodes.length=p.nodes.length:=aD
  have M:m.edges.length=p.edges.length:=aD
  refine wv (h:=aB (BG t L) wl ?_)
  refine wo (h:=bD (λi e H=>(e 4=.adr t.c/\e 5=.adr p.c/\e 6=.adr g.c/\e 7=.adr m.c/\e 9=.list (rB t t.nodes.length)/\e 35=dLI m.nodes/\e 36=dI m.nodes.length/\e 37=dI i)/\(i<=m.nodes.length)/\(bQ (I9 t p g m) i (p.nodes.length - i)=bQ (I9 t p g m) 0 p.nodes.length)) (λi=>m.nodes.length - i) 0 ⟨wg,wi,(by rfl)⟩ λI0 D i e H A=>?_)
  obtain ⟨U,X,I⟩:=A
  have Y:=wa Y U
  refine dP (λv=>?_) λv=>?_
  .have hn:i<p.nodes.length:=aD
   have a:=eI (I9 t p g m) hn
   rw [I] at a
   have f:I9 t p g m i=(if m.nodes[i]<0\/(g.nodes.length:Int)<=m.nodes[i] then 6 else if wT t p.nodes[i] (g.nodes[m.nodes[i].toNat]?.getD 0)=true then 0 else 13):=by simp only [I9,aA v,aA hn,Option.getD_some]
   have s:=u.tp _ (aC hn)
   have Y:=wa Y (wa v (wa (aA v) (aA hn)))
   refine fA (λR=>?_) λR=>?_
   .rw [if_pos aD] at f
    rw [f,if_pos aD] at a
    rw [a,if_pos aD] at hM
    exact wv (h:=l _ _ (by simp [go_sem,hM]))
   .have hkb:m.nodes[i].toNat<g.nodes.length:=aD
    rw [if_neg aD,aA hkb,Option.getD_some] at f
    have B:=u.tg _ (aC hkb)
    have w:=IE s
    have x:=LO K s B
    have Y:=wa Y (wa (aA hkb) (wa w x))
    refine fA (λE=>?_) λE=>?_
    .rw [if_neg (bX E)] at f
     rw [f,if_pos aD] at a
     rw [a,if_pos aD] at hM
     exact wv (h:=l _ _ (by simp [go_sem,hM]))
    .rw [if_pos (bX E)] at f
     rw [f,if_neg aD] at a
     exact wo (h:=wx D (i+1) ⟨wg,wj,(by exact a.symm)⟩)
  .have hN0:bQ (I9 t p g m) 0 p.nodes.length=0:=by rw [<- I,(aD:p.nodes.length - i=0)];rfl
   rw [hN0,if_neg aD] at hM
   refine wo (h:=bD (λk e H=>(e 4=.adr t.c/\e 5=.adr p.c/\e 6=.adr g.c/\e 7=.adr m.c/\e 9=.list (rB t t.nodes.length)/\e 69=dLI m.edges/\e 70=dI m.edges.length/\e 71=dI k)/\(k<=m.edges.length)/\(bQ (iP p g m) k (p.edges.length - k)=bQ (iP p g m) 0 p.edges.length)) (λk=>m.edges.length - k) 0 ⟨wg,wi,(by rfl)⟩ λZ C k e H z=>?_)
   obtain ⟨T,W,J⟩:=z
   have Y:=wa Y T
   refine dP (λj=>?_) λj=>?_
   .have hn:k<p.edges.length:=aD
    have a:=eI (iP p g m) hn
    rw [J] at a
    have V:=y _ (aC hn)
    have q:p.edges[k].from_.toNat<m.nodes.length:=aD
    have o:p.edges[k].to_.toNat<m.nodes.length:=aD
    have b:iP p g m k=(if m.edges[k]<0\/(g.edges.length:Int)<=m.edges[k] then 6 else if p.edges[k].type≠(g.edges[m.edges[k].toNat]?.getD cF).type then 13 else if m.nodes[p.edges[k].from_.toNat]≠(g.edges[m.edges[k].toNat]?.getD cF).from_\/m.nodes[p.edges[k].to_.toNat]≠(g.edges[m.edges[k].toNat]?.getD cF).to_ then 11 else 0):=by
     simp only [iP,aA j,aA hn,Option.getD_some,aA q,aA o]
    have Y:=wa Y (wa j (wa (aA j) (wa (aA hn) (wa (aA q) (aA o)))))
    refine fA (λG=>?_) λG=>?_
    .rw [if_pos aD] at b
     rw [b,if_pos aD] at a
     rw [a,if_pos aD] at hM
     exact wv (h:=l _ _ (by simp [go_sem,hM]))
    .have hkb:m.edges[k].toNat<g.edges.length:=aD
     rw [if_neg aD,aA hkb,Option.getD_some] at b
     have Y:=wa Y (aA hkb)
     refine fA (λn=>?_) λn=>?_
     .rw [if_pos n] at b
      rw [b,if_pos aD] at a
      rw [a,if_pos aD] at hM
      exact wv (h:=l _ _ (by simp [go_sem,hM]))
     .rw [if_neg (bX n)] at b
      refine fA (λF=>?_) λF=>?_
      .rw [if_pos aD] at b
       rw [b,if_pos aD] at a
       rw [a,if_pos aD] at hM
       exact wv (h:=l _ _ (by simp [go_sem,hM]))
      .rw [if_neg aD] at b
       rw [b,if_neg aD] at a
       exact wo (h:=wx C (k+1) ⟨wg,wj,(by exact a.symm)⟩)
   .have hE0:bQ (iP p g m) 0 p.edges.length=0:=by rw [<- J,(aD:p.edges.length - k=0)];rfl
    rw [hE0,if_neg aD] at hM
    rw [if_neg bW] at hM
    exact wv (h:=l _ _ (by simp [go_sem,hM]))
/-! ### the finder -/
theorem HC (i:Nat):Pure Tryz.prog 441 [.nil,dI i] (dI (-1)):=by
 refine Tz.pK ⟨λ_=>false,λ_=>[]⟩ Tryz.func441 rfl (λQ a=>?_)
 have Y:=trivial
 exact wv (h:=a _ _ wy)
theorem JZ (l:List Int){i:Nat}(h:i<l.length):Pure Tryz.prog 441 [dLI l,dI i] (dI l[i]):=by
 have a:l≠[]:=λe=>by rw [e] at h;simp at h
 refine Tz.pK ⟨λ_=>false,λ_=>[]⟩ Tryz.func441 rfl (λQ b=>?_)
 have Y:=wa (aA h) a
 exact wo (h:=b _ _ wy)
def GivD (d:D)(l:List Int)(n:Nat):Prop:=d.cl=true/\∀ i,i<n->Pure Tryz.prog 441 [d,dI i] (dI (l[i]?.getD (-1)))
theorem GivD.nil (n:Nat):GivD .nil (List.replicate n (-1)) n:=⟨rfl,λi hi=>by
 have:=HC i
 rw [uV,if_pos hi];exact this⟩
theorem GivD.list (l:List Int):GivD (dLI l) l l.length:=⟨pD l,λi hi=>by rw [aA hi];exact JZ l hi⟩
theorem JY (k n:Int):Pure Tryz.prog 463 [dI k,.adr [dI n]] (.bool (decide (k < -1)||decide (n<=k))):=by
 refine Tz.pK ⟨λ_=>false,λ_=>[]⟩ Tryz.func463 rfl (λQ a=>?_)
 have Y:=trivial
 exact wo (h:=a _ _ wy)
theorem Jo {f:Nat->Int}{c:Int}(h:∀ j,f j=0\/f j=c):∀ n k,bQ f k n=0\/bQ f k n=c
 | 0,k=>.inl rfl
 | n+1,k=>by
  unfold bQ
  split
  .rename_i h1;exact .inr ((h k).resolve_left h1)
  .exact Jo h n (k+1)
theorem Mx (l:List Int)(n:Int):nD l n=if (l.any λk=>decide (k < -1)||decide (n<=k))=true then 6 else 0:=by
 by_cases h:(l.any λk=>decide (k < -1)||decide (n<=k))=true
 .rw [if_pos h]
  rcases Jo (f:=B6 n l) (c:=6) (λj=>by unfold B6;split<;>simp) l.length 0 with h0|h0
  .obtain ⟨x,d,a⟩:=aX.1 h
   obtain ⟨i,e,rfl⟩:=aO d
   have:=eP _ _ h0 i aD aD
   unfold B6 at this
   rw [aA e,Option.getD_some] at this
   simp only [c4,decide_eq_true_eq] at a
   rw [if_pos a] at this;cases this
  .exact h0
 .rw [if_neg h]
  refine p5 _ _ λj _ g=>?_
  unfold B6
  rw [if_neg]
  intro a
  have b:j<l.length:=aD
  rw [aA b,Option.getD_some] at a
  exact h (aX.2 ⟨_,aC b,by simpa using a⟩)
theorem DK (l:List Int)(n:Int):Pure Tryz.prog 462 [dLI l,dI n] (dI (nD l n)):=by
 refine Tz.pK ⟨λ_=>false,λ_=>[]⟩ Tryz.func462 rfl (λQ b=>?_)
 have Y:=trivial
 refine wv (h:=aB (gC l 463 [.adr [dI n]] (λk=>decide (k < -1)||decide (n<=k)) (by simp [go_sem]) (by simp [go_sem]) (λk _=>JY k n)) wl ?_)
 refine dP (λa=>?_) λa=>?_
 .have hO:nD l n=6:=by rw [Mx,if_pos (bX a)]
  exact wv (h:=b _ _ (by simp [go_sem,hO]))
 .have hO:nD l n=0:=by rw [Mx,if_neg (bX a)]
  exact wv (h:=b _ _ (by simp [go_sem,hO]))
def Srch.cellP (S:Srch)(most:Int)(pn pe ns es ou:D):List D:=[dLI S.p.nodes,.list (S.p.edges.map Edge.c),dLI S.g.nodes,.list (S.g.edges.map Edge.c),.list (rB S.t S.t.nodes.length),pn,pe,.bool S.inj,dI most,ns,es,ou]
def EE (S:Srch)(l:List Int)(i k:Nat):Bool:=zC S.pe i k&&y7 S l i k
theorem DL (S:Srch)(a:Int)(r pe es s:D)(j:r.cl=true)(q:es.cl=true)(n:s.cl=true)(l:List Int)(i k:Nat)(o:i<S.p.edges.length)(w:k<S.g.edges.length)
  (b:GivD pe S.pe S.p.edges.length) (B:0<=S.p.edges[i].from_) (y:S.p.edges[i].from_.toNat<l.length) (x:0<=S.p.edges[i].to_) (e:S.p.edges[i].to_.toNat<l.length) :
  Pure Tryz.prog 443 [.adr (S.cellP a r pe (dLI l) es s),dI i,dI k] (.bool (EE S l i k)):=by
 have m:=b.1
 obtain ⟨v,u⟩:=cW (S.pe[i]?.getD (-1))
 have d:=b.2 i o
 rw [<- u] at d
 have f:zC S.pe i k=(decide (v<0)||decide (v=(k:Int))):=by unfold zC;rw [<- u]
 have C:y7 S l i k=(decide (S.g.edges[k].type=S.p.edges[i].type)&&(decide (S.g.edges[k].from_=l[S.p.edges[i].from_.toNat])&&decide (S.g.edges[k].to_=l[S.p.edges[i].to_.toNat]))):=by
  simp only [y7,VB,SD,aA w,aA o,Option.getD_some,aA y,aA e]
  simp
 refine Tz.pK ⟨λt=>t==7,λ_=>[]⟩ Tryz.func443 rfl (λQ z=>?_)
 have Y:=wa @Srch.cellP.eq_1 (wa (aA o) (wa (aA w) (wa (aA y) (wa (aA e) (wa @Edge.c.eq_1 (wa j (wa q (wa n m))))))))
 refine wo (h:=aB (d) wl ?_)
 refine fA (λA=>?_) λA=>?_
 .have hE:EE S l i k=false:=by unfold EE;rw [f,show decide (v<0)=false by simp;omega,show decide (v=(k:Int))=false by simp;omega];rfl
  exact wv (h:=z _ _ (by simp [go_sem,hE]))
 .have hE:EE S l i k=y7 S l i k:=by
   unfold EE;rw [f]
   rcases Int.lt_or_le v 0 with h|h
   .simp [h]
   .simp [A h]
  exact wo (h:=z _ _ (by simp [go_sem,hE,C,Ch,lO]))
theorem Ev (S:Srch)(L:graphF S.p=0)(U:graphF S.g=0)(a:Int)(r s es u:D)(f:r.cl=true)(n:es.cl=true)(m:u.cl=true)(l:List Int)(v:GivD s S.pe S.p.edges.length) :
  Pure Tryz.prog 442 [.adr (S.cellP a r s (dLI l) es u)] (.bool (tN S l)):=by
 have w:=v.1
 have B:=(eK L).2
 have T:=bS L
 have R:=bS U
 have V:D.clL (S.cellP a r s (dLI l) es u)=true:=by simp [go_sem,Srch.cellP,D.clL,f,n,m,w]
 refine Tz.pK ⟨λt=>t==5,λ_=>[]⟩ Tryz.func442 rfl (λQ O=>?_)
 have Y:=wa @Srch.cellP.eq_1 (wa f (wa n (wa m w)))
 refine wo (h:=bD (λi e H=>(e 0=.adr (S.cellP a r s (dLI l) es u)/\e 3=dI ((l.length:Int) - 1)/\e 18=.list (S.p.edges.map Edge.c)/\e 19=dI S.p.edges.length/\e 20=dI i)/\(i<=S.p.edges.length)/\(∀ j,j<i->Gf S l j=true)) (λi=>S.p.edges.length - i) 0 ⟨wg,wi,(by intro j C;omega)⟩ λI0 x i e H F=>?_)
 obtain ⟨Z,hi,I⟩:=F
 have Y:=wa Y Z
 refine dP (λq=>?_) λq=>?_
 .have hxi:=(B _ (aC q)).2
  have o:Gf S l i=(decide (max S.p.edges[i].from_ S.p.edges[i].to_≠(l.length:Int) - 1)||(List.range S.g.edges.length).any (EE S l i)):=by
   unfold Gf;rw [aA q,Option.getD_some];rfl
  have Y:=wa Y (wa q (wa (aA q) @Edge.c.eq_1))
  refine fA (λP=>?_) λP=>?_
  .have hKi:Gf S l i=true:=by rw [o];simp;omega
   exact wo (h:=wx x (i+1) ⟨wg,wj,(by intro j C;rcases b6 j i with hji|hji;exact I j hji;(obtain rfl:j=i:=aD;exact hKi))⟩)
  .have hf:S.p.edges[i].from_.toNat<l.length:=aD
   have G:S.p.edges[i].to_.toNat<l.length:=aD
   have A:=hxi.1.1
   have z:=hxi.2.1
   have W:=q
   have Y:=wa Y P
   refine wo (h:=bD (λk e H=>(e 0=.adr (S.cellP a r s (dLI l) es u)/\e 3=dI ((l.length:Int) - 1)/\e 18=.list (S.p.edges.map Edge.c)/\e 19=dI S.p.edges.length/\e 20=dI i/\e 4=dI i/\e 6=.bool false/\e 37=dI S.g.edges.length/\e 38=dI k)/\(k<=S.g.edges.length)/\((List.range k).any (EE S l i)=false)) (λk=>S.g.edges.length - k) 0 ⟨wg,wi,(by rfl)⟩ λI2 J k e H E=>?_)
   obtain ⟨X,hk,N⟩:=E
   have Y:=wa Y X
   refine dP (λy=>?_) λy=>?_
   .obtain ⟨fb,M⟩:∃ b,b=EE S l i k:=⟨_,rfl⟩
    have Y:=wa Y y
    refine wv (h:=aB (DL S a r s es u f n m l i k W y v A hf z G) wl ?_)
    refine dP (λd=>?_) λd=>?_
    .have hKi:Gf S l i=true:=by
      rw [o,c4];right
      exact aX.2 ⟨k,by simpa using y,by simpa using d⟩
     exact wo (h:=wx x (i+1) ⟨wg,wj,(by intro j C;rcases b6 j i with hji|hji;exact I j hji;(obtain rfl:j=i:=aD;exact hKi))⟩)
    .have hfb:EE S l i k=false:=by simpa using d
     have Y:=wa Y d
     exact wo (h:=wx J (k+1) ⟨wg,wj,(by rw [zL,N,hfb];rfl)⟩)
   .have hb0:(List.range S.g.edges.length).any (EE S l i)=false:=by rw [(aD:S.g.edges.length=k)];exact N
    have K:tN S l=false:=by
     simp only [tN,Ff,bK]
     exact ⟨i,q,by rw [o,hb0];simp;omega⟩
    exact wo (h:=O _ _ (by simp [go_sem,K]))
 .have K:tN S l=true:=by
   simp only [tN,cJ,bK]
   exact λj C=>I j aD
  exact wv (h:=O _ _ (by simp [go_sem,K]))
def Jq (S:Srch)(N:Nat)(ns es:List Int)(out:List Part):List Part:=if ns.length<S.p.nodes.length then PJ S N (S.p.nodes.length - ns.length) ns out else Hz S N ns (S.p.edges.length - es.length) es out
theorem R4 (S:Srch){N:Nat}(d:Nat)(l:List Int){a:List Part}(h:N<=a.length):PJ S N d l a=a:=by cases d<;>simp only [PJ,if_pos h]
theorem GN (S:Srch){N:Nat}(ns es:List Int){a:List Part}(h:N<=a.length):Jq S N ns es a=a:=by
 unfold Jq;split;exact R4 S _ _ h;exact Fu _ _ _ h
theorem GM (S:Srch)(N:Nat)(ns:List Int)(a:List Part):Jq S N ns [] a=PJ S N (S.p.nodes.length - ns.length) ns a:=by
 unfold Jq
 split
 .rfl
 .rename_i h
  rw [(aD:S.p.nodes.length - ns.length=0)]
  simp only [PJ,qN,Nat.sub_zero]
  split
  .rename_i h2;exact Fu _ _ _ h2
  .rfl
structure FdS (f a b o:Nat) (S:Srch) (N:Nat) (pn pe:D) (ns es:List Int) (out:List Part) (H:AHeap):Prop where
 bf:H.get f=some ⟨400,12,[S.cellP N pn pe (.own a ns.length) (.own b es.length) (.own o out.length)],false⟩
 ba:H.get a=some ⟨3,1,ns.map cI,false⟩
 bb:H.get b=some ⟨3,1,es.map cI,false⟩
 bo:H.get o=some ⟨36,2,out.map Part.c,false⟩
 le:out.length<=N
 nf:f<H.next/\a<H.next/\b<H.next/\o<H.next
 d:(f≠a/\f≠b/\f≠o)/\(a≠b/\a≠o)/\b≠o
@[go_sem] theorem VD (H:AHeap)(i:Nat):(H.drop i).next=H.next:=rfl
@[go_sem] theorem WC (H:AHeap)(i j:Nat):(H.drop i).get j=if j=i then none else H.get j:=rfl
theorem uY {H:AHeap}{d:D}(h:d.cl=true):fG H d=d:=by cases d<;>first|rfl|simp [D.cl] at h
def S4 (S:Srch)(N:Nat)(pn pe:D)(f o m:Nat):Prop :=
  ∀ (ns es:List Int) (out:List Part) (a b:Nat) (G:AHeap) (Q:D->AHeap->Prop),(S.p.nodes.length - ns.length)+(S.p.edges.length - es.length)=m->ns.length<=S.p.nodes.length->es.length<=S.p.edges.length->(ns.length<S.p.nodes.length->es=[])->FdS f a b o S N pn pe ns es out G ->
  (∀ a' b' H',FdS f a' b' o S N pn pe ns es (Jq S N ns es out) H'->Q (.tup []) H')->ACalls Tryz.prog 398 [.ptr f 1 0 0] G Q
theorem J3 (S:Srch)(A:G17 S.t S.p S.g)(hv:(b9 S.t).2=0)(N:Nat)(hN:N<=5001)(pn E:D)(X:GivD pn S.pn S.p.nodes.length)(Z:GivD E S.pe S.p.edges.length)(f o:Nat)(m:Nat)(ih:∀ k,k<m->S4 S N pn E f o k)(ns es:List Int)(i:List Part)(a b:Nat)(G:AHeap)(Q:D->AHeap->Prop)(hm:(S.p.nodes.length - ns.length)+(S.p.edges.length - es.length)=m)(f6:ns.length<=S.p.nodes.length)(f1:es.length<=S.p.edges.length)(c6:ns.length<S.p.nodes.length->es=[])(hF:FdS f a b o S N pn E ns es i G)
  (hQ:∀ a' b' H',FdS f a' b' o S N pn E ns es (Jq S N ns es i) H'->Q (.tup []) H') (c7:ns.length<S.p.nodes.length) :
  ACalls Tryz.prog 398 [.ptr f 1 0 0] G Q:=by
 have f8:=bS A.gp
 have f7:=bS A.gg
 have f9:∀ x∈S.p.edges,(0<=x.from_/\x.from_<S.p.nodes.length)/\(0<=x.to_/\x.to_<S.p.nodes.length):=λx hx=>((eK A.gp).2 x hx).2
 obtain ⟨gf,ga,gb,go,a5,⟨lf,la,lb,lo⟩,⟨d1,d2,d3⟩,⟨d4,d5⟩,d6⟩:=hF
 have ff:=b8 lf
 have fa:=b8 la
 have fb:=b8 lb
 have fo:=b8 lo
 have w:=X.1
 have F:=Z.1
 have b6:∀ H:AHeap,fG H pn=pn:=λH=>uY w
 have W:∀ H:AHeap,fG H E=E:=λH=>uY F
 refine (aJ (cfg:=⟨λ_=>false,λr=>match r with|0=>[(2,16),(3,16),(4,16)]|_=>[]⟩) Tz.mixed Tryz.func398 rfl rfl (aF rfl) (by kernel_rfl) ?_)
 have e9:=And.intro (dF (aD:o≠b)) (And.intro (dF (aD:o≠a)) (And.intro (dF (aD:o≠f)) (And.intro (dF (aD:b≠a)) (And.intro (dF (aD:b≠f)) (dF (aD:a≠f))))))
 have Y:=wa gf (wa ga (wa gb (wa go (wa ff (wa fa (wa fb (wa fo (wa @Part.c.eq_1 (wa @Srch.cellP.eq_1 (wa w (wa F (wa b6 (wa W (wa c7 e9))))))))))))))
 refine rT (λh1=>?_) λh1=>?_
 .have hX:Jq S N ns es i=i:=GN S _ _ aD
  refine wv (h:=?_)
  exact hQ a b _ (by rw [hX];exact ⟨gf,ga,gb,go,a5,⟨by first|exact lf|(simp;omega),by first|exact la|(simp;omega),by first|exact lb|(simp;omega),by first|exact lo|(simp;omega)⟩,⟨d1,d2,d3⟩,⟨d4,d5⟩,d6⟩)
 .have hnf:¬ N<=i.length:=aD
  have d0:=c6 aD
  subst d0
  obtain ⟨U,c4⟩:∃ U,S.p.nodes.length - ns.length=U+1:=⟨S.p.nodes.length - ns.length - 1,aD⟩
  have C:ns.length<S.p.nodes.length:=aD
  have a7:=A.tp _ (aC C)
  have b4:=IE a7
  obtain ⟨v,V⟩:=cW (S.pn[ns.length]?.getD (-1))
  have a6:=X.2 ns.length C
  rw [<- V] at a6
  have a0:∀ j (hj:j<S.g.nodes.length),IQ S ns j=((decide (v<0)||decide (v=(j:Int)))&&(!(S.inj&&mem ns j)&&wT S.t S.p.nodes[ns.length] S.g.nodes[j])):=λj hj=>by
   simp only [IQ,zC,<- V,aA hj,aA C,Option.getD_some]
  have Y:=wa Y (wa (aA C) b4)
  refine wp (h:=bD (λj e H=>∃ s:Nat,∃ q:Nat,∃ n:List Part,(e 0=.ptr f 1 0 0/\e 2=dI ns.length/\e 61=dLI S.g.nodes/\e 62=dI S.g.nodes.length/\e 63=dI j)/\(H.get f=some ⟨400,12,[S.cellP N pn E (.own s ns.length) (.own q 0) (.own o n.length)],false⟩)/\(f<H.next)/\(H.get s=some ⟨3,1,ns.map cI,false⟩)/\(s<H.next)/\(H.get q=some ⟨3,1,[],false⟩)/\(q<H.next)/\(H.get o=some ⟨36,2,n.map Part.c,false⟩)/\(o<H.next)/\(f≠s)/\(f≠q)/\(s≠q)/\(s≠o)/\(q≠o)/\(j<=S.g.nodes.length)/\(n.length<=N)/\(n=(List.range j).foldl (λn k=>if (IQ S ns k&&tN S (ns++[(k:Int)]))=true then PJ S N U (ns++[(k:Int)]) n else n) i)) (λj=>S.g.nodes.length - j) 0 ⟨a,b,i,wg,wn,wn,wn,wn,wn,wn,wn,wn,wi,wi,wi,wi,wi,wi,(by exact a5),(by rfl)⟩ λI1 K j e H c5=>?_)
  obtain ⟨s,q,n,E1,b0,R,O,J,M,I,a9,P,e1,e2,e3,e4,e5,hj,l,B⟩:=c5
  have e8:=And.intro (dF (aD:o≠q)) (And.intro (dF (aD:o≠s)) (And.intro (dF (aD:o≠f)) (And.intro (dF (aD:q≠s)) (And.intro (dF (aD:q≠f)) (dF (aD:s≠f))))))
  have Y:=wa Y (wa E1 (wa b0 (wa (b8 R) (wa O (wa (b8 J) (wa M (wa (b8 I) (wa a9 (wa (b8 P) e8)))))))))
  refine dP (λh5=>?_) λh5=>?_
  .have hEj:=a0 j h5
   have c8:=A.tg _ (aC h5)
   have b5:=LO hv a7 c8
   have Y:=wa Y (wa h5 (wa (aA h5) b5))
   refine wp (h:=aB (a6) wl ?_)
   refine wp (h:=H9 (λhg=>fR ns j) wr (λhg=>wl) (λhg=> rfl) rfl wrd ?_)
   refine rT (λh8=>?_) λh8=>?_
   .have hE:(IQ S ns j&&tN S (ns++[(j:Int)]))=false:=by
     have:IQ S ns j=false:=by
      rw [hEj,bH];intro hT;simp at hT
      obtain ⟨c1,c2,c3⟩:=hT
      rcases h8 with (⟨k1,T⟩|k1)|⟨k1,T⟩
      .rcases c1 with c1|c1
       .omega
       .exact T c1
      .rw [k1] at c3;cases c3
      .rcases c2 with c2|c2
       .rw [k1] at c2;cases c2
       .rw [T] at c2;cases c2
     rw [this];rfl
    obtain ⟨u,d⟩:∃ x,x=n:=⟨_,rfl⟩
    obtain ⟨a2,z⟩:∃ x,x=s:=⟨_,rfl⟩
    obtain ⟨b2,y⟩:∃ x,x=q:=⟨_,rfl⟩
    have Y:=wa Y (wa d (wa z y))
    exact wp (h:=wx K (j+1) ⟨a2,b2,u,wg,wn,wn,wn,wn,wn,wn,wn,wn,wj,wj,wj,wj,wj,wj,(by rw [d];first|exact l|exact Oz A.gp _ _ l),(by rw [eD,<- B,d];first|rw [if_pos hE]|rw [if_neg (by rw [hE];simp)])⟩)
   .have hO:IQ S ns j=true:=by
     obtain ⟨⟨k1,T⟩,k3⟩:=h8
     have c1:(decide (v<0)||decide (v=(j:Int)))=true:=by simp;omega
     have c2:(S.inj&&mem ns (j:Int))=false:=by cases hI:S.inj;rfl;simp [k3 hI]
     rw [hEj,c1,T,c2];rfl
    have a4:(S.p.nodes.length - (ns++[(j:Int)]).length)+(S.p.edges.length - ([]:List Int).length)=m - 1:=by simp at hm ⊢;omega
    obtain ⟨m',b7⟩:∃ x,x=m - 1:=⟨_,rfl⟩
    rw [<- b7] at a4
    have Y:=wa Y h8
    refine wp (h:=Ef (Ev S A.gp A.gg N pn E (dLI []) (.list (n.map Part.c)) w (by simp [D.cl,go_sem]) (by simp [D.cl,vA]) (ns++[(j:Int)]) Z) WJ wl rfl ?_)
    refine rT (λL=>?_) λL=>?_
    .have hE:(IQ S ns j&&tN S (ns++[(j:Int)]))=true:=by rw [hO,L];rfl
     obtain ⟨u,d⟩:∃ x,x=PJ S N U (ns++[(j:Int)]) n:=⟨_,rfl⟩
     have c0:S.p.nodes.length - (ns.length+1)=U:=aD
     have Y:=wa Y (wa c0 (Eq.symm d))
     refine wv (h:=?_)
     unfold fL
     refine ih m' aD (ns++[(j:Int)]) [] n s q _ _ a4 (by simp;omega) bW (λ_=>rfl) ⟨by simp [go_sem,Y],by simp [go_sem,Y],by simp [go_sem,Y],by simp [go_sem,Y],l,⟨by simp [go_sem];omega,by simp [go_sem];omega,by simp [go_sem];omega,by simp [go_sem];omega⟩,⟨e1,e2,d3⟩,⟨e3,e4⟩,e5⟩ (λa3 b3 H3 a8=>?_)
     rw [GM] at a8
     obtain ⟨d8,e0,d9,d7,f0,⟨f3,f5,f4,f2⟩,⟨x1,x2,x3⟩,⟨x4,x5⟩,x6⟩:=a8
     have e6:=And.intro (b8 (aD:f<H3.next)) (And.intro (b8 (aD:a3<H3.next)) (And.intro (b8 (aD:b3<H3.next)) (b8 (aD:o<H3.next))))
     have e7:=And.intro (dF (aD:o≠b3)) (And.intro (dF (aD:o≠a3)) (And.intro (dF (aD:o≠f)) (And.intro (dF (aD:b3≠a3)) (And.intro (dF (aD:b3≠f)) (dF (aD:a3≠f))))))
     obtain ⟨a2,z⟩:∃ x,x=H3.next:=⟨_,rfl⟩
     obtain ⟨b2,y⟩:∃ x,x=b3:=⟨_,rfl⟩
     have Y:=wa Y (wa d8 (wa e0 (wa d9 (wa d7 (wa e6 (wa e7 (wa z y)))))))
     exact wp (h:=Gl (Ghosts.trunc (.refl _) f 0 9 a3 ns.length _ _ _ (by simp [go_sem,Y];rfl) rfl rfl (by simp [go_sem,Y];rfl) (by simp [go_sem,Y]) rfl aD) (j+1) aD ((K _ _ _).2 ⟨a2,b2,u,wg,wn,wn,wn,wn,wn,wn,wn,wn,wj,wj,wj,wj,wj,wj,(by rw [d];first|exact l|exact Oz A.gp _ _ l),(by rw [eD,<- B,d];first|rw [if_pos hE]|rw [if_neg (by rw [hE];simp)])⟩))
    .have hE:(IQ S ns j&&tN S (ns++[(j:Int)]))=false:=by rw [hO,L];rfl
     obtain ⟨u,d⟩:∃ x,x=n:=⟨_,rfl⟩
     obtain ⟨a2,z⟩:∃ x,x=H.next+41:=⟨_,rfl⟩
     obtain ⟨b2,y⟩:∃ x,x=q:=⟨_,rfl⟩
     have Y:=wa Y (wa d (wa z y))
     exact wp (h:=Gl (Ghosts.trunc (.refl _) f 0 9 s ns.length _ _ _ (by simp [go_sem,Y];rfl) rfl rfl (by simp [go_sem,Y];rfl) (by simp [go_sem,Y]) rfl aD) (j+1) aD ((K _ _ _).2 ⟨a2,b2,u,wg,wn,wn,wn,wn,wn,wn,wn,wn,wj,wj,wj,wj,wj,wj,(by rw [d];first|exact l|exact Oz A.gp _ _ l),(by rw [eD,<- B,d];first|rw [if_pos hE]|rw [if_neg (by rw [hE];simp)])⟩))
  .have hJ:j=S.g.nodes.length:=aD
   have c9:Jq S N ns [] i=n:=by rw [GM,c4];simp only [PJ];rw [if_neg hnf,B,hJ]
   refine wv (h:=?_)
   exact hQ s q _ (by rw [c9];exact ⟨by assumption,by assumption,by assumption,by assumption,l,⟨by assumption,by assumption,by assumption,by assumption⟩,⟨e1,e2,d3⟩,⟨e3,e4⟩,e5⟩)
theorem aaQ (a k:Nat):a+(k+1) - (a+1)=k+1 - 1:=aD
theorem aaP (a k:Nat):a+(k+1) - (a+1)=k:=aD
theorem aaO (a k:Nat):a+(k+1) - a=k+1:=aD
theorem J2 (S:Srch)(hG:G17 S.t S.p S.g)(hv:(b9 S.t).2=0)(N:Nat)(hN:N<=5001)(pn pe:D)(hpn:GivD pn S.pn S.p.nodes.length)(hpe:GivD pe S.pe S.p.edges.length)(f o:Nat)(m:Nat)(ih:∀ k,k<m->S4 S N pn pe f o k)(ns es:List Int)(out:List Part)(a b:Nat)(G:AHeap)(Q:D->AHeap->Prop)(hm:(S.p.nodes.length - ns.length)+(S.p.edges.length - es.length)=m)(hnl:ns.length<=S.p.nodes.length)(hel0:es.length<=S.p.edges.length)(hes:ns.length<S.p.nodes.length->es=[])(hF:FdS f a b o S N pn pe ns es out G)
  (hQ:∀ a' b' H',FdS f a' b' o S N pn pe ns es (Jq S N ns es out) H'->Q (.tup []) H') (hc1:¬ ns.length<S.p.nodes.length) (hc2:es.length<S.p.edges.length) :
  ACalls Tryz.prog 398 [.ptr f 1 0 0] G Q:=by
 have hla:=bS hG.gp
 have hlb:=bS hG.gg
 have hib:∀ x∈S.p.edges,(0<=x.from_/\x.from_<S.p.nodes.length)/\(0<=x.to_/\x.to_<S.p.nodes.length):=λx hx=>((eK hG.gp).2 x hx).2
 obtain ⟨gf,ga,gb,go,hle,⟨lf,la,lb,lo⟩,⟨d1,d2,d3⟩,⟨d4,d5⟩,d6⟩:=hF
 have ff:=b8 lf
 have fa:=b8 la
 have fb:=b8 lb
 have fo:=b8 lo
 have hpnc:=hpn.1
 have hpec:=hpe.1
 have hpr:∀ H:AHeap,fG H pn=pn:=λH=>uY hpnc
 have hpr2:∀ H:AHeap,fG H pe=pe:=λH=>uY hpec
 refine (aJ (cfg:=⟨λ_=>false,λr=>match r with|0=>[(2,16),(3,16),(4,16)]|_=>[]⟩) Tz.mixed Tryz.func398 rfl rfl (aF rfl) (by kernel_rfl) ?_)
 have di1:=And.intro (dF (aD:o≠b)) (And.intro (dF (aD:o≠a)) (And.intro (dF (aD:o≠f)) (And.intro (dF (aD:b≠a)) (And.intro (dF (aD:b≠f)) (dF (aD:a≠f))))))
 have Y:=wa gf (wa ga (wa gb (wa go (wa ff (wa fa (wa fb (wa fo (wa @Part.c.eq_1 (wa @Srch.cellP.eq_1 (wa hpnc (wa hpec (wa hpr (wa hpr2 (wa hc1 (wa hc2 di1)))))))))))))))
 refine rT (λh1=>?_) λh1=>?_
 .have hX:Jq S N ns es out=out:=GN S _ _ aD
  refine wv (h:=?_)
  exact hQ a b _ (by rw [hX];exact ⟨gf,ga,gb,go,hle,⟨by first|exact lf|(simp;omega),by first|exact la|(simp;omega),by first|exact lb|(simp;omega),by first|exact lo|(simp;omega)⟩,⟨d1,d2,d3⟩,⟨d4,d5⟩,d6⟩)
 .have hnf:¬ N<=out.length:=aD
  obtain ⟨k',hk'⟩:∃ k',S.p.edges.length - es.length=k'+1:=⟨S.p.edges.length - es.length - 1,aD⟩
  have hmk:m=k'+1:=by rw [<- hm,Nat.sub_eq_zero_of_le (Nat.not_lt.1 hc1),eM,hk']
  have hks:S.p.edges.length=es.length+(k'+1):=aD
  clear hm hk'
  have hel2:es.length<S.p.edges.length:=aD
  have hbx:=hib _ (aC hel2)
  have hf1:S.p.edges[es.length].from_.toNat<ns.length:=aD
  have hft:S.p.edges[es.length].to_.toNat<ns.length:=aD
  refine wp (h:=bD (λj e H=>∃ a1:Nat,∃ b1:Nat,∃ ou:List Part,(e 0=.ptr f 1 0 0/\e 6=dI es.length/\e 162=.list (S.g.edges.map Edge.c)/\e 163=dI S.g.edges.length/\e 164=dI j)/\(H.get f=some ⟨400,12,[S.cellP N pn pe (.own a1 ns.length) (.own b1 es.length) (.own o ou.length)],false⟩)/\(f<H.next)/\(H.get a1=some ⟨3,1,ns.map cI,false⟩)/\(a1<H.next)/\(H.get b1=some ⟨3,1,es.map cI,false⟩)/\(b1<H.next)/\(H.get o=some ⟨36,2,ou.map Part.c,false⟩)/\(o<H.next)/\(f≠a1)/\(f≠b1)/\(a1≠b1)/\(a1≠o)/\(b1≠o)/\(j<=S.g.edges.length)/\(ou.length<=N)/\(ou=(List.range j).foldl (λou k=>if PO S ns es k=true then Hz S N ns k' (es++[(k:Int)]) ou else ou) out)) (λj=>S.g.edges.length - j) 0 ⟨a,b,out,wg,wn,wn,wn,wn,wn,wn,wn,wn,wi,wi,wi,wi,wi,wi,(by exact hle),(by rfl)⟩ λI3 hI3 j e H hi3=>?_)
  obtain ⟨a1,b1,ou,E3,gf_3,nf_3,ga1_3,na1_3,gb1_3,nb1_3,go_3,no_3,e1,e2,e3,e4,e5,hj,hou,hst⟩:=hi3
  have di2:=And.intro (dF (aD:o≠b1)) (And.intro (dF (aD:o≠a1)) (And.intro (dF (aD:o≠f)) (And.intro (dF (aD:b1≠a1)) (And.intro (dF (aD:b1≠f)) (dF (aD:a1≠f))))))
  have Y:=wa Y (wa E3 (wa gf_3 (wa (b8 nf_3) (wa ga1_3 (wa (b8 na1_3) (wa gb1_3 (wa (b8 nb1_3) (wa go_3 (wa (b8 no_3) di2)))))))))
  refine dP (λh17=>?_) λh17=>?_
  .have hEj:PO S ns es j=(EE S ns es.length j&&!(S.inj&&mem es j)):=by
    simp only [PO,EE]
    cases zC S.pe es.length j<;>cases y7 S ns es.length j<;>cases (S.inj&&mem es j)<;>rfl
   have Y:=wa Y h17
   refine wp (h:=Ef (DL S N pn pe (dLI es) (.list (ou.map Part.c)) hpnc (by simp [D.cl,go_sem]) (by simp [D.cl,vA]) ns es.length j hel2 h17 hpe hbx.1.1 hf1 hbx.2.1 hft) WJ wl rfl ?_)
   refine wp (h:=KO (λhg=>fR es j) wr (λhg=>wl) (λhg=> rfl) ?_)
   refine rT (λh19=>?_) λh19=>?_
   .have hE:PO S ns es j=false:=by
     rw [hEj]
     rcases h19 with k1|⟨k1,k2⟩
     .rw [k1];rfl
     .rw [k1,k2];simp
    obtain ⟨ou2,hou2⟩:∃ x,x=ou:=⟨_,rfl⟩
    obtain ⟨a2,ha2⟩:∃ x,x=a1:=⟨_,rfl⟩
    obtain ⟨b2,hb2⟩:∃ x,x=b1:=⟨_,rfl⟩
    have Y:=wa Y (wa hou2 (wa ha2 hb2))
    exact wp (h:=wx hI3 (j+1) ⟨a2,b2,ou2,wg,wn,wn,wn,wn,wn,wn,wn,wn,wj,wj,wj,wj,wj,wj,(by rw [hou2];first|exact hou|exact CY _ _ _ _ hou),(by rw [eD,<- hst,hou2];first|rw [if_pos hE]|rw [if_neg (by rw [hE];simp)])⟩)
   .have hE:PO S ns es j=true:=by
     obtain ⟨k1,k2⟩:=h19
     have c2:(S.inj&&mem es (j:Int))=false:=by cases hI:S.inj;rfl;simp [k2 hI]
     rw [hEj,k1,c2];rfl
    have hm1:(S.p.nodes.length - ns.length)+(S.p.edges.length - (es++[(j:Int)]).length)=m - 1:=by
     rw [Nat.sub_eq_zero_of_le (Nat.not_lt.1 hc1),aL,List.length_singleton,eM,hks,hmk];exact aaQ _ _
    have hmm:m - 1<m:=by rw [hmk];exact Nat.lt_succ_self k'
    obtain ⟨m',hm'⟩:∃ x,x=m - 1:=⟨_,rfl⟩
    rw [<- hm'] at hm1 hmm
    obtain ⟨ou2,hou2⟩:∃ x,x=Hz S N ns k' (es++[(j:Int)]) ou:=⟨_,rfl⟩
    have hfd:Jq S N ns (es++[(j:Int)]) ou=ou2:=by
     have hk3:S.p.edges.length - (es++[(j:Int)]).length=k':=by
      rw [aL,List.length_singleton,hks];exact aaP _ _
     rw [hou2];unfold Jq;rw [if_neg (aD:¬ ns.length<S.p.nodes.length),hk3]
    have Y:=wa Y (wa h19 hfd)
    refine wp (h:=?_)
    unfold fL
    refine ih m' hmm ns (es++[(j:Int)]) ou a1 b1 _ _ hm1 aD (by simp;omega) (λh=>absurd h aD) ⟨by simp [go_sem,Y],by simp [go_sem,Y],by simp [go_sem,Y],by simp [go_sem,Y],hou,⟨by simp [go_sem];omega,by simp [go_sem];omega,by simp [go_sem];omega,by simp [go_sem];omega⟩,⟨e1,e2,d3⟩,⟨e3,e4⟩,e5⟩ (λa3 b3 H3 hF3=>?_)
    obtain ⟨gf3,ga3,gb3,go3,hle3,⟨lf3,la3,lb3,lo3⟩,⟨x1,x2,x3⟩,⟨x4,x5⟩,x6⟩:=hF3
    have fr3:=And.intro (b8 (aD:f<H3.next)) (And.intro (b8 (aD:a3<H3.next)) (And.intro (b8 (aD:b3<H3.next)) (b8 (aD:o<H3.next))))
    have di4:=And.intro (dF (aD:o≠b3)) (And.intro (dF (aD:o≠a3)) (And.intro (dF (aD:o≠f)) (And.intro (dF (aD:b3≠a3)) (And.intro (dF (aD:b3≠f)) (dF (aD:a3≠f))))))
    obtain ⟨a2,ha2⟩:∃ x,x=a3:=⟨_,rfl⟩
    obtain ⟨b2,hb2⟩:∃ x,x=H3.next:=⟨_,rfl⟩
    have Y:=wa Y (wa gf3 (wa ga3 (wa gb3 (wa go3 (wa fr3 (wa di4 (wa ha2 hb2)))))))
    exact wp (h:=Gl (Ghosts.trunc (.refl _) f 0 10 b3 es.length _ _ _ (by simp [go_sem,Y];rfl) rfl rfl (by simp [go_sem,Y];rfl) (by simp [go_sem,Y]) rfl aD) (j+1) aD ((hI3 _ _ _).2 ⟨a2,b2,ou2,wg,wn,wn,wn,wn,wn,wn,wn,wn,wj,wj,wj,wj,wj,wj,(by rw [hou2];first|exact hou|exact CY _ _ _ _ hou),(by rw [eD,<- hst,hou2];first|rw [if_pos hE]|rw [if_neg (by rw [hE];simp)])⟩))
  .have hJ:j=S.g.edges.length:=aD
   have hk2:S.p.edges.length - es.length=k'+1:=by
    rw [hks];exact aaO _ _
   have hOV:Jq S N ns es out=ou:=by unfold Jq;rw [if_neg hc1,hk2];simp only [Hz];rw [if_neg hnf,hst,hJ]
   refine wv (h:=?_)
   exact hQ a1 b1 _ (by rw [hOV];exact ⟨by assumption,by assumption,by assumption,by assumption,hou,⟨by assumption,by assumption,by assumption,by assumption⟩,⟨e1,e2,d3⟩,⟨e3,e4⟩,e5⟩)
theorem J1 (S:Srch)(A:G17 S.t S.p S.g)(hv:(b9 S.t).2=0)(N:Nat)(hN:N<=5001)(j l:D)(s:GivD j S.pn S.p.nodes.length)(u:GivD l S.pe S.p.edges.length)(f o:Nat)(m:Nat)(ih:∀ k,k<m->S4 S N j l f o k)(ns es:List Int)(d:List Part)(a b:Nat)(G:AHeap)(Q:D->AHeap->Prop)(hm:(S.p.nodes.length - ns.length)+(S.p.edges.length - es.length)=m)(a0:ns.length<=S.p.nodes.length)(J:es.length<=S.p.edges.length)(a4:ns.length<S.p.nodes.length->es=[])(hF:FdS f a b o S N j l ns es d G)
  (K:∀ a' b' H',FdS f a' b' o S N j l ns es (Jq S N ns es d) H'->Q (.tup []) H') (y:¬ ns.length<S.p.nodes.length) (w:¬ es.length<S.p.edges.length) :
  ACalls Tryz.prog 398 [.ptr f 1 0 0] G Q:=by
 have a2:=bS A.gp
 have a1:=bS A.gg
 have a3:∀ x∈S.p.edges,(0<=x.from_/\x.from_<S.p.nodes.length)/\(0<=x.to_/\x.to_<S.p.nodes.length):=λx Z=>((eK A.gp).2 x Z).2
 obtain ⟨M,P,O,L,v,⟨E,I,F,C⟩,⟨X,W,V⟩,⟨U,T⟩,R⟩:=hF
 have ff:=b8 E
 have fa:=b8 I
 have fb:=b8 F
 have fo:=b8 C
 have e:=s.1
 have i:=u.1
 have q:∀ H:AHeap,fG H j=j:=λH=>uY e
 have n:∀ H:AHeap,fG H l=l:=λH=>uY i
 refine (aJ (cfg:=⟨λ_=>false,λr=>match r with|0=>[(2,16),(3,16),(4,16)]|_=>[]⟩) Tz.mixed Tryz.func398 rfl rfl (aF rfl) (by kernel_rfl) ?_)
 have B:=And.intro (dF (aD:o≠b)) (And.intro (dF (aD:o≠a)) (And.intro (dF (aD:o≠f)) (And.intro (dF (aD:b≠a)) (And.intro (dF (aD:b≠f)) (dF (aD:a≠f))))))
 have Y:=wa M (wa P (wa O (wa L (wa ff (wa fa (wa fb (wa fo (wa @Part.c.eq_1 (wa @Srch.cellP.eq_1 (wa e (wa i (wa q (wa n (wa y (wa w B)))))))))))))))
 refine rT (λh1=>?_) λh1=>?_
 .have z:Jq S N ns es d=d:=GN S _ _ aD
  refine wv (h:=?_)
  exact K a b _ (by rw [z];exact ⟨M,P,O,L,v,⟨by first|exact E|(simp;omega),by first|exact I|(simp;omega),by first|exact F|(simp;omega),by first|exact C|(simp;omega)⟩,⟨X,W,V⟩,⟨U,T⟩,R⟩)
 .have hnf:¬ N<=d.length:=aD
  have z:Jq S N ns es d=d++[⟨ns,es⟩]:=by
   unfold Jq;rw [if_neg aD,(aD:S.p.edges.length - es.length=0)];simp only [Hz];rw [if_neg hnf]
  refine wp (h:=?_)
  refine mQ (jG ns aD) (by simp [go_sem,Y,dLI]) (by simp [go_sem]) (Jl _) rfl (by simp [go_sem]) ?_
  refine wp (h:=?_)
  refine mQ (jG es aD) (by simp [go_sem,Y,dLI]) (by simp [go_sem]) (Jl _) rfl (by simp [go_sem]) ?_
  refine wp (h:=?_)
  exact K a b _ (by rw [z];exact ⟨by simp [go_sem,Y],by simp [go_sem,Y],by simp [go_sem,Y],by simp [go_sem,Y],by simp;omega,⟨by simp [go_sem];omega,by simp [go_sem];omega,by simp [go_sem];omega,by simp [go_sem];omega⟩,⟨X,W,V⟩,⟨U,T⟩,R⟩)
theorem LI (S:Srch)(v:G17 S.t S.p S.g)(q:(b9 S.t).2=0)(N:Nat)(u:N<=5001)(l n:D)(e:GivD l S.pn S.p.nodes.length)(h:GivD n S.pe S.p.edges.length)(f o:Nat) :
  ∀ (m:Nat) (ns es:List Int) (c:List Part) (a b:Nat) (G:AHeap) (Q:D->AHeap->Prop),(S.p.nodes.length - ns.length)+(S.p.edges.length - es.length)=m->ns.length<=S.p.nodes.length->es.length<=S.p.edges.length->(ns.length<S.p.nodes.length->es=[])->FdS f a b o S N l n ns es c G ->
  (∀ a' b' H',FdS f a' b' o S N l n ns es (Jq S N ns es c) H'->Q (.tup []) H')->ACalls Tryz.prog 398 [.ptr f 1 0 0] G Q:=by
 intro m
 induction m using Nat.strongRecOn with
 | _ m ih =>
 intro ns es c a b G Q r i d j w s
 by_cases k:ns.length<S.p.nodes.length
 .exact J3 S v q N u l n e h f o m ih ns es c a b G Q r i d j w s k
 .by_cases hc2:es.length<S.p.edges.length
  .exact J2 S v q N u l n e h f o m ih ns es c a b G Q r i d j w s k hc2
  .exact J1 S v q N u l n e h f o m ih ns es c a b G Q r i d j w s k hc2
theorem J0 (S:Srch)(v:G17 S.t S.p S.g)(x:S.t.ok)(w:(b9 S.t).2=0)(N:Nat)(B:N<=5001)(l m:D)(f:GivD l S.pn S.p.nodes.length)(j:GivD m S.pe S.p.edges.length)(n:l.cell=true)(o:m.cell=true){L:List Part}(C:L=(Bq S).take N) :
  Pure Tryz.prog 346 [S.t.d,S.p.d,S.g.d,.agg [l,m],.bool S.inj,dI N] (.list (L.map Part.c)):=by
 have q:Jq S N [] [] []=L:=by rw [GM,OA v.gp N _ _ _ bW,C];simp [Bq]
 have e:=f.1
 have i:=j.1
 have a:=n
 have b:=o
 unfold D.cell at a b
 refine uF (by first|rfl|(simp [go_sem];done)) (λQ A=>(aJ (cfg:=⟨λt=>t==22,λ_=>[]⟩) Tz.mixed Tryz.func346 rfl rfl (aF rfl) (by kernel_rfl) ?_))
 have Y:=wa e (wa i (wa @belowD.eq_1 (wa a b)))
 refine wv (h:=aI (BG S.t x) wl ?_)
 refine wv (h:=?_)
 refine wS (.step (.step (.step (.refl _) 8 0 9 3 1 _ _ (by simp [go_sem];rfl) rfl rfl rfl) 8 0 10 3 1 _ _ (by simp [go_sem];rfl) rfl rfl rfl) 8 0 11 36 2 _ _ (by simp [go_sem];rfl) rfl rfl rfl) ?_
 simp [go_sem]
 unfold fL
 refine LI S v w N B l m f j 8 12 _ [] [] [] 10 11 _ _ rfl bW bW (λ_=>rfl) ⟨by simp [go_sem,Srch.cellP,Graph.c,dLI,dI],by simp [go_sem],by simp [go_sem],by simp [go_sem],by simp,by simp [go_sem],by simp,by simp,by simp⟩ (λH G I k=>?_)
 rw [q] at k
 obtain ⟨s,F,E,r,u,y,z⟩:=k
 have Y:=wa Y (wa s (wa r @Srch.cellP.eq_1))
 refine wv (h:=?_)
 exact A _ _ (by simp [go_sem,Y,l8,MA])
theorem Oa (t:Types)(z:t.ok)(y:(b9 t).2=0)(p g:Graph)(A:G17 t p g)(o s:List Int)(a:Bool)(n q:D)(i:GivD n o p.nodes.length)(k:GivD q s p.edges.length)(l:n.cell=true)(m:q.cell=true){w:List Part × Int}(x:w=Nh (Bq ⟨t,p,g,o,s,a⟩)) :
  Pure Tryz.prog 269 [t.d,p.d,g.d,.agg [n,q],.bool a] (.tup [.list (w.1.map Part.c),dI w.2]):=by
 obtain ⟨L,v⟩:=cW ((Bq ⟨t,p,g,o,s,a⟩).take 5001)
 have r:w=if 5000<L.length then ([],3) else (L,0):=by rw [x];unfold Nh;rw [<- v]
 have f:=i.1
 have j:=k.1
 have b:=l
 have e:=m
 unfold D.cell at b e
 refine Tz.pK ⟨λ_=>false,λ_=>[]⟩ Tryz.func269 rfl (λQ u=>?_)
 have Y:=wa f (wa j (wa b e))
 refine wv (h:=aB (J0 ⟨t,p,g,o,s,a⟩ A z y 5001 aD n q i k l m v) wl ?_)
 refine fA (λB=>?_) λB=>?_
 .rw [if_pos aD] at r
  exact wv (h:=u _ _ (by simp [go_sem,r]))
 .rw [if_neg aD] at r
  exact wv (h:=u _ _ (by simp [go_sem,r]))
theorem Dk {t:Types}{p g:Graph}(h:fZ t p g=0):(b9 t).2=0:=by
 unfold fZ at h
 split at h
 .exact absurd h (by assumption)
 .rename_i h1;simpa using h1
theorem HD (t:Types)(l:t.ok)(p g:Graph)(q:Part)(a:Bool):Pure Tryz.prog 458 [t.d,p.d,g.d,q.d,.bool a] (.tup [.list ((nJ t p g q a).1.map Part.c),dI (nJ t p g q a).2]):=by
 refine Tz.pK ⟨λ_=>false,λ_=>[]⟩ Tryz.func458 rfl (λQ i=>?_)
 have Y:=trivial
 refine wv (h:=aB (wB t l p g) wl ?_)
 refine dP (λe=>?_) λe=>?_
 .have b:nJ t p g q a=([],fZ t p g):=by unfold nJ;rw [if_pos (bX e)]
  exact wv (h:=i _ _ (by simp [go_sem,b]))
 .have hG:=pZ (bX e)
  have m:=Dk (bX e)
  refine fA (λn=>?_) λn=>?_
  .have b:nJ t p g q a=([],20):=by unfold nJ;rw [if_neg (bX e),if_pos aD]
   exact wv (h:=i _ _ (by simp [go_sem,b]))
  .have hq:q.nodes.length=p.nodes.length/\q.edges.length=p.edges.length:=aD
   refine wo (h:=aB (DK q.nodes g.nodes.length) wl ?_)
   refine fA (λj=>?_) λj=>?_
   .have b:nJ t p g q a=([],nD q.nodes g.nodes.length):=by unfold nJ;rw [if_neg (bX e),if_neg aD,if_pos (bX j)]
    exact wv (h:=i _ _ (by simp [go_sem,b]))
   .have h7':nD q.nodes g.nodes.length=0:=by simpa using j
    refine wo (h:=aB (DK q.edges g.edges.length) wl ?_)
    refine fA (λf=>?_) λf=>?_
    .have b:nJ t p g q a=([],nD q.edges g.edges.length):=by unfold nJ;rw [if_neg (bX e),if_neg aD,if_neg aD,if_pos (bX f)]
     exact wv (h:=i _ _ (by simp [go_sem,b]))
    .have h10':nD q.edges g.edges.length=0:=by simpa using f
     obtain ⟨w,k⟩:=cW (Nh (Bq ⟨t,p,g,q.nodes,q.edges,a⟩))
     have b:nJ t p g q a=w:=by unfold nJ;rw [if_neg (bX e),if_neg aD,if_neg aD,if_neg aD,k]
     refine wv (h:=aB (Oa t l m p g hG q.nodes q.edges a (dLI q.nodes) (dLI q.edges) (hq.1 ▸ GivD.list q.nodes) (hq.2 ▸ GivD.list q.edges) rfl rfl k) wl ?_)
     exact wv (h:=i _ _ (by simp [go_sem,b]))
theorem SA (l:List Edge):∀ d∈(l.map Edge.c).flatten,d.flat=true:=by
 intro d a
 rw [jC] at a
 obtain ⟨c,b,a⟩:=a
 rw [bB] at b
 obtain ⟨x,_,rfl⟩:=b
 simp only [Edge.c,aU,fS,or_false] at a
 rcases a with rfl|rfl|rfl<;>rfl
theorem Ew (t:Types)(B:t.ok)(p g:Graph)(m:Part):Pure Tryz.prog 139 [t.d,p.d,g.d,m.d] (.tup [(Al t p g m).d,dI (fM t p g m false)]):=by
 refine Tz.pK ⟨λt=>t==8||t==12,λr=>match r with|11=>[(0,7),(1,7)]|_=>[]⟩ Tryz.func139 rfl (λQ y=>?_)
 have Y:=trivial
 refine wv (h:=aB (wB t B p g) wl ?_)
 refine dP (λf=>?_) λf=>?_
 .have b:fM t p g m false=fZ t p g:=by unfold fM;rw [if_pos (bX f)]
  have n:Al t p g m=⟨[],[]⟩:=by unfold Al;rw [if_neg (by rw [b];simpa using f)]
  exact wv (h:=y _ _ (by simp [go_sem,n,b]))
 .have hG:=pZ (bX f)
  have D:=Dk (bX f)
  have G:=bS hG.gp
  have F:=bS hG.gg
  have b:fM t p g m false=iX t p g m false:=by unfold fM;rw [if_neg (bX f)]
  refine wv (h:=aB (BF t B p g hG D m) wl ?_)
  refine dP (λA=>?_) λA=>?_
  .have n:Al t p g m=⟨[],[]⟩:=by unfold Al;rw [if_neg (by rw [b];simpa using A)]
   exact wv (h:=y _ _ (by simp [go_sem,n,b]))
  .have hM:iX t p g m false=0:=by simpa using A
   obtain ⟨⟨J,I⟩,w,E⟩:=zY hM
   have n:Al t p g m=l4 p g m:=by unfold Al;rw [if_pos (by rw [b];exact hM)]
   refine wv (h:=?_)
   refine Hb (Bk p.edges aD) (by simp [go_sem]) (by simp [go_sem]) (SA _) ?_
   refine wp (h:=uI (Ghosts.step (Ghosts.refl _) 1 0 0 3 1 _ _ (rfl) rfl rfl rfl) (λi e H=>∃ a:List Int,(e 4=.adr t.c/\e 5=.adr p.c/\e 6=.adr g.c/\e 7=.adr m.c/\e 8=.ptr 0 1 0 0/\e 12=.ptr 1 1 0 0/\e 37=dLI m.nodes/\e 38=dI m.nodes.length/\e 39=dI i)/\(H.get 0=some ⟨29,2,[[.nil,.nil]],false⟩)/\(0<H.next)/\(H.get 1=some ⟨29,2,[[.own 2 a.length,.list (p.edges.map Edge.c)]],false⟩)/\(1<H.next)/\(H.get 2=some ⟨3,1,a.map cI,false⟩)/\(2<H.next)/\(i<=m.nodes.length)/\(a=(m.nodes.take i).map (gN g))) (λi=>m.nodes.length - i) 0 ⟨([]),wg,wn,wn,wn,wn,wn,wn,wi,(by rfl)⟩ λN z i e H x=>?_)
   obtain ⟨a,L,u,l,s,k,q,j,M,v⟩:=x
   have Y:=wa Y (wa L (wa u (wa (b8 l) (wa s (wa (b8 k) (wa q (b8 j)))))))
   refine dP (λo=>?_) λo=>?_
   .have hmi:=w _ (aC o)
    have K:m.nodes[i].toNat<g.nodes.length:=aD
    have C:a.length=i:=by rw [v];simp;omega
    have Y:=wa Y (wa o (wa (aA o) (wa (aA K) @gN.eq_1)))
    exact wp (h:=wx z (i+1) ⟨(a++[gN g m.nodes[i]]),wg,wn,wn,wn,wn,wn,wn,wj,(by rw [kW _ o,<- v])⟩)
   .have hX:a=m.nodes.map (gN g):=by rw [v,lW _ aD]
    exact wv (h:=y _ _ (by simp [go_sem,Y,n,b,hM,l4,Graph.d,Graph.c,hX,dLI]))
end Go.Abs
end
section
set_option maxRecDepth 100000
set_option maxHeartbeats 4000000
namespace Go.Abs
open Go Go.Proofs Go.RowKit Go.Shelf
attribute [local go_sem] Oper.semAt_some
theorem Fy:(Tryz.prog.info? 3).map (λi=>(i.zero,i.size,i.bytes))=some (some (.int .i64 0),1,8):=by kernel_rfl
theorem NS (F:Fence)(n:Nat)(h7:F.fn 436)(hro:F.round=none)(hn:1<=n)(l n₀:Nat)(a ad:Addr)(cap:Nat)(zs:List Int)(hreach:zs.length<=1000000)(hb:zs≠[]->ad.block<n₀)(J Jx:List Int->World->Prop)
  (hY:∀ pre x W,J pre W->pre.length<zs.length->YieldAt F (n - 1) Tryz.prog l #[.int .i64 x] W λe W' =>
   (e=.returned (.bool true)/\J (pre++[x]) W'/\Below n₀ W W')\/(e=.returned (.bool false)/\Jx (pre++[x]) W'))
  (W:World) (hBs:W.cell? a=some (.slice (some ad) zs.length cap)) (hc:∀ j x,zs[j]?=some x->W.cell? (ad.add j)=some (.int .i64 x)) (h0:J [] W) :
  CallsIn F n Tryz.prog 436 #[.func (.yield l) #[] #[],.pointer (some a)] W λe W'=>(∃ v,e=.returned v) /\
   ((∃ ys,ys=zs/\J ys W')\/(∃ pre,True/\Jx pre W')):=by
 refine callsIn_of_wp Tryz.func436 rfl h7 ?_ hro
 simp only [Tryz.ntmps436,nK,fH,qN,Nat.reduceAdd,Nat.reduceSub,As,Ar,Fd,Br,cZ,cX]
 gi_wp2
 gi_loopw [7] (λi wr=>∃ k:Nat,k<=zs.length/\i=.int .i64 k/\J (zs.take k) wr/\Below n₀ W wr)
  (λi _=>zs.length - (RowKit.intOf i).toNat)
 case atStart=>exact ⟨0,dY _,rfl,h0,Below.refl _ _⟩
 case round =>
  obtain ⟨k,hk,rfl,hJs,hnx⟩:=hrel
  by_cases hlt:k<zs.length
  .have hcx':wr.cell? (ad.add k)=some (.int .i64 zs[k]):=(hnx.cell (p:=ad.add k) (by rw [iD];exact hb (λe=>by rw [e] at hlt;cases hlt))).trans (hc k _ (aA hlt))
   obtain ⟨fn,tmps,assign,body,hy,hR⟩:=hY _ zs[k] wr hJs (by simp;omega)
   gi_wp2
   refine hR.mono ?_
   rintro e W3 (⟨rfl,hJ3,hk3⟩|⟨rfl,hJx3⟩)
   .gi_wp2
    go_roundw
    case rel=>exact ⟨k+1,aD,by simp,by rw [aE hlt];exact hJ3,hnx.trans hk3⟩
    case measure=>simp [RowKit.intOf];omega
   .gi_wp2
    refine bodyPost_ret (results_none rfl _ _ _) rfl ?_
    exact ⟨⟨_,rfl⟩,.inr ⟨_,trivial,hJx3⟩⟩
  .obtain rfl:k=zs.length:=aD
   gi_wp2
   go_end0
   exact ⟨⟨_,rfl⟩,.inl ⟨_,rfl,by rw [Af] at hJs;exact hJs⟩⟩
theorem Fh (F:Fence)(n:Nat)(g:F.fn 436)(b:F.round=none)(l:Nat)(a:Addr)(J:List Int->World->Prop)(W:World)(f:W.cell? a=some (.slice none 0 0))(h:J [] W) :
  CallsIn F n Tryz.prog 436 #[.func (.yield l) #[] #[],.pointer (some a)] W λe W'=>(∃ v,e=.returned v)/\J [] W':=by
 refine callsIn_of_wp Tryz.func436 rfl g ?_ b
 simp only [Tryz.ntmps436,nK,fH,qN,Nat.reduceAdd,Nat.reduceSub,As,Ar,Fd,Br,cZ,cX]
 gi_wp2
 gi_loopw [7] (λi d=>i=.int .i64 0/\J [] d) (λ_ _=>0)
 case atStart=>exact ⟨rfl,h⟩
 case round =>
  obtain ⟨rfl,c⟩:=hrel
  gi_wp2
  go_end0
  exact ⟨⟨_,rfl⟩,c⟩
def IntsB (n₀:Nat)(W:World)(sv:Value)(zs:List Int):Prop :=
 (sv=.slice none 0 0/\zs=[])\/∃ ad cap,sv=.slice (some ad) zs.length cap/\(zs≠[]->ad.block<n₀)/\∀ j x,zs[j]?=some x->W.cell? (ad.add j)=some (.int .i64 x)
theorem IntsB.below {n₀:Nat}{A B:World}(h:Below n₀ A B){sv:Value}{zs:List Int}:IntsB n₀ A sv zs->IntsB n₀ B sv zs
 | .inl e=>.inl e
 | .inr ⟨ad,cap,e,hb,hc⟩=>.inr ⟨ad,cap,e,hb,λj x hj=>(h.cell (p:=ad.add j) (by rw [iD];exact hb (λe=>by rw [e] at hj;cases hj))).trans (hc j x hj)⟩
theorem JN (F:Fence)(n:Nat)(h7:F.fn 436)(hro:F.round=none)(hn:1<=n)(a:Addr)(n₀:Nat)(sv:Value)(zs:List Int)(hreach:zs.length<=1000000)(w:World)(hBs:a.block<w.heap.size)(hn₀:n₀<=w.heap.size)
  (hc:w.cell? a=some sv) (hI:IntsB n₀ w sv zs) :
  SeqStopsK F n Tryz.prog 436 #[.pointer (some a)] (λx:Int=>#[Value.int .i64 x]) (Below n₀) (λys=>ys=zs) (λ_=>True) zs.length w:=λl J Jx W hW _ _ hY h0=>by
 have hc':=(hW.cell (p:=a) hBs).trans hc
 rcases hI.below (hW.mono hn₀) with ⟨rfl,rfl⟩|⟨ad,cap,rfl,hb,hcs⟩
 .exact (Fh F n h7 hro l a J W hc' h0).mono λe W' ⟨he,hj⟩=>⟨he,.inl ⟨_,rfl,hj⟩⟩
 .exact NS F n h7 hro hn l n₀ a ad cap zs hreach hb J Jx hY W hc' hcs h0
theorem KZ (F:Fence)(n:Nat)(S:F.fn 456)(H:F.fn 436)(g:F.round=none)(Z:3<=n)(a:Addr)(t:Value)(zs:List Int)(m:zs.length<=1000000)(w:World)
  (G:a.block<w.heap.size) (E:w.cell? a=some t) (Q:IntsB w.heap.size w t zs) :
  CallsIn F n Tryz.prog 456 #[.slice none 0 0,.func (.func 436) #[] #[.pointer (some a)]] w λe W'=>∃ v,e=.returned v/\W'.ownsRow w.heap.size 3 1 v zs.length (zs.map (Value.int .i64))/\Below w.heap.size w W':=by
 have T:1<=n:=aD
 obtain ⟨J,N,z,y,u⟩:=info_parts Fy
 refine callsIn_of_wp_marks Tryz.func456 rfl S ?_ g
 simp only [Tryz.ntmps456,nK,fH,qN,Nat.reduceAdd,Nat.reduceSub,As,Ar,Fd,Br,cZ,cX]
 gi_wp2
 have U:=Boxed.new w 26 (.slice none 0 0)
 have j:Below w.heap.size w (w.alloc (.cells #[.slice none 0 0] 26)):=(Below.refl _ w).alloc (bC _) _
 refine wpIn_rangeFunc_ownG g T (gf:=436) (lb:=#[.pointer (some a)]) rfl H (enters_of Tryz.func436 (by kernel_rfl) rfl)
  (JN F (n - 1) H g aD a w.heap.size t zs m _ (by simp;omega) bW ((j.cell (p:=a) G).trans E) (Q.below j)) belowK_t (belowK_b bW) (Below.refl _ _) (λ_=>rfl)
  (λb W=>(∃ v,Boxed W w.heap.size 26 v/\W.ownsRow w.heap.size 3 1 v b.length (b.map (Value.int .i64))/\True)/\Below w.heap.size w W)
  (λ_ _ _=>False)
  (OwnFrom.and (Own.from (holdsRow_own w.heap.size w.heap.size 26 3 1 (λb=>b.length) (λb:List Int=>b.map (Value.int .i64)) (λ_ _=>True)) _) (ownFrom_below (bC _) bW))
  (λ_ _ _ _ _ L _ _=>L)
  ⟨⟨_,U,World.ownsRow_nil _ _ _ _,trivial⟩,j⟩
  (λx=>{ tmps:=#[.slice none 0 0,.func (.func 436) #[] #[.pointer (some a)],.pointer (some ⟨w.heap.size,0,none⟩),undef,.slice none 0 0,.int .i64 x,.func (.func 436) #[] #[.pointer (some a)],.int .i64 x,undef,undef,undef,undef,undef],defers:=[] }) ?assign ?body ?done ?stop
 case assign =>
  intro l x W K q
  gi_wp2
  exact q
 case body =>
  rintro l b x W ⟨⟨v,s,d,_⟩,r⟩ M
  have E:=s.cell
  gi_wp2_with (gi_at_builtin;refine wpListIn_append_own _ rfl _ _ 26 rfl w.heap.size 3 J (.int .i64 0) 1 8 Tryz.underlying26 N z y u rfl (by decide) _ _ _ rfl (d.alloc _) ⟨W.heap.size,0,none⟩ 1 1 [.int .i64 x] rfl rfl (cell_one_new _ _ _) (by simp [Value.oneCell']) (by simp only [maxLen];omega) aD (by have:=r.size;simp;omega) ?_;intro Y X f i _;obtain ⟨g',I,rfl⟩:=ownsRow_succ f;obtain ⟨k,A,B,C,o⟩:=s.appended (by decide) d r.size (bC _) f i;have P:=k.cell;have O:=k.frozen)
  exact ⟨C.from _,o,⟨_,A,by simpa using B,trivial⟩,r.trans o⟩
 case done =>
  rintro D V W R rfl ⟨⟨v,s,d,_⟩,r⟩ q
  have E:=s.cell
  gi_wp2
  refine ⟨by simp,.inl ⟨_,_,rfl,run_takeDeferred q,?_⟩⟩
  exact ⟨_,results_tmp rfl _ _ _,v,rfl,ownsRow_putObj d _ q rfl,r.trans (belowK_b (w:=w) (bC _) W D _ _ (by simp at R;omega) q rfl rfl)⟩
 case stop =>
  rintro D c b W _ _ h _
  exact h.elim
theorem O4 (F:Fence)(n:Nat)(m:F.fn 435)(l:F.fn 456)(k:F.fn 436)(c:F.round=none)(p:4<=n)(a:Addr)(f:Value)(zs:List Int)(d:zs.length<=1000000)(w:World)
  (g:a.block<w.heap.size) (h:w.cell? a=some f) (j:IntsB w.heap.size w f zs) :
  CallsIn F n Tryz.prog 435 #[.func (.func 436) #[] #[.pointer (some a)]] w λe W'=>∃ v,e=.returned v/\W'.ownsRow w.heap.size 3 1 v zs.length (zs.map (Value.int .i64))/\Below w.heap.size w W':=by
 refine callsIn_of_wp Tryz.func435 rfl m ?_ c
 simp only [Tryz.ntmps435,nK,fH,qN,Nat.reduceAdd,Nat.reduceSub,As,Ar,Fd,Br,cZ,cX]
 gi_wp2_with (refine ⟨λ_=>by omega,(KZ F (n - 1) l k c aD a f zs d _ g h j).mono ?_⟩;rintro e o ⟨v,rfl,b,i⟩)
 go_ret
 exact ⟨v,rfl,b,i⟩
theorem Nk (l:List Int)(y:l.length<=1000000):Own Tryz.prog 435 [.fn 436 [.adr [dLI l]]] 3 1 (l.map cI):=by
 refine ⟨⟨Tryz.f435,Tryz.func435,rfl,rfl⟩,λM w m V P=>?_⟩
 obtain ⟨t,s⟩:=P
 match m,t with
 | [v],_ =>
  have R:=s 0 v _ rfl rfl
  obtain ⟨p,rfl,J⟩:∃ p,v=.func (.func 436) #[] #[p]/\RepV M iN rJ w p (.adr [dLI l]):=by
   cases R with
   | fn _ vs _ y s=>match vs,y with
    | [p],_=>exact ⟨p,rfl,s 0 p _ rfl rfl⟩
  obtain ⟨a,b,rfl,A,o⟩:∃ a b,p=.pointer (some a)/\(¬ M a.block/\w.cell? (a.add 0)=some b)/\RepV M iN rJ w b (dLI l):=by
   cases J with
   | adr a i _ y J E s=>match i,y with
    | [b],_=>exact ⟨a,b,rfl,E 0 b rfl,s 0 b _ rfl rfl⟩
  have z:=A.2
  have f:w.cell? a=some b:=by rw [show a.add 0=a by unfold Addr.add;simp] at z;exact z
  have F:=World.block_lt_of_cell? w _ f
  have Q:IntsB w.heap.size w b l:=by
   unfold dLI at o
   rcases sJ o with ⟨rfl,C⟩|⟨K,G,T,i,rfl,d,_,h,_,_,_⟩
   .exact .inl ⟨rfl,by simpa using C⟩
   .have hcl:∀ j x,l[j]?=some x->w.cell? (K.add j)=some (.int .i64 x):=λj x H=>by
     have g:=d.len
     rw [z6,aV] at g
     have N:j<l.length:=(aM.1 H).1
     have n:i[j]?=some i[j]:=aA aD
     have I:=d.rep j _ (D.int .i64 x) n (by rw [z6,aN,H];rfl)
     generalize U:i[j]=q at n I
     cases I
     exact (h j _ n).2
    refine .inr ⟨K,G,by simp,λB=>?_,hcl⟩
    have L:0<l.length:=List.length_pos_iff.2 B
    have:=World.block_lt_of_cell? w _ (hcl 0 _ (aA L))
    rwa [iD] at this
  refine (CallsIn.calls (O4 Fence.wide 4 trivial trivial trivial rfl (bC _) a b l y w F f Q) (λk=>room_wide k)).mono λe S ⟨v,C,r,O⟩=>?_
  exact ⟨v,_,C,by simpa using r,λu n=>by obtain ⟨x,_,rfl⟩:=bB.1 n;rfl,zT l,qK l,λc E=>by obtain ⟨x,_,rfl⟩:=bB.1 E;rfl,O⟩
theorem Ln (l:List Int):Pure Tryz.prog 383 [dLI l] (.fn 436 [.adr [dLI l]]):=by
 refine Tz.pK ⟨λ_=>false,λ_=>[]⟩ Tryz.func383 rfl (λQ a=>?_)
 have Y:=trivial
 exact wv (h:=a _ _ wy)
theorem N8 (l:List Int)(a:l.length<=1000000):Own Tryz.prog 382 [.fn 436 [.adr [dLI l]]] 3 1 ((j5 l).map cI):=by
 refine Tz.oK ⟨λt=>t==5||t==3||t==2,λ_=>[]⟩ Tryz.func382 rfl (λQ b=>?_)
 have Y:=trivial
 refine wv (h:=lY (Nk l a) wl ?_)
 refine wv (h:=?_)
 unfold fL;refine BC (ty:=3) (xs:=l) (by simp [go_sem]) a ?_
 refine wv (h:=?_)
 exact b _ _ _ (by simp [go_sem,Y,kO]) (by simp [go_sem,Y,kO])
end Go.Abs
end
section
set_option maxRecDepth 100000
set_option maxHeartbeats 4000000
open Go Go.Proofs
namespace Go.Abs
theorem BE (l:List Int)(f:l.length<=1000):Pure Tryz.prog 325 [dLI l] (.bool (decide (¬ l.Nodup))):=by
 have a:=kO l
 have b:decide (imagesN l<l.length)=decide (¬ l.Nodup):=by
  have c:=y5 l
  have g:imagesN l<=l.length:=by unfold imagesN;have:=Bi (j5 l);omega
  rw [aR];simp only [decide_eq_true_eq]
  constructor
  .intro h hn;have:=c.2 hn;omega
  .intro hn;have:imagesN l≠l.length:=λd=>hn (c.1 d);omega
 unfold imagesN at b
 refine Tz.pK ⟨λ_=>false,λ_=>[]⟩ Tryz.func325 rfl (λQ e=>?_)
 have Y:=trivial
 refine wo (h:=aB (Ln l) wl ?_)
 refine wo (h:=lY (N8 l aD) wl ?_)
 refine wo (h:=?_)
 unfold fL;refine zJ (ty:=3) (xs:=j5 l) (by simp [go_sem]) aD λk=>?_
 exact wo (h:=e _ _ (by simp [go_sem,b]))
theorem OG (t:Types)(p g:Graph)(m:Part)(a:Bool):iX t p g m a=if iX t p g m false≠0 then iX t p g m false else if a=true/\(¬ m.nodes.Nodup\/¬ m.edges.Nodup) then 5 else 0:=by
 unfold iX
 split
 .simp
 .split
  .simp_all
  .split
   .simp_all
   .simp
theorem wC (t:Types)(k:t.ok)(p g:Graph)(m:Part)(a:Bool):Pure Tryz.prog 230 [t.d,p.d,g.d,m.d,.bool a] (dI (fM t p g m a)):=by
 refine Tz.pK ⟨λ_=>false,λ_=>[]⟩ Tryz.func230 rfl (λQ e=>?_)
 have Y:=trivial
 refine wv (h:=aB (wB t k p g) wl ?_)
 refine dP (λc=>?_) λc=>?_
 .have b:fM t p g m a=fZ t p g:=by unfold fM;rw [if_pos (bX c)]
  exact wv (h:=e _ _ (by simp [go_sem,b]))
 .have hG:=pZ (bX c)
  have l:=Dk (bX c)
  have n:=bS hG.gp
  have b:fM t p g m a=iX t p g m a:=by unfold fM;rw [if_neg (bX c)]
  rw [OG] at b
  refine wv (h:=aB (BF t k p g hG l m) wl ?_)
  refine dP (λf=>?_) λf=>?_
  .rw [if_pos (bX f)] at b
   exact wv (h:=e _ _ (by simp [go_sem,b]))
  .rw [if_neg (bX f)] at b
   have o:=(zY (show iX t p g m false=0 by simpa using f)).1
   refine wo (h:=aH (λi=>BE m.nodes aD) (λi=>wl) ?_)
   refine wo (h:=aH (λi=>BE m.edges aD) (λi=>wl) ?_)
   refine fA (λj=>?_) λj=>?_
   .rw [if_pos (bX j)] at b
    exact wv (h:=e _ _ (by simp [go_sem,b]))
   .rw [if_neg (bX j)] at b
    exact wv (h:=e _ _ (by simp [go_sem,b]))
end Go.Abs
end
