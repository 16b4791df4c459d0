/- The abstraction layer: nil read as the empty list, at every  -/
import Derived.Test.YthlnbehgghjppaaGreatZrAF
import Derived.Test.YthlnbehgghjppaaGreatZrAA
import Derived.Test.YthlnbehgghjppaaGreatProg
import Derived.Laws.Externs
import Derived.WalkKit
set_option linter.unusedVariables false
set_option linter.unusedSimpArgs false
section
namespace Go.Abs
mutual
def mM:D->D
 | .nil=>.list []
 | .agg cs=>.agg (jM cs)
 | .tup cs=>.tup (jM cs)
 | .list es=>.list (eU es)
 | d=>d
def jM:Xa2->Xa2
 | []=>[]
 | d :: l=>mM d :: jM l
def eU:Xa1->Xa1
 | []=>[]
 | c :: l=>jM c :: eU l
end
theorem Dn (l:Xa2):jM l=l.map mM:=by
 induction l with
 | nil=>rfl
 | cons a l ih=>simp [jM,ih]
theorem EC (l:Xa1):eU l=l.map jM:=by
 induction l with
 | nil=>rfl
 | cons a l ih=>simp [eU,ih]
theorem HY (l:Xa1):(eU l).flatten=l.flatten.map mM:=by
 induction l with
 | nil=>rfl
 | cons a l b=>simp only [eU,eQ,b,List.map_append,Dn]
theorem MB {M:Nat->Prop}{σ:Nat->Option Ow}{N:Nat->Prop}{w:World}{v:Value}{d:D}(h:RepV M σ N w v d):RepV M σ N w v (mM d):=by
 have b:∀ {vs:List Value} {ds:Xa2},(∀ (j:Nat) (u:Value) (d:D),vs[j]?=some u->ds[j]?=some d->RepV M σ N w u (mM d)) ->
   ∀ (j:Nat) (u:Value) (d:D),vs[j]?=some u->(ds.map mM)[j]?=some d->RepV M σ N w u d:=by
  grind
 induction h with
 | int=>simp only [mM];exact .int _ _
 | bool=>simp only [mM];exact .bool _
 | str=>simp only [mM];exact .str _
 | agg vs ds hl h1 _ ih =>
  simp only [mM,Dn];exact .agg vs _ (by simp [hl]) h1 (b ih)
 | tup vs ds hl _ ih =>
  simp only [mM,Dn];exact .tup vs _ (by simp [hl]) (b ih)
 | nil=>simp only [mM];exact .listN
 | listN=>simp only [mM,eU];exact .listN
 | list ad cap sz xs es hc hm' hsz hl h1 hcell _ ih =>
  have a:(eU es).length=es.length:=by rw [EC,bI]
  have:=RepV.list (M:=M) (σ:=σ) (N:=N) (w:=w) ad cap sz xs (eU es) (by rw [a];exact hc) hm' (λc hc'=>by
   rw [EC,aV] at hc';obtain ⟨y,e,rfl⟩:=hc';rw [Dn,bI];exact hsz y e) (by rw [HY,bI];exact hl) h1 hcell (by rw [HY];exact b ih)
  rwa [a] at this
 | adr ad xs ds hl h1 hcell hr ih=>simp only [mM];exact .adr ad xs ds hl h1 hcell hr
 | ne ad cap b=>simp only [mM];exact .ne ad cap b
 | nilp=>simp only [mM];exact .nilp
 | ptr v id ver i off hN h1 h=>simp only [mM];exact .ptr v id ver i off hN h1 h
 | own v id n hN h1 h=>simp only [mM];exact .own v id n hN h1 h
 | win v id ver lo hi hN h1 hlh h=>simp only [mM];exact .win v id ver lo hi hN h1 hlh h
 | fn f vs ds hl hr ih=>simp only [mM];exact .fn f vs ds hl hr
 | nilf=>simp only [mM];exact .nilf
 | opt v g d hf h ih=>simp only [mM];exact .opt v g d hf h
 | cst v=>simp only [mM];exact .cst v
 | junk v=>simp only [mM];exact .junk v
theorem pH {P:Program}{f:FuncId}{args:Xa2}{r:D}(b:r.W=true)(h:∀ Q:D->AHeap->Prop,(∀ d H',mM (qF H' d)=r->Q d H')->ACalls P f args .an Q):Pure P f args r:=by
 have h:=h (λd H'=>mM (qF H' d)=r) λ_ _ h=>h;refine ⟨h.1,λM w vals hM ha=>(h.2 M g8 w vals (Bg M w hM) (by rw [Bi];exact ha)).mono λe w' ⟨v,d,H',σ',g,k,c,a,n,m⟩=>⟨v,g,?_,tQ a⟩⟩;have l:RepV (dD M (fJ (Bz d) H') σ') σ' (fJ (Bz d) H').H w' v r:=by
  have o:=MB (vC k c (Bz d) λi hi=>hi);grind
 exact l.be (λad u hm j=>⟨λh=>hm (.inl h),j⟩) b
attribute [go_sem] mM jM eU
end Go.Abs
end
section
namespace Go.Abs
def C0 (H:AHeap)(d:D):D :=
 match d with
 | .ptr id ver i off=>match fT H (.ptr id ver i off) with
  | some (c :: cs)=>.adr ((c :: cs).map (fN H))
  | _=>.ptr id ver i off
 | d=>iS H d
def Dz (H:AHeap)(d:D):List Nat :=
 match d with
 | .ptr id ver i off=>id :: (match fT H (.ptr id ver i off) with|some cs=>cs.flatMap lR|none=>[])
 | d=>dQ d
section
variable {P:Program} {M0:Nat→Prop} {H:AHeap} {σ:Nat→Option Ow} {w:World}
theorem NU {v:Value}{d:D}(G:Rel M0 H σ w)(g:RepV (dD M0 H σ) σ H.H w v d)(a:List Nat)(m:∀ i∈Dz H d,i∈a) :
  RepV (dD M0 (fJ a H) σ) σ (fJ a H).H w v (C0 H d):=by
 obtain ⟨A,J,N,z⟩:=fW a G;have b:=g.u J;have h:∀ i∈a,∀ k,(fJ a H).get i=some k->k.fz=true:=λi m k hk=>by
  have s:=(z i).1;rw [hk] at s;cases o:H.get i with
  | none=>rw [o] at s;cases s
  | some k0 =>
   grind
 cases d with
 | ptr id ver i off =>
  have n:=D0 (λi=>(z i).1) (.ptr id ver i off);simp only [C0];cases F:fT H (.ptr id ver i off) with
  | none=>exact b
  | some B =>
   cases B with
   | nil=>exact b
   | cons c B =>
    rw [F] at n;have p:∀ y∈c :: B,∀ q∈lR y,q∈a:=λy l q e=>m q (by simp only [Dz,F,aS,cD];exact .inr ⟨y,aS.1 l,e⟩);have r:id∈a:=m id (by simp only [Dz];exact eT ..);obtain ⟨O,L,M,C,E,t⟩:=r5 A b n eG;have I:=Al A b λq e k hk=>h q (by simp only [WU,bU] at e;subst e;exact r) k hk;simp only [C1,n] at I;cases I with
    | adr ad' xs' ds hl' hone' hcell' hrep' =>
     refine .adr ad' xs' _ (eL hl') hone' hcell' λj u x hu g=>?_;rw [aP,bN] at g;obtain ⟨y,l,rfl⟩:=g;rw [<- rG (λi=>(z i).1) y];exact nW A (hrep' j u y hu l) λq e k hk=>h q (p y (aM l) q e) k hk
 | _=>exact nU G g a m
theorem Tc {vals:List Value}{args:Xa2}(hR:Rel M0 H σ w)(ha:RepL (dD M0 H σ) σ H.H w vals args)(ids:List Nat)(hi:∀ i∈args.flatMap (Dz H),i∈ids) :
  RepL (dD M0 (fJ ids H) σ) σ (fJ ids H).H w vals (args.map (C0 H)) :=
 ⟨by simpa using ha.len,λj u d hu hd=>by
  rw [aP,bN] at hd;obtain ⟨y,hy,rfl⟩:=hd;exact NU hR (ha.ad j u y hu hy) ids λi hii=>hi i (cD.2 ⟨y,aM hy,hii⟩)⟩
theorem Ec {f:FuncId}{args:Xa2}{r:D}{Q:D->AHeap->Prop}(c:Pure P f (args.map (C0 H)) r)(b:D.N (args.map (C0 H))=true)(g:r.az=true)(k:Q r H):ACalls P f args H Q:=by
 refine ⟨c.1,λM0 σ w vals hR ha=>?_⟩;obtain ⟨o,s,q,p⟩:=fW (args.flatMap (Dz H)) hR;refine (c.2 (dD M0 (fJ (args.flatMap (Dz H)) H) σ) w vals (sR o) (dR (λ_ h=>h) (Tc hR ha _ λi h=>h) b)).mono λe w' ⟨v,j,d,a⟩=>?_;obtain ⟨n,m,l⟩:=hR.grow a.os a.tape a.output a.size a.block;exact ⟨v,r,H,σ,j,n,AU d g,m,l,k⟩
theorem FZ {md:Nat->Bool}{ops:Array Oper}{a:List Oper}{e:d7}{b:Option Tmp}{K:d7->AHeap->Prop}{f:FuncId}{args args':Xa2}{r:D}(d:Pure P f args' r)(i:args.map (C0 H)=args')(c:D.N args'=true)(g:r.az=true)
 (h:oO P md ops a (pE e b r) H K):e8 P md ops a e b K f args H:=by grind [e8, Ec]
theorem RU {H:AHeap}{d:D}(h:∀ a b c e,d≠.ptr a b c e):C0 H d=iS H d:=by cases d<;>first|rfl|exact absurd rfl (h _ _ _ _)
theorem WT {H:AHeap}{d:D}(h:∀ a b c e,d≠.ptr a b c e):Dz H d=dQ d:=by cases d<;>first|rfl|exact absurd rfl (h _ _ _ _)
theorem Qy {S:List Nat}{H H':AHeap}{d:D}(l:gH S H' H)(j:∀ x∈Dz H d,x∈S):C0 H' d=C0 H d:=by
 by_cases k:∀ a b c e,d≠.ptr a b c e
 .rw [RU k,RU k];rw [WT k] at j;exact Hn l j
 .obtain ⟨h,f,i,g,rfl⟩:∃ a b c e,d=.ptr a b c e:=by
   grind
  have r:=l h (j h (by simp only [Dz];exact eT ..));have p:fT H' (.ptr h f i g)=fT H (.ptr h f i g):=by simp only [fT,r]
  simp only [C0,p];cases q:fT H (.ptr h f i g) with
  | none=>rfl
  | some n =>
   cases n with
   | nil=>rfl
   | cons c n =>
    simp only;congr 1;exact cE λy hy=>yU l λx o=>j x (by simp only [Dz,q,aS,cD];exact .inr ⟨y,aS.1 hy,o⟩)
theorem wK {md:Nat->Bool}{ops:Array Oper}{g:List (Nat × Nat)}{k i:Nat}{a:List Oper}{b:List (Nat × List Nat)}{e:d7}{c:Option Tmp}{K:d7->AHeap->Prop}{f:FuncId}{args args':Xa2}{H:AHeap}{r:D}{t:Bool}
  (n:t=true->Pure P f args' r) (s:args.map (C0 H)=args') (j:t=true->D.N args'=true) (p:t=true->r.az=true) {S:List Nat} (u:args.flatMap (Dz H)=S) (q:BH g i S b)
  (h:j5 P md ops g k (i+1) a ((i,S) :: b) (pE e c (.opt t r)) H K):vU P md ops g k i a b e c K t f args H:=by
 subst s u;unfold vU;refine ⟨r,_,λht H' hag=>?_,q,h⟩;have l:args.map (C0 H')=args.map (C0 H):=cE λd o=>Qy hag λx m=>cD.2 ⟨d,o,m⟩;exact Ec (by rw [l];exact n ht) (by rw [l];exact j ht) (p ht) ⟨rfl,rfl⟩
end
attribute [go_sem] Dz
end Go.Abs
end
section
namespace Go.Abs
def q8 (H:AHeap)(d:D):D :=
 match d with
 | .own id n=>match H.get id with
  | some k=>if k.T.length=n then .list (k.T.map (·.map (fN H))) else .own id n
  | none=>.own id n
 | d=>fN H d
def MN (H:AHeap)(d:D):List Nat :=
 match d with
 | .own id n=>id :: (match H.get id with|some k=>k.T.flatten.flatMap lR|none=>[])
 | d=>lR d
def kW (H:AHeap):D->D
 | .agg cs=>.agg (cs.map (q8 H))
 | d=>q8 H d
def Im (H:AHeap):D->List Nat
 | .agg cs=>cs.flatMap (MN H)
 | d=>MN H d
def jS (H:AHeap):D->D
 | .tup vs=>.tup (vs.map (kW H))
 | d=>kW H d
def BX (H:AHeap):D->List Nat
 | .tup vs=>vs.flatMap (Im H)
 | d=>Im H d
section
variable {P:Program} {M0:Nat→Prop} {H:AHeap} {σ:Nat→Option Ow} {w:World}
theorem RepV.df {M:Nat->Prop}{N:Nat->Prop}{v:Value}{es:Xa1}{f:D->D}(h:RepV M σ N w v (.list es))(e:∀ y∈es.flatten,∀ u,RepV M σ N w u y->RepV M σ N w u (f y)) :
  RepV M σ N w v (.list (es.map (·.map f))):=by
 have a:(es.map (·.map f)).flatten=es.flatten.map f:=List.map_flatten.symm;cases h with
 | listN=>exact .listN
 | list ad cap sz xs es hc hm hsz hl h1 hcell hr =>
  have:=RepV.list (M:=M) (σ:=σ) (N:=N) (w:=w) ad cap sz xs (es.map (·.map f)) (eL hc) hm (λc hc'=>by
   rw [aV] at hc';obtain ⟨y,b,rfl⟩:=hc';rw [bI];exact hsz y b) (by rw [a,bI];exact hl) h1 hcell (λj u d hu hd=>by
   rw [a,aP,bN] at hd;obtain ⟨y,b,rfl⟩:=hd;exact e y (aM b) u (hr j u y hu b))
  grind
theorem Wm {d:D}(h:∀ a b,d≠.own a b):q8 H d=fN H d:=by cases d<;>first|rfl|exact absurd rfl (h _ _)
theorem WS {d:D}(h:∀ a b,d≠.own a b):MN H d=lR d:=by cases d<;>first|rfl|exact absurd rfl (h _ _)
theorem Fm {v:Value}{d:D}(B:Rel M0 H σ w)(z:RepV (dD M0 H σ) σ H.H w v d)(c:List Nat)(m:∀ i∈MN H d,i∈c) :
  RepV (dD M0 (fJ c H) σ) σ (fJ c H).H w v (q8 H d):=by
 obtain ⟨r,C,E,o⟩:=fW c B;have l:=z.u C;have h:∀ i∈c,∀ k,(fJ c H).get i=some k->k.fz=true:=λi m k f=>by
  have q:=(o i).1;rw [f] at q;cases p:H.get i with
  | none=>rw [p] at q;cases q
  | some k0 =>
   grind
 by_cases s:∀ a b,d≠.own a b
 .rw [Wm s,<- rG (λi=>(o i).1) d];rw [WS s] at m;exact nW r l λi e k f=>h i (m i e) k f
 .obtain ⟨t,n,rfl⟩:∃ a b,d=.own a b:=by
   grind
  have g:=nW r l λi e k f=>h i (m i (by
   simp only [lR,bU] at e;subst e;simp only [MN];exact eT ..)) k f
  rw [rG (λi=>(o i).1)] at g;simp only [q8,fN] at g ⊢;cases f:H.get t with
  | none=>rw [f] at g;exact g
  | some k =>
   rw [f] at g;simp only at g ⊢;split
   .rename_i A;rw [if_pos A] at g;refine g.df λy x u hu=>?_;rw [<- rG (λi=>(o i).1) y];exact nW r hu λi e k' hk'=>h i (m i (by
     simp only [MN,f,aS,cD];exact .inr ⟨y,x,e⟩)) k' hk'
   grind
theorem CZ {v:Value}{d:D}(c:Rel M0 H σ w)(f:RepV (dD M0 H σ) σ H.H w v d)(a:List Nat)(g:∀ i∈Im H d,i∈a) :
  RepV (dD M0 (fJ a H) σ) σ (fJ a H).H w v (kW H d):=by
 cases d with
 | agg cs =>
  obtain ⟨h,m,l,k⟩:=fW a c;cases f with
  | agg vs ds hl h hr =>
   refine .agg vs _ (eL hl) h λj u x hu hd=>?_;rw [aP,bN] at hd;obtain ⟨y,e,rfl⟩:=hd;exact Fm c (hr j u y hu e) a λi b=>g i (by simp only [Im,cD];exact ⟨y,aM e,b⟩)
 | _=>exact Fm c f a g
theorem Mh {v:Value}{d:D}(g:Rel M0 H σ w)(e:RepV (dD M0 H σ) σ H.H w v d)(a:List Nat)(f:∀ i∈BX H d,i∈a) :
  RepV (dD M0 (fJ a H) σ) σ (fJ a H).H w v (jS H d):=by
 cases d with
 | tup cs =>
  cases e with
  | tup vs ds hl hr =>
   refine .tup vs _ (eL hl) λj u x hu hd=>?_;rw [aP,bN] at hd;obtain ⟨y,c,rfl⟩:=hd;exact CZ g (hr j u y hu c) a λi b=>f i (by simp only [BX,cD];exact ⟨y,aM c,b⟩)
 | _=>exact CZ g e a f
theorem ACalls.co {f:FuncId}{args:Xa2}{Q:D->AHeap->Prop}(h:ACalls P f args H λd H'=>Q (jS H' d) (fJ (BX H' d) H')):ACalls P f args H Q :=
 ⟨h.1,λM0 σ w vals hR ha=>(h.2 M0 σ w vals hR ha).mono λe w' ⟨v,d,H',σ',he,hR',hv,hst,hk,hq⟩=>by
  obtain ⟨f1,f2,_,_⟩:=fW (BX H' d) hR';exact ⟨v,_,_,σ',he,f1,Mh hR' hv _ λ_ h=>h,hst,hk.trans f2,hq⟩⟩
end
end Go.Abs
end
section
namespace Go.Abs
theorem wa {a b:Prop}(x:a)(y:b):a/\b:=⟨x,y⟩
section
variable {P:Program} {c:Cfg} {a b:Code} {Q:Exit→d7→AHeap→Prop} {e:d7} {H:AHeap}
theorem wq {t:Bool}{A B:Prop}(h1:A->p7 P c a Q e H)(h2:B->p7 P c b Q e H)
 (k1:t=true->A:=by (intro h;first|(simp [go_sem] at h;exact h)|exact h)) (k2:t=false->B:=by (intro h;first|(simp [go_sem] at h;exact h)|exact h)) :
 zP P c a b Q e H (.bool t):=bA (λh=>h1 (k1 h)) (λh=>h2 (k2 h))
theorem bC (I:Nat->d7->AHeap->Prop)(μ:Nat->Nat)(x0:Nat)(h0:I x0 e H)
  (hs:∀ J:Nat->d7->AHeap->Prop,(∀ x e H,J x e H↔I x e H)->∀ x e H,I x e H->p7 P c b (u6 (FH J μ x) Q) e H):BW P c b Q e H :=
 uJ I μ x0 h0 (hs I λ_ _ _=>Iff.rfl)
theorem nE {H':AHeap}(hg:Ghosts H H')(I:Nat->d7->AHeap->Prop)(μ:Nat->Nat)(x0:Nat)(h0:I x0 e H')
  (hs:∀ J:Nat->d7->AHeap->Prop,(∀ x e H,J x e H↔I x e H)->∀ x e H,I x e H->p7 P c b (u6 (FH J μ x) Q) e H):BW P c b Q e H :=
 YF hg I μ x0 h0 (hs I λ_ _ _=>Iff.rfl)
end
section
variable {p q:Prop}
structure Wh (q:Prop):Prop where
 h:q
theorem wv (k:q->p:=by (intro h;first|(simp [go_sem,seval,Y];exact h)|exact h))(h:q):p:=k h
theorem lZ (k:q->p:=by (intro h;first|(simp -implicitDefEqProofs [go_sem,seval,Y];exact h)|exact h))(h:q):p:=k h
theorem wo (k:Wh q->p:=by (intro h;(try simp [go_sem,seval,Y]);(repeat first|intro _|refine ⟨iF,?_⟩);exact h.1))(h:q):p:=k ⟨h⟩
theorem wp (k:Wh q->p:=by (intro h;(try simp [go_sem,seval,Y]);(repeat first|intro _|refine ⟨gX,?_⟩);exact h.1))(h:q):p:=k ⟨h⟩
theorem Gf (k:Wh q->p:=by (intro h;(try simp -implicitDefEqProofs [go_sem,seval,Y]);(repeat first|intro _|refine ⟨iF,?_⟩);exact h.1))(h:q):p:=k ⟨h⟩
theorem oP (k:Wh q->p:=by (intro h;(try simp -implicitDefEqProofs [go_sem,seval,Y]);(repeat first|intro _|refine ⟨gX,?_⟩);exact h.1))(h:q):p:=k ⟨h⟩
theorem wl (h:p:=by first|rfl|(simp [go_sem,<- List.map_take,<- List.map_drop,Y];done)):p:=h
theorem wr (h:p:=by simp [JD,C1,fT,go_sem,<- List.map_take,<- List.map_drop,Y]):p:=h
theorem wrq (h:p:=by simp [JD,C1,C0,Dz,fT,go_sem,<- List.map_take,<- List.map_drop,Y]):p:=h
theorem wrd (h:p:=by simp [go_sem,Y]):p:=h
theorem wdq (h:p:=by simp [go_sem,Dz,fT,Y]):p:=h
theorem wn (h:p:=by first|omega|(simp [go_sem,seval,Y]<;>omega)):p:=h
theorem wg (h:p:=by and_intros<;>first|omega|(simp [go_sem,seval,Y]<;>omega)):p:=h
theorem wi (h:p:=by first|assumption|omega|(simp [go_sem,Y];done)|(simp_all;done)):p:=h
theorem wj (h:p:=by first|assumption|omega|(simp [go_sem,Y];done)|(simp_all<;>omega)):p:=h
theorem wy (h:p:=by simp [go_sem,Y]<;>first|omega|(rw [aU];simp<;>omega)|(simp_all<;>omega)):p:=h
end
section
variable {P:Program} {c:Cfg} {a b:Code} {Q:Exit→d7→AHeap→Prop} {e:d7} {H:AHeap} {p:Prop}
theorem c8 {t:Bool}{A B:Prop}(h1:A->p7 P c a Q e H)(h2:B->p7 P c b Q e H)(k:zP P c a b Q e H (.bool t)->p:=by (intro h;first|(simp [go_sem,seval,Y];exact h)|exact h))
 (k1:t=true->A:=by (intro h;first|(simp [go_sem] at h;exact h)|exact h)) (k2:t=false->B:=by (intro h;first|(simp [go_sem] at h;exact h)|exact h)):p:=k (bA (λh=>h1 (k1 h)) (λh=>h2 (k2 h)))
theorem dW {t:Bool}{A B:Prop}(h1:A->p7 P c a Q e H)(h2:B->p7 P c b Q e H)(k:Wh (zP P c a b Q e H (.bool t))->p:=by (intro h;(try simp [go_sem,seval,Y]);(repeat first|intro _|refine ⟨iF,?_⟩);exact h.1))
 (k1:t=true->A:=by (intro h;first|(simp [go_sem] at h;exact h)|exact h)) (k2:t=false->B:=by (intro h;first|(simp [go_sem] at h;exact h)|exact h)):p:=k ⟨bA (λh=>h1 (k1 h)) (λh=>h2 (k2 h))⟩
theorem kI {t:Bool}{A B:Prop}(h1:A->p7 P c a Q e H)(h2:B->p7 P c b Q e H)(k:Wh (zP P c a b Q e H (.bool t))->p:=by (intro h;(try simp [go_sem,seval,Y]);(repeat first|intro _|refine ⟨gX,?_⟩);exact h.1))
 (k1:t=true->A:=by (intro h;first|(simp [go_sem] at h;exact h)|exact h)) (k2:t=false->B:=by (intro h;first|(simp [go_sem] at h;exact h)|exact h)):p:=k ⟨bA (λh=>h1 (k1 h)) (λh=>h2 (k2 h))⟩
theorem wx {I J:Nat->d7->AHeap->Prop}{m:Nat->Nat}{x:Nat}(hJ:∀ x e H,J x e H↔I x e H)(x':Nat)(hI:I x' e H)(hm:m x'<m x:=by omega):FH J m x e H:=g9 x' hm ((hJ _ _ _).2 hI)
end
end Go.Abs
end
section
set_option maxRecDepth 100000
open Go Go.Proofs Go.Abs Tryz
namespace Go.Abs
abbrev Pua:=Pure prog
end Go.Abs
namespace Go.Abs.Tz
abbrev tyA (t:Nat)(z:D):Prop:=tk prog t=.one/\zd prog t=some [z]/\(prog.info? t).isSome=true/\prog.cellsOf t=1
abbrev LW (t:Nat):Prop:=tyA t .nil
abbrev yH (t:Nat):Prop:=tk prog t=.one/\(prog.info? t).isSome=true/\prog.cellsOf t=1
abbrev tyD (t n k s:Nat)(z:Xa2):Prop:=tk prog t=.agg n/\zd prog t=some z/\bk prog t=some (.ar s)/\VJ prog t=some (k,s)/\(prog.info? t).isSome=true/\prog.cellsOf t=n
abbrev Xm (t:Nat)(k:IntKind)(z:D):Prop:=tyA t z/\Q4 prog t=some k
abbrev CN (t n:Nat)(z:Xa2)(l:List (Nat × Nat)):Prop:=tk prog t=.agg n/\zd prog t=some z/\bk prog t=some (.st l)/\(prog.info? t).isSome=true/\prog.cellsOf t=n
abbrev LV (t e s b:Nat)(z:Xa2):Prop:=sl prog t=some ⟨e,s,b,z⟩
abbrev Zz (t n:Nat):Prop:=UY prog t=some n
@[go_sem] theorem ty0:Xm 3 .i64 (.int .i64 0)/\tyA 4 (.bool false)/\Xm 5 .u8 (.int .u8 0)/\tyA 9 (.str ⟨#[]⟩)/\LW 22/\LW 23/\CN 25 2 [.nil,.nil] [(0,1),(1,1)]/\LW 26:=by and_intros<;>rfl
@[go_sem] theorem ty8:LW 27/\CN 29 2 [.nil,.nil] [(0,1),(1,1)]/\LW 30/\LW 31/\CN 33 5 [.nil,.nil,.nil,.int .i64 0,.nil] [(0,2),(2,1),(3,1),(4,1)]/\CN 35 2 [.nil,.nil] [(0,1),(1,1)]/\CN 36 2 [.nil,.nil] [(0,1),(1,1)]/\LW 37:=by and_intros<;>rfl
@[go_sem] theorem ahS:CN 39 9 [.int .i64 0,.nil,.nil,.nil,.nil,.nil,.nil,.int .i64 0,.nil] [(0,1),(1,1),(2,2),(4,5)]/\CN 41 25 [.str ⟨#[]⟩,.nil,.nil,.nil,.int .i64 0,.nil,.nil,.nil,.nil,.int .i64 0,.nil,.nil,.nil,.nil,.nil,.bool false,.int .i64 0,.nil,.nil,.nil,.nil,.nil,.nil,.int .i64 0,.nil] [(0,1),(1,5),(6,5),(11,2),(13,2),(15,1),(16,9)]/\CN 43 52 [.nil,.nil,.str ⟨#[]⟩,.nil,.nil,.nil,.int .i64 0,.nil,.nil,.nil,.nil,.int .i64 0,.nil,.nil,.nil,.nil,.nil,.bool false,.int .i64 0,.nil,.nil,.nil,.nil,.nil,.nil,.int .i64 0,.nil,.str ⟨#[]⟩,.nil,.nil,.nil,.int .i64 0,.nil,.nil,.nil,.nil,.int .i64 0,.nil,.nil,.nil,.nil,.nil,.bool false,.int .i64 0,.nil,.nil,.nil,.nil,.nil,.nil,.int .i64 0,.nil] [(0,2),(2,25),(27,25)]/\CN 45 6 [.nil,.nil,.nil,.nil,.nil,.nil] [(0,2),(2,2),(4,2)]/\CN 47 3 [.nil,.nil,.nil] [(0,2),(2,1)]/\LW 48/\CN 50 3 [.nil,.nil,.nil] [(0,2),(2,1)]/\CN 52 38 [.str ⟨#[]⟩,.nil,.nil,.nil,.int .i64 0,.nil,.nil,.nil,.nil,.int .i64 0,.nil,.nil,.nil,.nil,.nil,.bool false,.int .i64 0,.nil,.nil,.nil,.nil,.nil,.nil,.int .i64 0,.nil,.nil,.nil,.nil,.nil,.nil,.nil,.nil,.nil,.nil,.nil,.nil,.nil,.nil] [(0,25),(25,3),(28,3),(31,3),(34,2),(36,2)]:=by and_intros<;>rfl
@[go_sem] theorem ahR:tyA 55 .nilf/\Xm 57 .i64 (.int .i64 0)/\yH 58/\yH 62/\LW 68/\yH 69/\yH 71/\CN 81 60 [.str ⟨#[]⟩,.nil,.nil,.nil,.int .i64 0,.nil,.nil,.nil,.nil,.int .i64 0,.nil,.nil,.nil,.nil,.nil,.bool false,.int .i64 0,.nil,.nil,.nil,.nil,.nil,.nil,.int .i64 0,.nil,.str ⟨#[]⟩,.nil,.nil,.nil,.int .i64 0,.nil,.nil,.nil,.nil,.int .i64 0,.nil,.nil,.nil,.nil,.nil,.bool false,.int .i64 0,.nil,.nil,.nil,.nil,.nil,.nil,.int .i64 0,.nil,.nil,.nil,.nil,.nil,.nil,.nil,.nil,.nil,.nil,.nil] [(0,25),(25,25),(50,6),(56,2),(58,2)]:=by and_intros<;>rfl
@[go_sem] theorem ahQ:yH 82/\yH 84/\yH 88/\yH 94/\yH 99/\yH 102/\tyA 106 .nilf/\LW 107:=by and_intros<;>rfl
@[go_sem] theorem ahP:CN 109 4 [.str ⟨#[]⟩,.int .i64 0,.int .i64 0,.nil] [(0,1),(1,1),(2,1),(3,1)]/\LW 110/\CN 112 4 [.str ⟨#[]⟩,.int .i64 0,.bool false,.nil] [(0,1),(1,1),(2,1),(3,1)]/\CN 114 7 [.str ⟨#[]⟩,.int .i64 0,.int .i64 0,.int .i64 0,.int .i64 0,.int .i64 0,.int .i64 0] [(0,1),(1,1),(2,1),(3,1),(4,1),(5,1),(6,1)]/\tyA 122 .nilf/\yH 126/\yH 136/\yH 142:=by and_intros<;>rfl
@[go_sem] theorem ahO:yH 147/\CN 153 3 [.int .i64 0,.int .i64 0,.int .i64 0] [(0,1),(1,1),(2,1)]/\LW 154/\LW 155/\tyA 157 .nilp/\CN 159 5 [.nil,.nil,.nil,.nil,.nil] [(0,2),(2,2),(4,1)]/\tyA 164 .nilf/\CN 176 2 [.int .i64 0,.int .i64 0] [(0,1),(1,1)]:=by and_intros<;>rfl
@[go_sem] theorem ahN:CN 178 4 [.int .i64 0,.int .i64 0,.int .i64 0,.int .i64 0] [(0,1),(1,1),(2,2)]/\CN 181 5 [.int .i64 0,.int .i64 0,.int .i64 0,.int .i64 0,.int .i64 0] [(0,1),(1,2),(3,2)]/\CN 187 8 [.nil,.nil,.nil,.nil,.nil,.nil,.nil,.nil] [(0,2),(2,2),(4,2),(6,2)]/\LW 189/\yH 190/\yH 194/\yH 197/\yH 199:=by and_intros<;>rfl
@[go_sem] theorem ahM:tyA 204 .nilp/\yH 212/\yH 216/\tyA 223 .nilf/\yH 225/\tyA 237 .nilf/\CN 242 3 [.int .i64 0,.str ⟨#[]⟩,.int .i64 0] [(0,1),(1,1),(2,1)]/\yH 243:=by and_intros<;>rfl
@[go_sem] theorem ahL:yH 249/\LW 254/\Xm 257 .u64 (.int .u64 0)/\LW 261/\CN 263 5 [.int .i64 0,.nil,.nil,.nil,.nil] [(0,1),(1,3),(4,1)]/\yH 264/\yH 266/\yH 269:=by and_intros<;>rfl
@[go_sem] theorem ahK:yH 270/\CN 273 2 [.int .i64 0,.int .i64 0] [(0,1),(1,1)]/\CN 275 2 [.int .i64 0,.int .i64 0] [(0,1),(1,1)]/\tyA 282 .nilf/\tyA 285 .nilf/\yH 291/\yH 298/\yH 301:=by and_intros<;>rfl
@[go_sem] theorem ahJ:Xm 305 .i64 (.int .i64 0)/\yH 306/\Xm 312 .u32 (.int .u32 0)/\Xm 314 .u64 (.int .u64 0)/\LW 315/\CN 319 6 [.nil,.nil,.nil,.nil,.nil,.bool false] [(0,2),(2,3),(5,1)]/\yH 321/\LW 325:=by and_intros<;>rfl
@[go_sem] theorem ahI:yH 326/\tyA 330 .nilf/\yH 332/\tyA 336 .nilf/\tyA 337 .nilf/\Xm 343 .u64 (.int .u64 0)/\tyA 347 .nilp/\tyA 351 .nilf:=by and_intros<;>rfl
@[go_sem] theorem ag7:yH 353/\yH 355/\LW 358/\yH 359/\yH 361/\tyA 371 .nilp/\yH 373/\tyA 375 .nilf:=by and_intros<;>rfl
@[go_sem] theorem ag6:yH 376/\tyA 389 .nilp/\CN 391 11 [.nil,.nil,.nil,.nil,.nil,.nil,.nil,.nil,.bool false,.int .i64 0,.nil] [(0,2),(2,2),(4,2),(6,2),(8,1),(9,1),(10,1)]/\tyA 392 .nilp/\CN 394 12 [.nil,.nil,.nil,.nil,.nil,.nil,.nil,.bool false,.int .i64 0,.nil,.nil,.nil] [(0,2),(2,2),(4,1),(5,2),(7,1),(8,1),(9,1),(10,1),(11,1)]:=by and_intros<;>rfl
@[go_sem] theorem ahG:LV 22 112 4 56 [.str ⟨#[]⟩,.int .i64 0,.bool false,.nil]/\LV 23 114 7 64 [.str ⟨#[]⟩,.int .i64 0,.int .i64 0,.int .i64 0,.int .i64 0,.int .i64 0,.int .i64 0]/\LV 26 3 1 8 [.int .i64 0]/\LV 27 153 3 24 [.int .i64 0,.int .i64 0,.int .i64 0]/\LV 30 178 4 32 [.int .i64 0,.int .i64 0,.int .i64 0,.int .i64 0]/\LV 31 181 5 40 [.int .i64 0,.int .i64 0,.int .i64 0,.int .i64 0,.int .i64 0]/\LV 37 39 9 184 [.int .i64 0,.nil,.nil,.nil,.nil,.nil,.nil,.int .i64 0,.nil]/\LV 48 26 1 24 [.nil]/\LV 68 45 6 144 [.nil,.nil,.nil,.nil,.nil,.nil]/\LV 107 9 1 16 [.str ⟨#[]⟩]/\LV 110 109 4 56 [.str ⟨#[]⟩,.int .i64 0,.int .i64 0,.nil]/\LV 154 41 25 512 [.str ⟨#[]⟩,.nil,.nil,.nil,.int .i64 0,.nil,.nil,.nil,.nil,.int .i64 0,.nil,.nil,.nil,.nil,.nil,.bool false,.int .i64 0,.nil,.nil,.nil,.nil,.nil,.nil,.int .i64 0,.nil]:=by and_intros<;>rfl
@[go_sem] theorem ag5:LV 155 29 2 48 [.nil,.nil]/\LV 189 275 2 16 [.int .i64 0,.int .i64 0]/\LV 254 4 1 1 [.bool false]/\LV 261 263 5 104 [.int .i64 0,.nil,.nil,.nil,.nil]/\LV 315 254 1 24 [.nil]/\LV 325 47 3 72 [.nil,.nil,.nil]/\LV 358 36 2 48 [.nil,.nil]:=by and_intros<;>rfl
@[go_sem] theorem ahH:Zz 153 3/\Zz 176 2/\Zz 178 4/\Zz 181 5/\Zz 273 2/\Zz 275 2:=by and_intros<;>(show _=_;kernel_rfl)
attribute [go_sem] underlying3 underlying4 underlying5 underlying9 underlying22 underlying23 underlying25 underlying26 underlying27 underlying29 underlying30 underlying31 underlying33 underlying35 underlying36 underlying37 underlying39 underlying41 underlying43 underlying45
attribute [go_sem] underlying47 underlying48 underlying50 underlying52 underlying55 underlying57 underlying58 underlying62 underlying68 underlying69 underlying71 underlying81 underlying82 underlying84 underlying88 underlying94 underlying99 underlying102 underlying106 underlying107
attribute [go_sem] underlying109 underlying110 underlying112 underlying114 underlying122 underlying126 underlying136 underlying142 underlying147 underlying153 underlying154 underlying155 underlying157 underlying159 underlying164 underlying176 underlying178 underlying181 underlying187 underlying189
attribute [go_sem] underlying190 underlying194 underlying197 underlying199 underlying204 underlying212 underlying216 underlying223 underlying225 underlying237 underlying242 underlying243 underlying249 underlying254 underlying257 underlying261 underlying263 underlying264 underlying266 underlying269
attribute [go_sem] underlying270 underlying273 underlying275 underlying282 underlying285 underlying291 underlying298 underlying301 underlying305 underlying306 underlying312 underlying314 underlying315 underlying319 underlying321 underlying325 underlying326 underlying330 underlying332 underlying336
attribute [go_sem] underlying337 underlying343 underlying347 underlying351 underlying353 underlying355 underlying358 underlying359 underlying361 underlying371 underlying373 underlying375 underlying376 underlying389 underlying391 underlying392 underlying394
theorem mixed:prog.follows .mixedOrders=true:=rfl
theorem pK {f:FuncId}{fn:Func}{x:Code}{rs:List ResultVar}{args:Xa2}{r:D}(cfg:Cfg)(hf:prog.funcs[f]?=some fn)(hb:fn.body=some x)
  (h:∀ Q:D->AHeap->Prop,(∀ d H',(qF H' d=r\/Ub (qF H' d)=r)->Q d H')->p7 prog cfg x (S9 prog rs Q) (DM args) .an)
  (hcl:r.W=true:=by first|rfl|(simp [go_sem];done)) (hnm:(fn.name=="runtime.NumGoroutine")=false:=by rfl) (hlen:args.length<=fn.ntmps:=by exact aE rfl) (hok:qW cfg fn.ntmps x=true:=by kernel_rfl) (hr:fn.results.toList=rs:=by exact Wp):Pure prog f args r :=
 HN hcl λQ hQ=>aJ mixed hf hb hnm hlen hok (h Q hQ) hr
theorem p0 {f:FuncId}{fn:Func}{x:Code}{rs:List ResultVar}{args:Xa2}{r:D}(hf:prog.funcs[f]?=some fn)(hb:fn.body=some x)
  (h:∀ Q:D->AHeap->Prop,(∀ d H',(qF H' d=r\/Ub (qF H' d)=r)->Q d H')->True->p7 prog ⟨λ_=>false,λ_=>[]⟩ x (S9 prog rs Q) (DM args) .an)
(hcl:r.W=true:=by first|rfl|(simp [go_sem];done)) (hnm:(fn.name=="runtime.NumGoroutine")=false:=by rfl) (hlen:args.length<=fn.ntmps:=by exact aE rfl) (hok:qW ⟨λ_=>false,λ_=>[]⟩ fn.ntmps x=true:=by kernel_rfl) (hr:fn.results.toList=rs:=by exact Wp):Pure prog f args r:=pK ⟨λ_=>false,λ_=>[]⟩ hf hb (λQ W=>h Q W trivial) hcl hnm hlen hok hr
theorem cK {f:FuncId}{fn:Func}{x:Code}{rs:List ResultVar}{args:Xa2}{Q:D->AHeap->Prop}{H:AHeap}(cfg:Cfg)(hf:prog.funcs[f]?=some fn)(hb:fn.body=some x)(h:p7 prog cfg x (S9 prog rs Q) (DM args) H) (hnm:(fn.name=="runtime.NumGoroutine")=false:=by rfl) (hlen:args.length<=fn.ntmps:=by exact aE rfl) (hok:qW cfg fn.ntmps x=true:=by kernel_rfl) (hr:fn.results.toList=rs:=by exact Wp):ACalls prog f args H Q:=aJ mixed hf hb hnm hlen hok h hr
theorem c0 {f:FuncId}{fn:Func}{x:Code}{rs:List ResultVar}{args:Xa2}{Q:D->AHeap->Prop}{H:AHeap}(hf:prog.funcs[f]?=some fn)(hb:fn.body=some x)(h:p7 prog ⟨λ_=>false,λ_=>[]⟩ x (S9 prog rs Q) (DM args) H) (hnm:(fn.name=="runtime.NumGoroutine")=false:=by rfl) (hlen:args.length<=fn.ntmps:=by exact aE rfl) (hok:qW ⟨λ_=>false,λ_=>[]⟩ fn.ntmps x=true:=by kernel_rfl) (hr:fn.results.toList=rs:=by exact Wp):ACalls prog f args H Q:=aJ mixed hf hb hnm hlen hok h hr
theorem oK {f:FuncId}{fn:Func}{x:Code}{rs:List ResultVar}{args:Xa2}{ty:TypeId}{sz:Nat}{es:Xa1}(cfg:Cfg)(hf:prog.funcs[f]?=some fn)(hb:fn.body=some x)
  (h:∀ Q:D->AHeap->Prop,(∀ id n H',n=es.length->H'.get id=some ⟨ty,sz,es,false⟩->Q (.own id n) H')->p7 prog cfg x (S9 prog rs Q) (DM args) .an)
  (hcl:D.V es=true:=by first|rfl|(simp [go_sem];done)) (hnm:(fn.name=="runtime.NumGoroutine")=false:=by rfl) (hlen:args.length<=fn.ntmps:=by exact aE rfl) (hok:qW cfg fn.ntmps x=true:=by kernel_rfl) (hr:fn.results.toList=rs:=by exact Wp):Own prog f args ty sz es :=
 af4 hcl λQ hQ=>aJ mixed hf hb hnm hlen hok (h Q hQ) hr
end Go.Abs.Tz
end
section
namespace Go.Abs
variable {P:Program} {md:Nat→Bool} {ops:Array Oper} {sp:List (Nat × Nat)} {n0 i:Nat} {rest:List Oper} {acc:List (Nat × List Nat)} {e:d7} {dst:Option Tmp} {K:d7→AHeap→Prop} {f:FuncId} {args:Xa2} {H:AHeap} {r:D}
end Go.Abs
end
section
set_option maxRecDepth 4000
open Go Go.Proofs Tryz
namespace Go.Abs
def jZ (c:Int):Bool:=decide (97<=c)&&decide (c<=122)||(decide (65<=c)&&decide (c<=90))
def lJ (c:Int):Bool:=decide (48<=c)&&decide (c<=57)
def qL (c:Int):Bool:=jZ c||lJ c||c==95
theorem CO (c:Int):Pua 373 [.int .u8 c] (.bool (jZ c)):=by
 refine aT (Tz.c0 func373 rfl ?_);simp [go_sem,seval,jZ,D.W];omega
theorem Ag (c:Int):Pua 376 [.int .u8 c] (.bool (lJ c)):=by
 refine aT (Tz.c0 func376 rfl ?_);simp [go_sem,seval,lJ,D.W]
theorem Qg (c:Int):Pua 375 [.int .u8 c] (.bool (qL c)):=by
 refine aT (Tz.c0 func375 rfl ?_);simp [go_sem,seval];refine aB (CO c) rfl ?_;simp [go_sem,seval];refine aG (λ_=>Ag c) (λ_=>rfl) ?_;simp [go_sem,seval,qL]
def zB (s:ByteArray)(i:Nat):Int:=((s.data[i]?.getD 0).toNat:Int)
def iG (p:Int->Bool)(s:ByteArray):Nat:=(s.data.toList.takeWhile λb=>p (b.toNat:Int)).length
theorem wD {α:Type}(p:α->Bool):∀ (l:List α) (n:Nat),(∀ j x,j<n->l[j]?=some x->p x=true)->n<=l.length->(∀ x,l[n]?=some x->p x=false)->(l.takeWhile p).length=n
 | [],n,_,h,_=>by simp at h;subst h;rfl
 | a :: l,0,_,_,h=>by have:=h a rfl;simp [List.takeWhile,this]
 | a :: l,n+1,h1,h2,h3=>by
  have ha:=h1 0 a bZ rfl;simp only [List.takeWhile,ha,e9];rw [wD p l n (λj x hj hx=>h1 (j+1) x bZ hx) (eL h2) λx hx=>h3 x hx]
theorem Kz (p:Int->Bool)(s:ByteArray)(n:Nat)(d:∀ j,j<n->p (zB s j)=true)(c:n<=s.size)(e:n<s.size->p (zB s n)=false):iG p s=n:=by
 have a:s.data.toList.length=s.size:=rfl;have b:∀ j x,s.data.toList[j]?=some x->zB s j=(x.toNat:Int):=λj x hx=>by
  simp only [Array.getElem?_toList] at hx;simp [zB,hx]
 refine wD _ _ _ (λj x hj hx=>by rw [<- b j x hx];exact d j hj) (by rw [a];exact c) λx hx=>?_;grind
theorem T0 (s:ByteArray)(i:Nat):0<=zB s i/\zB s i<=255:=by
 unfold zB;have:=(s.data[i]?.getD 0).toNat_lt;omega
theorem Ej (s:ByteArray)(g:FuncId)(p:Int->Bool)(t:s.size<=1000000)(o:∀ c,0<=c->c<=255->Pure prog g [.int .u8 c] (.bool (p c))) :
  Pua 374 [.str s,.fn g []] (dI (iG p s)):=by
 refine aT (Tz.c0 func374 rfl ?_);simp [go_sem,seval];refine fR (ι:=Nat) (λn e H=>H=.an/\n<=s.size/\e 0=.str s/\e 1=.fn g []/\e 5=dI n/\(∀ j,j<n->p (zB s j)=true)) (λn=>s.size - n) 0 (by simp [go_sem,seval,dI]) ?_;intro n e H ⟨q,m,k,i,d,l⟩;subst q;simp [go_sem,seval,k,i,d,dI];have f:=T0 s n;refine aG (r:=.bool (p (zB s n))) (λ_=>o _ f.1 f.2) (λ_=>rfl) ?_;simp [go_sem,seval];refine bA (λh=>?_) (λh=>?_)
 .simp at h;simp [go_sem,seval,k,i,d,dI];refine ⟨dK bZ bZ,n+1,bZ,bZ,bZ,λj hj=>?_⟩;grind
 .simp at h;simp [go_sem,seval,d,dI];rw [Kz p s n l m h]
def gS {α:Type}[DecidableEq α](xs:List α)(v:α):Int:=match xs.findIdx? (λx=>decide (x=v)) with|some i=>i|none=>-1
def mem {α:Type}[DecidableEq α](xs:List α)(v:α):Bool:=decide (0<=gS xs v)
theorem sI {α:Type}[DecidableEq α]{xs:List α}{v:α}{i:Nat}(h:∀ j,j<i->xs[j]?≠some v)(hi:xs[i]?=some v):gS xs v=i:=by
 have:xs.findIdx? (λx=>decide (x=v))=some i:=by
  rw [gK];grind
 simp [gS,this]
theorem xO {α:Type}[DecidableEq α]{xs:List α}{v:α}(h:∀ j,j<xs.length->xs[j]?≠some v):gS xs v = -1:=by
 have:xs.findIdx? (λx=>decide (x=v))=none:=by
  rw [oF];intro x a;obtain ⟨j,b,rfl⟩:=aO a;grind
 simp [gS,this]
theorem WR {α:Type}[DecidableEq α](xs:List α)(v:α):0<=gS xs v↔v∈xs:=by
 unfold gS;grind
theorem mem_iff {α:Type}[DecidableEq α](xs:List α)(v:α):mem xs v=true↔v∈xs:=by simp [mem,WR]
theorem TH (xs:List ByteArray)(v:ByteArray):Pua 398 [uZ xs,.str v] (dI (gS xs v)):=by
 refine aT (Tz.c0 func398 rfl ?_);simp [go_sem,seval,dI,uZ];intro f;refine fR (ι:=Nat) (λi e H=>H=.an/\i<=xs.length/\e 0=uZ xs/\e 1=.str v/\e 7=dI xs.length/\e 8=dI i/\(∀ j,j<i->xs[j]?≠some v)) (λi=>xs.length - i) 0 (by simp [go_sem,seval,dI,uZ]) ?_;intro i e H ⟨m,n,l,k,g,c,d⟩;subst m;simp [go_sem,seval,g,c,dI,uZ];refine f6 (λhlt=>?_) (λhge=>?_)
 .simp [go_sem,seval,l,k,c,dI,uZ,cS,hlt];refine bA (λh=>?_) (λh=>?_)
  .simp at h;simp [go_sem,seval];rw [sI d (by rw [aA hlt,h])]
  .simp at h;simp [go_sem,seval,l,k,g,c,dI,uZ];refine ⟨dK bZ bZ,i+1,bZ,bZ,bZ,λj hj=>?_⟩;grind
 .simp [go_sem,seval];rw [xO λj hj=>d j bZ]
theorem DO (xs:List ByteArray)(v:ByteArray):Pua 371 [uZ xs,.str v] (.bool (mem xs v)):=by
 refine aT (Tz.c0 func371 rfl ?_);simp [go_sem,seval];refine aB (TH xs v) (by simp [D.N,go_sem,D.W]) ?_;simp [go_sem,seval,dI,mem]
theorem oL (xs:Xa0)(v:Int):Pua 76 [dLI xs,dI v] (dI (gS xs v)):=by
 refine aT (Tz.c0 func76 rfl ?_);simp [go_sem,seval,dI,dLI];intro f;refine fR (ι:=Nat) (λi e H=>H=.an/\i<=xs.length/\e 0=dLI xs/\e 1=dI v/\e 7=dI xs.length/\e 8=dI i/\(∀ j,j<i->xs[j]?≠some v)) (λi=>xs.length - i) 0 (by simp [go_sem,seval,dI,dLI]) ?_;intro i e H ⟨m,n,l,k,g,c,d⟩;subst m;simp [go_sem,seval,g,c,dI,dLI];refine f6 (λhlt=>?_) (λhge=>?_)
 .simp [go_sem,seval,l,k,c,dI,dLI,cI,hlt];refine bA (λh=>?_) (λh=>?_)
  .simp at h;simp [go_sem,seval];rw [sI d (by rw [aA hlt,h])]
  .simp at h;simp [go_sem,seval,l,k,g,c,dI,dLI];refine ⟨dK bZ bZ,i+1,bZ,bZ,bZ,λj hj=>?_⟩;grind
 .simp [go_sem,seval];rw [xO λj hj=>d j bZ]
theorem eX (xs:Xa0)(v:Int):Pua 157 [dLI xs,dI v] (.bool (mem xs v)):=by
 refine aT (Tz.c0 func157 rfl ?_);simp [go_sem,seval];refine aB (oL xs v) (by simp [D.N,go_sem,D.W,dI]) ?_;simp [go_sem,seval,dI,mem]
def qK (c:Int):Bool:=decide (32<=c)&&decide (c<=126)&&c != 34
theorem Jo (c:Int):Pua 399 [.int .u8 c] (.bool (qK c)):=by
 refine aT (Tz.c0 func399 rfl ?_);simp [go_sem,seval,qK,D.W]
def yX (s:ByteArray):Int × Int :=
 let n:=iG qK (s.extract 1 s.size)
 if (1+(n:Int)=s.size)\/zB s (1+n)≠34 then (0,2) else if 60<n then (0,3) else (n+2,0)
theorem Et (p:Int->Bool)(s:ByteArray):iG p s<=s.size:=by
 have:=(List.takeWhile_sublist (l:=s.data.toList) (λb:UInt8=>p (b.toNat:Int))).length_le;exact this
theorem LX (s:ByteArray)(i:1<=s.size)(g:s.size<=100000):Pua 377 [.str s] (.tup [dI (yX s).1,dI (yX s).2]):=by
 refine aT (Tz.c0 func377 rfl ?_);simp [go_sem,seval];have d:(s.extract 1 s.size).size<=1000000:=by rw [ByteArray.size_extract];omega
 refine ⟨bZ,aB (Ej (s.extract 1 s.size) _ _ d (λc _ _=>Jo c)) rfl ?_⟩;have e:=Et qK (s.extract 1 s.size);rw [ByteArray.size_extract] at e;simp [go_sem,seval,dI];unfold yX;generalize iG qK (s.extract 1 s.size)=n at *;have f:((s.data[(1+(n:Int)).toNat]?.getD 0).toNat:Int)=zB s (1+n):=by
  unfold zB;congr 3
 rw [f];refine ⟨dK bZ bZ,λ_=>dK bZ bZ,λh=>by omega,bA (λh=>?_) (λh=>?_)⟩
 .simp at h;simp [go_sem,seval,h]
 .simp at h;simp [go_sem,seval,h];refine bA (λh6=>?_) (λh6=>?_)
  .simp at h6;simp [go_sem,seval,(bZ:60<n)]
  .simp at h6;simp [go_sem,seval,(bZ:¬ 60<n)];exact dK bZ bZ
def KK:List ByteArray:=[⟨#[45,62]⟩,⟨#[60,61]⟩,⟨#[62,61]⟩,⟨#[61,61]⟩,⟨#[33,61]⟩]
theorem Qh (s:ByteArray):Pua 378 [.str s] (.bool (decide ((2:Int)<=s.size)&&mem KK (s.extract 0 2))):=by
 refine aT (Tz.c0 func378 rfl ?_);simp [go_sem,seval];refine aG (r:=.bool (mem KK (s.extract 0 2))) (λ_=>DO KK (s.extract 0 2)) (λ_=>rfl) ?_;simp [go_sem,seval]
def RN:ByteArray:=⟨#[123,125,40,41,91,93,44,59,58,61,43,45,42,60,62,33,38,124,46,63]⟩
def MM (s:ByteArray)(c:Int):Int:=firstIdx s c.toNat.toUInt8
theorem PM (s:ByteArray)(c:Int)(w:World):(callFunc 409 #[.string s,.int .u8 c]).run prog w=.ok (.value (.int .i64 (firstIdx s c.toNat.toUInt8))) w:=by
 rw [run_callFunc_extern func409 (by kernel_rfl) (by kernel_rfl) (by kernel_rfl) (e:=Extern.BytealgIndexByte.indexByte) (by kernel_rfl),run_indexByte_string];rfl
set_option maxHeartbeats 400000 in
open RowKit in
theorem CR (s:ByteArray)(c:Int)(w:World) :
  Calls prog 400 #[.string s,.int .u8 c] w λe w'=>e=.returned (.int .i64 (firstIdx s c.toNat.toUInt8))/\w'=w:=by
 have h:=PM s c
 go_wp2
 go_ret;simp_all
theorem zY (s:ByteArray)(c:Int):Pua 400 [.str s,.int .u8 c] (dI (MM s c)):=by
 refine ⟨⟨Tryz.f400,func400,rfl,rfl⟩,λM w vals hM ha=>?_⟩;have g:vals=[.string s,.int .u8 c]:=by
  obtain ⟨h,f⟩:=ha;match vals,h with
  | [a,b],_ =>
   have j:=f 0 a _ rfl rfl;have d:=f 1 b _ rfl rfl;cases j
   cases d
   rfl
 subst g;exact (CR s c w).mono λe w' ⟨d,i⟩=>⟨_,d,.int _ _,by subst i;exact ⟨rfl,rfl,rfl,bD _,λ_ _=>rfl⟩⟩
theorem CS (s:ByteArray)(c:Int):Pua 379 [.str s,.int .u8 c] (dI (MM s c)):=by
 refine aT (Tz.c0 func379 rfl ?_);simp [go_sem,seval];refine aB (zY s c) rfl ?_;simp [go_sem,seval,dI]
def s5 (s:ByteArray):Int × Int × Int :=
 if jZ (zB s 0)=true then (if 20<iG qL s then (0,0,3) else (1,iG qL s,0))
 else if lJ (zB s 0)=true then (if 9<iG lJ s then (0,0,3) else (2,iG lJ s,0))
 else if zB s 0=34 then (3,(yX s).1,(yX s).2)
 else if (decide ((2:Int)<=s.size)&&mem KK (s.extract 0 2))=true then (4,2,0)
 else if 0<=MM RN (zB s 0) then (4,1,0) else (0,0,2)
theorem Qi (s:ByteArray)(l:1<=s.size)(k:s.size<=100000):Pua 329 [.str s] (.tup [dI (s5 s).1,dI (s5 s).2.1,dI (s5 s).2.2]):=by
 refine aT (Tz.c0 func329 rfl ?_);simp [go_sem,seval];have j:((s.data[0]?.getD 0).toNat:Int)=zB s 0:=rfl;simp only [j];refine ⟨bZ,aB (CO _) rfl ?_⟩;simp [go_sem,seval];refine bA (λhl=>?_) (λhl=>?_)
 .simp [go_sem,seval];refine aB (Ej s _ _ bZ (λc _ _=>Qg c)) rfl ?_;simp [go_sem,seval,dI];refine bA (λh=>?_) (λh=>?_)
  .simp at h;simp [go_sem,seval,s5,hl,(bZ:20<iG qL s)]
  .simp at h;simp [go_sem,seval,s5,hl,(bZ:¬ 20<iG qL s)]
 .simp [go_sem,seval];refine aB (Ag _) rfl ?_;simp [go_sem,seval];refine bA (λhd=>?_) (λhd=>?_)
  .simp [go_sem,seval];refine aB (Ej s _ _ bZ (λc _ _=>Ag c)) rfl ?_;simp [go_sem,seval,dI];refine bA (λh=>?_) (λh=>?_)
   .simp at h;simp [go_sem,seval,s5,hl,hd,(bZ:9<iG lJ s)]
   .simp at h;simp [go_sem,seval,s5,hl,hd,(bZ:¬ 9<iG lJ s)]
  .simp [go_sem,seval];refine bA (λhq=>?_) (λhq=>?_)
   .simp at hq;simp [go_sem,seval];refine aB (LX s l k) rfl ?_;have e:s5 s=(3,(yX s).1,(yX s).2):=by unfold s5;rw [if_neg (by simp [hl]),if_neg (by simp [hd]),if_pos hq]
    simp [go_sem,seval,dI,e]
   .simp at hq;simp [go_sem,seval];refine aB (Qh s) rfl ?_;simp [go_sem,seval];refine bA (λhp=>?_) (λhp=>?_)
    .simp [go_sem,seval,s5,hl,hd,hq,hp,dI]
    .simp [go_sem,seval];refine aB (CS RN _) rfl ?_;simp [go_sem,seval,dI];refine f6 (λhi=>?_) (λhi=>?_)
     .simp [go_sem,seval,s5,hl,hd,hq,hp,hi]
     .simp [go_sem,seval,s5,hl,hd,hq,hp,hi]
def mN (s:ByteArray):Bool:=decide (s.size≠0)&&jZ (zB s 0)&&decide (iG qL s<=20)&&decide (iG qL s=s.size)
theorem rZ (s:ByteArray):s=⟨#[]⟩↔s.size=0:=by
 constructor
 .intro h;subst h;rfl
 .intro h;cases s with
  | mk d=>congr 1;exact Array.size_eq_zero_iff.1 h
theorem Tx (s:ByteArray)(hz:¬ s.size=0):(decide ((s5 s).2.2=0)&&decide ((s5 s).1=1)&&(s5 s).2.1==(s.size:Int))=mN s:=by
 unfold s5 mN;grind
theorem NH (s:ByteArray)(c:s.size<=100000):∃ s',Pua 272 [.agg [dI 1,.str s,dI 0]] (.tup [.str s',.bool (mN s)]):=by
 by_cases b:s.size=0
 .refine ⟨⟨#[]⟩,aT (Tz.c0 func272 rfl ?_)⟩;simp [go_sem,seval,dI];refine bA (λh=>?_) (λh=>?_)
  .simp [go_sem,seval,mN,b]
  .simp [rZ,b] at h
 .refine ⟨s,aT (Tz.c0 func272 rfl ?_)⟩;simp [go_sem,seval,dI];refine bA (λh=>?_) (λh=>?_)
  .simp [rZ,b] at h
  .simp [go_sem,seval];refine aB (Qi s bZ c) rfl ?_;simp [go_sem,seval,dI];exact Tx s b
theorem qD (s:ByteArray)(b:s.size<=100000):Pua 197 [.str s] (.bool (mN s)):=by
 obtain ⟨c,a⟩:=NH s b;refine aT (Tz.c0 func197 rfl ?_);simp [go_sem,seval];refine aB a rfl ?_;simp [go_sem,seval]
end Go.Abs
end
section
set_option maxRecDepth 100000
set_option maxHeartbeats 4000000
open Go Go.Proofs Tryz
namespace Go.Abs
def xP {α:Type}(xs:List α)(p:α->Bool):Int:=match xs.findIdx? p with|some i=>i|none=>-1
theorem pP {α:Type}{xs:List α}{p:α->Bool}{i:Nat}(h:∀ j x,j<i->xs[j]?=some x->p x=false)(c:i<xs.length)(a:p xs[i]=true):xP xs p=i:=by
 have:xs.findIdx? p=some i:=by
  rw [gK];exact ⟨c,a,λj b=>by simp [h j _ b (aA bZ)]⟩
 simp [xP,this]
theorem pQ {α:Type}{xs:List α}{p:α->Bool}(h:∀ j x,j<xs.length->xs[j]?=some x->p x=false):xP xs p = -1:=by
 have:xs.findIdx? p=none:=by
  rw [oF];intro x a;obtain ⟨j,b,rfl⟩:=aO a;simp_all
 simp [xP,this]
theorem uM {α:Type}(xs:List α)(p:α->Bool):decide (0<=xP xs p)=xs.any p:=by
 unfold xP;grind
theorem Il (xs:List Attr)(g:FuncId)(b:Xa2)(p:Attr->Bool)(u:D.N b=true)(t:∀ x∈xs,Pure prog g (.agg x.c :: b) (.bool (p x))) :
  Pua 370 [.list (xs.map Attr.c),.fn g b] (dI (xP xs p)):=by
 refine aT (Tz.c0 func370 rfl ?_);simp [go_sem,seval,dI];intro m;refine fR (ι:=Nat) (λi e H=>H=.an/\i<=xs.length/\e 0=.list (xs.map Attr.c)/\e 1=.fn g b/\e 7=dI xs.length/\e 8=dI i/\(∀ j x,j<i->xs[j]?=some x->p x=false)) (λi=>xs.length - i) 0 (by simp [go_sem,seval,dI]) ?_;intro i e H ⟨v,y,q,o,n,k,l⟩;subst v;simp [go_sem,seval,n,k,dI];refine f6 (λd=>?_) (λs=>?_)
 .have hgx:=t xs[i] (aC d);simp [go_sem,seval,q,o,k,dI,d,Attr.c] at hgx ⊢;refine aB hgx (by simp [go_sem,u]) ?_;simp [go_sem,seval];refine bA (λh=>?_) (λh=>?_)
  .simp [go_sem,seval];rw [pP l d h]
  .simp [go_sem,seval,q,o,n,k,dI];refine ⟨dK bZ bZ,i+1,bZ,bZ,bZ,λj x r w=>?_⟩;grind
 .simp [go_sem,seval];rw [pQ λj x r=>l j x bZ]
theorem DS (xs:List Attr)(g:FuncId)(a:Xa2)(p:Attr->Bool)(d:D.N a=true)(e:D.W (.list (xs.map Attr.c))=true)(f:∀ x∈xs,Pure prog g (.agg x.c :: a) (.bool (p x))) :
  Pua 323 [.list (xs.map Attr.c),.fn g a] (.bool (xs.any p)):=by
 refine aT (Tz.c0 func323 rfl ?_);simp [go_sem,seval];refine aB (Il xs g a p d f) (by simp only [D.N,e,iL];simp [D.W,d]) ?_;simp [go_sem,seval,dI,uM]
theorem uR (l:List Attr):D.V (l.map Attr.c)=true:=dU _ Attr.W l
def oT (l:List ByteArray):List ByteArray->Int
 | []=>0
 | s :: r=>if mN s=false then 2 else if mem l s=true then 5 else oT (l++[s]) r
def pI (l:List ByteArray):Int:=if 20<l.length then 3 else oT [] l
theorem ND (l:List ByteArray)(v:∀ s∈l,s.size<=100000):Pua 325 [uZ l] (dI (pI l)):=by
 refine aT (Tz.c0 func325 rfl ?_);simp [go_sem,seval,dI,uZ];intro q;refine bA (λh=>?_) (λh=>?_)
 .simp at h;simp [go_sem,seval,pI,(bZ:20<l.length)]
 .simp at h;simp [go_sem,seval,pI,(bZ:¬ 20<l.length)];intro o;refine fR (ι:=Nat) (λi e H=>H=.an/\i<=l.length/\e 0=uZ l/\e 8=uZ l/\e 9=dI l.length/\e 10=dI i/\oT (l.take i) (l.drop i)=oT [] l) (λi=>l.length - i) 0 (by simp [go_sem,seval,dI,uZ]) ?_;intro i e H ⟨y,w,u,t,r,c,j⟩;subst y;simp [go_sem,seval,r,c,dI,uZ];refine f6 (λb=>?_) (λx=>?_)
  .rw [fI b] at j;have m:=v _ (aC b);simp [go_sem,seval,t,c,dI,uZ,b,cS];refine aB (qD _ m) rfl ?_;simp [go_sem,seval];refine bA (λf=>?_) (λf=>?_)
   .simp at f;simp [go_sem,seval];rw [<- j];simp [oT,f]
   .simp at f;simp [go_sem,seval,u,uZ];have k:=DO (l.take i) l[i];simp only [uZ,List.map_take] at k;have p:D.V (List.take i (List.map cS l))=true:=by rw [<- List.map_take];exact dU cS (λ_=>rfl) _
    refine ⟨⟨w,by cases l<;>simp [cS]⟩,aB k (by simp [D.N,D.W,p]) ?_⟩;simp [go_sem,seval];refine bA (λn=>?_) (λn=>?_)
    .simp [go_sem,seval];rw [<- j];simp [oT,f,n]
    .simp [go_sem,seval,u,t,r,c,dI,uZ];refine ⟨dK bZ bZ,i+1,bZ,bZ,bZ,?_⟩;rw [<- j,oT,if_neg (by simp [f]),if_neg (by simp [n]),aF b]
  .simp [go_sem,seval];rw [<- j,(bZ:i=l.length)];simp [oT]
theorem Ei (x y:Attr):Pua 324 [.agg y.c,.adr x.c] (.bool (decide (y.name=x.name))):=by
 refine aT (Tz.c0 func324 rfl ?_);simp [go_sem,seval,Attr.c,dI,uZ]
structure Attr.ok (x:Attr):Prop where
 name:x.name.size<=100000
 ah:∀ s∈x.ah,s.size<=100000
 bL:x.ah.length<=1000
def dX (x:Attr)(before:List Attr):Int :=
 if mN x.name=false then 2
 else if (before.any λy=>decide (y.name=x.name))=true then 5
 else if pI x.ah≠0 then pI x.ah
 else if (if 0<x.ah.length then decide (x.ax=0)&&decide (x.ay=x.ah.length - 1) else decide (-1000000<=x.ax)&&decide (x.ax<=x.ay)&&decide (x.ay<=1000000))=true then 0 else 6
theorem Gg (x:Attr)(b:List Attr)(l:x.ok):Pua 258 [.agg x.c,.list (b.map Attr.c)] (dI (dX x b)):=by
 refine aT (Tz.c0 func258 rfl ?_);simp [go_sem,seval,dI,uZ,Attr.c];refine aB (qD _ l.name) rfl ?_;simp [go_sem,seval];refine bA (λd=>?_) (λd=>?_)
 .simp at d;simp [go_sem,seval,dX,d]
 .simp at d;simp [go_sem,seval];have p:=DS b 324 [.adr x.c] (λy=>decide (y.name=x.name)) (by simp [D.N,D.W,Attr.W]) (by simp [D.W,uR]) (λy _=>Ei x y);simp only [Attr.c,dI,uZ] at p;have j:D.V (List.map cS x.ah)=true:=dU cS (λ_=>rfl) _;refine aB p (by simp [D.N,D.W,uR,j]) ?_;simp [go_sem,seval];refine bA (λh=>?_) (λh=>?_)
  .simp [go_sem,seval,dX,d,h]
  .simp [go_sem,seval];have i:=ND x.ah l.ah;simp only [uZ,dI] at i;refine aB i (by simp [D.N,D.W,j]) ?_;simp [go_sem,seval];have o:=l.bL;refine bA (λf=>?_) (λf=>?_)
   .simp at f;simp [go_sem,seval,dX,d,h,f]
   .simp at f;simp [go_sem,seval];intro n;refine bA (λk=>?_) (λk=>?_)
    .have hp':0<x.ah.length:=by simp at k;omega
     simp [go_sem,seval];refine λ_=>⟨λ_=>dK bZ bZ,bA (λg=>?_) (λg=>?_)⟩
     .have e:dX x b=6:=by unfold dX;rw [if_neg (by simp [d]),if_neg (by simp [h]),if_neg (by simp [f]),if_pos hp',if_neg (by simp at g ⊢;omega)]
      simp [go_sem,seval,e]
     .have e:dX x b=0:=by unfold dX;rw [if_neg (by simp [d]),if_neg (by simp [h]),if_neg (by simp [f]),if_pos hp',if_pos (by simp at g ⊢;omega)]
      simp [go_sem,seval,e]
    .have hp':¬ 0<x.ah.length:=by simp at k;simp [k]
     simp [go_sem,seval];refine bA (λg=>?_) (λg=>?_)
     .have e:dX x b=6:=by unfold dX;rw [if_neg (by simp [d]),if_neg (by simp [h]),if_neg (by simp [f]),if_neg hp',if_neg (by simp at g ⊢;omega)]
      simp [go_sem,seval,e]
     .have e:dX x b=0:=by unfold dX;rw [if_neg (by simp [d]),if_neg (by simp [h]),if_neg (by simp [f]),if_neg hp',if_pos (by simp at g ⊢;omega)]
      simp [go_sem,seval,e]
structure NodeTy.ok (n:NodeTy):Prop where
 name:n.name.size<=100000
 y:∀ x∈n.y,x.ok
 bL:n.y.length<=1000
structure EdgeTy.ok (x:EdgeTy):Prop where
 name:x.name.size<=100000
structure Types.ok (t:Types):Prop where
 h:∀ n∈t.h,n.ok
 i:∀ x∈t.i,x.ok
 br:t.h.length<=1000
 dv:t.i.length<=1000
def n9 (nodes:List NodeTy):Nat->Nat->List Attr
 | 0,_=>[]
 | f+1,a=>match nodes[a]? with
  | none=>[]
  | some n=>(if 0<=n.G then n9 nodes f n.G.toNat else [])++n.y
def Types.y (t:Types)(a:Nat):List Attr:=n9 t.h (a+1) a
theorem uT (nodes:List NodeTy)(h:∀ n∈nodes,n.y.length<=1000):∀ f a,(n9 nodes f a).length<=1000 * f
 | 0,a=>by simp [n9]
 | f+1,a=>by
  unfold n9;split
  .simp
  .rename_i n hn;have:=h n (aM hn);have h2:=uT nodes h f n.G.toNat
   simp only [aQ];split<;>simp<;>omega
@[go_sem] theorem Attr.len (a:Attr):a.c.length=4:=rfl
theorem Attr.cells (a:Attr):∀ x∈a.c,x.cell=true:=by simp [Attr.c,D.cell,dI,uZ]
def parentsOK (nodes:List NodeTy)(a:Nat):Prop:=∀ j n,j<=a->nodes[j]?=some n->n.G<j
theorem F5 (b:List NodeTy):∀ a f g,parentsOK b a->a<f->a<g->n9 b f a=n9 b g a:=by
 intro a;induction a using Nat.strongRecOn with
 | _ a ih =>
  intro f g d l k;obtain ⟨f,rfl⟩:∃ f',f=f'+1:=⟨f - 1,bZ⟩;obtain ⟨g,rfl⟩:∃ g',g=g'+1:=⟨g - 1,bZ⟩;unfold n9;split
  .rfl
  .rename_i n hn;have:=d a n (bD _) hn;congr 1;split
   .exact ih n.G.toNat bZ f g (λj m i e=>d j m bZ e) bZ bZ
   .rfl
theorem Ff (t:Types)(l:t.ok):∀ a,a<t.h.length->parentsOK t.h a->Own prog 257 [t.d,dI a] 109 4 ((t.y a).map Attr.c):=by
 intro a;induction a using Nat.strongRecOn with
 | _ a ih =>
  intro g q;have A:=q a _ (bD _) (aA g);have v:=uT t.h (λn r=>(l.h n r).bL) (a+1) a;have w:=l.br;have B:=(l.h _ (aC g)).bL;refine Dj (Tz.cK ⟨λt=>t==5,λ_=>[]⟩ func257 rfl ?_);simp [go_sem,seval,dI,Types.d,Types.c,NodeTy.c,g];refine bA (λh=>?_) (λh=>?_)
  .have o:0<=t.h[a].G:=by simpa using h
   have k:t.h[a].G.toNat<a:=bZ;have u:=ih _ k bZ (λj m E s=>q j m bZ s);rw [Int.toNat_of_nonneg o] at u;have e:t.y a=t.y t.h[a].G.toNat++t.h[a].y:=by
    have:=F5 t.h t.h[a].G.toNat a (t.h[a].G.toNat+1) (λj m E s=>q j m bZ s) k bZ;simp [Types.y,n9,aA g,o,this]
   have f:=uT t.h (λn r=>(l.h n r).bL) (t.h[a].G.toNat+1) t.h[a].G.toNat
   have C:(t.y t.h[a].G.toNat).length<=2000000:=by
    have:(t.y t.h[a].G.toNat).length<=1000 * (t.h[a].G.toNat+1):=f;omega
   simp [go_sem,seval,dI,Types.d,Types.c] at u ⊢;refine i5 u (by simp [D.N,D.W,dU _ NodeTy.W,dU _ EdgeTy.W]) ?_;simp [go_sem,seval,dI,NodeTy.c,g,e];exact ⟨⟨bZ,λx _ y p=>Attr.cells x y p⟩,by rw [<- List.map_append];exact uR _⟩
  .have o:¬ 0<=t.h[a].G:=by simpa using h
   have e:t.y a=t.h[a].y:=by simp [Types.y,n9,aA g,o]
   simp [go_sem,seval,dI,NodeTy.c,g,e,uR];exact ⟨bZ,λx _ y p=>Attr.cells x y p⟩
attribute [go_sem] uR
@[go_sem] theorem ad3 (l:List ByteArray):D.V (l.map cS)=true:=dU cS (λ_=>rfl) l
theorem Ii (xs:List NodeTy)(g:FuncId)(b:Xa2)(p:NodeTy->Bool)(u:D.N b=true)(t:∀ x∈xs,Pure prog g (.agg x.c :: b) (.bool (p x))) :
  Pua 322 [.list (xs.map NodeTy.c),.fn g b] (dI (xP xs p)):=by
 refine aT (Tz.c0 func322 rfl ?_);simp [go_sem,seval,dI];intro m;refine fR (ι:=Nat) (λi e H=>H=.an/\i<=xs.length/\e 0=.list (xs.map NodeTy.c)/\e 1=.fn g b/\e 7=dI xs.length/\e 8=dI i/\(∀ j x,j<i->xs[j]?=some x->p x=false)) (λi=>xs.length - i) 0 (by simp [go_sem,seval,dI]) ?_;intro i e H ⟨v,y,q,o,n,k,l⟩;subst v;simp [go_sem,seval,n,k,dI];refine f6 (λd=>?_) (λs=>?_)
 .have hgx:=t xs[i] (aC d);simp [go_sem,seval,q,o,k,dI,d,NodeTy.c] at hgx ⊢;refine aB hgx (by simp [go_sem,u]) ?_;simp [go_sem,seval];refine bA (λh=>?_) (λh=>?_)
  .simp [go_sem,seval];rw [pP l d h]
  .simp [go_sem,seval,q,o,n,k,dI];refine ⟨dK bZ bZ,i+1,bZ,bZ,bZ,λj x r w=>?_⟩;grind
 .simp [go_sem,seval];rw [pQ λj x r=>l j x bZ]
theorem DP (xs:List NodeTy)(g:FuncId)(a:Xa2)(p:NodeTy->Bool)(d:D.N a=true)(e:D.W (.list (xs.map NodeTy.c))=true)(f:∀ x∈xs,Pure prog g (.agg x.c :: a) (.bool (p x))) :
  Pua 255 [.list (xs.map NodeTy.c),.fn g a] (.bool (xs.any p)):=by
 refine aT (Tz.c0 func255 rfl ?_);simp [go_sem,seval];refine aB (Ii xs g a p d f) (by simp only [D.N,e,iL];simp [D.W,d]) ?_;simp [go_sem,seval,dI,uM]
theorem Ij (xs:List EdgeTy)(g:FuncId)(b:Xa2)(p:EdgeTy->Bool)(u:D.N b=true)(t:∀ x∈xs,Pure prog g (.agg x.c :: b) (.bool (p x))) :
  Pua 326 [.list (xs.map EdgeTy.c),.fn g b] (dI (xP xs p)):=by
 refine aT (Tz.c0 func326 rfl ?_);simp [go_sem,seval,dI];intro m;refine fR (ι:=Nat) (λi e H=>H=.an/\i<=xs.length/\e 0=.list (xs.map EdgeTy.c)/\e 1=.fn g b/\e 7=dI xs.length/\e 8=dI i/\(∀ j x,j<i->xs[j]?=some x->p x=false)) (λi=>xs.length - i) 0 (by simp [go_sem,seval,dI]) ?_;intro i e H ⟨v,y,q,o,n,k,l⟩;subst v;simp [go_sem,seval,n,k,dI];refine f6 (λd=>?_) (λs=>?_)
 .have hgx:=t xs[i] (aC d);simp [go_sem,seval,q,o,k,dI,d,EdgeTy.c] at hgx ⊢;refine aB hgx (by simp [go_sem,u]) ?_;simp [go_sem,seval];refine bA (λh=>?_) (λh=>?_)
  .simp [go_sem,seval];rw [pP l d h]
  .simp [go_sem,seval,q,o,n,k,dI];refine ⟨dK bZ bZ,i+1,bZ,bZ,bZ,λj x r w=>?_⟩;grind
 .simp [go_sem,seval];rw [pQ λj x r=>l j x bZ]
theorem DQ (xs:List EdgeTy)(g:FuncId)(a:Xa2)(p:EdgeTy->Bool)(d:D.N a=true)(e:D.W (.list (xs.map EdgeTy.c))=true)(f:∀ x∈xs,Pure prog g (.agg x.c :: a) (.bool (p x))) :
  Pua 260 [.list (xs.map EdgeTy.c),.fn g a] (.bool (xs.any p)):=by
 refine aT (Tz.c0 func260 rfl ?_);simp [go_sem,seval];refine aB (Ij xs g a p d f) (by simp only [D.N,e,iL];simp [D.W,d]) ?_;simp [go_sem,seval,dI,uM]
@[go_sem] theorem xI (l:List NodeTy):D.V (l.map NodeTy.c)=true:=dU _ NodeTy.W l
@[go_sem] theorem xV (l:List EdgeTy):D.V (l.map EdgeTy.c)=true:=dU _ EdgeTy.W l
theorem NC (x y:NodeTy):Pua 256 [.agg y.c,.adr x.c] (.bool (decide (y.name=x.name))):=by
 refine aT (Tz.c0 func256 rfl ?_);simp [go_sem,seval,NodeTy.c,dI]
theorem yE (nodes:List NodeTy)(h:∀ n∈nodes,n.ok):∀ f a,∀ x∈n9 nodes f a,x.ok
 | 0,a,x,hx=>by simp [n9] at hx
 | f+1,a,x,hx=>by
  unfold n9 at hx;split at hx
  .simp at hx
  .rename_i n hn;rcases bE.1 hx with hx|hx
   .split at hx
    .exact yE nodes h f _ x hx
    .simp at hx
   .exact (h n (aM hn)).y x hx
def bS (f:Nat->Int):Nat->Nat->Int
 | _,0=>0
 | k,n+1=>if f k≠0 then f k else bS f (k+1) n
def iV (t:Types)(i:Nat):Int :=
 match t.h[i]? with
 | none=>0
 | some n =>
  if mN n.name=false then 2
  else if ((t.h.take i).any λm=>decide (m.name=n.name))=true then 5
  else if (decide (n.G < -1)||decide ((i:Int)<=n.G))=true then 6
  else if 4<n.y.length then 3
  else if 8<(t.y i).length then 3
  else bS (λk=>match (t.y i)[k]? with|some x=>dX x ((t.y i).take k)|none=>0) ((t.y i).length - n.y.length) n.y.length
theorem Qd (t:Types)(A:t.ok)(i:Nat)(g:i<t.h.length)(Q:∀ j n,j<i->t.h[j]?=some n->n.G<j):Pua 178 [t.d,dI i] (dI (iV t i)):=by
 have F:=A.h _ (aC g);refine aT (Tz.cK ⟨λt=>t==5,λ_=>[]⟩ func178 rfl ?_);simp [go_sem,seval,dI,Types.d,Types.c,NodeTy.c,g];refine aB (qD _ F.name) rfl ?_;simp [go_sem,seval];refine bA (λm=>?_) (λm=>?_)
 .simp at m;simp [go_sem,seval,iV,aA g,m]
 .simp at m;simp [go_sem,seval];have U:=DP (t.h.take i) 256 [.adr t.h[i].c] (λy=>decide (y.name=t.h[i].name)) (by simp [D.N,D.W,NodeTy.W]) (by rw [D.W];exact xI _) (λy _=>NC t.h[i] y);refine ⟨⟨bZ,by cases t.h<;>simp [NodeTy.c]⟩,sN U (by simp [JD,C1,fT,go_sem,NodeTy.c,dI,List.map_take]) (by simp only [D.N,D.W,xI,NodeTy.W];rfl) rfl ?_⟩;simp [go_sem,seval];refine bA (λr=>?_) (λr=>?_)
  .simp [go_sem,seval,iV,aA g,m,r]
  .simp [go_sem,seval];refine bA (λB=>?_) (λB=>?_)
   .have f:(decide (t.h[i].G < -1)||decide ((i:Int)<=t.h[i].G))=true:=by simpa using B
    simp [go_sem,seval];have e:iV t i=6:=by simp only [iV,aA g];rw [if_neg (by simp [m]),if_neg (by simp [r]),if_pos f]
    simp [e]
   .simp at B;simp [go_sem,seval];have f:¬ (decide (t.h[i].G < -1)||decide ((i:Int)<=t.h[i].G))=true:=by simp;omega
    intro P;refine bA (λN=>?_) (λN=>?_)
    .have h4':4<t.h[i].y.length:=by simp at N;omega
     simp [go_sem,seval];have e:iV t i=3:=by simp only [iV,aA g];rw [if_neg (by simp [m]),if_neg (by simp [r]),if_neg f,if_pos h4']
     simp [e]
    .have h4':¬ 4<t.h[i].y.length:=by simp at N;omega
     simp [go_sem,seval];have C:parentsOK t.h i:=λj n W p=>by
      rcases bT j i with h|h
      .exact Q j n h p
      .have:j=i:=bZ;subst this;rw [aA g] at p;cases p;omega
     have v:=Ff t A i g C;simp only [Types.d,Types.c,dI] at v;refine aB v.pure (by simp [D.N,D.W,xI,xV]) ?_;simp [go_sem,seval];intro I;refine bA (λK=>?_) (λK=>?_)
     .have h8':8<(t.y i).length:=by simp at K;omega
      simp [go_sem,seval];have e:iV t i=3:=by simp only [iV,aA g];rw [if_neg (by simp [m]),if_neg (by simp [r]),if_neg f,if_neg h4',if_pos h8']
      simp [e]
     .have h8':¬ 8<(t.y i).length:=by simp at K;omega
      have e:iV t i=bS (λk=>match (t.y i)[k]? with|some x=>dX x ((t.y i).take k)|none=>0) ((t.y i).length - t.h[i].y.length) t.h[i].y.length:=by
       simp only [iV,aA g];rw [if_neg (by simp [m]),if_neg (by simp [r]),if_neg f,if_neg h4',if_neg h8']
      have R:t.h[i].y.length<=(t.y i).length:=by simp [Types.y,n9,aA g]
      have E:∀ x∈t.y i,x.ok:=yE t.h A.h _ _;simp [go_sem,seval];refine λ_ _=>⟨dK bZ bZ,?_⟩;refine fR (ι:=Nat) (λk e H=>k<=(t.y i).length/\e 6=.list ((t.y i).map Attr.c)/\e 7=dI k /\
       bS (λk=>match (t.y i)[k]? with|some x=>dX x ((t.y i).take k)|none=>0) k ((t.y i).length - k)=iV t i) (λk=>(t.y i).length - k) ((t.y i).length - t.h[i].y.length) ?_ ?_
      .simp [go_sem,seval,dI];refine ⟨bZ,?_⟩;rw [e];congr 1;omega
      .intro k e' H ⟨S,M,L,s⟩;simp [go_sem,seval,M,L,dI];intro G;refine f6 (λq=>?_) (λT=>?_)
       .simp [go_sem,seval,M,L,dI,q,Attr.c];have u:=Gg (t.y i)[k] ((t.y i).take k) (E _ (aC q));simp only [Attr.c,dI,List.map_take] at u;have J:D.V (List.take k (List.map Attr.c (t.y i)))=true:=by rw [<- List.map_take];exact uR _
        refine ⟨⟨S,by cases t.y i<;>simp [Attr.c]⟩,aI u (by simp [D.N,D.W,J,Vq]) ?_⟩;have o:bS (λk=>match (t.y i)[k]? with|some x=>dX x ((t.y i).take k)|none=>0) k ((t.y i).length - k) =
          if dX (t.y i)[k] ((t.y i).take k)≠0 then dX (t.y i)[k] ((t.y i).take k) else bS (λk=>match (t.y i)[k]? with|some x=>dX x ((t.y i).take k)|none=>0) (k+1) ((t.y i).length - (k+1)):=by
         rw [(bZ:(t.y i).length - k=(t.y i).length - (k+1)+1),bS,aA q]
        rw [o] at s;simp [go_sem,seval];refine bA (λz=>?_) (λz=>?_)
        .have hz':dX (t.y i)[k] ((t.y i).take k)≠0:=by simpa using z
         rw [if_pos hz'] at s;simp [go_sem,seval,s]
        .have hz':¬ dX (t.y i)[k] ((t.y i).take k)≠0:=by simpa using z
         rw [if_neg hz'] at s;simp [go_sem,seval,M,L,dI];exact ⟨dK bZ bZ,k+1,bZ,bZ,bZ,s⟩
       .simp [go_sem,seval];rw [<- s,(bZ:(t.y i).length - k=0)];rfl
end Go.Abs
end
