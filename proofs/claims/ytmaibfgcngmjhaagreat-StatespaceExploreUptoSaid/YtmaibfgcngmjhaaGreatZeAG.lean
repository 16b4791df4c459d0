/- The abstraction layer: callees that turn one borrowed slice  -/
import Derived.Test.YtmaibfgcngmjhaaGreatZeAF
import Derived.Test.YtmaibfgcngmjhaaGreatZeAA
import Derived.Test.YtmaibfgcngmjhaaGreatProg
import Derived.Laws.Externs
import Derived.WalkKit
set_option linter.unusedVariables false
set_option linter.unusedSimpArgs false
section
namespace Go.Abs
def ren (id:Nat):D->D
 | .own 0 n=>.own id n
 | d=>d
section
variable {P:Program} {M0:Nat→Prop} {H:AHeap} {σ:Nat→Option Ow} {w:World}
theorem Yq (id n:Nat):ren id (.own 0 n)=.own id n:=rfl
theorem U0 (k:Blk):(AHeap.ak.push 0 k).get 0=some k:=rfl
theorem ZN {f:FuncId}{args:Xa2}{k S:Blk}{r:D}{q:Nat}{Q:D->AHeap->Prop}
  (h:ACalls P f args (AHeap.ak.push 0 k) λd H'=>sL H' d=r/\r.U=true/\0∉Fk d/\H'.get 0=some S)
  (L:∀ d∈args,d.U=true\/d=.own 0 k.es.length) (hk:k.fz=false) (b4:S.fz=false) (b8:D.T k.es=true) (b6:∀ d∈S.es.flatten,d.flat=true) (hg:H.get q=some k) (hQ:Q r (H.put q S)) :
  ACalls P f (args.map (ren q)) H Q:=by
 refine ⟨h.1,λM0 σ w vals hR ha=>?_⟩;obtain ⟨o,T,l⟩:=hR.ah q k hg;obtain ⟨xs,a1,a9,a2⟩:=l.row;obtain ⟨σ0,Y⟩:∃ s:Nat->Option Ow,s=λi=>if i=0 then some o else none:=⟨_,rfl⟩
 obtain ⟨M1,y⟩:∃ m:Nat->Prop,m=λb=>dK M0 H σ b/\o.block≠some b:=⟨_,rfl⟩;have s0:σ0 0=some o:=by rw [Y];rfl
 have R:∀ i B,σ0 i=some B->i=0/\B=o:=λi B a=>by
  grind
 have g0:∀ i C,(AHeap.ak.push 0 k).get i=some C->i=0/\C=k:=λi C a=>by
  by_cases z:i=0
  .subst z;rw [U0] at a;exact ⟨rfl,(Option.some.inj a).symm⟩
  .simp [AHeap.push,AHeap.ak,z] at a
 have c2:∀ b,o.block=some b->dK M0 H σ b:=λb hb=>.inr ⟨q,k,o,hg,hk,T,hb⟩;have E:∀ b,dK M1 (AHeap.ak.push 0 k) σ0 b->dK M0 H σ b:=by
  rintro b (hb|⟨i,C,o1,x,hf,n,hb⟩)
  .rw [y] at hb;exact hb.1
  grind
 have b9:∀ {es:Xa1},D.T es=true->D.N es.flatten=true:=λ {es} hc=>EE λd K=>by
  obtain ⟨c,b7,a8⟩:=iI.1 K;exact iR (p8 hc c b7) d a8
 have c1:Rel M1 (AHeap.ak.push 0 k) σ0 w:=by
  refine ⟨λi a=>?_,λi a=>?_,λi C x=>?_,λi j oi oj b a U hbi hbj=>?_,λi oi b a hbi=>?_,λb hb=>?_⟩
  .have z:i≠0:=λe=>a (.inl e);exact ⟨by rw [Y];simp [z],by simp [AHeap.push,AHeap.ak,z]⟩
  .rcases a with a|a
   .subst a;simp [AHeap.push,AHeap.ak]
   .exact a.elim
  .obtain ⟨z,N⟩:=g0 i C x;subst z;subst N;exact ⟨o,s0,l.af,l.ty,l.sz,l.K,xs,a1,a9,iE (λb hb hb'=>hb (E b hb')) a2 (b9 b8)⟩
  .rw [(R i oi a).1,(R j oj U).1]
  .obtain ⟨_,rfl⟩:=R i oi a;exact ⟨(hR.lt q oi b T hbi).1,λhb=>by rw [y] at hb;exact hb.2 hbi⟩
  .rw [y] at hb;exact rS hR b hb.1
 have c0:RepL (dK M1 (AHeap.ak.push 0 k) σ0) σ0 (AHeap.ak.push 0 k).J w vals args:=by
  refine ⟨by simpa using ha.len,λj u d F K=>?_⟩;have U:=ha.Y j u (ren q d) F (by rw [aW,K];rfl);rcases L d (aK K) with hc|rfl
  .have a3:ren q d=d:=by cases d<;>first|rfl|(simp [D.U] at hc)
   rw [a3] at U;exact U.closed (λad u hm F=>⟨λhm'=>hm (E _ hm'),F⟩) hc
  .rw [Yq] at U;cases U
   rename_i N hN hv;exact .own u _ _ (.inl rfl) (by first|exact N|exact hN) λo1 n=>by
    obtain ⟨_,rfl⟩:=R 0 o1 n;exact hv o1 T
 refine (h.2 M1 σ0 w vals c1 c0).mono λe w' ⟨v,d,H',σ',he,M,hv,p,b3,hr,a4,b0,J⟩=>?_;obtain ⟨B,I,W⟩:=M.ah 0 S J;obtain ⟨a7,G,Z,t⟩:=W.row;obtain ⟨o2,a5,b2⟩:=b3.own 0 B (.inl rfl) I;rw [s0] at a5;cases a5
 have b5:w.grownBy w' o.block:=⟨p.os,p.tape,p.output,p.size,λb hb hne=>p.bc b hb λi o1 a=>by
  obtain ⟨_,rfl⟩:=R i o1 a;exact λhb'=>hne (by first|simpa using hb'|exact hb'.symm|exact hb')⟩
 have a6:∀ b,B.block=some b->o.block=some b\/w.heap.size<=b:=λb hb=>by
  rcases p.new 0 B b I hb with N|⟨j1,o1,N,h2⟩
  .exact .inr N
  .obtain ⟨_,rfl⟩:=R j1 o1 N;exact .inl h2
 obtain ⟨p1,p2,p3⟩:=Rel.put hR hg hk T S B b5 a6 b2 W.af W.ty W.sz W.K a7 G Z
  ⟨t.len,λj u d F K=>yT (t.Y j u d F K) (b6 d (aK K))⟩
 have a0:=v8 M hv (Fk d) λi a=>a;rw [hr] at a0;obtain ⟨_,_,_,f4⟩:=fQ (Fk d) M;refine ⟨v,r,_,_,he,p1,a0.closed (λad u hm F=>⟨λhm'=>hm ?_,F⟩) a4,p2,p3,hQ⟩;rcases hm' with z|⟨i,C,o1,x,hf,n,hb⟩
 .left
  rw [y];exact ⟨.inl z,λhb=>(hR.lt q o _ T hb).2 z⟩
 .by_cases a:i=q
  .simp only [a,if_true,bG] at n;subst n
   right
   obtain ⟨O,c3⟩:=f4 0;rw [J] at O;cases hq:(fH (Fk d) H').get 0 with
   | none=>rw [hq] at O;cases O
   | some kq =>
    refine ⟨0,kq,B,hq,?_,I,hb⟩;rw [C1 _ _ 0 b0,J] at hq;cases hq
    exact b4
  .simp only [a,if_false] at n;simp only [AHeap.put,a,if_false] at x
   left
   rw [y];exact ⟨.inr ⟨i,C,o1,x,hf,n,hb⟩,λhb'=>a (hR.inj i q o1 o _ n T hb hb')⟩
end
section
variable {P:Program} {M0:Nat→Prop} {H:AHeap} {σ:Nat→Option Ow} {w:World}
end
section
variable {P:Program} {md:Nat→Bool} {ops:Array Oper} {sp:List (Nat × Nat)} {n0 i:Nat} {rest:List Oper} {acc:List (Nat × List Nat)} {e:dO} {dst:Option Tmp} {K:dO→AHeap→Prop} {f:FuncId} {args args':Xa2} {H:AHeap}
end
theorem ACalls.co {P:Program}{f:FuncId}{args:Xa2}{H H':AHeap}{Q:D->AHeap->Prop}(hg:Ghosts H H')(h:ACalls P f args H' Q):ACalls P f args H Q :=
 ⟨h.1,λM0 σ w vals hR ha=>by
  obtain ⟨σ1,g1,g2,g3⟩:=D2 hg hR;exact (h.2 M0 σ1 w vals g1 (ha.G g3)).mono λe w' ⟨v,d,H1,σ2,he,h1,hv,hs,hk,hq⟩=>⟨v,d,H1,σ2,he,h1,hv,g2.trans hs,g3.trans hk,hq⟩⟩
theorem Aa {P:Program}{md:Nat->Bool}{ops:Array Oper}{a:List Oper}{e:dO}{b:Option Tmp}{K:dO->AHeap->Prop}{f:FuncId}{args:Xa2}{H H':AHeap}(c:Ghosts H H')(h:dQ P md ops a e b K f args H'):dQ P md ops a e b K f args H:=by grind [dQ, ACalls.co]
end Go.Abs
end
section
namespace Go.Abs
mutual
def lA:D->D
 | .nil=>.list []
 | .agg cs=>.agg (gI cs)
 | .tup cs=>.tup (gI cs)
 | .list es=>.list (eL es)
 | d=>d
def gI:Xa2->Xa2
 | []=>[]
 | d :: l=>lA d :: gI l
def eL:Xa1->Xa1
 | []=>[]
 | c :: l=>gI c :: eL l
end
theorem Bc (l:Xa2):gI l=l.map lA:=by
 induction l with
 | nil=>rfl
 | cons a l ih=>simp [gI,ih]
theorem t8 (l:Xa1):eL l=l.map gI:=by
 induction l with
 | nil=>rfl
 | cons a l ih=>simp [eL,ih]
theorem CT (l:Xa1):(eL l).flatten=l.flatten.map lA:=by
 induction l with
 | nil=>rfl
 | cons a l b=>simp only [eL,fB,b,List.map_append,Bc]
theorem Hr {M:Nat->Prop}{σ:Nat->Option Ow}{N:Nat->Prop}{w:World}{v:Value}{d:D}(h:RepV M σ N w v d):RepV M σ N w v (lA d):=by
 have b:∀ {vs:List Value} {ds:Xa2},(∀ (j:Nat) (u:Value) (d:D),vs[j]?=some u->ds[j]?=some d->RepV M σ N w u (lA d)) ->
   ∀ (j:Nat) (u:Value) (d:D),vs[j]?=some u->(ds.map lA)[j]?=some d->RepV M σ N w u d:=by
  grind
 induction h with
 | int=>simp only [lA];exact .int _ _
 | bool=>simp only [lA];exact .bool _
 | str=>simp only [lA];exact .str _
 | agg vs ds hl h1 _ ih =>
  simp only [lA,Bc];exact .agg vs _ (fg hl) h1 (b ih)
 | tup vs ds hl _ ih =>
  simp only [lA,Bc];exact .tup vs _ (fg hl) (b ih)
 | nil=>simp only [lA];exact .listN
 | listN=>simp only [lA,eL];exact .listN
 | list ad cap sz xs es hc hm' hsz hl h1 hcell _ ih =>
  have a:(eL es).length=es.length:=by rw [t8,bR]
  have:=RepV.list (M:=M) (σ:=σ) (N:=N) (w:=w) ad cap sz xs (eL es) (by rw [a];exact hc) hm' (λc hc'=>by
   rw [t8,aS] at hc';obtain ⟨y,e,rfl⟩:=hc';rw [Bc,bR];exact hsz y e) (by rw [CT,bR];exact hl) h1 hcell (by rw [CT];exact b ih)
  rwa [a] at this
 | adr ad xs ds hl h1 hcell hr ih=>simp only [lA];exact .adr ad xs ds hl h1 hcell hr
 | ne ad cap b=>simp only [lA];exact .ne ad cap b
 | nilp=>simp only [lA];exact .nilp
 | ptr v id ver i off hN h1 h=>simp only [lA];exact .ptr v id ver i off hN h1 h
 | own v id n hN h1 h=>simp only [lA];exact .own v id n hN h1 h
 | win v id ver lo hi hN h1 hlh h=>simp only [lA];exact .win v id ver lo hi hN h1 hlh h
 | fn f vs ds hl hr ih=>simp only [lA];exact .fn f vs ds hl hr
 | nilf=>simp only [lA];exact .nilf
 | opt v g d hf h ih=>simp only [lA];exact .opt v g d hf h
 | cst v=>simp only [lA];exact .cst v
 | junk v=>simp only [lA];exact .junk v
theorem uT {P:Program}{f:FuncId}{args:Xa2}{r:D}(b:r.U=true)(h:∀ Q:D->AHeap->Prop,(∀ d H',lA (sL H' d)=r->Q d H')->ACalls P f args .ak Q):Pure P f args r:=by
 have h:=h (λd H'=>lA (sL H' d)=r) λ_ _ h=>h;refine ⟨h.1,λM w vals hM ha=>(h.2 M g9 w vals (Ho M w hM) (by rw [Hu];exact ha)).mono λe w' ⟨v,d,H',σ',g,k,c,a,n,m⟩=>⟨v,g,?_,BJ a⟩⟩;have l:RepV (dK M (fH (Fk d) H') σ') σ' (fH (Fk d) H').J w' v r:=by
  have o:=Hr (v8 k c (Fk d) λi hi=>hi);grind
 exact l.closed (λad u hm j=>⟨λh=>hm (.inl h),j⟩) b
attribute [go_sem] lA gI eL
end Go.Abs
end
section
namespace Go.Abs
def Dx (H:AHeap)(d:D):D :=
 match d with
 | .ptr id ver i off=>match fW H (.ptr id ver i off) with
  | some (c :: cs)=>.adr ((c :: cs).map (fM H))
  | _=>.ptr id ver i off
 | d=>jN H d
def D0 (H:AHeap)(d:D):List Nat :=
 match d with
 | .ptr id ver i off=>id :: (match fW H (.ptr id ver i off) with|some cs=>cs.flatMap mC|none=>[])
 | d=>eE d
section
variable {P:Program} {M0:Nat→Prop} {H:AHeap} {σ:Nat→Option Ow} {w:World}
theorem O1 {v:Value}{d:D}(G:Rel M0 H σ w)(g:RepV (dK M0 H σ) σ H.J w v d)(a:List Nat)(m:∀ i∈D0 H d,i∈a) :
  RepV (dK M0 (fH a H) σ) σ (fH a H).J w v (Dx H d):=by
 obtain ⟨A,J,N,z⟩:=fQ a G;have b:=g.G J;have h:∀ i∈a,∀ k,(fH a H).get i=some k->k.fz=true:=λi m k hk=>by
  have s:=(z i).1;rw [hk] at s;cases o:H.get i with
  | none=>rw [o] at s;cases s
  | some k0 =>
   grind
 cases d with
 | ptr id ver i off =>
  have n:=Ek (λi=>(z i).1) (.ptr id ver i off);simp only [Dx];cases F:fW H (.ptr id ver i off) with
  | none=>exact b
  | some B =>
   cases B with
   | nil=>exact b
   | cons c B =>
    rw [F] at n;have p:∀ y∈c :: B,∀ q∈mC y,q∈a:=λy l q e=>m q (by simp only [D0,F,aP,bM];exact .inr ⟨y,aP.1 l,e⟩);have r:id∈a:=m id (by simp only [D0];exact j5 ..);obtain ⟨O,L,M,C,E,t⟩:=sE A b n bS;have I:=AY A b λq e k hk=>h q (by simp only [W4,aX] at e;subst e;exact r) k hk;simp only [Fa,n] at I;cases I with
    | adr ad' xs' ds hl' hone' hcell' hrep' =>
     refine .adr ad' xs' _ (cG hl') hone' hcell' λj u x hu g=>?_;rw [aW,bQ] at g;obtain ⟨y,l,rfl⟩:=g;rw [<- rN (λi=>(z i).1) y];exact oC A (hrep' j u y hu l) λq e k hk=>h q (p y (aK l) q e) k hk
 | _=>exact oB G g a m
theorem UH {vals:List Value}{args:Xa2}(hR:Rel M0 H σ w)(ha:RepL (dK M0 H σ) σ H.J w vals args)(ids:List Nat)(hi:∀ i∈args.flatMap (D0 H),i∈ids) :
  RepL (dK M0 (fH ids H) σ) σ (fH ids H).J w vals (args.map (Dx H)) :=
 ⟨by simpa using ha.len,λj u d hu hd=>by
  rw [aW,bQ] at hd;obtain ⟨y,hy,rfl⟩:=hd;exact O1 hR (ha.Y j u y hu hy) ids λi hii=>hi i (bM.2 ⟨y,aK hy,hii⟩)⟩
theorem EG {f:FuncId}{args:Xa2}{r:D}{Q:D->AHeap->Prop}(c:Pure P f (args.map (Dx H)) r)(b:D.N (args.map (Dx H))=true)(g:r.flat=true)(k:Q r H):ACalls P f args H Q:=by
 refine ⟨c.1,λM0 σ w vals hR ha=>?_⟩;obtain ⟨o,s,q,p⟩:=fQ (args.flatMap (D0 H)) hR;refine (c.2 (dK M0 (fH (args.flatMap (D0 H)) H) σ) w vals (rS o) (iE (λ_ h=>h) (UH hR ha _ λi h=>h) b)).mono λe w' ⟨v,j,d,a⟩=>?_;obtain ⟨n,m,l⟩:=hR.grow a.os a.tape a.output a.size a.block;exact ⟨v,r,H,σ,j,n,yT d g,m,l,k⟩
theorem GH {md:Nat->Bool}{ops:Array Oper}{a:List Oper}{e:dO}{b:Option Tmp}{K:dO->AHeap->Prop}{f:FuncId}{args args':Xa2}{r:D}(d:Pure P f args' r)(i:args.map (Dx H)=args')(c:D.N args'=true)(g:r.flat=true)
 (h:oM P md ops a (nB e b r) H K):dQ P md ops a e b K f args H:=by grind [dQ, EG]
theorem Tk {H:AHeap}{d:D}(h:∀ a b c e,d≠.ptr a b c e):Dx H d=jN H d:=by cases d<;>first|rfl|exact absurd rfl (h _ _ _ _)
theorem YP {H:AHeap}{d:D}(h:∀ a b c e,d≠.ptr a b c e):D0 H d=eE d:=by cases d<;>first|rfl|exact absurd rfl (h _ _ _ _)
theorem RE {S:List Nat}{H H':AHeap}{d:D}(l:gQ S H' H)(j:∀ x∈D0 H d,x∈S):Dx H' d=Dx H d:=by
 by_cases k:∀ a b c e,d≠.ptr a b c e
 .rw [Tk k,Tk k];rw [YP k] at j;exact Ik l j
 .obtain ⟨h,f,i,g,rfl⟩:∃ a b c e,d=.ptr a b c e:=by
   grind
  have r:=l h (j h (by simp only [D0];exact j5 ..));have p:fW H' (.ptr h f i g)=fW H (.ptr h f i g):=by simp only [fW,r]
  simp only [Dx,p];cases q:fW H (.ptr h f i g) with
  | none=>rfl
  | some n =>
   cases n with
   | nil=>rfl
   | cons c n =>
    simp only;congr 1;exact bY λy hy=>zN l λx o=>j x (by simp only [D0,q,aP,bM];exact .inr ⟨y,aP.1 hy,o⟩)
theorem xJ {md:Nat->Bool}{ops:Array Oper}{g:List (Nat × Nat)}{k i:Nat}{a:List Oper}{b:List (Nat × List Nat)}{e:dO}{c:Option Tmp}{K:dO->AHeap->Prop}{f:FuncId}{args args':Xa2}{H:AHeap}{r:D}{t:Bool}
  (n:t=true->Pure P f args' r) (s:args.map (Dx H)=args') (j:t=true->D.N args'=true) (p:t=true->r.flat=true) {S:List Nat} (u:args.flatMap (D0 H)=S) (q:chk g i S b)
  (h:kQ P md ops g k (i+1) a ((i,S) :: b) (nB e c (.opt t r)) H K):wU P md ops g k i a b e c K t f args H:=by
 subst s u;unfold wU;refine ⟨r,_,λht H' hag=>?_,q,h⟩;have l:args.map (Dx H')=args.map (Dx H):=bY λd o=>RE hag λx m=>bM.2 ⟨d,o,m⟩;exact EG (by rw [l];exact n ht) (by rw [l];exact j ht) (p ht) ⟨rfl,rfl⟩
end
attribute [go_sem] D0
end Go.Abs
end
section
namespace Go.Abs
def oR (H:AHeap)(d:D):D :=
 match d with
 | .own id n=>match H.get id with
  | some k=>if k.es.length=n then .list (k.es.map (·.map (fM H))) else .own id n
  | none=>.own id n
 | d=>fM H d
def G6 (H:AHeap)(d:D):List Nat :=
 match d with
 | .own id n=>id :: (match H.get id with|some k=>k.es.flatten.flatMap mC|none=>[])
 | d=>mC d
def kZ (H:AHeap):D->D
 | .agg cs=>.agg (cs.map (oR H))
 | d=>oR H d
def Jo (H:AHeap):D->List Nat
 | .agg cs=>cs.flatMap (G6 H)
 | d=>G6 H d
def jT (H:AHeap):D->D
 | .tup vs=>.tup (vs.map (kZ H))
 | d=>kZ H d
def Cx (H:AHeap):D->List Nat
 | .tup vs=>vs.flatMap (Jo H)
 | d=>Jo H d
section
variable {P:Program} {M0:Nat→Prop} {H:AHeap} {σ:Nat→Option Ow} {w:World}
theorem RepV.cp {M:Nat->Prop}{N:Nat->Prop}{v:Value}{es:Xa1}{f:D->D}(h:RepV M σ N w v (.list es))(e:∀ y∈es.flatten,∀ u,RepV M σ N w u y->RepV M σ N w u (f y)) :
  RepV M σ N w v (.list (es.map (·.map f))):=by
 have a:(es.map (·.map f)).flatten=es.flatten.map f:=List.map_flatten.symm;cases h with
 | listN=>exact .listN
 | list ad cap sz xs es hc hm hsz hl h1 hcell hr =>
  have:=RepV.list (M:=M) (σ:=σ) (N:=N) (w:=w) ad cap sz xs (es.map (·.map f)) (cG hc) hm (λc hc'=>by
   rw [aS] at hc';obtain ⟨y,b,rfl⟩:=hc';rw [bR];exact hsz y b) (by rw [a,bR];exact hl) h1 hcell (λj u d hu hd=>by
   rw [a,aW,bQ] at hd;obtain ⟨y,b,rfl⟩:=hd;exact e y (aK b) u (hr j u y hu b))
  grind
theorem Yj {d:D}(h:∀ a b,d≠.own a b):oR H d=fM H d:=by cases d<;>first|rfl|exact absurd rfl (h _ _)
theorem YO {d:D}(h:∀ a b,d≠.own a b):G6 H d=mC d:=by cases d<;>first|rfl|exact absurd rfl (h _ _)
theorem AX {v:Value}{d:D}(B:Rel M0 H σ w)(z:RepV (dK M0 H σ) σ H.J w v d)(c:List Nat)(m:∀ i∈G6 H d,i∈c) :
  RepV (dK M0 (fH c H) σ) σ (fH c H).J w v (oR H d):=by
 obtain ⟨r,C,E,o⟩:=fQ c B;have l:=z.G C;have h:∀ i∈c,∀ k,(fH c H).get i=some k->k.fz=true:=λi m k f=>by
  have q:=(o i).1;rw [f] at q;cases p:H.get i with
  | none=>rw [p] at q;cases q
  | some k0 =>
   grind
 by_cases s:∀ a b,d≠.own a b
 .rw [Yj s,<- rN (λi=>(o i).1) d];rw [YO s] at m;exact oC r l λi e k f=>h i (m i e) k f
 .obtain ⟨t,n,rfl⟩:∃ a b,d=.own a b:=by
   grind
  have g:=oC r l λi e k f=>h i (m i (by
   simp only [mC,aX] at e;subst e;simp only [G6];exact j5 ..)) k f
  rw [rN (λi=>(o i).1)] at g;simp only [oR,fM] at g ⊢;cases f:H.get t with
  | none=>rw [f] at g;exact g
  | some k =>
   rw [f] at g;simp only at g ⊢;split
   .rename_i A;rw [if_pos A] at g;refine g.cp λy x u hu=>?_;rw [<- rN (λi=>(o i).1) y];exact oC r hu λi e k' hk'=>h i (m i (by
     simp only [G6,f,aP,bM];exact .inr ⟨y,x,e⟩)) k' hk'
   grind
theorem Dw {v:Value}{d:D}(c:Rel M0 H σ w)(f:RepV (dK M0 H σ) σ H.J w v d)(a:List Nat)(g:∀ i∈Jo H d,i∈a) :
  RepV (dK M0 (fH a H) σ) σ (fH a H).J w v (kZ H d):=by
 cases d with
 | agg cs =>
  obtain ⟨h,m,l,k⟩:=fQ a c;cases f with
  | agg vs ds hl h hr =>
   refine .agg vs _ (cG hl) h λj u x hu hd=>?_;rw [aW,bQ] at hd;obtain ⟨y,e,rfl⟩:=hd;exact AX c (hr j u y hu e) a λi b=>g i (by simp only [Jo,bM];exact ⟨y,aK e,b⟩)
 | _=>exact AX c f a g
theorem Nk {v:Value}{d:D}(g:Rel M0 H σ w)(e:RepV (dK M0 H σ) σ H.J w v d)(a:List Nat)(f:∀ i∈Cx H d,i∈a) :
  RepV (dK M0 (fH a H) σ) σ (fH a H).J w v (jT H d):=by
 cases d with
 | tup cs =>
  cases e with
  | tup vs ds hl hr =>
   refine .tup vs _ (cG hl) λj u x hu hd=>?_;rw [aW,bQ] at hd;obtain ⟨y,c,rfl⟩:=hd;exact Dw g (hr j u y hu c) a λi b=>f i (by simp only [Cx,bM];exact ⟨y,aK c,b⟩)
 | _=>exact Dw g e a f
theorem ACalls.bw {f:FuncId}{args:Xa2}{Q:D->AHeap->Prop}(h:ACalls P f args H λd H'=>Q (jT H' d) (fH (Cx H' d) H')):ACalls P f args H Q :=
 ⟨h.1,λM0 σ w vals hR ha=>(h.2 M0 σ w vals hR ha).mono λe w' ⟨v,d,H',σ',he,hR',hv,hst,hk,hq⟩=>by
  obtain ⟨f1,f2,_,_⟩:=fQ (Cx H' d) hR';exact ⟨v,_,_,σ',he,f1,Nk hR' hv _ λ_ h=>h,hst,hk.trans f2,hq⟩⟩
end
end Go.Abs
end
section
namespace Go.Abs
theorem wa {a b:Prop}(x:a)(y:b):a/\b:=⟨x,y⟩
section
variable {P:Program} {c:Cfg} {a b:Code} {Q:Exit→dO→AHeap→Prop} {e:dO} {H:AHeap}
theorem wq {t:Bool}{A B:Prop}(h1:A->pM P c a Q e H)(h2:B->pM P c b Q e H)
 (k1:t=true->A:=by (intro h;first|(simp [go_sem] at h;exact h)|exact h)) (k2:t=false->B:=by (intro h;first|(simp [go_sem] at h;exact h)|exact h)) :
 Ao P c a b Q e H (.bool t):=aU (λh=>h1 (k1 h)) (λh=>h2 (k2 h))
theorem bA (I:Nat->dO->AHeap->Prop)(μ:Nat->Nat)(x0:Nat)(h0:I x0 e H)
  (hs:∀ J:Nat->dO->AHeap->Prop,(∀ x e H,J x e H↔I x e H)->∀ x e H,I x e H->pM P c b (sK (Aj J μ x) Q) e H):yN P c b Q e H :=
 tI I μ x0 h0 (hs I λ_ _ _=>Iff.rfl)
theorem o8 {H':AHeap}(hg:Ghosts H H')(I:Nat->dO->AHeap->Prop)(μ:Nat->Nat)(x0:Nat)(h0:I x0 e H')
  (hs:∀ J:Nat->dO->AHeap->Prop,(∀ x e H,J x e H↔I x e H)->∀ x e H,I x e H->pM P c b (sK (Aj J μ x) Q) e H):yN P c b Q e H :=
 aaI hg I μ x0 h0 (hs I λ_ _ _=>Iff.rfl)
theorem WO (t id n:Nat)(k:Blk)(he:e t=.own id n)(hk:H.get id=some k)(hn:k.es.length=n)(I:Nat->dO->AHeap->Prop)(μ:Nat->Nat)(x0:Nat)(h0:I x0 (nB e (some t) (.list k.es)) (H.frz id))
  (hs:∀ J:Nat->dO->AHeap->Prop,(∀ x e H,J x e H↔I x e H)->∀ x e H,I x e H->pM P c b (sK (Aj J μ x) Q) e H):yN P c b Q e H :=
 aaJ t id n k he hk hn I μ x0 h0 (hs I λ_ _ _=>Iff.rfl)
end
section
variable {p q:Prop}
structure Wh (q:Prop):Prop where
 h:q
theorem wv (k:q->p:=by (intro h;first|(simp [go_sem,seval,Y];exact h)|exact h))(h:q):p:=k h
theorem wvn (k:q->p:=by (intro h;first|(simp -implicitDefEqProofs [go_sem,seval,Y];exact h)|exact h))(h:q):p:=k h
theorem wo (k:Wh q->p:=by (intro h;(try simp [go_sem,seval,Y]);(repeat first|intro _|refine ⟨iV,?_⟩);exact h.1))(h:q):p:=k ⟨h⟩
theorem wp (k:Wh q->p:=by (intro h;(try simp [go_sem,seval,Y]);(repeat first|intro _|refine ⟨fY,?_⟩);exact h.1))(h:q):p:=k ⟨h⟩
theorem ZO (k:Wh q->p:=by (intro h;(try simp -implicitDefEqProofs [go_sem,seval,Y]);(repeat first|intro _|refine ⟨fY,?_⟩);exact h.1))(h:q):p:=k ⟨h⟩
theorem wl (h:p:=by first|rfl|(simp [go_sem,<- List.map_take,<- List.map_drop,Y];done)):p:=h
theorem wr (h:p:=by simp [G0,Fa,fW,go_sem,<- List.map_take,<- List.map_drop,Y]):p:=h
theorem wrq (h:p:=by simp [G0,Fa,Dx,D0,fW,go_sem,<- List.map_take,<- List.map_drop,Y]):p:=h
theorem wrd (h:p:=by simp [go_sem,Y]):p:=h
theorem wdq (h:p:=by simp [go_sem,D0,fW,Y]):p:=h
theorem wz (h:p:=by (simp [go_sem,Y])<;>rfl):p:=h
theorem wn (h:p:=by first|omega|(simp [go_sem,seval,Y]<;>omega)):p:=h
theorem wg (h:p:=by and_intros<;>first|omega|(simp [go_sem,seval,Y]<;>omega)):p:=h
theorem wi (h:p:=by first|assumption|omega|(simp [go_sem,Y];done)|(simp_all;done)):p:=h
theorem wj (h:p:=by first|assumption|omega|(simp [go_sem,Y];done)|(simp_all<;>omega)):p:=h
theorem wy (h:p:=by simp [go_sem,Y]<;>first|omega|(rw [bB];simp<;>omega)|(simp_all<;>omega)):p:=h
end
section
variable {P:Program} {c:Cfg} {a b:Code} {Q:Exit→dO→AHeap→Prop} {e:dO} {H:AHeap} {p:Prop}
theorem dD {t:Bool}{A B:Prop}(h1:A->pM P c a Q e H)(h2:B->pM P c b Q e H)(k:Ao P c a b Q e H (.bool t)->p:=by (intro h;first|(simp [go_sem,seval,Y];exact h)|exact h))
 (k1:t=true->A:=by (intro h;first|(simp [go_sem] at h;exact h)|exact h)) (k2:t=false->B:=by (intro h;first|(simp [go_sem] at h;exact h)|exact h)):p:=k (aU (λh=>h1 (k1 h)) (λh=>h2 (k2 h)))
theorem dZ {t:Bool}{A B:Prop}(h1:A->pM P c a Q e H)(h2:B->pM P c b Q e H)(k:Wh (Ao P c a b Q e H (.bool t))->p:=by (intro h;(try simp [go_sem,seval,Y]);(repeat first|intro _|refine ⟨iV,?_⟩);exact h.1))
 (k1:t=true->A:=by (intro h;first|(simp [go_sem] at h;exact h)|exact h)) (k2:t=false->B:=by (intro h;first|(simp [go_sem] at h;exact h)|exact h)):p:=k ⟨aU (λh=>h1 (k1 h)) (λh=>h2 (k2 h))⟩
theorem jH {t:Bool}{A B:Prop}(h1:A->pM P c a Q e H)(h2:B->pM P c b Q e H)(k:Wh (Ao P c a b Q e H (.bool t))->p:=by (intro h;(try simp [go_sem,seval,Y]);(repeat first|intro _|refine ⟨fY,?_⟩);exact h.1))
 (k1:t=true->A:=by (intro h;first|(simp [go_sem] at h;exact h)|exact h)) (k2:t=false->B:=by (intro h;first|(simp [go_sem] at h;exact h)|exact h)):p:=k ⟨aU (λh=>h1 (k1 h)) (λh=>h2 (k2 h))⟩
theorem wx {I J:Nat->dO->AHeap->Prop}{m:Nat->Nat}{x:Nat}(hJ:∀ x e H,J x e H↔I x e H)(x':Nat)(hI:I x' e H)(hm:m x'<m x:=by omega):Aj J m x e H:=gU x' hm ((hJ _ _ _).2 hI)
end
end Go.Abs
end
section
set_option maxRecDepth 100000
open Go Go.Proofs Go.Abs Tryz
namespace Go.Abs
abbrev Pua:=Pure prog
end Go.Abs
namespace Go.Abs.Tz
abbrev EH (t:Nat)(z:D):Prop:=tk prog t=.one/\zd prog t=some [z]/\(prog.info? t).isSome=true/\prog.cellsOf t=1
abbrev J9 (t:Nat):Prop:=EH t .nil
abbrev AH (t:Nat):Prop:=tk prog t=.one/\(prog.info? t).isSome=true/\prog.cellsOf t=1
abbrev tyD (t n k s:Nat)(z:Xa2):Prop:=tk prog t=.agg n/\zd prog t=some z/\bk prog t=some (.ar s)/\XE prog t=some (k,s)/\(prog.info? t).isSome=true/\prog.cellsOf t=n
abbrev Zc (t:Nat)(k:IntKind)(z:D):Prop:=EH t z/\Si prog t=some k
abbrev CJ (t n:Nat)(z:Xa2)(l:List (Nat × Nat)):Prop:=tk prog t=.agg n/\zd prog t=some z/\bk prog t=some (.st l)/\(prog.info? t).isSome=true/\prog.cellsOf t=n
abbrev J8 (t e s b:Nat)(z:Xa2):Prop:=sl prog t=some ⟨e,s,b,z⟩
abbrev tyJ (t n:Nat):Prop:=WW prog t=some n
@[go_sem] theorem ty0:Zc 3 .i64 (.int .i64 0)/\EH 4 (.bool false)/\Zc 5 .u8 (.int .u8 0)/\EH 9 (.str ⟨#[]⟩)/\J9 22/\J9 23/\CJ 25 2 [.nil,.nil] [(0,1),(1,1)]/\J9 26:=by and_intros<;>rfl
@[go_sem] theorem ty8:J9 27/\J9 28/\CJ 30 2 [.nil,.nil] [(0,1),(1,1)]/\J9 31/\CJ 33 3 [.nil,.nil,.nil] [(0,2),(2,1)]/\CJ 35 4 [.nil,.nil,.nil,.int .i64 0] [(0,3),(3,1)]/\J9 38/\J9 39:=by and_intros<;>rfl
@[go_sem] theorem ajW:CJ 41 2 [.nil,.nil] [(0,1),(1,1)]/\Zc 42 .i64 (.int .i64 0)/\AH 43/\J9 49/\J9 50/\CJ 52 5 [.nil,.nil,.nil,.int .i64 0,.nil] [(0,2),(2,1),(3,1),(4,1)]/\CJ 54 2 [.nil,.nil] [(0,1),(1,1)]/\CJ 55 2 [.nil,.nil] [(0,1),(1,1)]:=by and_intros<;>rfl
@[go_sem] theorem ajV:J9 56/\CJ 58 9 [.int .i64 0,.nil,.nil,.nil,.nil,.nil,.nil,.int .i64 0,.nil] [(0,1),(1,1),(2,2),(4,5)]/\CJ 60 25 [.str ⟨#[]⟩,.nil,.nil,.nil,.int .i64 0,.nil,.nil,.nil,.nil,.int .i64 0,.nil,.nil,.nil,.nil,.nil,.bool false,.int .i64 0,.nil,.nil,.nil,.nil,.nil,.nil,.int .i64 0,.nil] [(0,1),(1,5),(6,5),(11,2),(13,2),(15,1),(16,9)]/\AH 62/\EH 64 .nilf/\EH 67 .nilf/\AH 72/\AH 74:=by and_intros<;>rfl
@[go_sem] theorem ajU:CJ 78 3 [.nil,.nil,.nil] [(0,2),(2,1)]/\CJ 81 6 [.int .i64 0,.int .i64 0,.int .i64 0,.nil,.nil,.nil] [(0,1),(1,1),(2,1),(3,3)]/\EH 83 .nilf/\EH 84 .nilf/\EH 85 .nilf/\J9 88/\AH 89/\AH 91:=by and_intros<;>rfl
@[go_sem] theorem ajT:CJ 94 4 [.int .i64 0,.nil,.nil,.nil] [(0,1),(1,3)]/\J9 98/\CJ 100 4 [.str ⟨#[]⟩,.int .i64 0,.bool false,.nil] [(0,1),(1,1),(2,1),(3,1)]/\J9 103/\J9 105/\CJ 107 4 [.str ⟨#[]⟩,.int .i64 0,.int .i64 0,.nil] [(0,1),(1,1),(2,1),(3,1)]/\CJ 109 7 [.str ⟨#[]⟩,.int .i64 0,.int .i64 0,.int .i64 0,.int .i64 0,.int .i64 0,.int .i64 0] [(0,1),(1,1),(2,1),(3,1),(4,1),(5,1),(6,1)]/\J9 114:=by and_intros<;>rfl
@[go_sem] theorem ajS:AH 115/\CJ 118 4 [.nil,.nil,.nil,.nil] [(0,3),(3,1)]/\AH 119/\CJ 124 3 [.int .i64 0,.int .i64 0,.int .i64 0] [(0,1),(1,1),(2,1)]/\EH 127 .nilp/\CJ 129 8 [.nil,.nil,.nil,.nil,.nil,.nil,.nil,.bool false] [(0,3),(3,1),(4,1),(5,1),(6,1),(7,1)]/\J9 132/\AH 133:=by and_intros<;>rfl
@[go_sem] theorem ajR:CJ 136 38 [.str ⟨#[]⟩,.nil,.nil,.nil,.int .i64 0,.nil,.nil,.nil,.nil,.int .i64 0,.nil,.nil,.nil,.nil,.nil,.bool false,.int .i64 0,.nil,.nil,.nil,.nil,.nil,.nil,.int .i64 0,.nil,.nil,.nil,.nil,.nil,.nil,.nil,.nil,.nil,.nil,.nil,.nil,.nil,.nil] [(0,25),(25,3),(28,3),(31,3),(34,2),(36,2)]/\AH 137/\EH 142 .nilf/\Zc 145 .u64 (.int .u64 0)/\AH 147/\AH 151/\EH 156 .nilf/\EH 171 .nilf:=by and_intros<;>rfl
@[go_sem] theorem ajQ:EH 174 .nilf/\AH 175/\EH 181 .nilf/\AH 183/\Zc 189 .i64 (.int .i64 0)/\AH 190/\AH 194/\Zc 197 .u32 (.int .u32 0):=by and_intros<;>rfl
@[go_sem] theorem ajP:Zc 199 .u64 (.int .u64 0)/\AH 203/\AH 205/\AH 211/\AH 213/\CJ 218 3 [.int .i64 0,.str ⟨#[]⟩,.int .i64 0] [(0,1),(1,1),(2,1)]/\CJ 221 2 [.int .i64 0,.int .i64 0] [(0,1),(1,1)]/\CJ 223 4 [.int .i64 0,.int .i64 0,.int .i64 0,.int .i64 0] [(0,1),(1,1),(2,2)]:=by and_intros<;>rfl
@[go_sem] theorem ajO:AH 224/\AH 230/\EH 237 .nilf/\EH 241 .nilf/\J9 249/\AH 250/\AH 254/\AH 257:=by and_intros<;>rfl
@[go_sem] theorem ajN:EH 262 .nilp/\Zc 264 .u64 (.int .u64 0)/\EH 268 .nilp/\AH 278/\CJ 282 5 [.int .i64 0,.int .i64 0,.int .i64 0,.int .i64 0,.int .i64 0] [(0,1),(1,2),(3,2)]/\AH 283/\AH 288/\EH 292 .nilf:=by and_intros<;>rfl
@[go_sem] theorem ajM:CJ 304 8 [.nil,.nil,.nil,.nil,.nil,.nil,.nil,.nil] [(0,2),(2,2),(4,2),(6,2)]/\J9 306/\AH 307/\J9 311/\CJ 313 5 [.int .i64 0,.nil,.nil,.nil,.nil] [(0,1),(1,3),(4,1)]/\AH 314/\AH 317/\AH 318:=by and_intros<;>rfl
@[go_sem] theorem ajF:CJ 321 2 [.int .i64 0,.int .i64 0] [(0,1),(1,1)]/\EH 322 .nilp/\EH 331 .nilf/\AH 340/\J9 345/\AH 346/\EH 348 .nilf/\AH 349:=by and_intros<;>rfl
@[go_sem] theorem ajE:J9 351/\CJ 355 6 [.nil,.nil,.nil,.nil,.nil,.bool false] [(0,2),(2,3),(5,1)]/\EH 357 .nilp/\CJ 359 11 [.nil,.nil,.nil,.nil,.nil,.nil,.nil,.nil,.bool false,.int .i64 0,.nil] [(0,2),(2,2),(4,2),(6,2),(8,1),(9,1),(10,1)]/\CJ 362 2 [.int .i64 0,.int .i64 0] [(0,1),(1,1)]/\EH 366 .nilf/\EH 377 .nilp/\CJ 379 12 [.nil,.nil,.nil,.nil,.nil,.nil,.nil,.bool false,.int .i64 0,.nil,.nil,.nil] [(0,2),(2,2),(4,1),(5,2),(7,1),(8,1),(9,1),(10,1),(11,1)]:=by and_intros<;>rfl
@[go_sem] theorem ajD:EH 384 .nilf/\AH 388:=by and_intros<;>rfl
@[go_sem] theorem ajK:J8 22 100 4 56 [.str ⟨#[]⟩,.int .i64 0,.bool false,.nil]/\J8 23 109 7 64 [.str ⟨#[]⟩,.int .i64 0,.int .i64 0,.int .i64 0,.int .i64 0,.int .i64 0,.int .i64 0]/\J8 26 60 25 512 [.str ⟨#[]⟩,.nil,.nil,.nil,.int .i64 0,.nil,.nil,.nil,.nil,.int .i64 0,.nil,.nil,.nil,.nil,.nil,.bool false,.int .i64 0,.nil,.nil,.nil,.nil,.nil,.nil,.int .i64 0,.nil]/\J8 27 3 1 8 [.int .i64 0]/\J8 28 124 3 24 [.int .i64 0,.int .i64 0,.int .i64 0]/\J8 31 27 1 24 [.nil]/\J8 38 33 3 72 [.nil,.nil,.nil]/\J8 39 81 6 96 [.int .i64 0,.int .i64 0,.int .i64 0,.nil,.nil,.nil]/\J8 49 223 4 32 [.int .i64 0,.int .i64 0,.int .i64 0,.int .i64 0]/\J8 50 282 5 40 [.int .i64 0,.int .i64 0,.int .i64 0,.int .i64 0,.int .i64 0]/\J8 56 58 9 184 [.int .i64 0,.nil,.nil,.nil,.nil,.nil,.nil,.int .i64 0,.nil]/\J8 88 94 4 80 [.int .i64 0,.nil,.nil,.nil]:=by and_intros<;>rfl
@[go_sem] theorem ajC:J8 98 107 4 56 [.str ⟨#[]⟩,.int .i64 0,.int .i64 0,.nil]/\J8 103 4 1 1 [.bool false]/\J8 105 9 1 16 [.str ⟨#[]⟩]/\J8 114 136 38 824 [.str ⟨#[]⟩,.nil,.nil,.nil,.int .i64 0,.nil,.nil,.nil,.nil,.int .i64 0,.nil,.nil,.nil,.nil,.nil,.bool false,.int .i64 0,.nil,.nil,.nil,.nil,.nil,.nil,.int .i64 0,.nil,.nil,.nil,.nil,.nil,.nil,.nil,.nil,.nil,.nil,.nil,.nil,.nil,.nil]/\J8 132 78 3 72 [.nil,.nil,.nil]/\J8 249 55 2 48 [.nil,.nil]/\J8 306 362 2 16 [.int .i64 0,.int .i64 0]/\J8 311 313 5 104 [.int .i64 0,.nil,.nil,.nil,.nil]/\J8 345 30 2 48 [.nil,.nil]/\J8 351 103 1 24 [.nil]:=by and_intros<;>rfl
@[go_sem] theorem ajL:tyJ 124 3/\tyJ 221 2/\tyJ 223 4/\tyJ 282 5/\tyJ 321 2/\tyJ 362 2:=by and_intros<;>(show _=_;kernel_rfl)
attribute [go_sem] underlying3 underlying4 underlying5 underlying9 underlying22 underlying23 underlying25 underlying26 underlying27 underlying28 underlying30 underlying31 underlying33 underlying35 underlying38 underlying39 underlying41 underlying42 underlying43 underlying49
attribute [go_sem] underlying50 underlying52 underlying54 underlying55 underlying56 underlying58 underlying60 underlying62 underlying64 underlying67 underlying72 underlying74 underlying78 underlying81 underlying83 underlying84 underlying85 underlying88 underlying89 underlying91
attribute [go_sem] underlying94 underlying98 underlying100 underlying103 underlying105 underlying107 underlying109 underlying114 underlying115 underlying118 underlying119 underlying124 underlying127 underlying129 underlying132 underlying133 underlying136 underlying137 underlying142 underlying145
attribute [go_sem] underlying147 underlying151 underlying156 underlying171 underlying174 underlying175 underlying181 underlying183 underlying189 underlying190 underlying194 underlying197 underlying199 underlying203 underlying205 underlying211 underlying213 underlying218 underlying221 underlying223
attribute [go_sem] underlying224 underlying230 underlying237 underlying241 underlying249 underlying250 underlying254 underlying257 underlying262 underlying264 underlying268 underlying278 underlying282 underlying283 underlying288 underlying292 underlying304 underlying306 underlying307 underlying311
attribute [go_sem] underlying313 underlying314 underlying317 underlying318 underlying321 underlying322 underlying331 underlying340 underlying345 underlying346 underlying348 underlying349 underlying351 underlying355 underlying357 underlying359 underlying362 underlying366 underlying377 underlying379
attribute [go_sem] underlying384 underlying388
theorem mixed:prog.follows .mixedOrders=true:=rfl
theorem pK {f:FuncId}{fn:Func}{x:Code}{rs:List ResultVar}{args:Xa2}{r:D}(cfg:Cfg)(hf:prog.funcs[f]?=some fn)(hb:fn.body=some x)
  (h:∀ Q:D->AHeap->Prop,(∀ d H',(sL H' d=r\/VV (sL H' d)=r)->Q d H')->pM prog cfg x (UD prog rs Q) (D7 args) .ak)
  (hcl:r.U=true:=by first|rfl|(simp [go_sem];done)) (hnm:(fn.name=="runtime.NumGoroutine")=false:=by rfl) (hlen:args.length<=fn.ntmps:=by exact aG rfl) (hok:q9 cfg fn.ntmps x=true:=by kernel_rfl) (hr:fn.results.toList=rs:=by exact Yo):Pure prog f args r :=
 Tp hcl λQ hQ=>aI mixed hf hb hnm hlen hok (h Q hQ) hr
theorem p0 {f:FuncId}{fn:Func}{x:Code}{rs:List ResultVar}{args:Xa2}{r:D}(hf:prog.funcs[f]?=some fn)(hb:fn.body=some x)
  (h:∀ Q:D->AHeap->Prop,(∀ d H',(sL H' d=r\/VV (sL H' d)=r)->Q d H')->True->pM prog ⟨λ_=>false,λ_=>[]⟩ x (UD prog rs Q) (D7 args) .ak)
(hcl:r.U=true:=by first|rfl|(simp [go_sem];done)) (hnm:(fn.name=="runtime.NumGoroutine")=false:=by rfl) (hlen:args.length<=fn.ntmps:=by exact aG rfl) (hok:q9 ⟨λ_=>false,λ_=>[]⟩ fn.ntmps x=true:=by kernel_rfl) (hr:fn.results.toList=rs:=by exact Yo):Pure prog f args r:=pK ⟨λ_=>false,λ_=>[]⟩ hf hb (λQ W=>h Q W trivial) hcl hnm hlen hok hr
theorem cK {f:FuncId}{fn:Func}{x:Code}{rs:List ResultVar}{args:Xa2}{Q:D->AHeap->Prop}{H:AHeap}(cfg:Cfg)(hf:prog.funcs[f]?=some fn)(hb:fn.body=some x)(h:pM prog cfg x (UD prog rs Q) (D7 args) H) (hnm:(fn.name=="runtime.NumGoroutine")=false:=by rfl) (hlen:args.length<=fn.ntmps:=by exact aG rfl) (hok:q9 cfg fn.ntmps x=true:=by kernel_rfl) (hr:fn.results.toList=rs:=by exact Yo):ACalls prog f args H Q:=aI mixed hf hb hnm hlen hok h hr
theorem c0 {f:FuncId}{fn:Func}{x:Code}{rs:List ResultVar}{args:Xa2}{Q:D->AHeap->Prop}{H:AHeap}(hf:prog.funcs[f]?=some fn)(hb:fn.body=some x)(h:pM prog ⟨λ_=>false,λ_=>[]⟩ x (UD prog rs Q) (D7 args) H) (hnm:(fn.name=="runtime.NumGoroutine")=false:=by rfl) (hlen:args.length<=fn.ntmps:=by exact aG rfl) (hok:q9 ⟨λ_=>false,λ_=>[]⟩ fn.ntmps x=true:=by kernel_rfl) (hr:fn.results.toList=rs:=by exact Yo):ACalls prog f args H Q:=aI mixed hf hb hnm hlen hok h hr
theorem oK {f:FuncId}{fn:Func}{x:Code}{rs:List ResultVar}{args:Xa2}{ty:TypeId}{sz:Nat}{es:Xa1}(cfg:Cfg)(hf:prog.funcs[f]?=some fn)(hb:fn.body=some x)
  (h:∀ Q:D->AHeap->Prop,(∀ id n H',n=es.length->H'.get id=some ⟨ty,sz,es,false⟩->Q (.own id n) H')->pM prog cfg x (UD prog rs Q) (D7 args) .ak)
  (hcl:D.T es=true:=by first|rfl|(simp [go_sem];done)) (hnm:(fn.name=="runtime.NumGoroutine")=false:=by rfl) (hlen:args.length<=fn.ntmps:=by exact aG rfl) (hok:q9 cfg fn.ntmps x=true:=by kernel_rfl) (hr:fn.results.toList=rs:=by exact Yo):Own prog f args ty sz es :=
 aiA hcl λQ hQ=>aI mixed hf hb hnm hlen hok (h Q hQ) hr
end Go.Abs.Tz
end
section
namespace Go.Abs
variable {P:Program} {md:Nat→Bool} {ops:Array Oper} {sp:List (Nat × Nat)} {n0 i:Nat} {rest:List Oper} {acc:List (Nat × List Nat)} {e:dO} {dst:Option Tmp} {K:dO→AHeap→Prop} {f:FuncId} {args:Xa2} {H:AHeap} {r:D}
end Go.Abs
end
section
set_option maxRecDepth 4000
open Go Go.Proofs Tryz
namespace Go.Abs
def j7 (c:Int):Bool:=decide (97<=c)&&decide (c<=122)||(decide (65<=c)&&decide (c<=90))
def lM (c:Int):Bool:=decide (48<=c)&&decide (c<=57)
def qZ (c:Int):Bool:=j7 c||lM c||c==95
theorem Di (c:Int):Pua 341 [.int .u8 c] (.bool (j7 c)):=by
 refine aV (Tz.c0 func341 rfl ?_);simp [go_sem,seval,j7,D.U];omega
theorem AR (c:Int):Pua 344 [.int .u8 c] (.bool (lM c)):=by
 refine aV (Tz.c0 func344 rfl ?_);simp [go_sem,seval,lM,D.U]
theorem Rj (c:Int):Pua 343 [.int .u8 c] (.bool (qZ c)):=by
 refine aV (Tz.c0 func343 rfl ?_);simp [go_sem,seval];refine aB (Di c) rfl ?_;simp [go_sem,seval];refine aN (λ_=>AR c) (λ_=>rfl) ?_;simp [go_sem,seval,qZ]
def Ac (s:ByteArray)(i:Nat):Int:=((s.data[i]?.getD 0).toNat:Int)
def iK (p:Int->Bool)(s:ByteArray):Nat:=(s.data.toList.takeWhile λb=>p (b.toNat:Int)).length
theorem w6 {α:Type}(p:α->Bool):∀ (l:List α) (n:Nat),(∀ j x,j<n->l[j]?=some x->p x=true)->n<=l.length->(∀ x,l[n]?=some x->p x=false)->(l.takeWhile p).length=n
 | [],n,_,h,_=>by simp at h;subst h;rfl
 | a :: l,0,_,_,h=>by have:=h a rfl;simp [List.takeWhile,this]
 | a :: l,n+1,h1,h2,h3=>by
  have ha:=h1 0 a bL rfl;simp only [List.takeWhile,ha,cD];rw [w6 p l n (λj x hj hx=>h1 (j+1) x bL hx) (cG h2) λx hx=>h3 x hx]
theorem Lr (p:Int->Bool)(s:ByteArray)(n:Nat)(d:∀ j,j<n->p (Ac s j)=true)(c:n<=s.size)(e:n<s.size->p (Ac s n)=false):iK p s=n:=by
 have a:s.data.toList.length=s.size:=rfl;have b:∀ j x,s.data.toList[j]?=some x->Ac s j=(x.toNat:Int):=λj x hx=>by
  simp only [Array.getElem?_toList] at hx;simp [Ac,hx]
 refine w6 _ _ _ (λj x hj hx=>by rw [<- b j x hx];exact d j hj) (by rw [a];exact c) λx hx=>?_;grind
theorem VM (s:ByteArray)(i:Nat):0<=Ac s i/\Ac s i<=255:=by
 unfold Ac;have:=(s.data[i]?.getD 0).toNat_lt;omega
theorem EP (s:ByteArray)(g:FuncId)(p:Int->Bool)(t:s.size<=1000000)(o:∀ c,0<=c->c<=255->Pure prog g [.int .u8 c] (.bool (p c))) :
  Pua 342 [.str s,.fn g []] (dI (iK p s)):=by
 refine aV (Tz.c0 func342 rfl ?_);simp [go_sem,seval];refine fO (ι:=Nat) (λn e H=>H=.ak/\n<=s.size/\e 0=.str s/\e 1=.fn g []/\e 5=dI n/\(∀ j,j<n->p (Ac s j)=true)) (λn=>s.size - n) 0 ew ?_;intro n e H ⟨q,m,k,i,d,l⟩;subst q;simp [go_sem,seval,k,i,d,dI];have f:=VM s n;refine aN (r:=.bool (p (Ac s n))) (λ_=>o _ f.1 f.2) (λ_=>rfl) ?_;simp [go_sem,seval];refine aU (λh=>?_) (λh=>?_)
 .simp at h;simp [go_sem,seval,k,i,d,dI];refine ⟨dE bL bL,n+1,bL,bL,bL,λj hj=>?_⟩;grind
 .simp at h;simp [go_sem,seval,d,dI];rw [Lr p s n l m h]
def Ox {α:Type}[DecidableEq α](xs:List α)(v:α):Int:=match xs.findIdx? (λx=>decide (x=v)) with|some i=>i|none=>-1
def mem {α:Type}[DecidableEq α](xs:List α)(v:α):Bool:=decide (0<=Ox xs v)
theorem yQ {α:Type}[DecidableEq α]{xs:List α}{v:α}{i:Nat}(h:∀ j,j<i->xs[j]?≠some v)(hi:xs[i]?=some v):Ox xs v=i:=by
 have:xs.findIdx? (λx=>decide (x=v))=some i:=by
  rw [gS];grind
 simp [Ox,this]
theorem DZ {α:Type}[DecidableEq α]{xs:List α}{v:α}(h:∀ j,j<xs.length->xs[j]?≠some v):Ox xs v = -1:=by
 have:xs.findIdx? (λx=>decide (x=v))=none:=by
  rw [uG];intro x a;obtain ⟨j,b,rfl⟩:=aM a;grind
 simp [Ox,this]
theorem YN {α:Type}[DecidableEq α](xs:List α)(v:α):0<=Ox xs v↔v∈xs:=by
 unfold Ox;grind
theorem mem_iff {α:Type}[DecidableEq α](xs:List α)(v:α):mem xs v=true↔v∈xs:=by simp [mem,YN]
theorem Vq (xs:List ByteArray)(v:ByteArray):Pua 348 [wV xs,.str v] (dI (Ox xs v)):=by
 refine aV (Tz.c0 func348 rfl ?_);simp [go_sem,seval,dI,wV];intro f;refine fO (ι:=Nat) (λi e H=>H=.ak/\i<=xs.length/\e 0=wV xs/\e 1=.str v/\e 7=dI xs.length/\e 8=dI i/\(∀ j,j<i->xs[j]?≠some v)) (λi=>xs.length - i) 0 (by simp [go_sem,seval,dI,wV]) ?_;intro i e H ⟨m,n,l,k,g,c,d⟩;subst m;simp [go_sem,seval,g,c,dI,wV];refine f7 (λhlt=>?_) (λhge=>?_)
 .simp [go_sem,seval,l,k,c,dI,wV,cS,hlt];refine aU (λh=>?_) (λh=>?_)
  .simp at h;simp [go_sem,seval];rw [yQ d (by rw [aA hlt,h])]
  .simp at h;simp [go_sem,seval,l,k,g,c,dI,wV];refine ⟨dE bL bL,i+1,bL,bL,bL,λj hj=>?_⟩;grind
 .simp [go_sem,seval];rw [DZ λj hj=>d j bL]
theorem D9 (xs:List ByteArray)(v:ByteArray):Pua 307 [wV xs,.str v] (.bool (mem xs v)):=by
 refine aV (Tz.c0 func307 rfl ?_);simp [go_sem,seval];refine aB (Vq xs v) (by simp [D.N,go_sem,D.U]) ?_;simp [go_sem,seval,dI,mem]
theorem Vr (xs:Xa0)(v:Int):Pua 181 [dLI xs,dI v] (dI (Ox xs v)):=by
 refine aV (Tz.c0 func181 rfl ?_);simp [go_sem,seval,dI,dLI];intro f;refine fO (ι:=Nat) (λi e H=>H=.ak/\i<=xs.length/\e 0=dLI xs/\e 1=dI v/\e 7=dI xs.length/\e 8=dI i/\(∀ j,j<i->xs[j]?≠some v)) (λi=>xs.length - i) 0 (by simp [go_sem,seval,dI,dLI]) ?_;intro i e H ⟨m,n,l,k,g,c,d⟩;subst m;simp [go_sem,seval,g,c,dI,dLI];refine f7 (λhlt=>?_) (λhge=>?_)
 .simp [go_sem,seval,l,k,c,dI,dLI,cI,hlt];refine aU (λh=>?_) (λh=>?_)
  .simp at h;simp [go_sem,seval];rw [yQ d (by rw [aA hlt,h])]
  .simp at h;simp [go_sem,seval,l,k,g,c,dI,dLI];refine ⟨dE bL bL,i+1,bL,bL,bL,λj hj=>?_⟩;grind
 .simp [go_sem,seval];rw [DZ λj hj=>d j bL]
theorem gX (xs:Xa0)(v:Int):Pua 109 [dLI xs,dI v] (.bool (mem xs v)):=by
 refine aV (Tz.c0 func109 rfl ?_);simp [go_sem,seval];refine aB (Vr xs v) (by simp [D.N,go_sem,D.U,dI]) ?_;simp [go_sem,seval,dI,mem]
def qW (c:Int):Bool:=decide (32<=c)&&decide (c<=126)&&c != 34
theorem Kg (c:Int):Pua 381 [.int .u8 c] (.bool (qW c)):=by
 refine aV (Tz.c0 func381 rfl ?_);simp [go_sem,seval,qW,D.U]
def zS (s:ByteArray):Int × Int :=
 let n:=iK qW (s.extract 1 s.size)
 if (1+(n:Int)=s.size)\/Ac s (1+n)≠34 then (0,2) else if 60<n then (0,3) else (n+2,0)
theorem E8 (p:Int->Bool)(s:ByteArray):iK p s<=s.size:=by
 have:=(List.takeWhile_sublist (l:=s.data.toList) (λb:UInt8=>p (b.toNat:Int))).length_le;exact this
theorem MX (s:ByteArray)(i:1<=s.size)(g:s.size<=100000):Pua 345 [.str s] (.tup [dI (zS s).1,dI (zS s).2]):=by
 refine aV (Tz.c0 func345 rfl ?_);simp [go_sem,seval];have d:(s.extract 1 s.size).size<=1000000:=by rw [ByteArray.size_extract];omega
 refine ⟨bL,aB (EP (s.extract 1 s.size) _ _ d (λc _ _=>Kg c)) rfl ?_⟩;have e:=E8 qW (s.extract 1 s.size);rw [ByteArray.size_extract] at e;simp [go_sem,seval,dI];unfold zS;generalize iK qW (s.extract 1 s.size)=n at *;have f:((s.data[(1+(n:Int)).toNat]?.getD 0).toNat:Int)=Ac s (1+n):=by
  unfold Ac;congr 3
 rw [f];refine ⟨dE bL bL,λ_=>dE bL bL,λh=>by omega,aU (λh=>?_) (λh=>?_)⟩
 .simp at h;simp [go_sem,seval,h]
 .simp at h;simp [go_sem,seval,h];refine aU (λh6=>?_) (λh6=>?_)
  .simp at h6;simp [go_sem,seval,(bL:60<n)]
  .simp at h6;simp [go_sem,seval,(bL:¬ 60<n)];exact dE bL bL
def LH:List ByteArray:=[⟨#[45,62]⟩,⟨#[60,61]⟩,⟨#[62,61]⟩,⟨#[61,61]⟩,⟨#[33,61]⟩]
theorem Rk (s:ByteArray):Pua 346 [.str s] (.bool (decide ((2:Int)<=s.size)&&mem LH (s.extract 0 2))):=by
 refine aV (Tz.c0 func346 rfl ?_);simp [go_sem,seval];refine aN (r:=.bool (mem LH (s.extract 0 2))) (λ_=>D9 LH (s.extract 0 2)) (λ_=>rfl) ?_;simp [go_sem,seval]
def Td:ByteArray:=⟨#[123,125,40,41,91,93,44,59,58,61,43,45,42,60,62,33,38,124,46,63]⟩
def NO (s:ByteArray)(c:Int):Int:=firstIdx s c.toNat.toUInt8
theorem QN (s:ByteArray)(c:Int)(w:World):(callFunc 396 #[.string s,.int .u8 c]).run prog w=.ok (.value (.int .i64 (firstIdx s c.toNat.toUInt8))) w:=by
 rw [run_callFunc_extern func396 en en en (e:=Extern.BytealgIndexByte.indexByte) en,run_indexByte_string];rfl
set_option maxHeartbeats 400000 in
open RowKit in
theorem Dl (s:ByteArray)(c:Int)(w:World) :
  Calls prog 382 #[.string s,.int .u8 c] w λe w'=>e=.returned (.int .i64 (firstIdx s c.toNat.toUInt8))/\w'=w:=by
 have h:=QN s c
 go_wp2
 go_ret;simp_all
theorem Ay (s:ByteArray)(c:Int):Pua 382 [.str s,.int .u8 c] (dI (NO s c)):=by
 refine ⟨⟨Tryz.f382,func382,rfl,rfl⟩,λM w vals hM ha=>?_⟩;have g:vals=[.string s,.int .u8 c]:=by
  obtain ⟨h,f⟩:=ha;match vals,h with
  | [a,b],_ =>
   have j:=f 0 a _ rfl rfl;have d:=f 1 b _ rfl rfl;cases j
   cases d
   rfl
 subst g;exact (Dl s c w).mono λe w' ⟨d,i⟩=>⟨_,d,.int _ _,by subst i;exact ⟨rfl,rfl,rfl,aT _,λ_ _=>rfl⟩⟩
theorem Dm (s:ByteArray)(c:Int):Pua 347 [.str s,.int .u8 c] (dI (NO s c)):=by
 refine aV (Tz.c0 func347 rfl ?_);simp [go_sem,seval];refine aB (Ay s c) rfl ?_;simp [go_sem,seval,dI]
def tG (s:ByteArray):Int × Int × Int :=
 if j7 (Ac s 0)=true then (if 20<iK qZ s then (0,0,3) else (1,iK qZ s,0))
 else if lM (Ac s 0)=true then (if 9<iK lM s then (0,0,3) else (2,iK lM s,0))
 else if Ac s 0=34 then (3,(zS s).1,(zS s).2)
 else if (decide ((2:Int)<=s.size)&&mem LH (s.extract 0 2))=true then (4,2,0)
 else if 0<=NO Td (Ac s 0) then (4,1,0) else (0,0,2)
theorem Rl (s:ByteArray)(l:1<=s.size)(k:s.size<=100000):Pua 305 [.str s] (.tup [dI (tG s).1,dI (tG s).2.1,dI (tG s).2.2]):=by
 refine aV (Tz.c0 func305 rfl ?_);simp [go_sem,seval];have j:((s.data[0]?.getD 0).toNat:Int)=Ac s 0:=rfl;simp only [j];refine ⟨bL,aB (Di _) rfl ?_⟩;simp [go_sem,seval];refine aU (λhl=>?_) (λhl=>?_)
 .simp [go_sem,seval];refine aB (EP s _ _ bL (λc _ _=>Rj c)) rfl ?_;simp [go_sem,seval,dI];refine aU (λh=>?_) (λh=>?_)
  .simp at h;simp [go_sem,seval,tG,hl,(bL:20<iK qZ s)]
  .simp at h;simp [go_sem,seval,tG,hl,(bL:¬ 20<iK qZ s)]
 .simp [go_sem,seval];refine aB (AR _) rfl ?_;simp [go_sem,seval];refine aU (λhd=>?_) (λhd=>?_)
  .simp [go_sem,seval];refine aB (EP s _ _ bL (λc _ _=>AR c)) rfl ?_;simp [go_sem,seval,dI];refine aU (λh=>?_) (λh=>?_)
   .simp at h;simp [go_sem,seval,tG,hl,hd,(bL:9<iK lM s)]
   .simp at h;simp [go_sem,seval,tG,hl,hd,(bL:¬ 9<iK lM s)]
  .simp [go_sem,seval];refine aU (λhq=>?_) (λhq=>?_)
   .simp at hq;simp [go_sem,seval];refine aB (MX s l k) rfl ?_;have e:tG s=(3,(zS s).1,(zS s).2):=by unfold tG;rw [if_neg (fg hl),if_neg (fg hd),if_pos hq]
    simp [go_sem,seval,dI,e]
   .simp at hq;simp [go_sem,seval];refine aB (Rk s) rfl ?_;simp [go_sem,seval];refine aU (λhp=>?_) (λhp=>?_)
    .simp [go_sem,seval,tG,hl,hd,hq,hp,dI]
    .simp [go_sem,seval];refine aB (Dm Td _) rfl ?_;simp [go_sem,seval,dI];refine f7 (λhi=>?_) (λhi=>?_)
     .simp [go_sem,seval,tG,hl,hd,hq,hp,hi]
     .simp [go_sem,seval,tG,hl,hd,hq,hp,hi]
def nH (s:ByteArray):Bool:=decide (s.size≠0)&&j7 (Ac s 0)&&decide (iK qZ s<=20)&&decide (iK qZ s=s.size)
theorem sB (s:ByteArray):s=⟨#[]⟩↔s.size=0:=by
 constructor
 .intro h;subst h;rfl
 .intro h;cases s with
  | mk d=>congr 1;exact Array.size_eq_zero_iff.1 h
theorem U9 (s:ByteArray)(hz:¬ s.size=0):(decide ((tG s).2.2=0)&&decide ((tG s).1=1)&&(tG s).2.1==(s.size:Int))=nH s:=by
 unfold tG nH;grind
theorem ON (s:ByteArray)(c:s.size<=100000):∃ s',Pua 239 [.agg [dI 1,.str s,dI 0]] (.tup [.str s',.bool (nH s)]):=by
 by_cases b:s.size=0
 .refine ⟨⟨#[]⟩,aV (Tz.c0 func239 rfl ?_)⟩;simp [go_sem,seval,dI];refine aU (λh=>?_) (λh=>?_)
  .simp [go_sem,seval,nH,b]
  .simp [sB,b] at h
 .refine ⟨s,aV (Tz.c0 func239 rfl ?_)⟩;simp [go_sem,seval,dI];refine aU (λh=>?_) (λh=>?_)
  .simp [sB,b] at h
  .simp [go_sem,seval];refine aB (Rl s bL c) rfl ?_;simp [go_sem,seval,dI];exact U9 s b
theorem qP (s:ByteArray)(b:s.size<=100000):Pua 167 [.str s] (.bool (nH s)):=by
 obtain ⟨c,a⟩:=ON s b;refine aV (Tz.c0 func167 rfl ?_);simp [go_sem,seval];refine aB a rfl ?_;simp [go_sem,seval]
end Go.Abs
end
section
set_option maxRecDepth 100000
set_option maxHeartbeats 4000000
open Go Go.Proofs Tryz
namespace Go.Abs
def Bk {α:Type}(xs:List α)(p:α->Bool):Int:=match xs.findIdx? p with|some i=>i|none=>-1
theorem nD {α:Type}{xs:List α}{p:α->Bool}{i:Nat}(h:∀ j x,j<i->xs[j]?=some x->p x=false)(c:i<xs.length)(a:p xs[i]=true):Bk xs p=i:=by
 have:xs.findIdx? p=some i:=by
  rw [gS];exact ⟨c,a,λj b=>by simp [h j _ b (aA bL)]⟩
 simp [Bk,this]
theorem nE {α:Type}{xs:List α}{p:α->Bool}(h:∀ j x,j<xs.length->xs[j]?=some x->p x=false):Bk xs p = -1:=by
 have:xs.findIdx? p=none:=by
  rw [uG];intro x a;obtain ⟨j,b,rfl⟩:=aM a;simp_all
 simp [Bk,this]
theorem sU {α:Type}(xs:List α)(p:α->Bool):decide (0<=Bk xs p)=xs.any p:=by
 unfold Bk;grind
theorem Jn (xs:List Attr)(g:FuncId)(b:Xa2)(p:Attr->Bool)(u:D.N b=true)(t:∀ x∈xs,Pure prog g (.agg x.c :: b) (.bool (p x))) :
  Pua 306 [.list (xs.map Attr.c),.fn g b] (dI (Bk xs p)):=by
 refine aV (Tz.c0 func306 rfl ?_);simp [go_sem,seval,dI];intro m;refine fO (ι:=Nat) (λi e H=>H=.ak/\i<=xs.length/\e 0=.list (xs.map Attr.c)/\e 1=.fn g b/\e 7=dI xs.length/\e 8=dI i/\(∀ j x,j<i->xs[j]?=some x->p x=false)) (λi=>xs.length - i) 0 ew ?_;intro i e H ⟨v,y,q,o,n,k,l⟩;subst v;simp [go_sem,seval,n,k,dI];refine f7 (λd=>?_) (λs=>?_)
 .have hgx:=t xs[i] (aC d);simp [go_sem,seval,q,o,k,dI,d,Attr.c] at hgx ⊢;refine aB hgx (eD u) ?_;simp [go_sem,seval];refine aU (λh=>?_) (λh=>?_)
  .simp [go_sem,seval];rw [nD l d h]
  .simp [go_sem,seval,q,o,n,k,dI];refine ⟨dE bL bL,i+1,bL,bL,bL,λj x r w=>?_⟩;grind
 .simp [go_sem,seval];rw [nE λj x r=>l j x bL]
theorem Ed (xs:List Attr)(g:FuncId)(a:Xa2)(p:Attr->Bool)(d:D.N a=true)(e:D.U (.list (xs.map Attr.c))=true)(f:∀ x∈xs,Pure prog g (.agg x.c :: a) (.bool (p x))) :
  Pua 241 [.list (xs.map Attr.c),.fn g a] (.bool (xs.any p)):=by
 refine aV (Tz.c0 func241 rfl ?_);simp [go_sem,seval];refine aB (Jn xs g a p d f) (by simp only [D.N,e,fP];simp [D.U,d]) ?_;simp [go_sem,seval,dI,sU]
theorem vF (l:List Attr):D.T (l.map Attr.c)=true:=dL _ Attr.U l
def o7 (l:List ByteArray):List ByteArray->Int
 | []=>0
 | s :: r=>if nH s=false then 2 else if mem l s=true then 5 else o7 (l++[s]) r
def pU (l:List ByteArray):Int:=if 20<l.length then 3 else o7 [] l
theorem OI (l:List ByteArray)(v:∀ s∈l,s.size<=100000):Pua 243 [wV l] (dI (pU l)):=by
 refine aV (Tz.c0 func243 rfl ?_);simp [go_sem,seval,dI,wV];intro q;refine aU (λh=>?_) (λh=>?_)
 .simp at h;simp [go_sem,seval,pU,(bL:20<l.length)]
 .simp at h;simp [go_sem,seval,pU,(bL:¬ 20<l.length)];intro o;refine fO (ι:=Nat) (λi e H=>H=.ak/\i<=l.length/\e 0=wV l/\e 8=wV l/\e 9=dI l.length/\e 10=dI i/\o7 (l.take i) (l.drop i)=o7 [] l) (λi=>l.length - i) 0 (by simp [go_sem,seval,dI,wV]) ?_;intro i e H ⟨y,w,u,t,r,c,j⟩;subst y;simp [go_sem,seval,r,c,dI,wV];refine f7 (λb=>?_) (λx=>?_)
  .rw [List.drop_eq_getElem_cons b] at j;have m:=v _ (aC b);simp [go_sem,seval,t,c,dI,wV,b,cS];refine aB (qP _ m) rfl ?_;simp [go_sem,seval];refine aU (λf=>?_) (λf=>?_)
   .simp at f;simp [go_sem,seval];rw [<- j];simp [o7,f]
   .simp at f;simp [go_sem,seval,u,wV];have k:=D9 (l.take i) l[i];simp only [wV,List.map_take] at k;have p:D.T (List.take i (List.map cS l))=true:=by rw [<- List.map_take];exact dL cS (λ_=>rfl) _
    refine ⟨⟨w,by cases l<;>simp [cS]⟩,aB k (by simp [D.N,D.U,p]) ?_⟩;simp [go_sem,seval];refine aU (λn=>?_) (λn=>?_)
    .simp [go_sem,seval];rw [<- j];simp [o7,f,n]
    .simp [go_sem,seval,u,t,r,c,dI,wV];refine ⟨dE bL bL,i+1,bL,bL,bL,?_⟩;rw [<- j,o7,if_neg (fg f),if_neg (fg n),aD b]
  .simp [go_sem,seval];rw [<- j,(bL:i=l.length)];simp [o7]
theorem EO (x y:Attr):Pua 242 [.agg y.c,.adr x.c] (.bool (decide (y.name=x.name))):=by
 refine aV (Tz.c0 func242 rfl ?_);simp [go_sem,seval,Attr.c,dI,wV]
structure Attr.ok (x:Attr):Prop where
 name:x.name.size<=100000
 ae:∀ s∈x.ae,s.size<=100000
 bi:x.ae.length<=1000
def dW (x:Attr)(before:List Attr):Int :=
 if nH x.name=false then 2
 else if (before.any λy=>decide (y.name=x.name))=true then 5
 else if pU x.ae≠0 then pU x.ae
 else if (if 0<x.ae.length then decide (x.am=0)&&decide (x.aw=x.ae.length - 1) else decide (-1000000<=x.am)&&decide (x.am<=x.aw)&&decide (x.aw<=1000000))=true then 0 else 6
theorem GV (x:Attr)(b:List Attr)(l:x.ok):Pua 171 [.agg x.c,.list (b.map Attr.c)] (dI (dW x b)):=by
 refine aV (Tz.c0 func171 rfl ?_);simp [go_sem,seval,dI,wV,Attr.c];refine aB (qP _ l.name) rfl ?_;simp [go_sem,seval];refine aU (λd=>?_) (λd=>?_)
 .simp at d;simp [go_sem,seval,dW,d]
 .simp at d;simp [go_sem,seval];have p:=Ed b 242 [.adr x.c] (λy=>decide (y.name=x.name)) (by simp [D.N,D.U,Attr.U]) (by simp [D.U,vF]) (λy _=>EO x y);simp only [Attr.c,dI,wV] at p;have j:D.T (List.map cS x.ae)=true:=dL cS (λ_=>rfl) _;refine aB p (by simp [D.N,D.U,vF,j]) ?_;simp [go_sem,seval];refine aU (λh=>?_) (λh=>?_)
  .simp [go_sem,seval,dW,d,h]
  .simp [go_sem,seval];have i:=OI x.ae l.ae;simp only [wV,dI] at i;refine aB i (by simp [D.N,D.U,j]) ?_;simp [go_sem,seval];have o:=l.bi;refine aU (λf=>?_) (λf=>?_)
   .simp at f;simp [go_sem,seval,dW,d,h,f]
   .simp at f;simp [go_sem,seval];intro n;refine aU (λk=>?_) (λk=>?_)
    .have hp':0<x.ae.length:=by simp at k;omega
     simp [go_sem,seval];refine λ_=>⟨λ_=>dE bL bL,aU (λg=>?_) (λg=>?_)⟩
     .have e:dW x b=6:=by unfold dW;rw [if_neg (fg d),if_neg (by simp [h]),if_neg (fg f),if_pos hp',if_neg (by simp at g ⊢;omega)]
      simp [go_sem,seval,e]
     .have e:dW x b=0:=by unfold dW;rw [if_neg (fg d),if_neg (by simp [h]),if_neg (fg f),if_pos hp',if_pos (by simp at g ⊢;omega)]
      simp [go_sem,seval,e]
    .have hp':¬ 0<x.ae.length:=by simp at k;simp [k]
     simp [go_sem,seval];refine aU (λg=>?_) (λg=>?_)
     .have e:dW x b=6:=by unfold dW;rw [if_neg (fg d),if_neg (by simp [h]),if_neg (fg f),if_neg hp',if_neg (by simp at g ⊢;omega)]
      simp [go_sem,seval,e]
     .have e:dW x b=0:=by unfold dW;rw [if_neg (fg d),if_neg (by simp [h]),if_neg (fg f),if_neg hp',if_pos (by simp at g ⊢;omega)]
      simp [go_sem,seval,e]
structure NodeTy.ok (n:NodeTy):Prop where
 name:n.name.size<=100000
 w:∀ x∈n.w,x.ok
 bi:n.w.length<=1000
structure EdgeTy.ok (x:EdgeTy):Prop where
 name:x.name.size<=100000
structure Types.ok (t:Types):Prop where
 i:∀ n∈t.i,n.ok
 j:∀ x∈t.j,x.ok
 bh:t.i.length<=1000
 cz:t.j.length<=1000
def oJ (nodes:List NodeTy):Nat->Nat->List Attr
 | 0,_=>[]
 | f+1,a=>match nodes[a]? with
  | none=>[]
  | some n=>(if 0<=n.I then oJ nodes f n.I.toNat else [])++n.w
def Types.w (t:Types)(a:Nat):List Attr:=oJ t.i (a+1) a
theorem vH (nodes:List NodeTy)(h:∀ n∈nodes,n.w.length<=1000):∀ f a,(oJ nodes f a).length<=1000 * f
 | 0,a=>by simp [oJ]
 | f+1,a=>by
  unfold oJ;split
  .simp
  .rename_i n hn;have:=h n (aK hn);have h2:=vH nodes h f n.I.toNat
   simp only [aO];split<;>simp<;>omega
@[go_sem] theorem Attr.len (a:Attr):a.c.length=4:=rfl
theorem Attr.cells (a:Attr):∀ x∈a.c,x.cell=true:=by simp [Attr.c,D.cell,dI,wV]
def parentsOK (nodes:List NodeTy)(a:Nat):Prop:=∀ j n,j<=a->nodes[j]?=some n->n.I<j
theorem GJ (b:List NodeTy):∀ a f g,parentsOK b a->a<f->a<g->oJ b f a=oJ b g a:=by
 intro a;induction a using Nat.strongRecOn with
 | _ a ih =>
  intro f g d l k;obtain ⟨f,rfl⟩:∃ f',f=f'+1:=⟨f - 1,bL⟩;obtain ⟨g,rfl⟩:∃ g',g=g'+1:=⟨g - 1,bL⟩;unfold oJ;split
  .rfl
  .rename_i n hn;have:=d a n (aT _) hn;congr 1;split
   .exact ih n.I.toNat bL f g (λj m i e=>d j m bL e) bL bL
   .rfl
theorem FZ (t:Types)(l:t.ok):∀ a,a<t.i.length->parentsOK t.i a->Own prog 170 [t.d,dI a] 107 4 ((t.w a).map Attr.c):=by
 intro a;induction a using Nat.strongRecOn with
 | _ a ih =>
  intro g q;have A:=q a _ (aT _) (aA g);have v:=vH t.i (λn r=>(l.i n r).bi) (a+1) a;have w:=l.bh;have B:=(l.i _ (aC g)).bi;refine DL (Tz.cK ⟨λt=>t==5,λ_=>[]⟩ func170 rfl ?_);simp [go_sem,seval,dI,Types.d,Types.c,NodeTy.c,g];refine aU (λh=>?_) (λh=>?_)
  .have o:0<=t.i[a].I:=by simpa using h
   have k:t.i[a].I.toNat<a:=bL;have u:=ih _ k bL (λj m E s=>q j m bL s);rw [Int.toNat_of_nonneg o] at u;have e:t.w a=t.w t.i[a].I.toNat++t.i[a].w:=by
    have:=GJ t.i t.i[a].I.toNat a (t.i[a].I.toNat+1) (λj m E s=>q j m bL s) k bL;simp [Types.w,oJ,aA g,o,this]
   have f:=vH t.i (λn r=>(l.i n r).bi) (t.i[a].I.toNat+1) t.i[a].I.toNat
   have C:(t.w t.i[a].I.toNat).length<=2000000:=by
    have:(t.w t.i[a].I.toNat).length<=1000 * (t.i[a].I.toNat+1):=f;omega
   simp [go_sem,seval,dI,Types.d,Types.c] at u ⊢;refine mT u (by simp [D.N,D.U,dL _ NodeTy.U,dL _ EdgeTy.U]) ?_;simp [go_sem,seval,dI,NodeTy.c,g,e];exact ⟨⟨bL,λx _ y p=>Attr.cells x y p⟩,by rw [<- List.map_append];exact vF _⟩
  .have o:¬ 0<=t.i[a].I:=by simpa using h
   have e:t.w a=t.i[a].w:=by simp [Types.w,oJ,aA g,o]
   simp [go_sem,seval,dI,NodeTy.c,g,e,vF];exact ⟨bL,λx _ y p=>Attr.cells x y p⟩
end Go.Abs
end
