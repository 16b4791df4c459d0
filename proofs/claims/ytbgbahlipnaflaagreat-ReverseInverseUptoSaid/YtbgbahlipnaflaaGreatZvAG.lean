/- The abstraction layer: callees that turn one borrowed slice  -/
import Derived.Test.YtbgbahlipnaflaaGreatZvAF
import Derived.Test.YtbgbahlipnaflaaGreatZvAA
import Derived.Test.YtbgbahlipnaflaaGreatProg
import Derived.Laws.Externs
import Derived.WalkKit
set_option linter.unusedVariables false
set_option linter.unusedSimpArgs false
section
namespace Go.Abs
def ren (id:Nat):D->D
 | .own 0 n=>.own id n
 | d=>d
section
variable {P:Program} {M0:Nat→Prop} {H:AHeap} {σ:Nat→Option Ow} {w:World}
theorem Zm (id n:Nat):ren id (.own 0 n)=.own id n:=rfl
theorem VX (k:Blk):(AHeap.as.push 0 k).get 0=some k:=rfl
theorem aa3 {f:FuncId}{args:UN}{k S:Blk}{r:D}{q:Nat}{Q:D->AHeap->Prop}
  (h:ACalls P f args (AHeap.as.push 0 k) λd H'=>pF H' d=r/\r.Q=true/\0∉Fh d/\H'.get 0=some S)
  (L:∀ d∈args,d.Q=true\/d=.own 0 k.P.length) (hk:k.fz=false) (b4:S.fz=false) (b8:D.R k.P=true) (b6:∀ d∈S.P.flatten,d.bf=true) (hg:H.get q=some k) (hQ:Q r (H.put q S)) :
  ACalls P f (args.map (ren q)) H Q:=by
 refine ⟨h.1,λM0 σ w vals hR ha=>?_⟩;obtain ⟨o,T,l⟩:=hR.am q k hg;obtain ⟨xs,a1,a9,a2⟩:=l.row;obtain ⟨σ0,Y⟩:∃ s:Nat->Option Ow,s=λi=>if i=0 then some o else none:=⟨_,rfl⟩
 obtain ⟨M1,y⟩:∃ m:Nat->Prop,m=λb=>dV M0 H σ b/\o.block≠some b:=⟨_,rfl⟩;have s0:σ0 0=some o:=by rw [Y];rfl
 have R:∀ i B,σ0 i=some B->i=0/\B=o:=λi B a=>by
  grind
 have g0:∀ i C,(AHeap.as.push 0 k).get i=some C->i=0/\C=k:=λi C a=>by
  by_cases z:i=0
  .subst z;rw [VX] at a;exact ⟨rfl,(Option.some.inj a).symm⟩
  .simp [AHeap.push,AHeap.as,z] at a
 have c2:∀ b,o.block=some b->dV M0 H σ b:=λb hb=>.inr ⟨q,k,o,hg,hk,T,hb⟩;have E:∀ b,dV M1 (AHeap.as.push 0 k) σ0 b->dV M0 H σ b:=by
  rintro b (hb|⟨i,C,o1,x,hf,n,hb⟩)
  .rw [y] at hb;exact hb.1
  grind
 have b9:∀ {es:UE},D.R es=true->D.L es.flatten=true:=λ {es} hc=>EO λd K=>by
  obtain ⟨c,b7,a8⟩:=j6.1 K;exact kK (sD hc c b7) d a8
 have c1:Rel M1 (AHeap.as.push 0 k) σ0 w:=by
  refine ⟨λi a=>?_,λi a=>?_,λi C x=>?_,λi j oi oj b a U hbi hbj=>?_,λi oi b a hbi=>?_,λb hb=>?_⟩
  .have z:i≠0:=λe=>a (.inl e);exact ⟨by rw [Y];simp [z],by simp [AHeap.push,AHeap.as,z]⟩
  .rcases a with a|a
   .subst a;simp [AHeap.push,AHeap.as]
   .exact a.elim
  .obtain ⟨z,N⟩:=g0 i C x;subst z;subst N;exact ⟨o,s0,l.ah,l.ty,l.Y,l.H,xs,a1,a9,iU (λb hb hb'=>hb (E b hb')) a2 (b9 b8)⟩
  .rw [(R i oi a).1,(R j oj U).1]
  .obtain ⟨_,rfl⟩:=R i oi a;exact ⟨(hR.lt q oi b T hbi).1,λhb=>by rw [y] at hb;exact hb.2 hbi⟩
  .rw [y] at hb;exact w4 hR b hb.1
 have c0:RepL (dV M1 (AHeap.as.push 0 k) σ0) σ0 (AHeap.as.push 0 k).F w vals args:=by
  refine ⟨by simpa using ha.len,λj u d F K=>?_⟩;have U:=ha.Z j u (ren q d) F (by rw [aN,K];rfl);rcases L d (aL K) with hc|rfl
  .have a3:ren q d=d:=by cases d<;>first|rfl|(simp [D.Q] at hc)
   rw [a3] at U;exact U.bt (λad u hm F=>⟨λhm'=>hm (E _ hm'),F⟩) hc
  .rw [Zm] at U;cases U
   rename_i N hN hv;exact .own u _ _ (.inl rfl) (by first|exact N|exact hN) λo1 n=>by
    obtain ⟨_,rfl⟩:=R 0 o1 n;exact hv o1 T
 refine (h.2 M1 σ0 w vals c1 c0).mono λe w' ⟨v,d,H',σ',he,M,hv,p,b3,hr,a4,b0,J⟩=>?_;obtain ⟨B,I,W⟩:=M.am 0 S J;obtain ⟨a7,G,Z,t⟩:=W.row;obtain ⟨o2,a5,b2⟩:=b3.own 0 B (.inl rfl) I;rw [s0] at a5;cases a5
 have b5:w.grownBy w' o.block:=⟨p.os,p.tape,p.output,p.size,λb hb hne=>p.bx b hb λi o1 a=>by
  obtain ⟨_,rfl⟩:=R i o1 a;exact λhb'=>hne (by first|simpa using hb'|exact hb'.symm|exact hb')⟩
 have a6:∀ b,B.block=some b->o.block=some b\/w.heap.size<=b:=λb hb=>by
  rcases p.new 0 B b I hb with N|⟨j1,o1,N,h2⟩
  .exact .inr N
  .obtain ⟨_,rfl⟩:=R j1 o1 N;exact .inl h2
 obtain ⟨p1,p2,p3⟩:=Rel.put hR hg hk T S B b5 a6 b2 W.ah W.ty W.Y W.H a7 G Z
  ⟨t.len,λj u d F K=>Bc (t.Z j u d F K) (b6 d (aL K))⟩
 have a0:=vW M hv (Fh d) λi a=>a;rw [hr] at a0;obtain ⟨_,_,_,f4⟩:=gP (Fh d) M;refine ⟨v,r,_,_,he,p1,a0.bt (λad u hm F=>⟨λhm'=>hm ?_,F⟩) a4,p2,p3,hQ⟩;rcases hm' with z|⟨i,C,o1,x,hf,n,hb⟩
 .left
  rw [y];exact ⟨.inl z,λhb=>(hR.lt q o _ T hb).2 z⟩
 .by_cases a:i=q
  .simp only [a,if_true,bI] at n;subst n
   right
   obtain ⟨O,c3⟩:=f4 0;rw [J] at O;cases hq:(gC (Fh d) H').get 0 with
   | none=>rw [hq] at O;cases O
   | some kq =>
    refine ⟨0,kq,B,hq,?_,I,hb⟩;rw [CW _ _ 0 b0,J] at hq;cases hq
    exact b4
  .simp only [a,if_false] at n;simp only [AHeap.put,a,if_false] at x
   left
   rw [y];exact ⟨.inr ⟨i,C,o1,x,hf,n,hb⟩,λhb'=>a (hR.inj i q o1 o _ n T hb hb')⟩
end
section
variable {P:Program} {M0:Nat→Prop} {H:AHeap} {σ:Nat→Option Ow} {w:World}
end
section
variable {P:Program} {md:Nat→Bool} {ops:Array Oper} {sp:List (Nat × Nat)} {n0 i:Nat} {rest:List Oper} {acc:List (Nat × List Nat)} {e:eF} {dst:Option Tmp} {K:eF→AHeap→Prop} {f:FuncId} {args args':UN} {H:AHeap}
end
theorem LZ {P:Program}{f:FuncId}{args:UN}{H H':AHeap}{Q:D->AHeap->Prop}(hg:Ghosts H H')(h:ACalls P f args H' Q):ACalls P f args H Q :=
 ⟨h.1,λM0 σ w vals hR ha=>by
  obtain ⟨σ1,g1,g2,g3⟩:=Eh hg hR;exact (h.2 M0 σ1 w vals g1 (ha.q g3)).mono λe w' ⟨v,d,H1,σ2,he,h1,hv,hs,hk,hq⟩=>⟨v,d,H1,σ2,he,h1,hv,g2.trans hs,g3.trans hk,hq⟩⟩
theorem zR {P:Program}{md:Nat->Bool}{ops:Array Oper}{a:List Oper}{e:eF}{b:Option Tmp}{K:eF->AHeap->Prop}{f:FuncId}{args:UN}{H H':AHeap}(c:Ghosts H H')(h:fT P md ops a e b K f args H'):fT P md ops a e b K f args H:=by grind [fT, LZ]
end Go.Abs
end
section
namespace Go.Abs
mutual
def mK:D->D
 | .nil=>.list []
 | .agg cs=>.agg (iI cs)
 | .tup cs=>.tup (iI cs)
 | .list es=>.list (eW es)
 | d=>d
def iI:UN->UN
 | []=>[]
 | d :: l=>mK d :: iI l
def eW:UE->UE
 | []=>[]
 | c :: l=>iI c :: eW l
end
theorem DY (l:UN):iI l=l.map mK:=by
 induction l with
 | nil=>rfl
 | cons a l ih=>simp [iI,ih]
theorem xY (l:UE):eW l=l.map iI:=by
 induction l with
 | nil=>rfl
 | cons a l ih=>simp [eW,ih]
theorem Jj (l:UE):(eW l).flatten=l.flatten.map mK:=by
 induction l with
 | nil=>rfl
 | cons a l b=>simp only [eW,fJ,b,List.map_append,DY]
theorem Uu {M:Nat->Prop}{σ:Nat->Option Ow}{N:Nat->Prop}{w:World}{v:Value}{d:D}(h:RepV M σ N w v d):RepV M σ N w v (mK d):=by
 have b:∀ {vs:List Value} {ds:UN},(∀ (j:Nat) (u:Value) (d:D),vs[j]?=some u->ds[j]?=some d->RepV M σ N w u (mK d)) ->
   ∀ (j:Nat) (u:Value) (d:D),vs[j]?=some u->(ds.map mK)[j]?=some d->RepV M σ N w u d:=by
  grind
 induction h with
 | int=>simp only [mK];exact .int _ _
 | bool=>simp only [mK];exact .bool _
 | str=>simp only [mK];exact .str _
 | agg vs ds hl h1 _ ih =>
  simp only [mK,DY];exact .agg vs _ (iw hl) h1 (b ih)
 | tup vs ds hl _ ih =>
  simp only [mK,DY];exact .tup vs _ (iw hl) (b ih)
 | nil=>simp only [mK];exact .listN
 | listN=>simp only [mK,eW];exact .listN
 | list ad cap sz xs es hc hm' hsz hl h1 hcell _ ih =>
  have a:(eW es).length=es.length:=by rw [xY,aR]
  have:=RepV.list (M:=M) (σ:=σ) (N:=N) (w:=w) ad cap sz xs (eW es) (by rw [a];exact hc) hm' (λc hc'=>by
   rw [xY,aT] at hc';obtain ⟨y,e,rfl⟩:=hc';rw [DY,aR];exact hsz y e) (by rw [Jj,aR];exact hl) h1 hcell (by rw [Jj];exact b ih)
  rwa [a] at this
 | adr ad xs ds hl h1 hcell hr ih=>simp only [mK];exact .adr ad xs ds hl h1 hcell hr
 | ne ad cap b=>simp only [mK];exact .ne ad cap b
 | nilp=>simp only [mK];exact .nilp
 | ptr v id ver i off hN h1 h=>simp only [mK];exact .ptr v id ver i off hN h1 h
 | own v id n hN h1 h=>simp only [mK];exact .own v id n hN h1 h
 | win v id ver lo hi hN h1 hlh h=>simp only [mK];exact .win v id ver lo hi hN h1 hlh h
 | fn f vs ds hl hr ih=>simp only [mK];exact .fn f vs ds hl hr
 | nilf=>simp only [mK];exact .nilf
 | opt v g d hf h ih=>simp only [mK];exact .opt v g d hf h
 | cst v=>simp only [mK];exact .cst v
 | junk v=>simp only [mK];exact .junk v
theorem qP {P:Program}{f:FuncId}{args:UN}{r:D}(b:r.Q=true)(h:∀ Q:D->AHeap->Prop,(∀ d H',mK (pF H' d)=r->Q d H')->ACalls P f args .as Q):Pure P f args r:=by
 have h:=h (λd H'=>mK (pF H' d)=r) λ_ _ h=>h;refine ⟨h.1,λM w vals hM ha=>(h.2 M jG w vals (HB M w hM) (by rw [HF];exact ha)).mono λe w' ⟨v,d,H',σ',g,k,c,a,n,m⟩=>⟨v,g,?_,Bs a⟩⟩;have l:RepV (dV M (gC (Fh d) H') σ') σ' (gC (Fh d) H').F w' v r:=by
  have o:=Uu (vW k c (Fh d) λi hi=>hi);grind
 exact l.bt (λad u hm j=>⟨λh=>hm (.inl h),j⟩) b
attribute [go_sem] mK iI eW
end Go.Abs
end
section
namespace Go.Abs
def Dx (H:AHeap)(d:D):D :=
 match d with
 | .ptr id ver i off=>match gI H (.ptr id ver i off) with
  | some (c :: cs)=>.adr ((c :: cs).map (f5 H))
  | _=>.ptr id ver i off
 | d=>jN H d
def Ee (H:AHeap)(d:D):List Nat :=
 match d with
 | .ptr id ver i off=>id :: (match gI H (.ptr id ver i off) with|some cs=>cs.flatMap mM|none=>[])
 | d=>eJ d
section
variable {P:Program} {M0:Nat→Prop} {H:AHeap} {σ:Nat→Option Ow} {w:World}
theorem PS {v:Value}{d:D}(G:Rel M0 H σ w)(g:RepV (dV M0 H σ) σ H.F w v d)(a:List Nat)(m:∀ i∈Ee H d,i∈a) :
  RepV (dV M0 (gC a H) σ) σ (gC a H).F w v (Dx H d):=by
 obtain ⟨A,J,N,z⟩:=gP a G;have b:=g.q J;have h:∀ i∈a,∀ k,(gC a H).get i=some k->k.fz=true:=λi m k hk=>by
  have s:=(z i).1;rw [hk] at s;cases o:H.get i with
  | none=>rw [o] at s;cases s
  | some k0 =>
   grind
 cases d with
 | ptr id ver i off =>
  have n:=Ez (λi=>(z i).1) (.ptr id ver i off);simp only [Dx];cases F:gI H (.ptr id ver i off) with
  | none=>exact b
  | some B =>
   cases B with
   | nil=>exact b
   | cons c B =>
    rw [F] at n;have p:∀ y∈c :: B,∀ q∈mM y,q∈a:=λy l q e=>m q (by simp only [Ee,F,aW,bQ];exact .inr ⟨y,aW.1 l,e⟩);have r:id∈a:=m id (by simp only [Ee];exact gG ..);obtain ⟨O,L,M,C,E,t⟩:=sI A b n aE;have I:=AI A b λq e k hk=>h q (by simp only [ZI,bD] at e;subst e;exact r) k hk;simp only [G4,n] at I;cases I with
    | adr ad' xs' ds hl' hone' hcell' hrep' =>
     refine .adr ad' xs' _ (bY hl') hone' hcell' λj u x hu g=>?_;rw [aN,bV] at g;obtain ⟨y,l,rfl⟩:=g;rw [<- rQ (λi=>(z i).1) y];exact n6 A (hrep' j u y hu l) λq e k hk=>h q (p y (aL l) q e) k hk
 | _=>exact n5 G g a m
theorem VF {vals:List Value}{args:UN}(hR:Rel M0 H σ w)(ha:RepL (dV M0 H σ) σ H.F w vals args)(ids:List Nat)(hi:∀ i∈args.flatMap (Ee H),i∈ids) :
  RepL (dV M0 (gC ids H) σ) σ (gC ids H).F w vals (args.map (Dx H)) :=
 ⟨by simpa using ha.len,λj u d hu hd=>by
  rw [aN,bV] at hd;obtain ⟨y,hy,rfl⟩:=hd;exact PS hR (ha.Z j u y hu hy) ids λi hii=>hi i (bQ.2 ⟨y,aL hy,hii⟩)⟩
theorem EP {f:FuncId}{args:UN}{r:D}{Q:D->AHeap->Prop}(c:Pure P f (args.map (Dx H)) r)(b:D.L (args.map (Dx H))=true)(g:r.bf=true)(k:Q r H):ACalls P f args H Q:=by
 refine ⟨c.1,λM0 σ w vals hR ha=>?_⟩;obtain ⟨o,s,q,p⟩:=gP (args.flatMap (Ee H)) hR;refine (c.2 (dV M0 (gC (args.flatMap (Ee H)) H) σ) w vals (w4 o) (iU (λ_ h=>h) (VF hR ha _ λi h=>h) b)).mono λe w' ⟨v,j,d,a⟩=>?_;obtain ⟨n,m,l⟩:=hR.grow a.os a.tape a.output a.size a.block;exact ⟨v,r,H,σ,j,n,Bc d g,m,l,k⟩
theorem GI {md:Nat->Bool}{ops:Array Oper}{a:List Oper}{e:eF}{b:Option Tmp}{K:eF->AHeap->Prop}{f:FuncId}{args args':UN}{r:D}(d:Pure P f args' r)(i:args.map (Dx H)=args')(c:D.L args'=true)(g:r.bf=true)
 (h:oU P md ops a (oV e b r) H K):fT P md ops a e b K f args H:=by grind [fT, EP]
theorem Uf {H:AHeap}{d:D}(h:∀ a b c e,d≠.ptr a b c e):Dx H d=jN H d:=by cases d<;>first|rfl|exact absurd rfl (h _ _ _ _)
theorem ZH {H:AHeap}{d:D}(h:∀ a b c e,d≠.ptr a b c e):Ee H d=eJ d:=by cases d<;>first|rfl|exact absurd rfl (h _ _ _ _)
theorem SO {S:List Nat}{H H':AHeap}{d:D}(l:gU S H' H)(j:∀ x∈Ee H d,x∈S):Dx H' d=Dx H d:=by
 by_cases k:∀ a b c e,d≠.ptr a b c e
 .rw [Uf k,Uf k];rw [ZH k] at j;exact ID l j
 .obtain ⟨h,f,i,g,rfl⟩:∃ a b c e,d=.ptr a b c e:=by
   grind
  have r:=l h (j h (by simp only [Ee];exact gG ..));have p:gI H' (.ptr h f i g)=gI H (.ptr h f i g):=by simp only [gI,r]
  simp only [Dx,p];cases q:gI H (.ptr h f i g) with
  | none=>rfl
  | some n =>
   cases n with
   | nil=>rfl
   | cons c n =>
    simp only;congr 1;exact b8 λy hy=>y5 l λx o=>j x (by simp only [Ee,q,aW,bQ];exact .inr ⟨y,aW.1 hy,o⟩)
theorem w9 {md:Nat->Bool}{ops:Array Oper}{g:List (Nat × Nat)}{k i:Nat}{a:List Oper}{b:List (Nat × List Nat)}{e:eF}{c:Option Tmp}{K:eF->AHeap->Prop}{f:FuncId}{args args':UN}{H:AHeap}{r:D}{t:Bool}
  (n:t=true->Pure P f args' r) (s:args.map (Dx H)=args') (j:t=true->D.L args'=true) (p:t=true->r.bf=true) {S:List Nat} (u:args.flatMap (Ee H)=S) (q:chk g i S b)
  (h:lG P md ops g k (i+1) a ((i,S) :: b) (oV e c (.opt t r)) H K):wP P md ops g k i a b e c K t f args H:=by
 subst s u;unfold wP;refine ⟨r,_,λht H' hag=>?_,q,h⟩;have l:args.map (Dx H')=args.map (Dx H):=b8 λd o=>SO hag λx m=>bQ.2 ⟨d,o,m⟩;exact EP (by rw [l];exact n ht) (by rw [l];exact j ht) (p ht) ⟨rfl,rfl⟩
end
attribute [go_sem] Ee
end Go.Abs
end
section
namespace Go.Abs
def rJ (H:AHeap)(d:D):D :=
 match d with
 | .own id n=>match H.get id with
  | some k=>if k.P.length=n then .list (k.P.map (·.map (f5 H))) else .own id n
  | none=>.own id n
 | d=>f5 H d
def OH (H:AHeap)(d:D):List Nat :=
 match d with
 | .own id n=>id :: (match H.get id with|some k=>k.P.flatten.flatMap mM|none=>[])
 | d=>mM d
def lB (H:AHeap):D->D
 | .agg cs=>.agg (cs.map (rJ H))
 | d=>rJ H d
def JR (H:AHeap):D->List Nat
 | .agg cs=>cs.flatMap (OH H)
 | d=>OH H d
def jR (H:AHeap):D->D
 | .tup vs=>.tup (vs.map (lB H))
 | d=>lB H d
def Cr (H:AHeap):D->List Nat
 | .tup vs=>vs.flatMap (JR H)
 | d=>JR H d
section
variable {P:Program} {M0:Nat→Prop} {H:AHeap} {σ:Nat→Option Ow} {w:World}
theorem RepV.ez {M:Nat->Prop}{N:Nat->Prop}{v:Value}{es:UE}{f:D->D}(h:RepV M σ N w v (.list es))(e:∀ y∈es.flatten,∀ u,RepV M σ N w u y->RepV M σ N w u (f y)) :
  RepV M σ N w v (.list (es.map (·.map f))):=by
 have a:(es.map (·.map f)).flatten=es.flatten.map f:=List.map_flatten.symm;cases h with
 | listN=>exact .listN
 | list ad cap sz xs es hc hm hsz hl h1 hcell hr =>
  have:=RepV.list (M:=M) (σ:=σ) (N:=N) (w:=w) ad cap sz xs (es.map (·.map f)) (bY hc) hm (λc hc'=>by
   rw [aT] at hc';obtain ⟨y,b,rfl⟩:=hc';rw [aR];exact hsz y b) (by rw [a,aR];exact hl) h1 hcell (λj u d hu hd=>by
   rw [a,aN,bV] at hd;obtain ⟨y,b,rfl⟩:=hd;exact e y (aL b) u (hr j u y hu b))
  grind
theorem Zi {d:D}(h:∀ a b,d≠.own a b):rJ H d=f5 H d:=by cases d<;>first|rfl|exact absurd rfl (h _ _)
theorem ZG {d:D}(h:∀ a b,d≠.own a b):OH H d=mM d:=by cases d<;>first|rfl|exact absurd rfl (h _ _)
theorem Gc {v:Value}{d:D}(B:Rel M0 H σ w)(z:RepV (dV M0 H σ) σ H.F w v d)(c:List Nat)(m:∀ i∈OH H d,i∈c) :
  RepV (dV M0 (gC c H) σ) σ (gC c H).F w v (rJ H d):=by
 obtain ⟨r,C,E,o⟩:=gP c B;have l:=z.q C;have h:∀ i∈c,∀ k,(gC c H).get i=some k->k.fz=true:=λi m k f=>by
  have q:=(o i).1;rw [f] at q;cases p:H.get i with
  | none=>rw [p] at q;cases q
  | some k0 =>
   grind
 by_cases s:∀ a b,d≠.own a b
 .rw [Zi s,<- rQ (λi=>(o i).1) d];rw [ZG s] at m;exact n6 r l λi e k f=>h i (m i e) k f
 .obtain ⟨t,n,rfl⟩:∃ a b,d=.own a b:=by
   grind
  have g:=n6 r l λi e k f=>h i (m i (by
   simp only [mM,bD] at e;subst e;simp only [OH];exact gG ..)) k f
  rw [rQ (λi=>(o i).1)] at g;simp only [rJ,f5] at g ⊢;cases f:H.get t with
  | none=>rw [f] at g;exact g
  | some k =>
   rw [f] at g;simp only at g ⊢;split
   .rename_i A;rw [if_pos A] at g;refine g.ez λy x u hu=>?_;rw [<- rQ (λi=>(o i).1) y];exact n6 r hu λi e k' hk'=>h i (m i (by
     simp only [OH,f,aW,bQ];exact .inr ⟨y,x,e⟩)) k' hk'
   grind
theorem Dw {v:Value}{d:D}(c:Rel M0 H σ w)(f:RepV (dV M0 H σ) σ H.F w v d)(a:List Nat)(g:∀ i∈JR H d,i∈a) :
  RepV (dV M0 (gC a H) σ) σ (gC a H).F w v (lB H d):=by
 cases d with
 | agg cs =>
  obtain ⟨h,m,l,k⟩:=gP a c;cases f with
  | agg vs ds hl h hr =>
   refine .agg vs _ (bY hl) h λj u x hu hd=>?_;rw [aN,bV] at hd;obtain ⟨y,e,rfl⟩:=hd;exact Gc c (hr j u y hu e) a λi b=>g i (by simp only [JR,bQ];exact ⟨y,aL e,b⟩)
 | _=>exact Gc c f a g
theorem N2 {v:Value}{d:D}(g:Rel M0 H σ w)(e:RepV (dV M0 H σ) σ H.F w v d)(a:List Nat)(f:∀ i∈Cr H d,i∈a) :
  RepV (dV M0 (gC a H) σ) σ (gC a H).F w v (jR H d):=by
 cases d with
 | tup cs =>
  cases e with
  | tup vs ds hl hr =>
   refine .tup vs _ (bY hl) λj u x hu hd=>?_;rw [aN,bV] at hd;obtain ⟨y,c,rfl⟩:=hd;exact Dw g (hr j u y hu c) a λi b=>f i (by simp only [Cr,bQ];exact ⟨y,aL c,b⟩)
 | _=>exact Dw g e a f
theorem ACalls.de {f:FuncId}{args:UN}{Q:D->AHeap->Prop}(h:ACalls P f args H λd H'=>Q (jR H' d) (gC (Cr H' d) H')):ACalls P f args H Q :=
 ⟨h.1,λM0 σ w vals hR ha=>(h.2 M0 σ w vals hR ha).mono λe w' ⟨v,d,H',σ',he,hR',hv,hst,hk,hq⟩=>by
  obtain ⟨f1,f2,_,_⟩:=gP (Cr H' d) hR';exact ⟨v,_,_,σ',he,f1,N2 hR' hv _ λ_ h=>h,hst,hk.trans f2,hq⟩⟩
end
end Go.Abs
end
section
namespace Go.Abs
theorem wa {a b:Prop}(x:a)(y:b):a/\b:=⟨x,y⟩
section
variable {P:Program} {c:Cfg} {a b:Code} {Q:Exit→eF→AHeap→Prop} {e:eF} {H:AHeap}
theorem wq {t:Bool}{A B:Prop}(h1:A->pP P c a Q e H)(h2:B->pP P c b Q e H)
 (k1:t=true->A:=by (intro h;first|(simp [go_sem] at h;exact h)|exact h)) (k2:t=false->B:=by (intro h;first|(simp [go_sem] at h;exact h)|exact h)) :
 Ae P c a b Q e H (.bool t):=bB (λh=>h1 (k1 h)) (λh=>h2 (k2 h))
theorem bA (I:Nat->eF->AHeap->Prop)(μ:Nat->Nat)(x0:Nat)(h0:I x0 e H)
  (hs:∀ J:Nat->eF->AHeap->Prop,(∀ x e H,J x e H↔I x e H)->∀ x e H,I x e H->pP P c b (tJ (AV J μ x) Q) e H):z8 P c b Q e H :=
 Aa I μ x0 h0 (hs I λ_ _ _=>Iff.rfl)
theorem l9 {H':AHeap}(hg:Ghosts H H')(I:Nat->eF->AHeap->Prop)(μ:Nat->Nat)(x0:Nat)(h0:I x0 e H')
  (hs:∀ J:Nat->eF->AHeap->Prop,(∀ x e H,J x e H↔I x e H)->∀ x e H,I x e H->pP P c b (tJ (AV J μ x) Q) e H):z8 P c b Q e H :=
 ab0 hg I μ x0 h0 (hs I λ_ _ _=>Iff.rfl)
theorem abZ (t id n:Nat)(k:Blk)(he:e t=.own id n)(hk:H.get id=some k)(hn:k.P.length=n)(I:Nat->eF->AHeap->Prop)(μ:Nat->Nat)(x0:Nat)(h0:I x0 (oV e (some t) (.list k.P)) (H.frz id))
  (hs:∀ J:Nat->eF->AHeap->Prop,(∀ x e H,J x e H↔I x e H)->∀ x e H,I x e H->pP P c b (tJ (AV J μ x) Q) e H):z8 P c b Q e H :=
 XV t id n k he hk hn I μ x0 h0 (hs I λ_ _ _=>Iff.rfl)
end
section
variable {p q:Prop}
structure Wh (q:Prop):Prop where
 h:q
theorem wv (k:q->p:=by (intro h;first|(simp [go_sem,seval,Y];exact h)|exact h))(h:q):p:=k h
theorem j4 (k:q->p:=by (intro h;first|(simp -implicitDefEqProofs [go_sem,seval,Y];exact h)|exact h))(h:q):p:=k h
theorem wo (k:Wh q->p:=by (intro h;(try simp [go_sem,seval,Y]);(repeat first|intro _|refine ⟨iS,?_⟩);exact h.1))(h:q):p:=k ⟨h⟩
theorem wp (k:Wh q->p:=by (intro h;(try simp [go_sem,seval,Y]);(repeat first|intro _|refine ⟨fK,?_⟩);exact h.1))(h:q):p:=k ⟨h⟩
theorem won (k:Wh q->p:=by (intro h;(try simp -implicitDefEqProofs [go_sem,seval,Y]);(repeat first|intro _|refine ⟨iS,?_⟩);exact h.1))(h:q):p:=k ⟨h⟩
theorem rL (k:Wh q->p:=by (intro h;(try simp -implicitDefEqProofs [go_sem,seval,Y]);(repeat first|intro _|refine ⟨fK,?_⟩);exact h.1))(h:q):p:=k ⟨h⟩
theorem wl (h:p:=by first|rfl|(simp [go_sem,<- List.map_take,<- List.map_drop,Y];done)):p:=h
theorem wr (h:p:=by simp [Lg,G4,gI,go_sem,<- List.map_take,<- List.map_drop,Y]):p:=h
theorem wrq (h:p:=by simp [Lg,G4,Dx,Ee,gI,go_sem,<- List.map_take,<- List.map_drop,Y]):p:=h
theorem wrd (h:p:=by simp [go_sem,Y]):p:=h
theorem wdq (h:p:=by simp [go_sem,Ee,gI,Y]):p:=h
theorem wz (h:p:=by (simp [go_sem,Y])<;>rfl):p:=h
theorem wn (h:p:=by first|omega|(simp [go_sem,seval,Y]<;>omega)):p:=h
theorem wg (h:p:=by and_intros<;>first|omega|(simp [go_sem,seval,Y]<;>omega)):p:=h
theorem wi (h:p:=by first|assumption|omega|(simp [go_sem,Y];done)|(simp_all;done)):p:=h
theorem wj (h:p:=by first|assumption|omega|(simp [go_sem,Y];done)|(simp_all<;>omega)):p:=h
theorem wy (h:p:=by simp [go_sem,Y]<;>first|omega|(rw [aU];simp<;>omega)|(simp_all<;>omega)):p:=h
end
section
variable {P:Program} {c:Cfg} {a b:Code} {Q:Exit→eF→AHeap→Prop} {e:eF} {H:AHeap} {p:Prop}
theorem dR {t:Bool}{A B:Prop}(h1:A->pP P c a Q e H)(h2:B->pP P c b Q e H)(k:Ae P c a b Q e H (.bool t)->p:=by (intro h;first|(simp [go_sem,seval,Y];exact h)|exact h))
 (k1:t=true->A:=by (intro h;first|(simp [go_sem] at h;exact h)|exact h)) (k2:t=false->B:=by (intro h;first|(simp [go_sem] at h;exact h)|exact h)):p:=k (bB (λh=>h1 (k1 h)) (λh=>h2 (k2 h)))
theorem eP {t:Bool}{A B:Prop}(h1:A->pP P c a Q e H)(h2:B->pP P c b Q e H)(k:Wh (Ae P c a b Q e H (.bool t))->p:=by (intro h;(try simp [go_sem,seval,Y]);(repeat first|intro _|refine ⟨iS,?_⟩);exact h.1))
 (k1:t=true->A:=by (intro h;first|(simp [go_sem] at h;exact h)|exact h)) (k2:t=false->B:=by (intro h;first|(simp [go_sem] at h;exact h)|exact h)):p:=k ⟨bB (λh=>h1 (k1 h)) (λh=>h2 (k2 h))⟩
theorem iY {t:Bool}{A B:Prop}(h1:A->pP P c a Q e H)(h2:B->pP P c b Q e H)(k:Wh (Ae P c a b Q e H (.bool t))->p:=by (intro h;(try simp [go_sem,seval,Y]);(repeat first|intro _|refine ⟨fK,?_⟩);exact h.1))
 (k1:t=true->A:=by (intro h;first|(simp [go_sem] at h;exact h)|exact h)) (k2:t=false->B:=by (intro h;first|(simp [go_sem] at h;exact h)|exact h)):p:=k ⟨bB (λh=>h1 (k1 h)) (λh=>h2 (k2 h))⟩
theorem wx {I J:Nat->eF->AHeap->Prop}{m:Nat->Nat}{x:Nat}(hJ:∀ x e H,J x e H↔I x e H)(x':Nat)(hI:I x' e H)(hm:m x'<m x:=by omega):AV J m x e H:=iO x' hm ((hJ _ _ _).2 hI)
end
end Go.Abs
end
section
set_option maxRecDepth 100000
open Go Go.Proofs Go.Abs Tryz
namespace Go.Abs
abbrev Pua:=Pure prog
end Go.Abs
namespace Go.Abs.Tz
abbrev tyA (t:Nat)(z:D):Prop:=tk prog t=.one/\zd prog t=some [z]/\(prog.info? t).isSome=true/\prog.cellsOf t=1
abbrev Hx (t:Nat):Prop:=tyA t .nil
abbrev zW (t:Nat):Prop:=tk prog t=.one/\(prog.info? t).isSome=true/\prog.cellsOf t=1
abbrev tyD (t n k s:Nat)(z:UN):Prop:=tk prog t=.agg n/\zd prog t=some z/\bk prog t=some (.ar s)/\YJ prog t=some (k,s)/\(prog.info? t).isSome=true/\prog.cellsOf t=n
abbrev Y6 (t:Nat)(k:IntKind)(z:D):Prop:=tyA t z/\Tq prog t=some k
abbrev CA (t n:Nat)(z:UN)(l:List (Nat × Nat)):Prop:=tk prog t=.agg n/\zd prog t=some z/\bk prog t=some (.st l)/\(prog.info? t).isSome=true/\prog.cellsOf t=n
abbrev Hw (t e s b:Nat)(z:UN):Prop:=sl prog t=some ⟨e,s,b,z⟩
abbrev tyJ (t n:Nat):Prop:=X1 prog t=some n
@[go_sem] theorem ty0:Y6 3 .i64 (.int .i64 0)/\tyA 4 (.bool false)/\Y6 5 .u8 (.int .u8 0)/\tyA 9 (.str ⟨#[]⟩)/\Hx 22/\Hx 23/\CA 25 2 [.nil,.nil] [(0,1),(1,1)]/\Hx 26:=by and_intros<;>rfl
@[go_sem] theorem ty8:Hx 27/\CA 29 2 [.nil,.nil] [(0,1),(1,1)]/\Hx 30/\Hx 31/\CA 33 5 [.nil,.nil,.nil,.int .i64 0,.nil] [(0,2),(2,1),(3,1),(4,1)]/\CA 35 2 [.nil,.nil] [(0,1),(1,1)]/\CA 36 2 [.nil,.nil] [(0,1),(1,1)]/\Hx 37:=by and_intros<;>rfl
@[go_sem] theorem akG:CA 39 9 [.int .i64 0,.nil,.nil,.nil,.nil,.nil,.nil,.int .i64 0,.nil] [(0,1),(1,1),(2,2),(4,5)]/\CA 41 25 [.str ⟨#[]⟩,.nil,.nil,.nil,.int .i64 0,.nil,.nil,.nil,.nil,.int .i64 0,.nil,.nil,.nil,.nil,.nil,.bool false,.int .i64 0,.nil,.nil,.nil,.nil,.nil,.nil,.int .i64 0,.nil] [(0,1),(1,5),(6,5),(11,2),(13,2),(15,1),(16,9)]/\Hx 42/\CA 44 3 [.nil,.nil,.nil] [(0,2),(2,1)]/\Y6 47 .i64 (.int .i64 0)/\zW 48/\Hx 50/\zW 51:=by and_intros<;>rfl
@[go_sem] theorem akF:CA 55 3 [.nil,.nil,.nil] [(0,2),(2,1)]/\CA 57 38 [.str ⟨#[]⟩,.nil,.nil,.nil,.int .i64 0,.nil,.nil,.nil,.nil,.int .i64 0,.nil,.nil,.nil,.nil,.nil,.bool false,.int .i64 0,.nil,.nil,.nil,.nil,.nil,.nil,.int .i64 0,.nil,.nil,.nil,.nil,.nil,.nil,.nil,.nil,.nil,.nil,.nil,.nil,.nil,.nil] [(0,25),(25,3),(28,3),(31,3),(34,2),(36,2)]/\zW 59/\Hx 61/\Hx 62/\Hx 63/\CA 65 2 [.nil,.nil] [(0,1),(1,1)]/\Hx 66:=by and_intros<;>rfl
@[go_sem] theorem akE:CA 68 4 [.nil,.nil,.nil,.nil] [(0,2),(2,1),(3,1)]/\Y6 69 .u64 (.int .u64 0)/\tyD 70 4 4 1 [.int .u8 0,.int .u8 0,.int .u8 0,.int .u8 0]/\CA 72 15 [.nil,.nil,.nil,.nil,.int .u64 0,.nil,.nil,.nil,.bool false,.bool false,.int .u8 0,.int .u8 0,.int .u8 0,.int .u8 0,.nil] [(0,4),(4,1),(5,1),(6,1),(7,1),(8,1),(9,1),(10,4),(14,1)]/\CA 74 2 [.nil,.nil] [(0,1),(1,1)]/\CA 76 19 [.nil,.nil,.nil,.nil,.nil,.nil,.int .u64 0,.nil,.nil,.nil,.bool false,.bool false,.int .u8 0,.int .u8 0,.int .u8 0,.int .u8 0,.nil,.nil,.nil] [(0,1),(1,1),(2,15),(17,2)]/\CA 78 35 [.nil,.nil,.nil,.nil,.nil,.nil,.int .u64 0,.nil,.nil,.nil,.bool false,.bool false,.int .u8 0,.int .u8 0,.int .u8 0,.int .u8 0,.nil,.nil,.nil,.nil,.nil,.nil,.nil,.int .u64 0,.nil,.nil,.nil,.bool false,.bool false,.int .u8 0,.int .u8 0,.int .u8 0,.int .u8 0,.nil,.nil] [(0,19),(19,15),(34,1)]/\zW 79:=by and_intros<;>rfl
@[go_sem] theorem akD:zW 81/\Hx 83/\zW 84/\Hx 86/\CA 88 4 [.str ⟨#[]⟩,.int .i64 0,.int .i64 0,.nil] [(0,1),(1,1),(2,1),(3,1)]/\tyA 90 .nilf/\zW 93/\zW 96:=by and_intros<;>rfl
@[go_sem] theorem akC:CA 100 2 [.int .i64 0,.int .i64 0] [(0,1),(1,1)]/\CA 102 4 [.int .i64 0,.int .i64 0,.int .i64 0,.int .i64 0] [(0,1),(1,1),(2,2)]/\zW 110/\Hx 117/\zW 118/\zW 122/\zW 126/\zW 128:=by and_intros<;>rfl
@[go_sem] theorem akB:zW 131/\Hx 136/\CA 141 4 [.str ⟨#[]⟩,.int .i64 0,.bool false,.nil] [(0,1),(1,1),(2,1),(3,1)]/\CA 143 7 [.str ⟨#[]⟩,.int .i64 0,.int .i64 0,.int .i64 0,.int .i64 0,.int .i64 0,.int .i64 0] [(0,1),(1,1),(2,1),(3,1),(4,1),(5,1),(6,1)]/\CA 145 3 [.int .i64 0,.int .i64 0,.int .i64 0] [(0,1),(1,1),(2,1)]/\tyA 150 .nilf/\tyA 154 .nilf/\zW 167:=by and_intros<;>rfl
@[go_sem] theorem akA:zW 169/\zW 175/\zW 186/\zW 190/\tyA 209 .nilf/\Hx 213/\zW 214/\zW 216:=by and_intros<;>rfl
@[go_sem] theorem aj9:zW 221/\tyA 226 .nilp/\tyA 237 .nilf/\tyD 241 2 2 1 [.int .u8 0,.int .u8 0]/\tyD 243 3 3 1 [.int .u8 0,.int .u8 0,.int .u8 0]/\Hx 245/\tyD 246 2 2 1 [.int .i64 0,.int .i64 0]/\CA 248 5 [.int .i64 0,.int .i64 0,.int .i64 0,.int .i64 0,.int .i64 0] [(0,1),(1,2),(3,2)]:=by and_intros<;>rfl
@[go_sem] theorem aj8:Y6 250 .i8 (.int .i8 0)/\tyD 251 4 4 1 [.int .i8 0,.int .i8 0,.int .i8 0,.int .i8 0]/\Hx 252/\CA 259 3 [.int .i64 0,.str ⟨#[]⟩,.int .i64 0] [(0,1),(1,1),(2,1)]/\zW 261/\zW 269/\tyA 275 .nilf/\tyA 278 .nilf:=by and_intros<;>rfl
@[go_sem] theorem aj7:Y6 284 .u64 (.int .u64 0)/\CA 290 8 [.nil,.nil,.nil,.nil,.nil,.nil,.nil,.nil] [(0,2),(2,2),(4,2),(6,2)]/\Hx 292/\zW 293/\Hx 297/\CA 299 5 [.int .i64 0,.nil,.nil,.nil,.nil] [(0,1),(1,3),(4,1)]/\zW 300/\zW 302:=by and_intros<;>rfl
@[go_sem] theorem aj6:zW 305/\zW 306/\CA 309 2 [.int .i64 0,.int .i64 0] [(0,1),(1,1)]/\zW 324/\zW 327/\tyA 331 .nilf/\tyA 334 .nilf/\Y6 339 .i64 (.int .i64 0):=by and_intros<;>rfl
@[go_sem] theorem ajW:zW 340/\Y6 346 .u32 (.int .u32 0)/\Hx 348/\zW 349/\tyA 351 .nilf/\zW 352/\Hx 355/\CA 359 6 [.nil,.nil,.nil,.nil,.nil,.bool false] [(0,2),(2,3),(5,1)]:=by and_intros<;>rfl
@[go_sem] theorem ajV:zW 361/\tyA 363 .nilp/\CA 365 11 [.nil,.nil,.nil,.nil,.nil,.nil,.nil,.nil,.bool false,.int .i64 0,.nil] [(0,2),(2,2),(4,2),(6,2),(8,1),(9,1),(10,1)]/\CA 368 2 [.int .i64 0,.int .i64 0] [(0,1),(1,1)]/\tyA 371 .nilf/\zW 376/\tyA 383 .nilf/\Y6 385 .u64 (.int .u64 0):=by and_intros<;>rfl
@[go_sem] theorem ajU:tyA 389 .nilp/\tyA 391 .nilp/\CA 393 12 [.nil,.nil,.nil,.nil,.nil,.nil,.nil,.bool false,.int .i64 0,.nil,.nil,.nil] [(0,2),(2,2),(4,1),(5,2),(7,1),(8,1),(9,1),(10,1),(11,1)]/\zW 394/\tyA 399 .nilf/\zW 402/\tyA 414 .nilp:=by and_intros<;>rfl
@[go_sem] theorem aj4:Hw 22 141 4 56 [.str ⟨#[]⟩,.int .i64 0,.bool false,.nil]/\Hw 23 143 7 64 [.str ⟨#[]⟩,.int .i64 0,.int .i64 0,.int .i64 0,.int .i64 0,.int .i64 0,.int .i64 0]/\Hw 26 3 1 8 [.int .i64 0]/\Hw 27 145 3 24 [.int .i64 0,.int .i64 0,.int .i64 0]/\Hw 30 102 4 32 [.int .i64 0,.int .i64 0,.int .i64 0,.int .i64 0]/\Hw 31 248 5 40 [.int .i64 0,.int .i64 0,.int .i64 0,.int .i64 0,.int .i64 0]/\Hw 37 39 9 184 [.int .i64 0,.nil,.nil,.nil,.nil,.nil,.nil,.int .i64 0,.nil]/\Hw 42 26 1 24 [.nil]/\Hw 50 57 38 824 [.str ⟨#[]⟩,.nil,.nil,.nil,.int .i64 0,.nil,.nil,.nil,.nil,.int .i64 0,.nil,.nil,.nil,.nil,.nil,.bool false,.int .i64 0,.nil,.nil,.nil,.nil,.nil,.nil,.int .i64 0,.nil,.nil,.nil,.nil,.nil,.nil,.nil,.nil,.nil,.nil,.nil,.nil,.nil,.nil]/\Hw 61 241 2 2 [.int .u8 0,.int .u8 0]/\Hw 62 5 1 1 [.int .u8 0]/\Hw 63 243 3 3 [.int .u8 0,.int .u8 0,.int .u8 0]:=by and_intros<;>rfl
@[go_sem] theorem ajT:Hw 66 251 4 4 [.int .i8 0,.int .i8 0,.int .i8 0,.int .i8 0]/\Hw 83 88 4 56 [.str ⟨#[]⟩,.int .i64 0,.int .i64 0,.nil]/\Hw 86 9 1 16 [.str ⟨#[]⟩]/\Hw 117 55 3 72 [.nil,.nil,.nil]/\Hw 136 41 25 512 [.str ⟨#[]⟩,.nil,.nil,.nil,.int .i64 0,.nil,.nil,.nil,.nil,.int .i64 0,.nil,.nil,.nil,.nil,.nil,.bool false,.int .i64 0,.nil,.nil,.nil,.nil,.nil,.nil,.int .i64 0,.nil]/\Hw 213 36 2 48 [.nil,.nil]/\Hw 245 246 2 16 [.int .i64 0,.int .i64 0]/\Hw 252 4 1 1 [.bool false]/\Hw 292 368 2 16 [.int .i64 0,.int .i64 0]/\Hw 297 299 5 104 [.int .i64 0,.nil,.nil,.nil,.nil]/\Hw 348 29 2 48 [.nil,.nil]/\Hw 355 252 1 24 [.nil]:=by and_intros<;>rfl
@[go_sem] theorem aj5:tyJ 100 2/\tyJ 102 4/\tyJ 145 3/\tyJ 248 5/\tyJ 309 2/\tyJ 368 2:=by and_intros<;>(show _=_;kernel_rfl)
attribute [go_sem] underlying3 underlying4 underlying5 underlying9 underlying22 underlying23 underlying25 underlying26 underlying27 underlying29 underlying30 underlying31 underlying33 underlying35 underlying36 underlying37 underlying39 underlying41 underlying42 underlying44
attribute [go_sem] underlying47 underlying48 underlying50 underlying51 underlying55 underlying57 underlying59 underlying61 underlying62 underlying63 underlying65 underlying66 underlying68 underlying69 underlying70 underlying72 underlying74 underlying76 underlying78 underlying79
attribute [go_sem] underlying81 underlying83 underlying84 underlying86 underlying88 underlying90 underlying93 underlying96 underlying100 underlying102 underlying110 underlying117 underlying118 underlying122 underlying126 underlying128 underlying131 underlying136 underlying141 underlying143
attribute [go_sem] underlying145 underlying150 underlying154 underlying167 underlying169 underlying175 underlying186 underlying190 underlying209 underlying213 underlying214 underlying216 underlying221 underlying226 underlying237 underlying241 underlying243 underlying245 underlying246 underlying248
attribute [go_sem] underlying250 underlying251 underlying252 underlying259 underlying261 underlying269 underlying275 underlying278 underlying284 underlying290 underlying292 underlying293 underlying297 underlying299 underlying300 underlying302 underlying305 underlying306 underlying309 underlying324
attribute [go_sem] underlying327 underlying331 underlying334 underlying339 underlying340 underlying346 underlying348 underlying349 underlying351 underlying352 underlying355 underlying359 underlying361 underlying363 underlying365 underlying368 underlying371 underlying376 underlying383 underlying385
attribute [go_sem] underlying389 underlying391 underlying393 underlying394 underlying399 underlying402 underlying414
theorem mixed:prog.follows .mixedOrders=true:=rfl
theorem pK {f:FuncId}{fn:Func}{x:Code}{rs:List ResultVar}{args:UN}{r:D}(cfg:Cfg)(hf:prog.funcs[f]?=some fn)(hb:fn.body=some x)
  (h:∀ Q:D->AHeap->Prop,(∀ d H',(pF H' d=r\/Pg (pF H' d)=r)->Q d H')->pP prog cfg x (VC prog rs Q) (El args) .as)
  (hcl:r.Q=true:=by first|rfl|(simp [go_sem];done)) (hnm:(fn.name=="runtime.NumGoroutine")=false:=by rfl) (hlen:args.length<=fn.ntmps:=by exact aF rfl) (hok:rB cfg fn.ntmps x=true:=by kernel_rfl) (hr:fn.results.toList=rs:=by exact Zj):Pure prog f args r :=
 Mu hcl λQ hQ=>aJ mixed hf hb hnm hlen hok (h Q hQ) hr
theorem p0 {f:FuncId}{fn:Func}{x:Code}{rs:List ResultVar}{args:UN}{r:D}(hf:prog.funcs[f]?=some fn)(hb:fn.body=some x)
  (h:∀ Q:D->AHeap->Prop,(∀ d H',(pF H' d=r\/Pg (pF H' d)=r)->Q d H')->True->pP prog ⟨λ_=>false,λ_=>[]⟩ x (VC prog rs Q) (El args) .as)
(hcl:r.Q=true:=by first|rfl|(simp [go_sem];done)) (hnm:(fn.name=="runtime.NumGoroutine")=false:=by rfl) (hlen:args.length<=fn.ntmps:=by exact aF rfl) (hok:rB ⟨λ_=>false,λ_=>[]⟩ fn.ntmps x=true:=by kernel_rfl) (hr:fn.results.toList=rs:=by exact Zj):Pure prog f args r:=pK ⟨λ_=>false,λ_=>[]⟩ hf hb (λQ W=>h Q W trivial) hcl hnm hlen hok hr
theorem cK {f:FuncId}{fn:Func}{x:Code}{rs:List ResultVar}{args:UN}{Q:D->AHeap->Prop}{H:AHeap}(cfg:Cfg)(hf:prog.funcs[f]?=some fn)(hb:fn.body=some x)(h:pP prog cfg x (VC prog rs Q) (El args) H) (hnm:(fn.name=="runtime.NumGoroutine")=false:=by rfl) (hlen:args.length<=fn.ntmps:=by exact aF rfl) (hok:rB cfg fn.ntmps x=true:=by kernel_rfl) (hr:fn.results.toList=rs:=by exact Zj):ACalls prog f args H Q:=aJ mixed hf hb hnm hlen hok h hr
theorem c0 {f:FuncId}{fn:Func}{x:Code}{rs:List ResultVar}{args:UN}{Q:D->AHeap->Prop}{H:AHeap}(hf:prog.funcs[f]?=some fn)(hb:fn.body=some x)(h:pP prog ⟨λ_=>false,λ_=>[]⟩ x (VC prog rs Q) (El args) H) (hnm:(fn.name=="runtime.NumGoroutine")=false:=by rfl) (hlen:args.length<=fn.ntmps:=by exact aF rfl) (hok:rB ⟨λ_=>false,λ_=>[]⟩ fn.ntmps x=true:=by kernel_rfl) (hr:fn.results.toList=rs:=by exact Zj):ACalls prog f args H Q:=aJ mixed hf hb hnm hlen hok h hr
theorem oK {f:FuncId}{fn:Func}{x:Code}{rs:List ResultVar}{args:UN}{ty:TypeId}{sz:Nat}{es:UE}(cfg:Cfg)(hf:prog.funcs[f]?=some fn)(hb:fn.body=some x)
  (h:∀ Q:D->AHeap->Prop,(∀ id n H',n=es.length->H'.get id=some ⟨ty,sz,es,false⟩->Q (.own id n) H')->pP prog cfg x (VC prog rs Q) (El args) .as)
  (hcl:D.R es=true:=by first|rfl|(simp [go_sem];done)) (hnm:(fn.name=="runtime.NumGoroutine")=false:=by rfl) (hlen:args.length<=fn.ntmps:=by exact aF rfl) (hok:rB cfg fn.ntmps x=true:=by kernel_rfl) (hr:fn.results.toList=rs:=by exact Zj):Own prog f args ty sz es :=
 ajB hcl λQ hQ=>aJ mixed hf hb hnm hlen hok (h Q hQ) hr
end Go.Abs.Tz
end
section
namespace Go.Abs
variable {P:Program} {md:Nat→Bool} {ops:Array Oper} {sp:List (Nat × Nat)} {n0 i:Nat} {rest:List Oper} {acc:List (Nat × List Nat)} {e:eF} {dst:Option Tmp} {K:eF→AHeap→Prop} {f:FuncId} {args:UN} {H:AHeap} {r:D}
end Go.Abs
end
section
set_option maxRecDepth 4000
open Go Go.Proofs Tryz
namespace Go.Abs
def jY (c:Int):Bool:=decide (97<=c)&&decide (c<=122)||(decide (65<=c)&&decide (c<=90))
def lV (c:Int):Bool:=decide (48<=c)&&decide (c<=57)
def qY (c:Int):Bool:=jY c||lV c||c==95
theorem Dj (c:Int):Pua 388 [.int .u8 c] (.bool (jY c)):=by
 refine aX (Tz.c0 func388 rfl ?_);simp [go_sem,seval,jY,D.Q];omega
theorem AA (c:Int):Pua 391 [.int .u8 c] (.bool (lV c)):=by
 refine aX (Tz.c0 func391 rfl ?_);simp [go_sem,seval,lV,D.Q]
theorem Sv (c:Int):Pua 390 [.int .u8 c] (.bool (qY c)):=by
 refine aX (Tz.c0 func390 rfl ?_);simp [go_sem,seval];refine aB (Dj c) rfl ?_;simp [go_sem,seval];refine aK (λ_=>AA c) (λ_=>rfl) ?_;simp [go_sem,seval,qY]
def zS (s:ByteArray)(i:Nat):Int:=((s.data[i]?.getD 0).toNat:Int)
def iH (p:Int->Bool)(s:ByteArray):Nat:=(s.data.toList.takeWhile λb=>p (b.toNat:Int)).length
theorem wY {α:Type}(p:α->Bool):∀ (l:List α) (n:Nat),(∀ j x,j<n->l[j]?=some x->p x=true)->n<=l.length->(∀ x,l[n]?=some x->p x=false)->(l.takeWhile p).length=n
 | [],n,_,h,_=>by simp at h;subst h;rfl
 | a :: l,0,_,_,h=>by have:=h a rfl;simp [List.takeWhile,this]
 | a :: l,n+1,h1,h2,h3=>by
  have ha:=h1 0 a aD rfl;simp only [List.takeWhile,ha,eO];rw [wY p l n (λj x hj hx=>h1 (j+1) x aD hx) (bY h2) λx hx=>h3 x hx]
theorem Mg (p:Int->Bool)(s:ByteArray)(n:Nat)(d:∀ j,j<n->p (zS s j)=true)(c:n<=s.size)(e:n<s.size->p (zS s n)=false):iH p s=n:=by
 have a:s.data.toList.length=s.size:=rfl;have b:∀ j x,s.data.toList[j]?=some x->zS s j=(x.toNat:Int):=λj x hx=>by
  simp only [Array.getElem?_toList] at hx;simp [zS,hx]
 refine wY _ _ _ (λj x hj hx=>by rw [<- b j x hx];exact d j hj) (by rw [a];exact c) λx hx=>?_;grind
theorem WM (s:ByteArray)(i:Nat):0<=zS s i/\zS s i<=255:=by
 unfold zS;have:=(s.data[i]?.getD 0).toNat_lt;omega
theorem EW (s:ByteArray)(g:FuncId)(p:Int->Bool)(t:s.size<=1000000)(o:∀ c,0<=c->c<=255->Pure prog g [.int .u8 c] (.bool (p c))) :
  Pua 389 [.str s,.fn g []] (dI (iH p s)):=by
 refine aX (Tz.c0 func389 rfl ?_);simp [go_sem,seval];refine gH (ι:=Nat) (λn e H=>H=.as/\n<=s.size/\e 0=.str s/\e 1=.fn g []/\e 5=dI n/\(∀ j,j<n->p (zS s j)=true)) (λn=>s.size - n) 0 ii ?_;intro n e H ⟨q,m,k,i,d,l⟩;subst q;simp [go_sem,seval,k,i,d,dI];have f:=WM s n;refine aK (r:=.bool (p (zS s n))) (λ_=>o _ f.1 f.2) (λ_=>rfl) ?_;simp [go_sem,seval];refine bB (λh=>?_) (λh=>?_)
 .simp at h;simp [go_sem,seval,k,i,d,dI];refine ⟨dW aD aD,n+1,aD,aD,aD,λj hj=>?_⟩;grind
 .simp at h;simp [go_sem,seval,d,dI];rw [Mg p s n l m h]
def idx {α:Type}[DecidableEq α](xs:List α)(v:α):Int:=match xs.findIdx? (λx=>decide (x=v)) with|some i=>i|none=>-1
def mem {α:Type}[DecidableEq α](xs:List α)(v:α):Bool:=decide (0<=idx xs v)
theorem yB {α:Type}[DecidableEq α]{xs:List α}{v:α}{i:Nat}(h:∀ j,j<i->xs[j]?≠some v)(hi:xs[i]?=some v):idx xs v=i:=by
 have:xs.findIdx? (λx=>decide (x=v))=some i:=by
  rw [jX];grind
 simp [idx,this]
theorem Ec {α:Type}[DecidableEq α]{xs:List α}{v:α}(h:∀ j,j<xs.length->xs[j]?≠some v):idx xs v = -1:=by
 have:xs.findIdx? (λx=>decide (x=v))=none:=by
  rw [uL];intro x a;obtain ⟨j,b,rfl⟩:=aO a;grind
 simp [idx,this]
theorem ZF {α:Type}[DecidableEq α](xs:List α)(v:α):0<=idx xs v↔v∈xs:=by
 unfold idx;grind
theorem mem_iff {α:Type}[DecidableEq α](xs:List α)(v:α):mem xs v=true↔v∈xs:=by simp [mem,ZF]
theorem Ws (xs:List ByteArray)(v:ByteArray):Pua 395 [s7 xs,.str v] (dI (idx xs v)):=by
 refine aX (Tz.c0 func395 rfl ?_);simp [go_sem,seval,dI,s7];intro f;refine gH (ι:=Nat) (λi e H=>H=.as/\i<=xs.length/\e 0=s7 xs/\e 1=.str v/\e 7=dI xs.length/\e 8=dI i/\(∀ j,j<i->xs[j]?≠some v)) (λi=>xs.length - i) 0 (by simp [go_sem,seval,dI,s7]) ?_;intro i e H ⟨m,n,l,k,g,c,d⟩;subst m;simp [go_sem,seval,g,c,dI,s7];refine gK (λhlt=>?_) (λhge=>?_)
 .simp [go_sem,seval,l,k,c,dI,s7,cS,hlt];refine bB (λh=>?_) (λh=>?_)
  .simp at h;simp [go_sem,seval];rw [yB d (by rw [aA hlt,h])]
  .simp at h;simp [go_sem,seval,l,k,g,c,dI,s7];refine ⟨dW aD aD,i+1,aD,aD,aD,λj hj=>?_⟩;grind
 .simp [go_sem,seval];rw [Ec λj hj=>d j aD]
theorem Eo (xs:List ByteArray)(v:ByteArray):Pua 351 [s7 xs,.str v] (.bool (mem xs v)):=by
 refine aX (Tz.c0 func351 rfl ?_);simp [go_sem,seval];refine aB (Ws xs v) (by simp [D.L,go_sem,D.Q]) ?_;simp [go_sem,seval,dI,mem]
theorem uE (xs:V2)(v:Int):Pua 128 [dLI xs,dI v] (dI (idx xs v)):=by
 refine aX (Tz.c0 func128 rfl ?_);simp [go_sem,seval,dI,dLI];intro f;refine gH (ι:=Nat) (λi e H=>H=.as/\i<=xs.length/\e 0=dLI xs/\e 1=dI v/\e 7=dI xs.length/\e 8=dI i/\(∀ j,j<i->xs[j]?≠some v)) (λi=>xs.length - i) 0 (by simp [go_sem,seval,dI,dLI]) ?_;intro i e H ⟨m,n,l,k,g,c,d⟩;subst m;simp [go_sem,seval,g,c,dI,dLI];refine gK (λhlt=>?_) (λhge=>?_)
 .simp [go_sem,seval,l,k,c,dI,dLI,cI,hlt];refine bB (λh=>?_) (λh=>?_)
  .simp at h;simp [go_sem,seval];rw [yB d (by rw [aA hlt,h])]
  .simp at h;simp [go_sem,seval,l,k,g,c,dI,dLI];refine ⟨dW aD aD,i+1,aD,aD,aD,λj hj=>?_⟩;grind
 .simp [go_sem,seval];rw [Ec λj hj=>d j aD]
theorem gF (xs:V2)(v:Int):Pua 86 [dLI xs,dI v] (.bool (mem xs v)):=by
 refine aX (Tz.c0 func86 rfl ?_);simp [go_sem,seval];refine aB (uE xs v) (by simp [D.L,go_sem,D.Q,dI]) ?_;simp [go_sem,seval,dI,mem]
def qV (c:Int):Bool:=decide (32<=c)&&decide (c<=126)&&c != 34
theorem KX (c:Int):Pua 412 [.int .u8 c] (.bool (qV c)):=by
 refine aX (Tz.c0 func412 rfl ?_);simp [go_sem,seval,qV,D.Q]
def y9 (s:ByteArray):Int × Int :=
 let n:=iH qV (s.extract 1 s.size)
 if (1+(n:Int)=s.size)\/zS s (1+n)≠34 then (0,2) else if 60<n then (0,3) else (n+2,0)
theorem Fa (p:Int->Bool)(s:ByteArray):iH p s<=s.size:=by
 have:=(List.takeWhile_sublist (l:=s.data.toList) (λb:UInt8=>p (b.toNat:Int))).length_le;exact this
theorem NH (s:ByteArray)(i:1<=s.size)(g:s.size<=100000):Pua 392 [.str s] (.tup [dI (y9 s).1,dI (y9 s).2]):=by
 refine aX (Tz.c0 func392 rfl ?_);simp [go_sem,seval];have d:(s.extract 1 s.size).size<=1000000:=by rw [ByteArray.size_extract];omega
 refine ⟨aD,aB (EW (s.extract 1 s.size) _ _ d (λc _ _=>KX c)) rfl ?_⟩;have e:=Fa qV (s.extract 1 s.size);rw [ByteArray.size_extract] at e;simp [go_sem,seval,dI];unfold y9;generalize iH qV (s.extract 1 s.size)=n at *;have f:((s.data[(1+(n:Int)).toNat]?.getD 0).toNat:Int)=zS s (1+n):=by
  unfold zS;congr 3
 rw [f];refine ⟨dW aD aD,λ_=>dW aD aD,λh=>by omega,bB (λh=>?_) (λh=>?_)⟩
 .simp at h;simp [go_sem,seval,h]
 .simp at h;simp [go_sem,seval,h];refine bB (λh6=>?_) (λh6=>?_)
  .simp at h6;simp [go_sem,seval,(aD:60<n)]
  .simp at h6;simp [go_sem,seval,(aD:¬ 60<n)];exact dW aD aD
def Mx:List ByteArray:=[⟨#[45,62]⟩,⟨#[60,61]⟩,⟨#[62,61]⟩,⟨#[61,61]⟩,⟨#[33,61]⟩]
theorem Sw (s:ByteArray):Pua 393 [.str s] (.bool (decide ((2:Int)<=s.size)&&mem Mx (s.extract 0 2))):=by
 refine aX (Tz.c0 func393 rfl ?_);simp [go_sem,seval];refine aK (r:=.bool (mem Mx (s.extract 0 2))) (λ_=>Eo Mx (s.extract 0 2)) (λ_=>rfl) ?_;simp [go_sem,seval]
def Ub:ByteArray:=⟨#[123,125,40,41,91,93,44,59,58,61,43,45,42,60,62,33,38,124,46,63]⟩
def OG (s:ByteArray)(c:Int):Int:=firstIdx s c.toNat.toUInt8
theorem RS (s:ByteArray)(c:Int)(w:World):(callFunc 419 #[.string s,.int .u8 c]).run prog w=.ok (.value (.int .i64 (firstIdx s c.toNat.toUInt8))) w:=by
 rw [run_callFunc_extern func419 ia ia ia (e:=Extern.BytealgIndexByte.indexByte) ia,run_indexByte_string];rfl
set_option maxHeartbeats 400000 in
open RowKit in
theorem Dl (s:ByteArray)(c:Int)(w:World) :
  Calls prog 413 #[.string s,.int .u8 c] w λe w'=>e=.returned (.int .i64 (firstIdx s c.toNat.toUInt8))/\w'=w:=by
 have h:=RS s c
 go_wp2
 go_ret;simp_all
theorem Aq (s:ByteArray)(c:Int):Pua 413 [.str s,.int .u8 c] (dI (OG s c)):=by
 refine ⟨⟨Tryz.f413,func413,rfl,rfl⟩,λM w vals hM ha=>?_⟩;have g:vals=[.string s,.int .u8 c]:=by
  obtain ⟨h,f⟩:=ha;match vals,h with
  | [a,b],_ =>
   have j:=f 0 a _ rfl rfl;have d:=f 1 b _ rfl rfl;cases j
   cases d
   rfl
 subst g;exact (Dl s c w).mono λe w' ⟨d,i⟩=>⟨_,d,.int _ _,by subst i;exact ⟨rfl,rfl,rfl,bC _,λ_ _=>rfl⟩⟩
theorem Dm (s:ByteArray)(c:Int):Pua 394 [.str s,.int .u8 c] (dI (OG s c)):=by
 refine aX (Tz.c0 func394 rfl ?_);simp [go_sem,seval];refine aB (Aq s c) rfl ?_;simp [go_sem,seval,dI]
def tL (s:ByteArray):Int × Int × Int :=
 if jY (zS s 0)=true then (if 20<iH qY s then (0,0,3) else (1,iH qY s,0))
 else if lV (zS s 0)=true then (if 9<iH lV s then (0,0,3) else (2,iH lV s,0))
 else if zS s 0=34 then (3,(y9 s).1,(y9 s).2)
 else if (decide ((2:Int)<=s.size)&&mem Mx (s.extract 0 2))=true then (4,2,0)
 else if 0<=OG Ub (zS s 0) then (4,1,0) else (0,0,2)
theorem Sx (s:ByteArray)(l:1<=s.size)(k:s.size<=100000):Pua 349 [.str s] (.tup [dI (tL s).1,dI (tL s).2.1,dI (tL s).2.2]):=by
 refine aX (Tz.c0 func349 rfl ?_);simp [go_sem,seval];have j:((s.data[0]?.getD 0).toNat:Int)=zS s 0:=rfl;simp only [j];refine ⟨aD,aB (Dj _) rfl ?_⟩;simp [go_sem,seval];refine bB (λhl=>?_) (λhl=>?_)
 .simp [go_sem,seval];refine aB (EW s _ _ aD (λc _ _=>Sv c)) rfl ?_;simp [go_sem,seval,dI];refine bB (λh=>?_) (λh=>?_)
  .simp at h;simp [go_sem,seval,tL,hl,(aD:20<iH qY s)]
  .simp at h;simp [go_sem,seval,tL,hl,(aD:¬ 20<iH qY s)]
 .simp [go_sem,seval];refine aB (AA _) rfl ?_;simp [go_sem,seval];refine bB (λhd=>?_) (λhd=>?_)
  .simp [go_sem,seval];refine aB (EW s _ _ aD (λc _ _=>AA c)) rfl ?_;simp [go_sem,seval,dI];refine bB (λh=>?_) (λh=>?_)
   .simp at h;simp [go_sem,seval,tL,hl,hd,(aD:9<iH lV s)]
   .simp at h;simp [go_sem,seval,tL,hl,hd,(aD:¬ 9<iH lV s)]
  .simp [go_sem,seval];refine bB (λhq=>?_) (λhq=>?_)
   .simp at hq;simp [go_sem,seval];refine aB (NH s l k) rfl ?_;have e:tL s=(3,(y9 s).1,(y9 s).2):=by unfold tL;rw [if_neg (iw hl),if_neg (iw hd),if_pos hq]
    simp [go_sem,seval,dI,e]
   .simp at hq;simp [go_sem,seval];refine aB (Sw s) rfl ?_;simp [go_sem,seval];refine bB (λhp=>?_) (λhp=>?_)
    .simp [go_sem,seval,tL,hl,hd,hq,hp,dI]
    .simp [go_sem,seval];refine aB (Dm Ub _) rfl ?_;simp [go_sem,seval,dI];refine gK (λhi=>?_) (λhi=>?_)
     .simp [go_sem,seval,tL,hl,hd,hq,hp,hi]
     .simp [go_sem,seval,tL,hl,hd,hq,hp,hi]
def lJ (s:ByteArray):Bool:=decide (s.size≠0)&&jY (zS s 0)&&decide (iH qY s<=20)&&decide (iH qY s=s.size)
theorem sF (s:ByteArray):s=⟨#[]⟩↔s.size=0:=by
 constructor
 .intro h;subst h;rfl
 .intro h;cases s with
  | mk d=>congr 1;exact Array.size_eq_zero_iff.1 h
theorem V8 (s:ByteArray)(hz:¬ s.size=0):(decide ((tL s).2.2=0)&&decide ((tL s).1=1)&&(tL s).2.1==(s.size:Int))=lJ s:=by
 unfold tL lJ;grind
theorem Pw (s:ByteArray)(c:s.size<=100000):∃ s',Pua 281 [.agg [dI 1,.str s,dI 0]] (.tup [.str s',.bool (lJ s)]):=by
 by_cases b:s.size=0
 .refine ⟨⟨#[]⟩,aX (Tz.c0 func281 rfl ?_)⟩;simp [go_sem,seval,dI];refine bB (λh=>?_) (λh=>?_)
  .simp [go_sem,seval,lJ,b]
  .simp [sF,b] at h
 .refine ⟨s,aX (Tz.c0 func281 rfl ?_)⟩;simp [go_sem,seval,dI];refine bB (λh=>?_) (λh=>?_)
  .simp [sF,b] at h
  .simp [go_sem,seval];refine aB (Sx s aD c) rfl ?_;simp [go_sem,seval,dI];exact V8 s b
theorem qI (s:ByteArray)(b:s.size<=100000):Pua 216 [.str s] (.bool (lJ s)):=by
 obtain ⟨c,a⟩:=Pw s b;refine aX (Tz.c0 func216 rfl ?_);simp [go_sem,seval];refine aB a rfl ?_;simp [go_sem,seval]
end Go.Abs
end
section
set_option maxRecDepth 100000
set_option maxHeartbeats 4000000
open Go Go.Proofs Tryz
namespace Go.Abs
def Ed {α:Type}(xs:List α)(p:α->Bool):Int:=match xs.findIdx? p with|some i=>i|none=>-1
theorem pY {α:Type}{xs:List α}{p:α->Bool}{i:Nat}(h:∀ j x,j<i->xs[j]?=some x->p x=false)(c:i<xs.length)(a:p xs[i]=true):Ed xs p=i:=by
 have:xs.findIdx? p=some i:=by
  rw [jX];exact ⟨c,a,λj b=>by simp [h j _ b (aA aD)]⟩
 simp [Ed,this]
theorem pZ {α:Type}{xs:List α}{p:α->Bool}(h:∀ j x,j<xs.length->xs[j]?=some x->p x=false):Ed xs p = -1:=by
 have:xs.findIdx? p=none:=by
  rw [uL];intro x a;obtain ⟨j,b,rfl⟩:=aO a;simp_all
 simp [Ed,this]
theorem sU {α:Type}(xs:List α)(p:α->Bool):decide (0<=Ed xs p)=xs.any p:=by
 unfold Ed;grind
theorem JQ (xs:List Attr)(g:FuncId)(b:UN)(p:Attr->Bool)(u:D.L b=true)(t:∀ x∈xs,Pure prog g (.agg x.c :: b) (.bool (p x))) :
  Pua 350 [.list (xs.map Attr.c),.fn g b] (dI (Ed xs p)):=by
 refine aX (Tz.c0 func350 rfl ?_);simp [go_sem,seval,dI];intro m;refine gH (ι:=Nat) (λi e H=>H=.as/\i<=xs.length/\e 0=.list (xs.map Attr.c)/\e 1=.fn g b/\e 7=dI xs.length/\e 8=dI i/\(∀ j x,j<i->xs[j]?=some x->p x=false)) (λi=>xs.length - i) 0 ii ?_;intro i e H ⟨v,y,q,o,n,k,l⟩;subst v;simp [go_sem,seval,n,k,dI];refine gK (λd=>?_) (λs=>?_)
 .have hgx:=t xs[i] (aC d);simp [go_sem,seval,q,o,k,dI,d,Attr.c] at hgx ⊢;refine aB hgx (iq u) ?_;simp [go_sem,seval];refine bB (λh=>?_) (λh=>?_)
  .simp [go_sem,seval];rw [pY l d h]
  .simp [go_sem,seval,q,o,n,k,dI];refine ⟨dW aD aD,i+1,aD,aD,aD,λj x r w=>?_⟩;grind
 .simp [go_sem,seval];rw [pZ λj x r=>l j x aD]
theorem Eu (xs:List Attr)(g:FuncId)(a:UN)(p:Attr->Bool)(d:D.L a=true)(e:D.Q (.list (xs.map Attr.c))=true)(f:∀ x∈xs,Pure prog g (.agg x.c :: a) (.bool (p x))) :
  Pua 283 [.list (xs.map Attr.c),.fn g a] (.bool (xs.any p)):=by
 refine aX (Tz.c0 func283 rfl ?_);simp [go_sem,seval];refine aB (JQ xs g a p d f) (by simp only [D.L,e,gW];simp [D.Q,d]) ?_;simp [go_sem,seval,dI,sU]
theorem vC (l:List Attr):D.R (l.map Attr.c)=true:=d9 _ Attr.Q l
def o9 (l:List ByteArray):List ByteArray->Int
 | []=>0
 | s :: r=>if lJ s=false then 2 else if mem l s=true then 5 else o9 (l++[s]) r
def pS (l:List ByteArray):Int:=if 20<l.length then 3 else o9 [] l
theorem Pp (l:List ByteArray)(v:∀ s∈l,s.size<=100000):Pua 285 [s7 l] (dI (pS l)):=by
 refine aX (Tz.c0 func285 rfl ?_);simp [go_sem,seval,dI,s7];intro q;refine bB (λh=>?_) (λh=>?_)
 .simp at h;simp [go_sem,seval,pS,(aD:20<l.length)]
 .simp at h;simp [go_sem,seval,pS,(aD:¬ 20<l.length)];intro o;refine gH (ι:=Nat) (λi e H=>H=.as/\i<=l.length/\e 0=s7 l/\e 8=s7 l/\e 9=dI l.length/\e 10=dI i/\o9 (l.take i) (l.drop i)=o9 [] l) (λi=>l.length - i) 0 (by simp [go_sem,seval,dI,s7]) ?_;intro i e H ⟨y,w,u,t,r,c,j⟩;subst y;simp [go_sem,seval,r,c,dI,s7];refine gK (λb=>?_) (λx=>?_)
  .rw [fV b] at j;have m:=v _ (aC b);simp [go_sem,seval,t,c,dI,s7,b,cS];refine aB (qI _ m) rfl ?_;simp [go_sem,seval];refine bB (λf=>?_) (λf=>?_)
   .simp at f;simp [go_sem,seval];rw [<- j];simp [o9,f]
   .simp at f;simp [go_sem,seval,u,s7];have k:=Eo (l.take i) l[i];simp only [s7,List.map_take] at k;have p:D.R (List.take i (List.map cS l))=true:=by rw [<- List.map_take];exact d9 cS (λ_=>rfl) _
    refine ⟨⟨w,by cases l<;>simp [cS]⟩,aB k (by simp [D.L,D.Q,p]) ?_⟩;simp [go_sem,seval];refine bB (λn=>?_) (λn=>?_)
    .simp [go_sem,seval];rw [<- j];simp [o9,f,n]
    .simp [go_sem,seval,u,t,r,c,dI,s7];refine ⟨dW aD aD,i+1,aD,aD,aD,?_⟩;rw [<- j,o9,if_neg (iw f),if_neg (iw n),List.take_succ_eq_append_getElem b]
  .simp [go_sem,seval];rw [<- j,(aD:i=l.length)];simp [o9]
theorem EU (x y:Attr):Pua 284 [.agg y.c,.adr x.c] (.bool (decide (y.name=x.name))):=by
 refine aX (Tz.c0 func284 rfl ?_);simp [go_sem,seval,Attr.c,dI,s7]
structure Attr.ok (x:Attr):Prop where
 name:x.name.size<=100000
 af:∀ s∈x.af,s.size<=100000
 cf:x.af.length<=1000
def eD (x:Attr)(before:List Attr):Int :=
 if lJ x.name=false then 2
 else if (before.any λy=>decide (y.name=x.name))=true then 5
 else if pS x.af≠0 then pS x.af
 else if (if 0<x.af.length then decide (x.ao=0)&&decide (x.az=x.af.length - 1) else decide (-1000000<=x.ao)&&decide (x.ao<=x.az)&&decide (x.az<=1000000))=true then 0 else 6
theorem GX (x:Attr)(b:List Attr)(l:x.ok):Pua 220 [.agg x.c,.list (b.map Attr.c)] (dI (eD x b)):=by
 refine aX (Tz.c0 func220 rfl ?_);simp [go_sem,seval,dI,s7,Attr.c];refine aB (qI _ l.name) rfl ?_;simp [go_sem,seval];refine bB (λd=>?_) (λd=>?_)
 .simp at d;simp [go_sem,seval,eD,d]
 .simp at d;simp [go_sem,seval];have p:=Eu b 284 [.adr x.c] (λy=>decide (y.name=x.name)) (by simp [D.L,D.Q,Attr.Q]) (by simp [D.Q,vC]) (λy _=>EU x y);simp only [Attr.c,dI,s7] at p;have j:D.R (List.map cS x.af)=true:=d9 cS (λ_=>rfl) _;refine aB p (by simp [D.L,D.Q,vC,j]) ?_;simp [go_sem,seval];refine bB (λh=>?_) (λh=>?_)
  .simp [go_sem,seval,eD,d,h]
  .simp [go_sem,seval];have i:=Pp x.af l.af;simp only [s7,dI] at i;refine aB i (by simp [D.L,D.Q,j]) ?_;simp [go_sem,seval];have o:=l.cf;refine bB (λf=>?_) (λf=>?_)
   .simp at f;simp [go_sem,seval,eD,d,h,f]
   .simp at f;simp [go_sem,seval];intro n;refine bB (λk=>?_) (λk=>?_)
    .have hp':0<x.af.length:=by simp at k;omega
     simp [go_sem,seval];refine λ_=>⟨λ_=>dW aD aD,bB (λg=>?_) (λg=>?_)⟩
     .have e:eD x b=6:=by unfold eD;rw [if_neg (iw d),if_neg (by simp [h]),if_neg (iw f),if_pos hp',if_neg (by simp at g ⊢;omega)]
      simp [go_sem,seval,e]
     .have e:eD x b=0:=by unfold eD;rw [if_neg (iw d),if_neg (by simp [h]),if_neg (iw f),if_pos hp',if_pos (by simp at g ⊢;omega)]
      simp [go_sem,seval,e]
    .have hp':¬ 0<x.af.length:=by simp at k;simp [k]
     simp [go_sem,seval];refine bB (λg=>?_) (λg=>?_)
     .have e:eD x b=6:=by unfold eD;rw [if_neg (iw d),if_neg (by simp [h]),if_neg (iw f),if_neg hp',if_neg (by simp at g ⊢;omega)]
      simp [go_sem,seval,e]
     .have e:eD x b=0:=by unfold eD;rw [if_neg (iw d),if_neg (by simp [h]),if_neg (iw f),if_neg hp',if_pos (by simp at g ⊢;omega)]
      simp [go_sem,seval,e]
structure NodeTy.ok (n:NodeTy):Prop where
 name:n.name.size<=100000
 r:∀ x∈n.r,x.ok
 cf:n.r.length<=1000
structure EdgeTy.ok (x:EdgeTy):Prop where
 name:x.name.size<=100000
structure Types.ok (t:Types):Prop where
 h:∀ n∈t.h,n.ok
 i:∀ x∈t.i,x.ok
 bz:t.h.length<=1000
 cV:t.i.length<=1000
def kV (nodes:List NodeTy):Nat->Nat->List Attr
 | 0,_=>[]
 | f+1,a=>match nodes[a]? with
  | none=>[]
  | some n=>(if 0<=n.E then kV nodes f n.E.toNat else [])++n.r
def Types.r (t:Types)(a:Nat):List Attr:=kV t.h (a+1) a
theorem vD (nodes:List NodeTy)(h:∀ n∈nodes,n.r.length<=1000):∀ f a,(kV nodes f a).length<=1000 * f
 | 0,a=>by simp [kV]
 | f+1,a=>by
  unfold kV;split
  .simp
  .rename_i n hn;have:=h n (aL hn);have h2:=vD nodes h f n.E.toNat
   simp only [aI];split<;>simp<;>omega
@[go_sem] theorem Attr.len (a:Attr):a.c.length=4:=rfl
theorem Attr.cells (a:Attr):∀ x∈a.c,x.cell=true:=by simp [Attr.c,D.cell,dI,s7]
def parentsOK (nodes:List NodeTy)(a:Nat):Prop:=∀ j n,j<=a->nodes[j]?=some n->n.E<j
theorem GL (b:List NodeTy):∀ a f g,parentsOK b a->a<f->a<g->kV b f a=kV b g a:=by
 intro a;induction a using Nat.strongRecOn with
 | _ a ih =>
  intro f g d l k;obtain ⟨f,rfl⟩:∃ f',f=f'+1:=⟨f - 1,aD⟩;obtain ⟨g,rfl⟩:∃ g',g=g'+1:=⟨g - 1,aD⟩;unfold kV;split
  .rfl
  .rename_i n hn;have:=d a n (bC _) hn;congr 1;split
   .exact ih n.E.toNat aD f g (λj m i e=>d j m aD e) aD aD
   .rfl
theorem F3 (t:Types)(l:t.ok):∀ a,a<t.h.length->parentsOK t.h a->Own prog 219 [t.d,dI a] 88 4 ((t.r a).map Attr.c):=by
 intro a;induction a using Nat.strongRecOn with
 | _ a ih =>
  intro g q;have A:=q a _ (bC _) (aA g);have v:=vD t.h (λn r=>(l.h n r).cf) (a+1) a;have w:=l.bz;have B:=(l.h _ (aC g)).cf;refine DO (Tz.cK ⟨λt=>t==5,λ_=>[]⟩ func219 rfl ?_);simp [go_sem,seval,dI,Types.d,Types.c,NodeTy.c,g];refine bB (λh=>?_) (λh=>?_)
  .have o:0<=t.h[a].E:=by simpa using h
   have k:t.h[a].E.toNat<a:=aD;have u:=ih _ k aD (λj m E s=>q j m aD s);rw [Int.toNat_of_nonneg o] at u;have e:t.r a=t.r t.h[a].E.toNat++t.h[a].r:=by
    have:=GL t.h t.h[a].E.toNat a (t.h[a].E.toNat+1) (λj m E s=>q j m aD s) k aD;simp [Types.r,kV,aA g,o,this]
   have f:=vD t.h (λn r=>(l.h n r).cf) (t.h[a].E.toNat+1) t.h[a].E.toNat
   have C:(t.r t.h[a].E.toNat).length<=2000000:=by
    have:(t.r t.h[a].E.toNat).length<=1000 * (t.h[a].E.toNat+1):=f;omega
   simp [go_sem,seval,dI,Types.d,Types.c] at u ⊢;refine kU u (by simp [D.L,D.Q,d9 _ NodeTy.Q,d9 _ EdgeTy.Q]) ?_;simp [go_sem,seval,dI,NodeTy.c,g,e];exact ⟨⟨aD,λx _ y p=>Attr.cells x y p⟩,by rw [<- List.map_append];exact vC _⟩
  .have o:¬ 0<=t.h[a].E:=by simpa using h
   have e:t.r a=t.h[a].r:=by simp [Types.r,kV,aA g,o]
   simp [go_sem,seval,dI,NodeTy.c,g,e,vC];exact ⟨aD,λx _ y p=>Attr.cells x y p⟩
end Go.Abs
end
