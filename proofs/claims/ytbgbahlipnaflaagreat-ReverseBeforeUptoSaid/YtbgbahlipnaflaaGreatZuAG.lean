/- The abstraction layer: callees that turn one borrowed slice  -/
import Derived.Test.YtbgbahlipnaflaaGreatZuAF
import Derived.Test.YtbgbahlipnaflaaGreatZuAA
import Derived.Test.YtbgbahlipnaflaaGreatProg
import Derived.Laws.Externs
import Derived.WalkKit
set_option linter.unusedVariables false
set_option linter.unusedSimpArgs false
section
namespace Go.Abs
def ren (id:Nat):D->D
 | .own 0 n=>.own id n
 | d=>d
section
variable {P:Program} {M0:Nat→Prop} {H:AHeap} {σ:Nat→Option Ow} {w:World}
theorem V7 (id n:Nat):ren id (.own 0 n)=.own id n:=rfl
theorem S8 (k:Blk):(AHeap.as.push 0 k).get 0=some k:=rfl
theorem Xk {f:FuncId}{args:UN}{k S:Blk}{r:D}{q:Nat}{Q:D->AHeap->Prop}
  (h:ACalls P f args (AHeap.as.push 0 k) λd H'=>oX H' d=r/\r.Q=true/\0∉D9 d/\H'.get 0=some S)
  (L:∀ d∈args,d.Q=true\/d=.own 0 k.P.length) (hk:k.fz=false) (b4:S.fz=false) (b8:D.R k.P=true) (b6:∀ d∈S.P.flatten,d.bd=true) (hg:H.get q=some k) (hQ:Q r (H.put q S)) :
  ACalls P f (args.map (ren q)) H Q:=by
 refine ⟨h.1,λM0 σ w vals hR ha=>?_⟩;obtain ⟨o,T,l⟩:=hR.aj q k hg;obtain ⟨xs,a1,a9,a2⟩:=l.row;obtain ⟨σ0,Y⟩:∃ s:Nat->Option Ow,s=λi=>if i=0 then some o else none:=⟨_,rfl⟩
 obtain ⟨M1,y⟩:∃ m:Nat->Prop,m=λb=>dQ M0 H σ b/\o.block≠some b:=⟨_,rfl⟩;have s0:σ0 0=some o:=by rw [Y];rfl
 have R:∀ i B,σ0 i=some B->i=0/\B=o:=λi B a=>by
  grind
 have g0:∀ i C,(AHeap.as.push 0 k).get i=some C->i=0/\C=k:=λi C a=>by
  by_cases z:i=0
  .subst z;rw [S8] at a;exact ⟨rfl,(Option.some.inj a).symm⟩
  .simp [AHeap.push,AHeap.as,z] at a
 have c2:∀ b,o.block=some b->dQ M0 H σ b:=λb hb=>.inr ⟨q,k,o,hg,hk,T,hb⟩;have E:∀ b,dQ M1 (AHeap.as.push 0 k) σ0 b->dQ M0 H σ b:=by
  rintro b (hb|⟨i,C,o1,x,hf,n,hb⟩)
  .rw [y] at hb;exact hb.1
  grind
 have b9:∀ {es:UE},D.R es=true->D.J es.flatten=true:=λ {es} hc=>DL λd K=>by
  obtain ⟨c,b7,a8⟩:=jX.1 K;exact kF (rS hc c b7) d a8
 have c1:Rel M1 (AHeap.as.push 0 k) σ0 w:=by
  refine ⟨λi a=>?_,λi a=>?_,λi C x=>?_,λi j oi oj b a U hbi hbj=>?_,λi oi b a hbi=>?_,λb hb=>?_⟩
  .have z:i≠0:=λe=>a (.inl e);exact ⟨by rw [Y];simp [z],by simp [AHeap.push,AHeap.as,z]⟩
  .rcases a with a|a
   .subst a;simp [AHeap.push,AHeap.as]
   .exact a.elim
  .obtain ⟨z,N⟩:=g0 i C x;subst z;subst N;exact ⟨o,s0,l.ah,l.ty,l.Y,l.F,xs,a1,a9,iO (λb hb hb'=>hb (E b hb')) a2 (b9 b8)⟩
  .rw [(R i oi a).1,(R j oj U).1]
  .obtain ⟨_,rfl⟩:=R i oi a;exact ⟨(hR.lt q oi b T hbi).1,λhb=>by rw [y] at hb;exact hb.2 hbi⟩
  .rw [y] at hb;exact v6 hR b hb.1
 have c0:RepL (dQ M1 (AHeap.as.push 0 k) σ0) σ0 (AHeap.as.push 0 k).D w vals args:=by
  refine ⟨by simpa using ha.len,λj u d F K=>?_⟩;have U:=ha.Z j u (ren q d) F (by rw [aM,K];rfl);rcases L d (aK K) with hc|rfl
  .have a3:ren q d=d:=by cases d<;>first|rfl|(simp [D.Q] at hc)
   rw [a3] at U;exact U.br (λad u hm F=>⟨λhm'=>hm (E _ hm'),F⟩) hc
  .rw [V7] at U;cases U
   rename_i N hN hv;exact .own u _ _ (.inl rfl) (by first|exact N|exact hN) λo1 n=>by
    obtain ⟨_,rfl⟩:=R 0 o1 n;exact hv o1 T
 refine (h.2 M1 σ0 w vals c1 c0).mono λe w' ⟨v,d,H',σ',he,M,hv,p,b3,hr,a4,b0,J⟩=>?_;obtain ⟨B,I,W⟩:=M.aj 0 S J;obtain ⟨a7,G,Z,t⟩:=W.row;obtain ⟨o2,a5,b2⟩:=b3.own 0 B (.inl rfl) I;rw [s0] at a5;cases a5
 have b5:w.grownBy w' o.block:=⟨p.os,p.tape,p.output,p.size,λb hb hne=>p.bu b hb λi o1 a=>by
  obtain ⟨_,rfl⟩:=R i o1 a;exact λhb'=>hne (by first|simpa using hb'|exact hb'.symm|exact hb')⟩
 have a6:∀ b,B.block=some b->o.block=some b\/w.heap.size<=b:=λb hb=>by
  rcases p.new 0 B b I hb with N|⟨j1,o1,N,h2⟩
  .exact .inr N
  .obtain ⟨_,rfl⟩:=R j1 o1 N;exact .inl h2
 obtain ⟨p1,p2,p3⟩:=Rel.put hR hg hk T S B b5 a6 b2 W.ah W.ty W.Y W.F a7 G Z
  ⟨t.len,λj u d F K=>Au (t.Z j u d F K) (b6 d (aK K))⟩
 have a0:=u3 M hv (D9 d) λi a=>a;rw [hr] at a0;obtain ⟨_,_,_,f4⟩:=gJ (D9 d) M;refine ⟨v,r,_,_,he,p1,a0.br (λad u hm F=>⟨λhm'=>hm ?_,F⟩) a4,p2,p3,hQ⟩;rcases hm' with z|⟨i,C,o1,x,hf,n,hb⟩
 .left
  rw [y];exact ⟨.inl z,λhb=>(hR.lt q o _ T hb).2 z⟩
 .by_cases a:i=q
  .simp only [a,if_true,bH] at n;subst n
   right
   obtain ⟨O,c3⟩:=f4 0;rw [J] at O;cases hq:(f5 (D9 d) H').get 0 with
   | none=>rw [hq] at O;cases O
   | some kq =>
    refine ⟨0,kq,B,hq,?_,I,hb⟩;rw [B0 _ _ 0 b0,J] at hq;cases hq
    exact b4
  .simp only [a,if_false] at n;simp only [AHeap.put,a,if_false] at x
   left
   rw [y];exact ⟨.inr ⟨i,C,o1,x,hf,n,hb⟩,λhb'=>a (hR.inj i q o1 o _ n T hb hb')⟩
end
section
variable {P:Program} {M0:Nat→Prop} {H:AHeap} {σ:Nat→Option Ow} {w:World}
end
section
variable {P:Program} {md:Nat→Bool} {ops:Array Oper} {sp:List (Nat × Nat)} {n0 i:Nat} {rest:List Oper} {acc:List (Nat × List Nat)} {e:eB} {dst:Option Tmp} {K:eB→AHeap→Prop} {f:FuncId} {args args':UN} {H:AHeap}
end
theorem JY {P:Program}{f:FuncId}{args:UN}{H H':AHeap}{Q:D->AHeap->Prop}(hg:Ghosts H H')(h:ACalls P f args H' Q):ACalls P f args H Q :=
 ⟨h.1,λM0 σ w vals hR ha=>by
  obtain ⟨σ1,g1,g2,g3⟩:=Dh hg hR;exact (h.2 M0 σ1 w vals g1 (ha.q g3)).mono λe w' ⟨v,d,H1,σ2,he,h1,hv,hs,hk,hq⟩=>⟨v,d,H1,σ2,he,h1,hv,g2.trans hs,g3.trans hk,hq⟩⟩
theorem yO {P:Program}{md:Nat->Bool}{ops:Array Oper}{a:List Oper}{e:eB}{b:Option Tmp}{K:eB->AHeap->Prop}{f:FuncId}{args:UN}{H H':AHeap}(c:Ghosts H H')(h:f7 P md ops a e b K f args H'):f7 P md ops a e b K f args H:=by grind [f7, JY]
end Go.Abs
end
section
namespace Go.Abs
mutual
def mL:D->D
 | .nil=>.list []
 | .agg cs=>.agg (iU cs)
 | .tup cs=>.tup (iU cs)
 | .list es=>.list (fD es)
 | d=>d
def iU:UN->UN
 | []=>[]
 | d :: l=>mL d :: iU l
def fD:UE->UE
 | []=>[]
 | c :: l=>iU c :: fD l
end
theorem C0 (l:UN):iU l=l.map mL:=by
 induction l with
 | nil=>rfl
 | cons a l ih=>simp [iU,ih]
theorem Eb (l:UE):fD l=l.map iU:=by
 induction l with
 | nil=>rfl
 | cons a l ih=>simp [fD,ih]
theorem HC (l:UE):(fD l).flatten=l.flatten.map mL:=by
 induction l with
 | nil=>rfl
 | cons a l b=>simp only [fD,fH,b,List.map_append,C0]
theorem RO {M:Nat->Prop}{σ:Nat->Option Ow}{N:Nat->Prop}{w:World}{v:Value}{d:D}(h:RepV M σ N w v d):RepV M σ N w v (mL d):=by
 have b:∀ {vs:List Value} {ds:UN},(∀ (j:Nat) (u:Value) (d:D),vs[j]?=some u->ds[j]?=some d->RepV M σ N w u (mL d)) ->
   ∀ (j:Nat) (u:Value) (d:D),vs[j]?=some u->(ds.map mL)[j]?=some d->RepV M σ N w u d:=by
  grind
 induction h with
 | int=>simp only [mL];exact .int _ _
 | bool=>simp only [mL];exact .bool _
 | str=>simp only [mL];exact .str _
 | agg vs ds hl h1 _ ih =>
  simp only [mL,C0];exact .agg vs _ (by simp [hl]) h1 (b ih)
 | tup vs ds hl _ ih =>
  simp only [mL,C0];exact .tup vs _ (by simp [hl]) (b ih)
 | nil=>simp only [mL];exact .listN
 | listN=>simp only [mL,fD];exact .listN
 | list ad cap sz xs es hc hm' hsz hl h1 hcell _ ih =>
  have a:(fD es).length=es.length:=by rw [Eb,aR]
  have:=RepV.list (M:=M) (σ:=σ) (N:=N) (w:=w) ad cap sz xs (fD es) (by rw [a];exact hc) hm' (λc hc'=>by
   rw [Eb,aX] at hc';obtain ⟨y,e,rfl⟩:=hc';rw [C0,aR];exact hsz y e) (by rw [HC,aR];exact hl) h1 hcell (by rw [HC];exact b ih)
  rwa [a] at this
 | adr ad xs ds hl h1 hcell hr ih=>simp only [mL];exact .adr ad xs ds hl h1 hcell hr
 | ne ad cap b=>simp only [mL];exact .ne ad cap b
 | nilp=>simp only [mL];exact .nilp
 | ptr v id ver i off hN h1 h=>simp only [mL];exact .ptr v id ver i off hN h1 h
 | own v id n hN h1 h=>simp only [mL];exact .own v id n hN h1 h
 | win v id ver lo hi hN h1 hlh h=>simp only [mL];exact .win v id ver lo hi hN h1 hlh h
 | fn f vs ds hl hr ih=>simp only [mL];exact .fn f vs ds hl hr
 | nilf=>simp only [mL];exact .nilf
 | opt v g d hf h ih=>simp only [mL];exact .opt v g d hf h
 | cst v=>simp only [mL];exact .cst v
 | junk v=>simp only [mL];exact .junk v
theorem vY {P:Program}{f:FuncId}{args:UN}{r:D}(b:r.Q=true)(h:∀ Q:D->AHeap->Prop,(∀ d H',mL (oX H' d)=r->Q d H')->ACalls P f args .as Q):Pure P f args r:=by
 have h:=h (λd H'=>mL (oX H' d)=r) λ_ _ h=>h;refine ⟨h.1,λM w vals hM ha=>(h.2 M jL w vals (Gj M w hM) (by rw [Gn];exact ha)).mono λe w' ⟨v,d,H',σ',g,k,c,a,n,m⟩=>⟨v,g,?_,AG a⟩⟩;have l:RepV (dQ M (f5 (D9 d) H') σ') σ' (f5 (D9 d) H').D w' v r:=by
  have o:=RO (u3 k c (D9 d) λi hi=>hi);grind
 exact l.br (λad u hm j=>⟨λh=>hm (.inl h),j⟩) b
attribute [go_sem] mL iU fD
end Go.Abs
end
section
namespace Go.Abs
def CE (H:AHeap)(d:D):D :=
 match d with
 | .ptr id ver i off=>match gA H (.ptr id ver i off) with
  | some (c :: cs)=>.adr ((c :: cs).map (fW H))
  | _=>.ptr id ver i off
 | d=>jG H d
def De (H:AHeap)(d:D):List Nat :=
 match d with
 | .ptr id ver i off=>id :: (match gA H (.ptr id ver i off) with|some cs=>cs.flatMap l9|none=>[])
 | d=>eG d
section
variable {P:Program} {M0:Nat→Prop} {H:AHeap} {σ:Nat→Option Ow} {w:World}
theorem NJ {v:Value}{d:D}(G:Rel M0 H σ w)(g:RepV (dQ M0 H σ) σ H.D w v d)(a:List Nat)(m:∀ i∈De H d,i∈a) :
  RepV (dQ M0 (f5 a H) σ) σ (f5 a H).D w v (CE H d):=by
 obtain ⟨A,J,N,z⟩:=gJ a G;have b:=g.q J;have h:∀ i∈a,∀ k,(f5 a H).get i=some k->k.fz=true:=λi m k hk=>by
  have s:=(z i).1;rw [hk] at s;cases o:H.get i with
  | none=>rw [o] at s;cases s
  | some k0 =>
   grind
 cases d with
 | ptr id ver i off =>
  have n:=Dx (λi=>(z i).1) (.ptr id ver i off);simp only [CE];cases F:gA H (.ptr id ver i off) with
  | none=>exact b
  | some B =>
   cases B with
   | nil=>exact b
   | cons c B =>
    rw [F] at n;have p:∀ y∈c :: B,∀ q∈l9 y,q∈a:=λy l q e=>m q (by simp only [De,F,aV,bT];exact .inr ⟨y,aV.1 l,e⟩);have r:id∈a:=m id (by simp only [De];exact f8 ..);obtain ⟨O,L,M,C,E,t⟩:=rY A b n aE;have I:=zW A b λq e k hk=>h q (by simp only [Ww,bP] at e;subst e;exact r) k hk;simp only [FL,n] at I;cases I with
    | adr ad' xs' ds hl' hone' hcell' hrep' =>
     refine .adr ad' xs' _ (bZ hl') hone' hcell' λj u x hu g=>?_;rw [aM,bU] at g;obtain ⟨y,l,rfl⟩:=g;rw [<- q8 (λi=>(z i).1) y];exact nS A (hrep' j u y hu l) λq e k hk=>h q (p y (aK l) q e) k hk
 | _=>exact nQ G g a m
theorem SR {vals:List Value}{args:UN}(hR:Rel M0 H σ w)(ha:RepL (dQ M0 H σ) σ H.D w vals args)(ids:List Nat)(hi:∀ i∈args.flatMap (De H),i∈ids) :
  RepL (dQ M0 (f5 ids H) σ) σ (f5 ids H).D w vals (args.map (CE H)) :=
 ⟨by simpa using ha.len,λj u d hu hd=>by
  rw [aM,bU] at hd;obtain ⟨y,hy,rfl⟩:=hd;exact NJ hR (ha.Z j u y hu hy) ids λi hii=>hi i (bT.2 ⟨y,aK hy,hii⟩)⟩
theorem DO {f:FuncId}{args:UN}{r:D}{Q:D->AHeap->Prop}(c:Pure P f (args.map (CE H)) r)(b:D.J (args.map (CE H))=true)(g:r.bd=true)(k:Q r H):ACalls P f args H Q:=by
 refine ⟨c.1,λM0 σ w vals hR ha=>?_⟩;obtain ⟨o,s,q,p⟩:=gJ (args.flatMap (De H)) hR;refine (c.2 (dQ M0 (f5 (args.flatMap (De H)) H) σ) w vals (v6 o) (iO (λ_ h=>h) (SR hR ha _ λi h=>h) b)).mono λe w' ⟨v,j,d,a⟩=>?_;obtain ⟨n,m,l⟩:=hR.grow a.os a.tape a.output a.size a.block;exact ⟨v,r,H,σ,j,n,Au d g,m,l,k⟩
theorem Fo {md:Nat->Bool}{ops:Array Oper}{a:List Oper}{e:eB}{b:Option Tmp}{K:eB->AHeap->Prop}{f:FuncId}{args args':UN}{r:D}(d:Pure P f args' r)(i:args.map (CE H)=args')(c:D.J args'=true)(g:r.bd=true)
 (h:oI P md ops a (oO e b r) H K):f7 P md ops a e b K f args H:=by grind [f7, DO]
theorem RA {H:AHeap}{d:D}(h:∀ a b c e,d≠.ptr a b c e):CE H d=jG H d:=by cases d<;>first|rfl|exact absurd rfl (h _ _ _ _)
theorem Wv {H:AHeap}{d:D}(h:∀ a b c e,d≠.ptr a b c e):De H d=eG d:=by cases d<;>first|rfl|exact absurd rfl (h _ _ _ _)
theorem Qj {S:List Nat}{H H':AHeap}{d:D}(l:gM S H' H)(j:∀ x∈De H d,x∈S):CE H' d=CE H d:=by
 by_cases k:∀ a b c e,d≠.ptr a b c e
 .rw [RA k,RA k];rw [Wv k] at j;exact G8 l j
 .obtain ⟨h,f,i,g,rfl⟩:∃ a b c e,d=.ptr a b c e:=by
   grind
  have r:=l h (j h (by simp only [De];exact f8 ..));have p:gA H' (.ptr h f i g)=gA H (.ptr h f i g):=by simp only [gA,r]
  simp only [CE,p];cases q:gA H (.ptr h f i g) with
  | none=>rfl
  | some n =>
   cases n with
   | nil=>rfl
   | cons c n =>
    simp only;congr 1;exact cH λy hy=>xY l λx o=>j x (by simp only [De,q,aV,bT];exact .inr ⟨y,aV.1 hy,o⟩)
theorem wA {md:Nat->Bool}{ops:Array Oper}{g:List (Nat × Nat)}{k i:Nat}{a:List Oper}{b:List (Nat × List Nat)}{e:eB}{c:Option Tmp}{K:eB->AHeap->Prop}{f:FuncId}{args args':UN}{H:AHeap}{r:D}{t:Bool}
  (n:t=true->Pure P f args' r) (s:args.map (CE H)=args') (j:t=true->D.J args'=true) (p:t=true->r.bd=true) {S:List Nat} (u:args.flatMap (De H)=S) (q:o6 g i S b)
  (h:kW P md ops g k (i+1) a ((i,S) :: b) (oO e c (.opt t r)) H K):vM P md ops g k i a b e c K t f args H:=by
 subst s u;unfold vM;refine ⟨r,_,λht H' hag=>?_,q,h⟩;have l:args.map (CE H')=args.map (CE H):=cH λd o=>Qj hag λx m=>bT.2 ⟨d,o,m⟩;exact DO (by rw [l];exact n ht) (by rw [l];exact j ht) (p ht) ⟨rfl,rfl⟩
end
attribute [go_sem] De
end Go.Abs
end
section
namespace Go.Abs
def qX (H:AHeap)(d:D):D :=
 match d with
 | .own id n=>match H.get id with
  | some k=>if k.P.length=n then .list (k.P.map (·.map (fW H))) else .own id n
  | none=>.own id n
 | d=>fW H d
def Mr (H:AHeap)(d:D):List Nat :=
 match d with
 | .own id n=>id :: (match H.get id with|some k=>k.P.flatten.flatMap l9|none=>[])
 | d=>l9 d
def kQ (H:AHeap):D->D
 | .agg cs=>.agg (cs.map (qX H))
 | d=>qX H d
def HZ (H:AHeap):D->List Nat
 | .agg cs=>cs.flatMap (Mr H)
 | d=>Mr H d
def jK (H:AHeap):D->D
 | .tup vs=>.tup (vs.map (kQ H))
 | d=>kQ H d
def By (H:AHeap):D->List Nat
 | .tup vs=>vs.flatMap (HZ H)
 | d=>HZ H d
section
variable {P:Program} {M0:Nat→Prop} {H:AHeap} {σ:Nat→Option Ow} {w:World}
theorem RepV.eo {M:Nat->Prop}{N:Nat->Prop}{v:Value}{es:UE}{f:D->D}(h:RepV M σ N w v (.list es))(e:∀ y∈es.flatten,∀ u,RepV M σ N w u y->RepV M σ N w u (f y)) :
  RepV M σ N w v (.list (es.map (·.map f))):=by
 have a:(es.map (·.map f)).flatten=es.flatten.map f:=List.map_flatten.symm;cases h with
 | listN=>exact .listN
 | list ad cap sz xs es hc hm hsz hl h1 hcell hr =>
  have:=RepV.list (M:=M) (σ:=σ) (N:=N) (w:=w) ad cap sz xs (es.map (·.map f)) (bZ hc) hm (λc hc'=>by
   rw [aX] at hc';obtain ⟨y,b,rfl⟩:=hc';rw [aR];exact hsz y b) (by rw [a,aR];exact hl) h1 hcell (λj u d hu hd=>by
   rw [a,aM,bU] at hd;obtain ⟨y,b,rfl⟩:=hd;exact e y (aK b) u (hr j u y hu b))
  grind
theorem V4 {d:D}(h:∀ a b,d≠.own a b):qX H d=fW H d:=by cases d<;>first|rfl|exact absurd rfl (h _ _)
theorem Wu {d:D}(h:∀ a b,d≠.own a b):Mr H d=l9 d:=by cases d<;>first|rfl|exact absurd rfl (h _ _)
theorem EQ {v:Value}{d:D}(B:Rel M0 H σ w)(z:RepV (dQ M0 H σ) σ H.D w v d)(c:List Nat)(m:∀ i∈Mr H d,i∈c) :
  RepV (dQ M0 (f5 c H) σ) σ (f5 c H).D w v (qX H d):=by
 obtain ⟨r,C,E,o⟩:=gJ c B;have l:=z.q C;have h:∀ i∈c,∀ k,(f5 c H).get i=some k->k.fz=true:=λi m k f=>by
  have q:=(o i).1;rw [f] at q;cases p:H.get i with
  | none=>rw [p] at q;cases q
  | some k0 =>
   grind
 by_cases s:∀ a b,d≠.own a b
 .rw [V4 s,<- q8 (λi=>(o i).1) d];rw [Wu s] at m;exact nS r l λi e k f=>h i (m i e) k f
 .obtain ⟨t,n,rfl⟩:∃ a b,d=.own a b:=by
   grind
  have g:=nS r l λi e k f=>h i (m i (by
   simp only [l9,bP] at e;subst e;simp only [Mr];exact f8 ..)) k f
  rw [q8 (λi=>(o i).1)] at g;simp only [qX,fW] at g ⊢;cases f:H.get t with
  | none=>rw [f] at g;exact g
  | some k =>
   rw [f] at g;simp only at g ⊢;split
   .rename_i A;rw [if_pos A] at g;refine g.eo λy x u hu=>?_;rw [<- q8 (λi=>(o i).1) y];exact nS r hu λi e k' hk'=>h i (m i (by
     simp only [Mr,f,aV,bT];exact .inr ⟨y,x,e⟩)) k' hk'
   grind
theorem CD {v:Value}{d:D}(c:Rel M0 H σ w)(f:RepV (dQ M0 H σ) σ H.D w v d)(a:List Nat)(g:∀ i∈HZ H d,i∈a) :
  RepV (dQ M0 (f5 a H) σ) σ (f5 a H).D w v (kQ H d):=by
 cases d with
 | agg cs =>
  obtain ⟨h,m,l,k⟩:=gJ a c;cases f with
  | agg vs ds hl h hr =>
   refine .agg vs _ (bZ hl) h λj u x hu hd=>?_;rw [aM,bU] at hd;obtain ⟨y,e,rfl⟩:=hd;exact EQ c (hr j u y hu e) a λi b=>g i (by simp only [HZ,bT];exact ⟨y,aK e,b⟩)
 | _=>exact EQ c f a g
theorem LT {v:Value}{d:D}(g:Rel M0 H σ w)(e:RepV (dQ M0 H σ) σ H.D w v d)(a:List Nat)(f:∀ i∈By H d,i∈a) :
  RepV (dQ M0 (f5 a H) σ) σ (f5 a H).D w v (jK H d):=by
 cases d with
 | tup cs =>
  cases e with
  | tup vs ds hl hr =>
   refine .tup vs _ (bZ hl) λj u x hu hd=>?_;rw [aM,bU] at hd;obtain ⟨y,c,rfl⟩:=hd;exact CD g (hr j u y hu c) a λi b=>f i (by simp only [By,bT];exact ⟨y,aK c,b⟩)
 | _=>exact CD g e a f
theorem ACalls.cN {f:FuncId}{args:UN}{Q:D->AHeap->Prop}(h:ACalls P f args H λd H'=>Q (jK H' d) (f5 (By H' d) H')):ACalls P f args H Q :=
 ⟨h.1,λM0 σ w vals hR ha=>(h.2 M0 σ w vals hR ha).mono λe w' ⟨v,d,H',σ',he,hR',hv,hst,hk,hq⟩=>by
  obtain ⟨f1,f2,_,_⟩:=gJ (By H' d) hR';exact ⟨v,_,_,σ',he,f1,LT hR' hv _ λ_ h=>h,hst,hk.trans f2,hq⟩⟩
end
end Go.Abs
end
section
namespace Go.Abs
theorem wa {a b:Prop}(x:a)(y:b):a/\b:=⟨x,y⟩
section
variable {P:Program} {c:Cfg} {a b:Code} {Q:Exit→eB→AHeap→Prop} {e:eB} {H:AHeap}
theorem wq {t:Bool}{A B:Prop}(h1:A->pI P c a Q e H)(h2:B->pI P c b Q e H)
 (k1:t=true->A:=by (intro h;first|(simp [go_sem] at h;exact h)|exact h)) (k2:t=false->B:=by (intro h;first|(simp [go_sem] at h;exact h)|exact h)) :
 y4 P c a b Q e H (.bool t):=bA (λh=>h1 (k1 h)) (λh=>h2 (k2 h))
theorem bC (I:Nat->eB->AHeap->Prop)(μ:Nat->Nat)(x0:Nat)(h0:I x0 e H)
  (hs:∀ J:Nat->eB->AHeap->Prop,(∀ x e H,J x e H↔I x e H)->∀ x e H,I x e H->pI P c b (tS (Bw J μ x) Q) e H):Al P c b Q e H :=
 yY I μ x0 h0 (hs I λ_ _ _=>Iff.rfl)
theorem rE {H':AHeap}(hg:Ghosts H H')(I:Nat->eB->AHeap->Prop)(μ:Nat->Nat)(x0:Nat)(h0:I x0 e H')
  (hs:∀ J:Nat->eB->AHeap->Prop,(∀ x e H,J x e H↔I x e H)->∀ x e H,I x e H->pI P c b (tS (Bw J μ x) Q) e H):Al P c b Q e H :=
 XR hg I μ x0 h0 (hs I λ_ _ _=>Iff.rfl)
end
section
variable {p q:Prop}
structure Wh (q:Prop):Prop where
 h:q
theorem wv (k:q->p:=by (intro h;first|(simp [go_sem,seval,Y];exact h)|exact h))(h:q):p:=k h
theorem kZ (k:q->p:=by (intro h;first|(simp -implicitDefEqProofs [go_sem,seval,Y];exact h)|exact h))(h:q):p:=k h
theorem wo (k:Wh q->p:=by (intro h;(try simp [go_sem,seval,Y]);(repeat first|intro _|refine ⟨iI,?_⟩);exact h.1))(h:q):p:=k ⟨h⟩
theorem wp (k:Wh q->p:=by (intro h;(try simp [go_sem,seval,Y]);(repeat first|intro _|refine ⟨fS,?_⟩);exact h.1))(h:q):p:=k ⟨h⟩
theorem Rs (k:Wh q->p:=by (intro h;(try simp -implicitDefEqProofs [go_sem,seval,Y]);(repeat first|intro _|refine ⟨iI,?_⟩);exact h.1))(h:q):p:=k ⟨h⟩
theorem sM (k:Wh q->p:=by (intro h;(try simp -implicitDefEqProofs [go_sem,seval,Y]);(repeat first|intro _|refine ⟨fS,?_⟩);exact h.1))(h:q):p:=k ⟨h⟩
theorem wl (h:p:=by first|rfl|(simp [go_sem,<- List.map_take,<- List.map_drop,Y];done)):p:=h
theorem wr (h:p:=by simp [Jj,FL,gA,go_sem,<- List.map_take,<- List.map_drop,Y]):p:=h
theorem Zr (h:p:=by simp [Jj,FL,CE,De,gA,go_sem,<- List.map_take,<- List.map_drop,Y]):p:=h
theorem wrd (h:p:=by simp [go_sem,Y]):p:=h
theorem wdq (h:p:=by simp [go_sem,De,gA,Y]):p:=h
theorem wz (h:p:=by (simp [go_sem,Y])<;>rfl):p:=h
theorem wn (h:p:=by first|omega|(simp [go_sem,seval,Y]<;>omega)):p:=h
theorem wg (h:p:=by and_intros<;>first|omega|(simp [go_sem,seval,Y]<;>omega)):p:=h
theorem wi (h:p:=by first|assumption|omega|(simp [go_sem,Y];done)|(simp_all;done)):p:=h
theorem wj (h:p:=by first|assumption|omega|(simp [go_sem,Y];done)|(simp_all<;>omega)):p:=h
theorem wy (h:p:=by simp [go_sem,Y]<;>first|omega|(rw [aT];simp<;>omega)|(simp_all<;>omega)):p:=h
end
section
variable {P:Program} {c:Cfg} {a b:Code} {Q:Exit→eB→AHeap→Prop} {e:eB} {H:AHeap} {p:Prop}
theorem dR {t:Bool}{A B:Prop}(h1:A->pI P c a Q e H)(h2:B->pI P c b Q e H)(k:y4 P c a b Q e H (.bool t)->p:=by (intro h;first|(simp [go_sem,seval,Y];exact h)|exact h))
 (k1:t=true->A:=by (intro h;first|(simp [go_sem] at h;exact h)|exact h)) (k2:t=false->B:=by (intro h;first|(simp [go_sem] at h;exact h)|exact h)):p:=k (bA (λh=>h1 (k1 h)) (λh=>h2 (k2 h)))
theorem eJ {t:Bool}{A B:Prop}(h1:A->pI P c a Q e H)(h2:B->pI P c b Q e H)(k:Wh (y4 P c a b Q e H (.bool t))->p:=by (intro h;(try simp [go_sem,seval,Y]);(repeat first|intro _|refine ⟨iI,?_⟩);exact h.1))
 (k1:t=true->A:=by (intro h;first|(simp [go_sem] at h;exact h)|exact h)) (k2:t=false->B:=by (intro h;first|(simp [go_sem] at h;exact h)|exact h)):p:=k ⟨bA (λh=>h1 (k1 h)) (λh=>h2 (k2 h))⟩
theorem mA {t:Bool}{A B:Prop}(h1:A->pI P c a Q e H)(h2:B->pI P c b Q e H)(k:Wh (y4 P c a b Q e H (.bool t))->p:=by (intro h;(try simp [go_sem,seval,Y]);(repeat first|intro _|refine ⟨fS,?_⟩);exact h.1))
 (k1:t=true->A:=by (intro h;first|(simp [go_sem] at h;exact h)|exact h)) (k2:t=false->B:=by (intro h;first|(simp [go_sem] at h;exact h)|exact h)):p:=k ⟨bA (λh=>h1 (k1 h)) (λh=>h2 (k2 h))⟩
theorem wx {I J:Nat->eB->AHeap->Prop}{m:Nat->Nat}{x:Nat}(hJ:∀ x e H,J x e H↔I x e H)(x':Nat)(hI:I x' e H)(hm:m x'<m x:=by omega):Bw J m x e H:=iW x' hm ((hJ _ _ _).2 hI)
end
end Go.Abs
end
section
set_option maxRecDepth 100000
open Go Go.Proofs Go.Abs Tryz
namespace Go.Abs
abbrev Pua:=Pure prog
end Go.Abs
namespace Go.Abs.Tz
abbrev tyA (t:Nat)(z:D):Prop:=tk prog t=.one/\zd prog t=some [z]/\(prog.info? t).isSome=true/\prog.cellsOf t=1
abbrev Nd (t:Nat):Prop:=tyA t .nil
abbrev zK (t:Nat):Prop:=tk prog t=.one/\(prog.info? t).isSome=true/\prog.cellsOf t=1
abbrev tyD (t n k s:Nat)(z:UN):Prop:=tk prog t=.agg n/\zd prog t=some z/\bk prog t=some (.ar s)/\Vx prog t=some (k,s)/\(prog.info? t).isSome=true/\prog.cellsOf t=n
abbrev WM (t:Nat)(k:IntKind)(z:D):Prop:=tyA t z/\QO prog t=some k
abbrev FF (t n:Nat)(z:UN)(l:List (Nat × Nat)):Prop:=tk prog t=.agg n/\zd prog t=some z/\bk prog t=some (.st l)/\(prog.info? t).isSome=true/\prog.cellsOf t=n
abbrev Nc (t e s b:Nat)(z:UN):Prop:=sl prog t=some ⟨e,s,b,z⟩
abbrev YE (t n:Nat):Prop:=UU prog t=some n
@[go_sem] theorem ty0:WM 3 .i64 (.int .i64 0)/\tyA 4 (.bool false)/\WM 5 .u8 (.int .u8 0)/\tyA 9 (.str ⟨#[]⟩)/\Nd 22/\Nd 23/\FF 25 2 [.nil,.nil] [(0,1),(1,1)]/\Nd 26:=by and_intros<;>rfl
@[go_sem] theorem ty8:Nd 27/\FF 29 2 [.nil,.nil] [(0,1),(1,1)]/\Nd 30/\Nd 31/\FF 33 5 [.nil,.nil,.nil,.int .i64 0,.nil] [(0,2),(2,1),(3,1),(4,1)]/\FF 35 2 [.nil,.nil] [(0,1),(1,1)]/\FF 36 2 [.nil,.nil] [(0,1),(1,1)]/\Nd 37:=by and_intros<;>rfl
@[go_sem] theorem afX:FF 39 9 [.int .i64 0,.nil,.nil,.nil,.nil,.nil,.nil,.int .i64 0,.nil] [(0,1),(1,1),(2,2),(4,5)]/\FF 41 25 [.str ⟨#[]⟩,.nil,.nil,.nil,.int .i64 0,.nil,.nil,.nil,.nil,.int .i64 0,.nil,.nil,.nil,.nil,.nil,.bool false,.int .i64 0,.nil,.nil,.nil,.nil,.nil,.nil,.int .i64 0,.nil] [(0,1),(1,5),(6,5),(11,2),(13,2),(15,1),(16,9)]/\Nd 42/\FF 44 3 [.nil,.nil,.nil] [(0,2),(2,1)]/\WM 47 .i64 (.int .i64 0)/\zK 48/\Nd 50/\zK 51:=by and_intros<;>rfl
@[go_sem] theorem afW:FF 55 3 [.nil,.nil,.nil] [(0,2),(2,1)]/\FF 57 38 [.str ⟨#[]⟩,.nil,.nil,.nil,.int .i64 0,.nil,.nil,.nil,.nil,.int .i64 0,.nil,.nil,.nil,.nil,.nil,.bool false,.int .i64 0,.nil,.nil,.nil,.nil,.nil,.nil,.int .i64 0,.nil,.nil,.nil,.nil,.nil,.nil,.nil,.nil,.nil,.nil,.nil,.nil,.nil,.nil] [(0,25),(25,3),(28,3),(31,3),(34,2),(36,2)]/\zK 59/\WM 69 .u64 (.int .u64 0)/\zK 81/\Nd 83/\zK 84/\Nd 86:=by and_intros<;>rfl
@[go_sem] theorem afV:FF 88 4 [.str ⟨#[]⟩,.int .i64 0,.int .i64 0,.nil] [(0,1),(1,1),(2,1),(3,1)]/\zK 93/\zK 96/\FF 100 2 [.int .i64 0,.int .i64 0] [(0,1),(1,1)]/\FF 102 4 [.int .i64 0,.int .i64 0,.int .i64 0,.int .i64 0] [(0,1),(1,1),(2,2)]/\zK 110/\Nd 117/\zK 118:=by and_intros<;>rfl
@[go_sem] theorem afU:zK 122/\zK 126/\zK 128/\FF 141 4 [.str ⟨#[]⟩,.int .i64 0,.bool false,.nil] [(0,1),(1,1),(2,1),(3,1)]/\FF 143 7 [.str ⟨#[]⟩,.int .i64 0,.int .i64 0,.int .i64 0,.int .i64 0,.int .i64 0,.int .i64 0] [(0,1),(1,1),(2,1),(3,1),(4,1),(5,1),(6,1)]/\FF 145 3 [.int .i64 0,.int .i64 0,.int .i64 0] [(0,1),(1,1),(2,1)]/\tyA 150 .nilf/\tyA 154 .nilf:=by and_intros<;>rfl
@[go_sem] theorem afT:zK 167/\zK 169/\zK 175/\zK 186/\zK 190/\tyA 209 .nilf/\Nd 213/\zK 214:=by and_intros<;>rfl
@[go_sem] theorem afS:zK 216/\zK 221/\tyA 226 .nilp/\tyA 237 .nilf/\FF 248 5 [.int .i64 0,.int .i64 0,.int .i64 0,.int .i64 0,.int .i64 0] [(0,1),(1,2),(3,2)]/\Nd 252/\FF 259 3 [.int .i64 0,.str ⟨#[]⟩,.int .i64 0] [(0,1),(1,1),(2,1)]/\zK 261:=by and_intros<;>rfl
@[go_sem] theorem afR:zK 269/\tyA 275 .nilf/\tyA 278 .nilf/\WM 284 .u64 (.int .u64 0)/\FF 290 8 [.nil,.nil,.nil,.nil,.nil,.nil,.nil,.nil] [(0,2),(2,2),(4,2),(6,2)]/\Nd 292/\zK 293/\Nd 297:=by and_intros<;>rfl
@[go_sem] theorem afQ:FF 299 5 [.int .i64 0,.nil,.nil,.nil,.nil] [(0,1),(1,3),(4,1)]/\zK 300/\zK 302/\zK 305/\zK 306/\FF 309 2 [.int .i64 0,.int .i64 0] [(0,1),(1,1)]/\zK 324/\zK 327:=by and_intros<;>rfl
@[go_sem] theorem afP:tyA 331 .nilf/\tyA 334 .nilf/\WM 339 .i64 (.int .i64 0)/\zK 340/\WM 346 .u32 (.int .u32 0)/\Nd 348/\zK 349/\tyA 351 .nilf:=by and_intros<;>rfl
@[go_sem] theorem afO:zK 352/\Nd 355/\FF 359 6 [.nil,.nil,.nil,.nil,.nil,.bool false] [(0,2),(2,3),(5,1)]/\zK 361/\tyA 363 .nilp/\FF 365 11 [.nil,.nil,.nil,.nil,.nil,.nil,.nil,.nil,.bool false,.int .i64 0,.nil] [(0,2),(2,2),(4,2),(6,2),(8,1),(9,1),(10,1)]/\FF 368 2 [.int .i64 0,.int .i64 0] [(0,1),(1,1)]/\tyA 371 .nilf:=by and_intros<;>rfl
@[go_sem] theorem afN:zK 376/\tyA 383 .nilf/\WM 385 .u64 (.int .u64 0)/\tyA 389 .nilp/\tyA 391 .nilp/\FF 393 12 [.nil,.nil,.nil,.nil,.nil,.nil,.nil,.bool false,.int .i64 0,.nil,.nil,.nil] [(0,2),(2,2),(4,1),(5,2),(7,1),(8,1),(9,1),(10,1),(11,1)]/\zK 394/\tyA 399 .nilf:=by and_intros<;>rfl
@[go_sem] theorem afC:zK 402/\tyA 414 .nilp:=by and_intros<;>rfl
@[go_sem] theorem afL:Nc 22 141 4 56 [.str ⟨#[]⟩,.int .i64 0,.bool false,.nil]/\Nc 23 143 7 64 [.str ⟨#[]⟩,.int .i64 0,.int .i64 0,.int .i64 0,.int .i64 0,.int .i64 0,.int .i64 0]/\Nc 26 3 1 8 [.int .i64 0]/\Nc 27 145 3 24 [.int .i64 0,.int .i64 0,.int .i64 0]/\Nc 30 102 4 32 [.int .i64 0,.int .i64 0,.int .i64 0,.int .i64 0]/\Nc 31 248 5 40 [.int .i64 0,.int .i64 0,.int .i64 0,.int .i64 0,.int .i64 0]/\Nc 37 39 9 184 [.int .i64 0,.nil,.nil,.nil,.nil,.nil,.nil,.int .i64 0,.nil]/\Nc 42 26 1 24 [.nil]/\Nc 50 57 38 824 [.str ⟨#[]⟩,.nil,.nil,.nil,.int .i64 0,.nil,.nil,.nil,.nil,.int .i64 0,.nil,.nil,.nil,.nil,.nil,.bool false,.int .i64 0,.nil,.nil,.nil,.nil,.nil,.nil,.int .i64 0,.nil,.nil,.nil,.nil,.nil,.nil,.nil,.nil,.nil,.nil,.nil,.nil,.nil,.nil]/\Nc 83 88 4 56 [.str ⟨#[]⟩,.int .i64 0,.int .i64 0,.nil]/\Nc 86 9 1 16 [.str ⟨#[]⟩]/\Nc 117 55 3 72 [.nil,.nil,.nil]:=by and_intros<;>rfl
@[go_sem] theorem afB:Nc 213 36 2 48 [.nil,.nil]/\Nc 252 4 1 1 [.bool false]/\Nc 292 368 2 16 [.int .i64 0,.int .i64 0]/\Nc 297 299 5 104 [.int .i64 0,.nil,.nil,.nil,.nil]/\Nc 348 29 2 48 [.nil,.nil]/\Nc 355 252 1 24 [.nil]:=by and_intros<;>rfl
@[go_sem] theorem afM:YE 100 2/\YE 102 4/\YE 145 3/\YE 248 5/\YE 309 2/\YE 368 2:=by and_intros<;>(show _=_;kernel_rfl)
attribute [go_sem] underlying3 underlying4 underlying5 underlying9 underlying22 underlying23 underlying25 underlying26 underlying27 underlying29 underlying30 underlying31 underlying33 underlying35 underlying36 underlying37 underlying39 underlying41 underlying42 underlying44
attribute [go_sem] underlying47 underlying48 underlying50 underlying51 underlying55 underlying57 underlying59 underlying69 underlying81 underlying83 underlying84 underlying86 underlying88 underlying93 underlying96 underlying100 underlying102 underlying110 underlying117 underlying118
attribute [go_sem] underlying122 underlying126 underlying128 underlying141 underlying143 underlying145 underlying150 underlying154 underlying167 underlying169 underlying175 underlying186 underlying190 underlying209 underlying213 underlying214 underlying216 underlying221 underlying226 underlying237
attribute [go_sem] underlying248 underlying252 underlying259 underlying261 underlying269 underlying275 underlying278 underlying284 underlying290 underlying292 underlying293 underlying297 underlying299 underlying300 underlying302 underlying305 underlying306 underlying309 underlying324 underlying327
attribute [go_sem] underlying331 underlying334 underlying339 underlying340 underlying346 underlying348 underlying349 underlying351 underlying352 underlying355 underlying359 underlying361 underlying363 underlying365 underlying368 underlying371 underlying376 underlying383 underlying385 underlying389
attribute [go_sem] underlying391 underlying393 underlying394 underlying399 underlying402 underlying414
theorem mixed:prog.follows .mixedOrders=true:=rfl
theorem pK {f:FuncId}{fn:Func}{x:Code}{rs:List ResultVar}{args:UN}{r:D}(cfg:Cfg)(hf:prog.funcs[f]?=some fn)(hb:fn.body=some x)
  (h:∀ Q:D->AHeap->Prop,(∀ d H',(oX H' d=r\/Nf (oX H' d)=r)->Q d H')->pI prog cfg x (SO prog rs Q) (Dl args) .as)
  (hcl:r.Q=true:=by first|rfl|(simp [go_sem];done)) (hnm:(fn.name=="runtime.NumGoroutine")=false:=by rfl) (hlen:args.length<=fn.ntmps:=by exact aF rfl) (hok:qP cfg fn.ntmps x=true:=by kernel_rfl) (hr:fn.results.toList=rs:=by exact V5):Pure prog f args r :=
 Kp hcl λQ hQ=>aJ mixed hf hb hnm hlen hok (h Q hQ) hr
theorem p0 {f:FuncId}{fn:Func}{x:Code}{rs:List ResultVar}{args:UN}{r:D}(hf:prog.funcs[f]?=some fn)(hb:fn.body=some x)
  (h:∀ Q:D->AHeap->Prop,(∀ d H',(oX H' d=r\/Nf (oX H' d)=r)->Q d H')->True->pI prog ⟨λ_=>false,λ_=>[]⟩ x (SO prog rs Q) (Dl args) .as)
(hcl:r.Q=true:=by first|rfl|(simp [go_sem];done)) (hnm:(fn.name=="runtime.NumGoroutine")=false:=by rfl) (hlen:args.length<=fn.ntmps:=by exact aF rfl) (hok:qP ⟨λ_=>false,λ_=>[]⟩ fn.ntmps x=true:=by kernel_rfl) (hr:fn.results.toList=rs:=by exact V5):Pure prog f args r:=pK ⟨λ_=>false,λ_=>[]⟩ hf hb (λQ W=>h Q W trivial) hcl hnm hlen hok hr
theorem cK {f:FuncId}{fn:Func}{x:Code}{rs:List ResultVar}{args:UN}{Q:D->AHeap->Prop}{H:AHeap}(cfg:Cfg)(hf:prog.funcs[f]?=some fn)(hb:fn.body=some x)(h:pI prog cfg x (SO prog rs Q) (Dl args) H) (hnm:(fn.name=="runtime.NumGoroutine")=false:=by rfl) (hlen:args.length<=fn.ntmps:=by exact aF rfl) (hok:qP cfg fn.ntmps x=true:=by kernel_rfl) (hr:fn.results.toList=rs:=by exact V5):ACalls prog f args H Q:=aJ mixed hf hb hnm hlen hok h hr
theorem c0 {f:FuncId}{fn:Func}{x:Code}{rs:List ResultVar}{args:UN}{Q:D->AHeap->Prop}{H:AHeap}(hf:prog.funcs[f]?=some fn)(hb:fn.body=some x)(h:pI prog ⟨λ_=>false,λ_=>[]⟩ x (SO prog rs Q) (Dl args) H) (hnm:(fn.name=="runtime.NumGoroutine")=false:=by rfl) (hlen:args.length<=fn.ntmps:=by exact aF rfl) (hok:qP ⟨λ_=>false,λ_=>[]⟩ fn.ntmps x=true:=by kernel_rfl) (hr:fn.results.toList=rs:=by exact V5):ACalls prog f args H Q:=aJ mixed hf hb hnm hlen hok h hr
theorem oK {f:FuncId}{fn:Func}{x:Code}{rs:List ResultVar}{args:UN}{ty:TypeId}{sz:Nat}{es:UE}(cfg:Cfg)(hf:prog.funcs[f]?=some fn)(hb:fn.body=some x)
  (h:∀ Q:D->AHeap->Prop,(∀ id n H',n=es.length->H'.get id=some ⟨ty,sz,es,false⟩->Q (.own id n) H')->pI prog cfg x (SO prog rs Q) (Dl args) .as)
  (hcl:D.R es=true:=by first|rfl|(simp [go_sem];done)) (hnm:(fn.name=="runtime.NumGoroutine")=false:=by rfl) (hlen:args.length<=fn.ntmps:=by exact aF rfl) (hok:qP cfg fn.ntmps x=true:=by kernel_rfl) (hr:fn.results.toList=rs:=by exact V5):Own prog f args ty sz es :=
 aeC hcl λQ hQ=>aJ mixed hf hb hnm hlen hok (h Q hQ) hr
end Go.Abs.Tz
end
section
namespace Go.Abs
variable {P:Program} {md:Nat→Bool} {ops:Array Oper} {sp:List (Nat × Nat)} {n0 i:Nat} {rest:List Oper} {acc:List (Nat × List Nat)} {e:eB} {dst:Option Tmp} {K:eB→AHeap→Prop} {f:FuncId} {args:UN} {H:AHeap} {r:D}
end Go.Abs
end
section
set_option maxRecDepth 4000
open Go Go.Proofs Tryz
namespace Go.Abs
def jS (c:Int):Bool:=decide (97<=c)&&decide (c<=122)||(decide (65<=c)&&decide (c<=90))
def lK (c:Int):Bool:=decide (48<=c)&&decide (c<=57)
def qI (c:Int):Bool:=jS c||lK c||c==95
theorem Cr (c:Int):Pua 388 [.int .u8 c] (.bool (jS c)):=by
 refine aU (Tz.c0 func388 rfl ?_);simp [go_sem,seval,jS,D.Q];omega
theorem zQ (c:Int):Pua 391 [.int .u8 c] (.bool (lK c)):=by
 refine aU (Tz.c0 func391 rfl ?_);simp [go_sem,seval,lK,D.Q]
theorem P2 (c:Int):Pua 390 [.int .u8 c] (.bool (qI c)):=by
 refine aU (Tz.c0 func390 rfl ?_);simp [go_sem,seval];refine aB (Cr c) rfl ?_;simp [go_sem,seval];refine aH (λ_=>zQ c) (λ_=>rfl) ?_;simp [go_sem,seval,qI]
def yQ (s:ByteArray)(i:Nat):Int:=((s.data[i]?.getD 0).toNat:Int)
def iB (p:Int->Bool)(s:ByteArray):Nat:=(s.data.toList.takeWhile λb=>p (b.toNat:Int)).length
theorem vW {α:Type}(p:α->Bool):∀ (l:List α) (n:Nat),(∀ j x,j<n->l[j]?=some x->p x=true)->n<=l.length->(∀ x,l[n]?=some x->p x=false)->(l.takeWhile p).length=n
 | [],n,_,h,_=>by simp at h;subst h;rfl
 | a :: l,0,_,_,h=>by have:=h a rfl;simp [List.takeWhile,this]
 | a :: l,n+1,h1,h2,h3=>by
  have ha:=h1 0 a aD rfl;simp only [List.takeWhile,ha,eQ];rw [vW p l n (λj x hj hx=>h1 (j+1) x aD hx) (bZ h2) λx hx=>h3 x hx]
theorem Kd (p:Int->Bool)(s:ByteArray)(n:Nat)(d:∀ j,j<n->p (yQ s j)=true)(c:n<=s.size)(e:n<s.size->p (yQ s n)=false):iB p s=n:=by
 have a:s.data.toList.length=s.size:=rfl;have b:∀ j x,s.data.toList[j]?=some x->yQ s j=(x.toNat:Int):=λj x hx=>by
  simp only [Array.getElem?_toList] at hx;simp [yQ,hx]
 refine vW _ _ _ (λj x hj hx=>by rw [<- b j x hx];exact d j hj) (by rw [a];exact c) λx hx=>?_;grind
theorem TP (s:ByteArray)(i:Nat):0<=yQ s i/\yQ s i<=255:=by
 unfold yQ;have:=(s.data[i]?.getD 0).toNat_lt;omega
theorem DV (s:ByteArray)(g:FuncId)(p:Int->Bool)(t:s.size<=1000000)(o:∀ c,0<=c->c<=255->Pure prog g [.int .u8 c] (.bool (p c))) :
  Pua 389 [.str s,.fn g []] (dI (iB p s)):=by
 refine aU (Tz.c0 func389 rfl ?_);simp [go_sem,seval];refine gF (ι:=Nat) (λn e H=>H=.as/\n<=s.size/\e 0=.str s/\e 1=.fn g []/\e 5=dI n/\(∀ j,j<n->p (yQ s j)=true)) (λn=>s.size - n) 0 (by simp [go_sem,seval,dI]) ?_;intro n e H ⟨q,m,k,i,d,l⟩;subst q;simp [go_sem,seval,k,i,d,dI];have f:=TP s n;refine aH (r:=.bool (p (yQ s n))) (λ_=>o _ f.1 f.2) (λ_=>rfl) ?_;simp [go_sem,seval];refine bA (λh=>?_) (λh=>?_)
 .simp at h;simp [go_sem,seval,k,i,d,dI];refine ⟨dU aD aD,n+1,aD,aD,aD,λj hj=>?_⟩;grind
 .simp at h;simp [go_sem,seval,d,dI];rw [Kd p s n l m h]
def idx {α:Type}[DecidableEq α](xs:List α)(v:α):Int:=match xs.findIdx? (λx=>decide (x=v)) with|some i=>i|none=>-1
def mem {α:Type}[DecidableEq α](xs:List α)(v:α):Bool:=decide (0<=idx xs v)
theorem w4 {α:Type}[DecidableEq α]{xs:List α}{v:α}{i:Nat}(h:∀ j,j<i->xs[j]?≠some v)(hi:xs[i]?=some v):idx xs v=i:=by
 have:xs.findIdx? (λx=>decide (x=v))=some i:=by
  rw [jR];grind
 simp [idx,this]
theorem Dd {α:Type}[DecidableEq α]{xs:List α}{v:α}(h:∀ j,j<xs.length->xs[j]?≠some v):idx xs v = -1:=by
 have:xs.findIdx? (λx=>decide (x=v))=none:=by
  rw [tN];intro x a;obtain ⟨j,b,rfl⟩:=aN a;grind
 simp [idx,this]
theorem Wt {α:Type}[DecidableEq α](xs:List α)(v:α):0<=idx xs v↔v∈xs:=by
 unfold idx;grind
theorem mem_iff {α:Type}[DecidableEq α](xs:List α)(v:α):mem xs v=true↔v∈xs:=by simp [mem,Wt]
theorem Tv (xs:List ByteArray)(v:ByteArray):Pua 395 [uS xs,.str v] (dI (idx xs v)):=by
 refine aU (Tz.c0 func395 rfl ?_);simp [go_sem,seval,dI,uS];intro f;refine gF (ι:=Nat) (λi e H=>H=.as/\i<=xs.length/\e 0=uS xs/\e 1=.str v/\e 7=dI xs.length/\e 8=dI i/\(∀ j,j<i->xs[j]?≠some v)) (λi=>xs.length - i) 0 (by simp [go_sem,seval,dI,uS]) ?_;intro i e H ⟨m,n,l,k,g,c,d⟩;subst m;simp [go_sem,seval,g,c,dI,uS];refine gP (λhlt=>?_) (λhge=>?_)
 .simp [go_sem,seval,l,k,c,dI,uS,cS,hlt];refine bA (λh=>?_) (λh=>?_)
  .simp at h;simp [go_sem,seval];rw [w4 d (by rw [aA hlt,h])]
  .simp at h;simp [go_sem,seval,l,k,g,c,dI,uS];refine ⟨dU aD aD,i+1,aD,aD,aD,λj hj=>?_⟩;grind
 .simp [go_sem,seval];rw [Dd λj hj=>d j aD]
theorem Dn (xs:List ByteArray)(v:ByteArray):Pua 351 [uS xs,.str v] (.bool (mem xs v)):=by
 refine aU (Tz.c0 func351 rfl ?_);simp [go_sem,seval];refine aB (Tv xs v) (by simp [D.J,go_sem,D.Q]) ?_;simp [go_sem,seval,dI,mem]
theorem tH (xs:V2)(v:Int):Pua 128 [dLI xs,dI v] (dI (idx xs v)):=by
 refine aU (Tz.c0 func128 rfl ?_);simp [go_sem,seval,dI,dLI];intro f;refine gF (ι:=Nat) (λi e H=>H=.as/\i<=xs.length/\e 0=dLI xs/\e 1=dI v/\e 7=dI xs.length/\e 8=dI i/\(∀ j,j<i->xs[j]?≠some v)) (λi=>xs.length - i) 0 (by simp [go_sem,seval,dI,dLI]) ?_;intro i e H ⟨m,n,l,k,g,c,d⟩;subst m;simp [go_sem,seval,g,c,dI,dLI];refine gP (λhlt=>?_) (λhge=>?_)
 .simp [go_sem,seval,l,k,c,dI,dLI,cI,hlt];refine bA (λh=>?_) (λh=>?_)
  .simp at h;simp [go_sem,seval];rw [w4 d (by rw [aA hlt,h])]
  .simp at h;simp [go_sem,seval,l,k,g,c,dI,dLI];refine ⟨dU aD aD,i+1,aD,aD,aD,λj hj=>?_⟩;grind
 .simp [go_sem,seval];rw [Dd λj hj=>d j aD]
theorem f6 (xs:V2)(v:Int):Pua 86 [dLI xs,dI v] (.bool (mem xs v)):=by
 refine aU (Tz.c0 func86 rfl ?_);simp [go_sem,seval];refine aB (tH xs v) (by simp [D.J,go_sem,D.Q,dI]) ?_;simp [go_sem,seval,dI,mem]
def qG (c:Int):Bool:=decide (32<=c)&&decide (c<=126)&&c != 34
theorem IZ (c:Int):Pua 412 [.int .u8 c] (.bool (qG c)):=by
 refine aU (Tz.c0 func412 rfl ?_);simp [go_sem,seval,qG,D.Q]
def x9 (s:ByteArray):Int × Int :=
 let n:=iB qG (s.extract 1 s.size)
 if (1+(n:Int)=s.size)\/yQ s (1+n)≠34 then (0,2) else if 60<n then (0,3) else (n+2,0)
theorem D2 (p:Int->Bool)(s:ByteArray):iB p s<=s.size:=by
 have:=(List.takeWhile_sublist (l:=s.data.toList) (λb:UInt8=>p (b.toNat:Int))).length_le;exact this
theorem Ly (s:ByteArray)(i:1<=s.size)(g:s.size<=100000):Pua 392 [.str s] (.tup [dI (x9 s).1,dI (x9 s).2]):=by
 refine aU (Tz.c0 func392 rfl ?_);simp [go_sem,seval];have d:(s.extract 1 s.size).size<=1000000:=by rw [ByteArray.size_extract];omega
 refine ⟨aD,aB (DV (s.extract 1 s.size) _ _ d (λc _ _=>IZ c)) rfl ?_⟩;have e:=D2 qG (s.extract 1 s.size);rw [ByteArray.size_extract] at e;simp [go_sem,seval,dI];unfold x9;generalize iB qG (s.extract 1 s.size)=n at *;have f:((s.data[(1+(n:Int)).toNat]?.getD 0).toNat:Int)=yQ s (1+n):=by
  unfold yQ;congr 3
 rw [f];refine ⟨dU aD aD,λ_=>dU aD aD,λh=>by omega,bA (λh=>?_) (λh=>?_)⟩
 .simp at h;simp [go_sem,seval,h]
 .simp at h;simp [go_sem,seval,h];refine bA (λh6=>?_) (λh6=>?_)
  .simp at h6;simp [go_sem,seval,(aD:60<n)]
  .simp at h6;simp [go_sem,seval,(aD:¬ 60<n)];exact dU aD aD
def Kq:List ByteArray:=[⟨#[45,62]⟩,⟨#[60,61]⟩,⟨#[62,61]⟩,⟨#[61,61]⟩,⟨#[33,61]⟩]
theorem P3 (s:ByteArray):Pua 393 [.str s] (.bool (decide ((2:Int)<=s.size)&&mem Kq (s.extract 0 2))):=by
 refine aU (Tz.c0 func393 rfl ?_);simp [go_sem,seval];refine aH (r:=.bool (mem Kq (s.extract 0 2))) (λ_=>Dn Kq (s.extract 0 2)) (λ_=>rfl) ?_;simp [go_sem,seval]
def Rv:ByteArray:=⟨#[123,125,40,41,91,93,44,59,58,61,43,45,42,60,62,33,38,124,46,63]⟩
def Mq (s:ByteArray)(c:Int):Int:=firstIdx s c.toNat.toUInt8
theorem Pz (s:ByteArray)(c:Int)(w:World):(callFunc 419 #[.string s,.int .u8 c]).run prog w=.ok (.value (.int .i64 (firstIdx s c.toNat.toUInt8))) w:=by
 rw [run_callFunc_extern func419 (by kernel_rfl) (by kernel_rfl) (by kernel_rfl) (e:=Extern.BytealgIndexByte.indexByte) (by kernel_rfl),run_indexByte_string];rfl
set_option maxHeartbeats 400000 in
open RowKit in
theorem Ct (s:ByteArray)(c:Int)(w:World) :
  Calls prog 413 #[.string s,.int .u8 c] w λe w'=>e=.returned (.int .i64 (firstIdx s c.toNat.toUInt8))/\w'=w:=by
 have h:=Pz s c
 go_wp2
 go_ret;simp_all
theorem zG (s:ByteArray)(c:Int):Pua 413 [.str s,.int .u8 c] (dI (Mq s c)):=by
 refine ⟨⟨Tryz.f413,func413,rfl,rfl⟩,λM w vals hM ha=>?_⟩;have g:vals=[.string s,.int .u8 c]:=by
  obtain ⟨h,f⟩:=ha;match vals,h with
  | [a,b],_ =>
   have j:=f 0 a _ rfl rfl;have d:=f 1 b _ rfl rfl;cases j
   cases d
   rfl
 subst g;exact (Ct s c w).mono λe w' ⟨d,i⟩=>⟨_,d,.int _ _,by subst i;exact ⟨rfl,rfl,rfl,bF _,λ_ _=>rfl⟩⟩
theorem Cu (s:ByteArray)(c:Int):Pua 394 [.str s,.int .u8 c] (dI (Mq s c)):=by
 refine aU (Tz.c0 func394 rfl ?_);simp [go_sem,seval];refine aB (zG s c) rfl ?_;simp [go_sem,seval,dI]
def sW (s:ByteArray):Int × Int × Int :=
 if jS (yQ s 0)=true then (if 20<iB qI s then (0,0,3) else (1,iB qI s,0))
 else if lK (yQ s 0)=true then (if 9<iB lK s then (0,0,3) else (2,iB lK s,0))
 else if yQ s 0=34 then (3,(x9 s).1,(x9 s).2)
 else if (decide ((2:Int)<=s.size)&&mem Kq (s.extract 0 2))=true then (4,2,0)
 else if 0<=Mq Rv (yQ s 0) then (4,1,0) else (0,0,2)
theorem P4 (s:ByteArray)(l:1<=s.size)(k:s.size<=100000):Pua 349 [.str s] (.tup [dI (sW s).1,dI (sW s).2.1,dI (sW s).2.2]):=by
 refine aU (Tz.c0 func349 rfl ?_);simp [go_sem,seval];have j:((s.data[0]?.getD 0).toNat:Int)=yQ s 0:=rfl;simp only [j];refine ⟨aD,aB (Cr _) rfl ?_⟩;simp [go_sem,seval];refine bA (λhl=>?_) (λhl=>?_)
 .simp [go_sem,seval];refine aB (DV s _ _ aD (λc _ _=>P2 c)) rfl ?_;simp [go_sem,seval,dI];refine bA (λh=>?_) (λh=>?_)
  .simp at h;simp [go_sem,seval,sW,hl,(aD:20<iB qI s)]
  .simp at h;simp [go_sem,seval,sW,hl,(aD:¬ 20<iB qI s)]
 .simp [go_sem,seval];refine aB (zQ _) rfl ?_;simp [go_sem,seval];refine bA (λhd=>?_) (λhd=>?_)
  .simp [go_sem,seval];refine aB (DV s _ _ aD (λc _ _=>zQ c)) rfl ?_;simp [go_sem,seval,dI];refine bA (λh=>?_) (λh=>?_)
   .simp at h;simp [go_sem,seval,sW,hl,hd,(aD:9<iB lK s)]
   .simp at h;simp [go_sem,seval,sW,hl,hd,(aD:¬ 9<iB lK s)]
  .simp [go_sem,seval];refine bA (λhq=>?_) (λhq=>?_)
   .simp at hq;simp [go_sem,seval];refine aB (Ly s l k) rfl ?_;have e:sW s=(3,(x9 s).1,(x9 s).2):=by unfold sW;rw [if_neg (by simp [hl]),if_neg (by simp [hd]),if_pos hq]
    simp [go_sem,seval,dI,e]
   .simp at hq;simp [go_sem,seval];refine aB (P3 s) rfl ?_;simp [go_sem,seval];refine bA (λhp=>?_) (λhp=>?_)
    .simp [go_sem,seval,sW,hl,hd,hq,hp,dI]
    .simp [go_sem,seval];refine aB (Cu Rv _) rfl ?_;simp [go_sem,seval,dI];refine gP (λhi=>?_) (λhi=>?_)
     .simp [go_sem,seval,sW,hl,hd,hq,hp,hi]
     .simp [go_sem,seval,sW,hl,hd,hq,hp,hi]
def lA (s:ByteArray):Bool:=decide (s.size≠0)&&jS (yQ s 0)&&decide (iB qI s<=20)&&decide (iB qI s=s.size)
theorem rU (s:ByteArray):s=⟨#[]⟩↔s.size=0:=by
 constructor
 .intro h;subst h;rfl
 .intro h;cases s with
  | mk d=>congr 1;exact Array.size_eq_zero_iff.1 h
theorem Tj (s:ByteArray)(hz:¬ s.size=0):(decide ((sW s).2.2=0)&&decide ((sW s).1=1)&&(sW s).2.1==(s.size:Int))=lA s:=by
 unfold sW lA;grind
theorem Nt (s:ByteArray)(c:s.size<=100000):∃ s',Pua 281 [.agg [dI 1,.str s,dI 0]] (.tup [.str s',.bool (lA s)]):=by
 by_cases b:s.size=0
 .refine ⟨⟨#[]⟩,aU (Tz.c0 func281 rfl ?_)⟩;simp [go_sem,seval,dI];refine bA (λh=>?_) (λh=>?_)
  .simp [go_sem,seval,lA,b]
  .simp [rU,b] at h
 .refine ⟨s,aU (Tz.c0 func281 rfl ?_)⟩;simp [go_sem,seval,dI];refine bA (λh=>?_) (λh=>?_)
  .simp [rU,b] at h
  .simp [go_sem,seval];refine aB (P4 s aD c) rfl ?_;simp [go_sem,seval,dI];exact Tj s b
theorem p6 (s:ByteArray)(b:s.size<=100000):Pua 216 [.str s] (.bool (lA s)):=by
 obtain ⟨c,a⟩:=Nt s b;refine aU (Tz.c0 func216 rfl ?_);simp [go_sem,seval];refine aB a rfl ?_;simp [go_sem,seval]
end Go.Abs
end
section
set_option maxRecDepth 100000
set_option maxHeartbeats 4000000
open Go Go.Proofs Tryz
namespace Go.Abs
def Eg {α:Type}(xs:List α)(p:α->Bool):Int:=match xs.findIdx? p with|some i=>i|none=>-1
theorem rH {α:Type}{xs:List α}{p:α->Bool}{i:Nat}(h:∀ j x,j<i->xs[j]?=some x->p x=false)(c:i<xs.length)(a:p xs[i]=true):Eg xs p=i:=by
 have:xs.findIdx? p=some i:=by
  rw [jR];exact ⟨c,a,λj b=>by simp [h j _ b (aA aD)]⟩
 simp [Eg,this]
theorem rI {α:Type}{xs:List α}{p:α->Bool}(h:∀ j x,j<xs.length->xs[j]?=some x->p x=false):Eg xs p = -1:=by
 have:xs.findIdx? p=none:=by
  rw [tN];intro x a;obtain ⟨j,b,rfl⟩:=aN a;simp_all
 simp [Eg,this]
theorem uB {α:Type}(xs:List α)(p:α->Bool):decide (0<=Eg xs p)=xs.any p:=by
 unfold Eg;grind
theorem HY (xs:List Attr)(g:FuncId)(b:UN)(p:Attr->Bool)(u:D.J b=true)(t:∀ x∈xs,Pure prog g (.agg x.c :: b) (.bool (p x))) :
  Pua 350 [.list (xs.map Attr.c),.fn g b] (dI (Eg xs p)):=by
 refine aU (Tz.c0 func350 rfl ?_);simp [go_sem,seval,dI];intro m;refine gF (ι:=Nat) (λi e H=>H=.as/\i<=xs.length/\e 0=.list (xs.map Attr.c)/\e 1=.fn g b/\e 7=dI xs.length/\e 8=dI i/\(∀ j x,j<i->xs[j]?=some x->p x=false)) (λi=>xs.length - i) 0 (by simp [go_sem,seval,dI]) ?_;intro i e H ⟨v,y,q,o,n,k,l⟩;subst v;simp [go_sem,seval,n,k,dI];refine gP (λd=>?_) (λs=>?_)
 .have hgx:=t xs[i] (aC d);simp [go_sem,seval,q,o,k,dI,d,Attr.c] at hgx ⊢;refine aB hgx (by simp [go_sem,u]) ?_;simp [go_sem,seval];refine bA (λh=>?_) (λh=>?_)
  .simp [go_sem,seval];rw [rH l d h]
  .simp [go_sem,seval,q,o,n,k,dI];refine ⟨dU aD aD,i+1,aD,aD,aD,λj x r w=>?_⟩;grind
 .simp [go_sem,seval];rw [rI λj x r=>l j x aD]
theorem Dr (xs:List Attr)(g:FuncId)(a:UN)(p:Attr->Bool)(d:D.J a=true)(e:D.Q (.list (xs.map Attr.c))=true)(f:∀ x∈xs,Pure prog g (.agg x.c :: a) (.bool (p x))) :
  Pua 283 [.list (xs.map Attr.c),.fn g a] (.bool (xs.any p)):=by
 refine aU (Tz.c0 func283 rfl ?_);simp [go_sem,seval];refine aB (HY xs g a p d f) (by simp only [D.J,e,iH];simp [D.Q,d]) ?_;simp [go_sem,seval,dI,uB]
theorem uG (l:List Attr):D.R (l.map Attr.c)=true:=dY _ Attr.Q l
def oR (l:List ByteArray):List ByteArray->Int
 | []=>0
 | s :: r=>if lA s=false then 2 else if mem l s=true then 5 else oR (l++[s]) r
def pF (l:List ByteArray):Int:=if 20<l.length then 3 else oR [] l
theorem Nm (l:List ByteArray)(v:∀ s∈l,s.size<=100000):Pua 285 [uS l] (dI (pF l)):=by
 refine aU (Tz.c0 func285 rfl ?_);simp [go_sem,seval,dI,uS];intro q;refine bA (λh=>?_) (λh=>?_)
 .simp at h;simp [go_sem,seval,pF,(aD:20<l.length)]
 .simp at h;simp [go_sem,seval,pF,(aD:¬ 20<l.length)];intro o;refine gF (ι:=Nat) (λi e H=>H=.as/\i<=l.length/\e 0=uS l/\e 8=uS l/\e 9=dI l.length/\e 10=dI i/\oR (l.take i) (l.drop i)=oR [] l) (λi=>l.length - i) 0 (by simp [go_sem,seval,dI,uS]) ?_;intro i e H ⟨y,w,u,t,r,c,j⟩;subst y;simp [go_sem,seval,r,c,dI,uS];refine gP (λb=>?_) (λx=>?_)
  .rw [fR b] at j;have m:=v _ (aC b);simp [go_sem,seval,t,c,dI,uS,b,cS];refine aB (p6 _ m) rfl ?_;simp [go_sem,seval];refine bA (λf=>?_) (λf=>?_)
   .simp at f;simp [go_sem,seval];rw [<- j];simp [oR,f]
   .simp at f;simp [go_sem,seval,u,uS];have k:=Dn (l.take i) l[i];simp only [uS,List.map_take] at k;have p:D.R (List.take i (List.map cS l))=true:=by rw [<- List.map_take];exact dY cS (λ_=>rfl) _
    refine ⟨⟨w,by cases l<;>simp [cS]⟩,aB k (by simp [D.J,D.Q,p]) ?_⟩;simp [go_sem,seval];refine bA (λn=>?_) (λn=>?_)
    .simp [go_sem,seval];rw [<- j];simp [oR,f,n]
    .simp [go_sem,seval,u,t,r,c,dI,uS];refine ⟨dU aD aD,i+1,aD,aD,aD,?_⟩;rw [<- j,oR,if_neg (by simp [f]),if_neg (by simp [n]),List.take_succ_eq_append_getElem b]
  .simp [go_sem,seval];rw [<- j,(aD:i=l.length)];simp [oR]
theorem DT (x y:Attr):Pua 284 [.agg y.c,.adr x.c] (.bool (decide (y.name=x.name))):=by
 refine aU (Tz.c0 func284 rfl ?_);simp [go_sem,seval,Attr.c,dI,uS]
structure Attr.ok (x:Attr):Prop where
 name:x.name.size<=100000
 af:∀ s∈x.af,s.size<=100000
 b5:x.af.length<=1000
def d8 (x:Attr)(before:List Attr):Int :=
 if lA x.name=false then 2
 else if (before.any λy=>decide (y.name=x.name))=true then 5
 else if pF x.af≠0 then pF x.af
 else if (if 0<x.af.length then decide (x.ap=0)&&decide (x.a8=x.af.length - 1) else decide (-1000000<=x.ap)&&decide (x.ap<=x.a8)&&decide (x.a8<=1000000))=true then 0 else 6
theorem FE (x:Attr)(b:List Attr)(l:x.ok):Pua 220 [.agg x.c,.list (b.map Attr.c)] (dI (d8 x b)):=by
 refine aU (Tz.c0 func220 rfl ?_);simp [go_sem,seval,dI,uS,Attr.c];refine aB (p6 _ l.name) rfl ?_;simp [go_sem,seval];refine bA (λd=>?_) (λd=>?_)
 .simp at d;simp [go_sem,seval,d8,d]
 .simp at d;simp [go_sem,seval];have p:=Dr b 284 [.adr x.c] (λy=>decide (y.name=x.name)) (by simp [D.J,D.Q,Attr.Q]) (by simp [D.Q,uG]) (λy _=>DT x y);simp only [Attr.c,dI,uS] at p;have j:D.R (List.map cS x.af)=true:=dY cS (λ_=>rfl) _;refine aB p (by simp [D.J,D.Q,uG,j]) ?_;simp [go_sem,seval];refine bA (λh=>?_) (λh=>?_)
  .simp [go_sem,seval,d8,d,h]
  .simp [go_sem,seval];have i:=Nm x.af l.af;simp only [uS,dI] at i;refine aB i (by simp [D.J,D.Q,j]) ?_;simp [go_sem,seval];have o:=l.b5;refine bA (λf=>?_) (λf=>?_)
   .simp at f;simp [go_sem,seval,d8,d,h,f]
   .simp at f;simp [go_sem,seval];intro n;refine bA (λk=>?_) (λk=>?_)
    .have hp':0<x.af.length:=by simp at k;omega
     simp [go_sem,seval];refine λ_=>⟨λ_=>dU aD aD,bA (λg=>?_) (λg=>?_)⟩
     .have e:d8 x b=6:=by unfold d8;rw [if_neg (by simp [d]),if_neg (by simp [h]),if_neg (by simp [f]),if_pos hp',if_neg (by simp at g ⊢;omega)]
      simp [go_sem,seval,e]
     .have e:d8 x b=0:=by unfold d8;rw [if_neg (by simp [d]),if_neg (by simp [h]),if_neg (by simp [f]),if_pos hp',if_pos (by simp at g ⊢;omega)]
      simp [go_sem,seval,e]
    .have hp':¬ 0<x.af.length:=by simp at k;simp [k]
     simp [go_sem,seval];refine bA (λg=>?_) (λg=>?_)
     .have e:d8 x b=6:=by unfold d8;rw [if_neg (by simp [d]),if_neg (by simp [h]),if_neg (by simp [f]),if_neg hp',if_neg (by simp at g ⊢;omega)]
      simp [go_sem,seval,e]
     .have e:d8 x b=0:=by unfold d8;rw [if_neg (by simp [d]),if_neg (by simp [h]),if_neg (by simp [f]),if_neg hp',if_pos (by simp at g ⊢;omega)]
      simp [go_sem,seval,e]
structure NodeTy.ok (n:NodeTy):Prop where
 name:n.name.size<=100000
 r:∀ x∈n.r,x.ok
 b5:n.r.length<=1000
structure EdgeTy.ok (x:EdgeTy):Prop where
 name:x.name.size<=100000
structure Types.ok (t:Types):Prop where
 h:∀ n∈t.h,n.ok
 j:∀ x∈t.j,x.ok
 ca:t.h.length<=1000
 e2:t.j.length<=1000
def n6 (nodes:List NodeTy):Nat->Nat->List Attr
 | 0,_=>[]
 | f+1,a=>match nodes[a]? with
  | none=>[]
  | some n=>(if 0<=n.C then n6 nodes f n.C.toNat else [])++n.r
def Types.r (t:Types)(a:Nat):List Attr:=n6 t.h (a+1) a
theorem uH (nodes:List NodeTy)(h:∀ n∈nodes,n.r.length<=1000):∀ f a,(n6 nodes f a).length<=1000 * f
 | 0,a=>by simp [n6]
 | f+1,a=>by
  unfold n6;split
  .simp
  .rename_i n hn;have:=h n (aK hn);have h2:=uH nodes h f n.C.toNat
   simp only [aQ];split<;>simp<;>omega
@[go_sem] theorem Attr.len (a:Attr):a.c.length=4:=rfl
theorem Attr.cells (a:Attr):∀ x∈a.c,x.cell=true:=by simp [Attr.c,D.cell,dI,uS]
def parentsOK (nodes:List NodeTy)(a:Nat):Prop:=∀ j n,j<=a->nodes[j]?=some n->n.C<j
theorem Fr (b:List NodeTy):∀ a f g,parentsOK b a->a<f->a<g->n6 b f a=n6 b g a:=by
 intro a;induction a using Nat.strongRecOn with
 | _ a ih =>
  intro f g d l k;obtain ⟨f,rfl⟩:∃ f',f=f'+1:=⟨f - 1,aD⟩;obtain ⟨g,rfl⟩:∃ g',g=g'+1:=⟨g - 1,aD⟩;unfold n6;split
  .rfl
  .rename_i n hn;have:=d a n (bF _) hn;congr 1;split
   .exact ih n.C.toNat aD f g (λj m i e=>d j m aD e) aD aD
   .rfl
theorem EH (t:Types)(l:t.ok):∀ a,a<t.h.length->parentsOK t.h a->Own prog 219 [t.d,dI a] 88 4 ((t.r a).map Attr.c):=by
 intro a;induction a using Nat.strongRecOn with
 | _ a ih =>
  intro g q;have A:=q a _ (bF _) (aA g);have v:=uH t.h (λn r=>(l.h n r).b5) (a+1) a;have w:=l.ca;have B:=(l.h _ (aC g)).b5;refine CT (Tz.cK ⟨λt=>t==5,λ_=>[]⟩ func219 rfl ?_);simp [go_sem,seval,dI,Types.d,Types.c,NodeTy.c,g];refine bA (λh=>?_) (λh=>?_)
  .have o:0<=t.h[a].C:=by simpa using h
   have k:t.h[a].C.toNat<a:=aD;have u:=ih _ k aD (λj m E s=>q j m aD s);rw [Int.toNat_of_nonneg o] at u;have e:t.r a=t.r t.h[a].C.toNat++t.h[a].r:=by
    have:=Fr t.h t.h[a].C.toNat a (t.h[a].C.toNat+1) (λj m E s=>q j m aD s) k aD;simp [Types.r,n6,aA g,o,this]
   have f:=uH t.h (λn r=>(l.h n r).b5) (t.h[a].C.toNat+1) t.h[a].C.toNat
   have C:(t.r t.h[a].C.toNat).length<=2000000:=by
    have:(t.r t.h[a].C.toNat).length<=1000 * (t.h[a].C.toNat+1):=f;omega
   simp [go_sem,seval,dI,Types.d,Types.c] at u ⊢;refine lU u (by simp [D.J,D.Q,dY _ NodeTy.Q,dY _ EdgeTy.Q]) ?_;simp [go_sem,seval,dI,NodeTy.c,g,e];exact ⟨⟨aD,λx _ y p=>Attr.cells x y p⟩,by rw [<- List.map_append];exact uG _⟩
  .have o:¬ 0<=t.h[a].C:=by simpa using h
   have e:t.r a=t.h[a].r:=by simp [Types.r,n6,aA g,o]
   simp [go_sem,seval,dI,NodeTy.c,g,e,uG];exact ⟨aD,λx _ y p=>Attr.cells x y p⟩
end Go.Abs
end
