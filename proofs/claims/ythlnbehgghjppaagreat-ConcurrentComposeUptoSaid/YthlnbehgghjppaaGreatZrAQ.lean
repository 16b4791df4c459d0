/- All, Extend and Instance of the reference. · The abstraction -/
import Derived.Test.YthlnbehgghjppaaGreatZrAG
import Derived.Test.YthlnbehgghjppaaGreatZrAA
import Derived.Test.YthlnbehgghjppaaGreatZrAN
import Derived.Test.YthlnbehgghjppaaGreatZrAP
set_option linter.unusedVariables false
set_option linter.unusedSimpArgs false
section
set_option maxRecDepth 100000
set_option maxHeartbeats 4000000
open Go Go.Proofs Tryz
namespace Go.Abs
@[go_sem] theorem ZY (l:List Part):D.V (l.map Part.c)=true:=xE l
theorem aaY (t:Types)(p g:Graph)(hG:G17 t p g)(pn pe:Xa0)(h1:pn.length=p.h.length)(h2:pe.length=p.i.length)(inj:Bool) :
  Pua 397 [t.d,p.d,g.d,.agg [dLI pn,dLI pe],.bool inj,dI 5000] (.list (((CI ⟨t,p,g,pn,pe,inj⟩).take 5001).map Part.c)) :=
 Tf ⟨t,p,g,pn,pe,inj⟩ hG h1 h2 5000 bZ
theorem Yg (t:Types)(p g:Graph)(hG:G17 t p g)(pn pe:Xa0)(h1:pn.length=p.h.length)(h2:pe.length=p.i.length)(inj:Bool){L:List Part}(hL:L=(CI ⟨t,p,g,pn,pe,inj⟩).take 5001) :
 Pua 397 [t.d,p.d,g.d,.agg [dLI pn,dLI pe],.bool inj,dI 5000] (.list (L.map Part.c)):=hL ▸ aaY t p g hG pn pe h1 h2 inj
def Di (l:Xa0)(wM n:Int):Int:=if (l.length:Int)≠wM then 20 else oQ l n
theorem Da (l:Xa0)(wM n:Int):Pua 396 [dLI l,dI wM,dI n] (dI (Di l wM n)):=by
 refine Tz.p0 func396 rfl λQ d Y=>?_;refine dW (λk=>?_) λk=>?_
 .have hP:Di l wM n=20:=by unfold Di;rw [if_pos bZ]
  exact wv (h:=d _ _ (by simp [go_sem,hP]))
 .have hP:Di l wM n=oQ l n:=by unfold Di;rw [if_neg bZ]
  refine wv (h:=bC (λi e H=>(e 0=dLI l/\e 2=dI n/\e 7=dI i)/\(i<=l.length)/\(bS (Dl n l) i (l.length - i)=oQ l n)) (λi=>l.length - i) 0 ⟨wg,wi,(by rfl)⟩ λp f i e H c=>?_);obtain ⟨m,o,g⟩:=c;have Y:=wa Y m;refine wv (h:=?_);repeat first|intro _|refine ⟨iF,?_⟩
  refine wq (λa=>?_) λa=>?_
  .have hst:=fE (Dl n l) a;rw [g] at hst;have b:Dl n l i=if l[i] < -1\/n<=l[i] then 6 else 0:=by simp only [Dl,aA a,aD]
   have Y:=xa1 Y a (aA a);refine dW (λj=>?_) λj=>?_
   .rw [if_pos bZ] at b;rw [b,if_pos bZ] at hst;exact wv (h:=d _ _ (by simp [go_sem,hP,hst]))
   .rw [if_neg bZ] at b;rw [b,if_neg bZ] at hst;exact wo (h:=wx f (i+1) ⟨wg,wj,(by exact hst.symm)⟩)
  .have hZ:oQ l n=0:=by rw [<- g,(bZ:l.length - i=0)];rfl
   exact wv (h:=d _ _ (by simp [go_sem,hP,hZ]))
theorem Ms (t:Types)(o:t.ok)(p g:Graph)(q:Part)(a:Bool):Pua 368 [t.d,p.d,g.d,q.d,.bool a] (.tup [.list ((oV t p g q a).1.map Part.c),dI (oV t p g q a).2]):=by
 refine Tz.p0 func368 rfl λQ k Y=>?_;refine wv (h:=aB (At t o p g) wl ?_);refine c8 (λi=>?_) λi=>?_
 .have b:oV t p g q a=([],gF t p g):=by unfold oV;rw [if_pos (eL i)]
  exact wv (h:=k _ _ (by simp [go_sem,b]))
 .have hG:=rO (eL i);refine dW (λr=>?_) λr=>?_
  .have b:oV t p g q a=([],20):=by unfold oV;rw [if_neg (eL i),if_pos bZ]
   exact wv (h:=k _ _ (by simp [go_sem,b]))
  .have hq:q.h.length=p.h.length/\q.i.length=p.i.length:=bZ;have f:Di q.h p.h.length g.h.length=oQ q.h g.h.length:=by unfold Di;rw [if_neg bZ]
   have e:Di q.i p.i.length g.i.length=oQ q.i g.i.length:=by unfold Di;rw [if_neg bZ]
   refine wo (h:=aB (Da q.h p.h.length g.h.length) wl ?_);refine dW (λl=>?_) λl=>?_
   .have b:oV t p g q a=([],oQ q.h g.h.length):=by unfold oV;rw [if_neg (eL i),if_neg bZ,if_pos (by rw [<- f];exact l)]
    exact wv (h:=k _ _ (by simp [go_sem,b,f]))
   .have h7':oQ q.h g.h.length=0:=by rw [<- f];exact l
    refine wo (h:=aB (Da q.i p.i.length g.i.length) wl ?_);refine dW (λj=>?_) λj=>?_
    .have b:oV t p g q a=([],oQ q.i g.i.length):=by unfold oV;rw [if_neg (eL i),if_neg bZ,if_neg bZ,if_pos (by rw [<- e];exact j)]
     exact wv (h:=k _ _ (by simp [go_sem,b,e]))
    .have h10':oQ q.i g.i.length=0:=by rw [<- e];exact j
     obtain ⟨L,n⟩:=fH ((CI ⟨t,p,g,q.h,q.i,a⟩).take 5001);have b:oV t p g q a=if 5000<L.length then ([],3) else (L,0):=by unfold oV;rw [if_neg (eL i),if_neg bZ,if_neg bZ,if_neg bZ];unfold Pu;rw [<- n]
     refine wv (h:=aB (Yg t p g hG q.h q.i hq.1 hq.2 a n) wl ?_);refine dW (λm=>?_) λm=>?_
     .rw [if_pos bZ] at b;exact wv (h:=k _ _ (by simp [go_sem,b]))
     .rw [if_neg bZ] at b;exact wv (h:=k _ _ (by simp [go_sem,b]))
/-! ### the instance of a pattern -/
def Ig (g:Graph)(ms ns:Xa0)(i:Nat):Xa0:=(List.range i).foldl (λacc k=>acc.set k (gN g (ms[k]?.getD 0))) ns
theorem AM (g:Graph)(ms ns:Xa0):∀ i,(Ig g ms ns i).length=ns.length
 | 0=>rfl
 | i+1=>by unfold Ig;rw [dN,iU];exact AM g ms ns i
theorem Ld (g:Graph)(a ns:Xa0)(i:Nat):Ig g a ns (i+1)=(Ig g a ns i).set i (gN g (a[i]?.getD 0)):=by unfold Ig;rw [dN]
theorem O6 (g:Graph)(ms ns:Xa0)(k:Nat)(hk:k<ns.length):∀ i,(Ig g ms ns i)[k]?=if k<i then some (gN g (ms[k]?.getD 0)) else ns[k]?
 | 0=>by simp [Ig]
 | i+1=>by
  rw [Ld,eB,AM,O6 g ms ns k hk i];by_cases h:i=k
  .subst h;simp [hk]
  .rw [if_neg h];by_cases h2:k<i
   .rw [if_pos h2,if_pos bZ]
   .rw [if_neg h2,if_neg bZ]
theorem UZ {g:Graph}{a ns:Xa0}(h:a.length=ns.length):Ig g a ns ns.length=a.map (gN g):=by
 apply f9;intro k;by_cases b:k<ns.length
 .rw [O6 g a ns k b,if_pos b,aP,aA bZ];rfl
 .rw [b5 (by rw [AM];omega),b5 (by simp;omega)]
def BB (t:Types)(p g:Graph)(m:Part):Graph:=if fP t p g m false=0 then sG p g m else ⟨[],[]⟩
theorem Bj {t:Types}{p g:Graph}{m:Part}{a:Bool}(h:iZ t p g m a=0) :
  (m.h.length=p.h.length/\m.i.length=p.i.length)/\(∀ x∈m.h,0<=x/\x<g.h.length)/\(∀ x∈m.i,0<=x/\x<g.i.length):=by
 unfold iZ at h;split at h
 .cases h
 .rename_i h1;split at h
  .exact absurd h (by assumption)
  .rename_i h2;split at h
   .exact absurd h (by assumption)
   .rename_i h3;refine ⟨bZ,λx b=>?_,λx b=>?_⟩
    .obtain ⟨k,c,rfl⟩:=aO b;have:=fD _ _ (eL h2) k (d9 _) bZ;unfold K7 at this;rw [aA c,aD] at this;split at this
     .cases this
     .omega
    .obtain ⟨k,c,rfl⟩:=aO b;have:=fD _ _ (eL h3) k (d9 _) bZ;unfold jA at this;rw [aA c,aD] at this;split at this
     .cases this
     .omega
theorem pW {t:Types}{p g:Graph}{m:Part}{a:Bool}(h:fP t p g m a=0):G17 t p g/\iZ t p g m a=0:=by
 unfold fP at h;split at h
 .exact absurd h (by assumption)
 .rename_i h1;exact ⟨rO (eL h1),h⟩
theorem Hz (t:Types)(R:t.ok)(p g:Graph)(m:Part):Pua 169 [t.d,p.d,g.d,m.d] (.tup [(BB t p g m).d,dI (fP t p g m false)]):=by
 refine Tz.pK ⟨λt=>t==8||t==11,λ_=>[]⟩ func169 rfl (λQ M=>?_);have Y:=trivial;refine wv (h:=aB (Av t R p g m false) wl ?_);refine c8 (λu=>?_) λu=>?_
 .have I:BB t p g m=⟨[],[]⟩:=by unfold BB;rw [if_neg (eL u)]
  exact wv (h:=M _ _ (by simp [go_sem,I]))
 .obtain ⟨N,hM⟩:=pW (eL u);obtain ⟨⟨r,X⟩,z,U⟩:=Bj hM;have W:=aY N.gp;have V:=aY N.gg;have I:BB t p g m=sG p g m:=by unfold BB;rw [if_pos (eL u)]
  refine wv (h:=?_);unfold e8;refine BT p bZ bZ _ _ (λa b j ha hb a2 a1 Z E D F S=>?_);have a4:(0:Nat)<j.next:=bZ;have a3:a≠0:=by simp [go_sem] at ha;omega
  have a0:b≠0:=by simp [go_sem] at hb;omega
  have s:=F 0 (by simp [go_sem]);simp [go_sem] at s;have P:=nxs j.next;have J:=xa1 (bP (bZ:a<j.next)) (bP (bZ:b<j.next)) (bP (bZ:0<j.next));have L:=xa1 (dE (bZ:0≠b)) (dE (bZ:0≠a)) (dE (bZ:b≠a));have Y:=xa5 Y J L E D s P;refine wv (h:=bC (λi e H=>∃ c:Nat,(e 4=.adr t.c/\e 5=.adr p.c/\e 6=.adr g.c/\e 7=.adr m.c/\e 8=.ptr 0 1 0 0/\e 11=.ptr c 1 0 0/\e 12=dI i)/\(H.get 0=some ⟨29,2,[[.nil,.nil]],false⟩)/\(0<H.next)/\(H.get c=some ⟨29,2,[[.own a p.h.length,.own b p.i.length]],false⟩)/\(c<H.next)/\(H.get a=some ⟨3,1,(Ig g m.h p.h i).map cI,false⟩)/\(a<H.next)/\(H.get b=some ⟨153,3,p.i.map Edge.c,false⟩)/\(b<H.next)/\(i<=p.h.length)/\(a<c/\b<c)/\((Ig g m.h p.h i).length=p.h.length)) (λi=>p.h.length - i) 0 ⟨j.next,wg,wn,wn,wn,wn,(by simp [go_sem,Y,Ig]),wn,wn,wn,wi,bZ,(by exact AM _ _ _ _)⟩ λI0 G i e H A=>?_);obtain ⟨c,E0,y,o,v,k,x,n,w,l,hi,hc,q⟩:=A;have K:=xa4 (dE (bZ:0≠c)) (dE (bZ:0≠b)) (dE (bZ:0≠a)) (dE (bZ:c≠b)) (dE (bZ:c≠a)) (dE (bZ:b≠a));have Y:=xb0 Y E0 y (bP o) v (bP k) x (bP n) w (bP l) q K;refine kI (λO=>?_) λO=>?_
  .have him:i<m.h.length:=bZ;have T:=z _ (aC him);have f:m.h[i].toNat<g.h.length:=bZ;have C:gN g (m.h[i]?.getD 0)=g.h[m.h[i].toNat]:=by rw [aA him,aD];simp [gN,aA f]
   have B:gN g m.h[i]=g.h[m.h[i].toNat]:=by simp [gN,aA f]
   have Y:=xa2 Y O (aA him) (aA f);exact wp (h:=wx G (i+1) ⟨c,wg,wn,wn,wn,wn,(by simp [go_sem,Y,Ld,bJ,C,B,cI]),wn,wn,wn,wj,bZ,(by exact AM _ _ _ _)⟩)
  .have hIe:i=p.h.length:=bZ;have hE:=UZ (g:=g) r;rw [hIe] at q;exact wv (h:=M _ _ (by simp [go_sem,Y,I,sG,Graph.d,Graph.c,hIe,hE,dLI,r,u]))
end Go.Abs
end
section
namespace Go.Abs
theorem RepV.fj {M:Nat->Prop}{σ:Nat->Option Ow}{N:Nat->Prop}{w:World}{m:Nat->Prop}{σ':Nat->Option Ow}{l:Nat->Prop}{w':World}{v:Value}{d:D}(h:RepV M σ N w v d) :
  ∀ v',RepV m σ' l w' v' d->RepV M σ (λi=>N i/\l i) w v d:=by
 induction h with
 | int=>exact λ_ _=>.int _ _
 | bool=>exact λ_ _=>.bool _
 | str=>exact λ_ _=>.str _
 | agg vs ds hl h1 hr ih =>
  intro v' b;cases b with
  | agg vs' _ hl' h1' hr' =>
   exact .agg vs ds hl h1 λj u x c a=>by
    have e:j<vs'.length:=by rw [hl'];exact (aK.1 a).1
    exact ih j u x c a vs'[j] (hr' j _ x (aA e) a)
 | tup vs ds hl hr ih =>
  intro v' b;cases b with
  | tup vs' _ hl' hr' =>
   exact .tup vs ds hl λj u x c a=>by
    have e:j<vs'.length:=by rw [hl'];exact (aK.1 a).1
    exact ih j u x c a vs'[j] (hr' j _ x (aA e) a)
 | nil=>exact λ_ _=>.nil
 | listN=>exact λ_ _=>.listN
 | list ad cap sz xs es hc hm hsz hl h1 hcell hr ih =>
  intro v' b;cases b with
  | listN=>exact .list ad cap sz xs [] hc hm hsz hl h1 hcell λj u x c a=>by simp at a
  | list ad' cap' sz' xs' _ hc' hm' hsz' hl' h1' hcell' hr' =>
   exact .list ad cap sz xs es hc hm hsz hl h1 hcell λj u x c a=>by
    have e:j<xs'.length:=by rw [hl'];exact (aK.1 a).1
    exact ih j u x c a xs'[j] (hr' j _ x (aA e) a)
 | adr ad xs ds hl h1 hcell hr ih =>
  intro v' b;cases b with
  | adr ad' xs' _ hl' h1' hcell' hr' =>
   exact .adr ad xs ds hl h1 hcell λj u x c a=>by
    have e:j<xs'.length:=by rw [hl'];exact (aK.1 a).1
    exact ih j u x c a xs'[j] (hr' j _ x (aA e) a)
 | ne ad cap hm=>exact λ_ _=>.ne ad cap hm
 | nilp=>exact λ_ _=>.nilp
 | ptr v id ver i off hN h1 h =>
  intro v' b;cases b with
  | ptr _ _ _ _ _ hN' _ _=>exact .ptr v id ver i off ⟨hN,hN'⟩ h1 h
 | own v id n hN h1 h =>
  intro v' b;cases b with
  | own _ _ _ hN' _ _=>exact .own v id n ⟨hN,hN'⟩ h1 h
 | win v id ver lo hi hN h1 hlh h =>
  intro v' b;cases b with
  | win _ _ _ _ _ hN' _ _ _=>exact .win v id ver lo hi ⟨hN,hN'⟩ h1 hlh h
 | fn f vs ds hl hr ih =>
  intro v' b;cases b with
  | fn _ vs' _ hl' hr' =>
   exact .fn f vs ds hl λj u x c a=>by
    have e:j<vs'.length:=by rw [hl'];exact (aK.1 a).1
    exact ih j u x c a vs'[j] (hr' j _ x (aA e) a)
 | nilf=>exact λ_ _=>.nilf
 | opt v g d hf h ih =>
  intro v' b;cases b with
  | opt _ _ _ hf' h''=>exact .opt v g d hf λk=>ih k v' (h'' k)
 | cst v=>exact λ_ _=>.cst v
 | junk v=>exact λ_ _=>.junk v
def Ce (τ:Nat->Nat):D->D
 | .own id n=>.own (τ id) n
 | d=>d
def Z0 (A:Nat->Prop):D->Prop
 | .own id _=>A id
 | d=>d.W=true
def Uw (τ:Nat->Nat):D->D
 | .agg cs=>.agg (cs.map (Ce τ))
 | d=>Ce τ d
def okC (A:Nat->Prop):D->Prop
 | .agg cs=>∀ c∈cs,Z0 A c
 | d=>Z0 A d
theorem RepV.cz {M f:Nat->Prop}{σ1 σE:Nat->Option Ow}{q A:Nat->Prop}{w:World}{τ:Nat->Nat}{v:Value}{d:D}(h:RepV M σ1 q w v (Ce τ d))(a:Z0 A d)(i:∀ j,A j->σE j=σ1 (τ j))(p:∀ b,¬ M b->¬ f b):RepV f σE A w v d:=by
 by_cases c:∃ id n,d=.own id n
 .obtain ⟨id,n,rfl⟩:=c;cases h with
  | own _ _ _ hN h1 h=>exact .own v id n a h1 λo l=>h o (by rw [<- i id a];exact l)
 .have e:Ce τ d=d:=by cases d<;>first|rfl|exact absurd ⟨_,_,rfl⟩ c
  have m:d.W=true:=by cases d<;>first|exact a|exact absurd ⟨_,_,rfl⟩ c
  rw [e] at h;exact h.be (λr u k g=>⟨p _ k,g⟩) m
theorem RepV.d3 {M l:Nat->Prop}{σ1 σE:Nat->Option Ow}{o A:Nat->Prop}{w:World}{τ:Nat->Nat}{v:Value}{d:D}(h:RepV M σ1 o w v (Uw τ d))(a:okC A d)(i:∀ j,A j->σE j=σ1 (τ j))(k:∀ b,¬ M b->¬ l b):RepV l σE A w v d:=by
 by_cases c:∃ f,d=.agg f
 .obtain ⟨f,rfl⟩:=c;cases h with
  | agg vs _ hl h1 hr =>
   exact .agg vs f (eL hl) h1 λj u x m g=>(hr j u (Ce τ x) m (by rw [aP,g];rfl)).cz (a x (aM g)) i k
 .have e:Uw τ d=Ce τ d:=by cases d<;>first|rfl|exact absurd ⟨_,rfl⟩ c
  have n:okC A d=Z0 A d:=by cases d<;>first|rfl|exact absurd ⟨_,rfl⟩ c
  rw [e] at h;rw [n] at a;exact h.cz a i k
structure Exact (H H1 E:AHeap) (τ:Nat->Nat):Prop where
 nx:∀ j,E.H j->j<E.next
 inj:∀ i j,E.H i->E.H j->τ i=τ j->i=j
 bo:∀ j,H.H j->E.H j/\τ j=j
 fo:∀ j,¬ E.H j->E.get j=none
 fv:∀ j k,E.get j=some k->(H.H j/\H.get j=some k/\H1.get j=some k) \/
  (∃ k0,H1.get (τ j)=some k0/\k0.ty=k.ty/\k0.Z=k.Z/\k0.fz=k.fz/\k0.T=k.T.map (·.map (Ce τ))/\∀ c∈k.T,∀ y∈c,Z0 E.H y)
theorem ACalls.exact {P:Program}{f:FuncId}{args:Xa2}{H E:AHeap}{r:D}{Q:D→AHeap→Prop}(h:ACalls P f args H Q)
  (hQ:(∀ j,H.H j→j<H.next)→(∀ j,¬ H.H j→H.get j=none)→∀ d H1,Q d H1→∃ τ,Exact H H1 E τ∧d=Uw τ r∧okC E.H r):ACalls P f args H fun d H1=>d=r∧H1=E :=
 ⟨h.1,fun M0 σ w vals hR ha=>(h.2 M0 σ w vals hR ha).mono fun e w' ⟨v,d,H1,σ1,he,hR1,hv,hst,hk,hq⟩=>by
  obtain ⟨τ,X,rfl,hok⟩:=hQ hR.bp (fun j hj=>(hR.bn j hj).2) d H1 hq
  classical
  obtain ⟨σE,hσ⟩:∃ σE:Nat→Option Ow,∀ j,σE j=if E.H j then σ1 (τ j) else none:=⟨fun j=>if E.H j then σ1 (τ j) else none,fun _=>rfl⟩
  have hs:∀ j,E.H j→σE j=σ1 (τ j):=fun j hj=>by rw [hσ,if_pos hj]
  have hsn:∀ j,¬ E.H j→σE j=none:=fun j hj=>by rw [hσ,if_neg hj]
  have hal:∀ j o,σE j=some o→E.H j:=fun j o ho=>bH fun hn=>by rw [hsn j hn] at ho;cases ho
  have halg:∀ j k,E.get j=some k→E.H j:=fun j k ho=>bH fun hn=>by rw [X.fo j hn] at ho;cases ho
  have hmut:∀ b,¬ dD M0 H1 σ1 b→¬ dD M0 E σE b:=by
   rintro b hm (h0|⟨j,k,o,hk',hf,ho,hb⟩)
   ·exact hm (.inl h0)
   ·rw [hs j (halg j k hk')] at ho
    rcases X.fv j k hk' with ⟨h1,h2,h3⟩|⟨k0,h1,h2,h3,h4,_⟩
    ·rw [(X.bo j h1).2] at ho
     exact hm (.inr ⟨j,k,o,h3,hf,ho,hb⟩)
    ·exact hm (.inr ⟨τ j,k0,o,h1,h4.trans hf,ho,hb⟩)
  have hkE:Keeps (dD M0 H σ) σ H.H w (dD M0 E σE) σE E.H w':=by
   refine ⟨fun ad u hm hu=>?_,fun id o' hid ho'=>?_,fun id hid=>(X.bo id hid).1⟩
   ·obtain ⟨a1,a2⟩:=hk.cell ad u hm hu;exact ⟨hmut _ a1,a2⟩
   ·rw [hs id (X.bo id hid).1,(X.bo id hid).2] at ho';exact hk.own id o' hid ho'
  have hkS:Keeps (dD M0 H1 σ1) σ1 (fun i=>H1.H i∧H.H i) w' (dD M0 E σE) σE E.H w':=by
   refine ⟨fun ad u hm hu=>⟨hmut _ hm,hu⟩,fun id o' hid ho'=>?_,fun id hid=>(X.bo id hid.2).1⟩;rw [hs id (X.bo id hid.2).1,(X.bo id hid.2).2] at ho';exact ⟨o',ho',.inl rfl⟩
  have hRE:Rel M0 E σE w':=by
   refine ⟨fun j hj=>⟨hsn j hj,X.fo j hj⟩,X.nx,fun j k hk'=>?_,fun i j o o' b hi hj hb hb'=>?_,fun i o b hi hb=>?_,hR1.m0⟩
   ·have hj:=halg j k hk'
    rcases X.fv j k hk' with ⟨h1,h2,h3⟩|⟨k0,h1,h2,h3,h4,h5,h6⟩
    ·obtain ⟨o,ho,l⟩:=hR1.ak j k h3
     obtain ⟨o0,ho0,l0⟩:=hR.ak j k h2;obtain ⟨xs,a1,a2,a3⟩:=l.row;obtain ⟨ys,b1,b2,b3⟩:=l0.row;refine ⟨o,by rw [hs j hj,(X.bo j h1).2];exact ho,l.ai,l.ty,l.Z,l.J,xs,a1,a2,a3.len,fun q u d hu hd=>?_⟩;have hq':q<ys.length:=by rw [b3.len];exact (aK.1 hd).1
     exact ((a3.ad q u d hu hd).fj _ (b3.ad q ys[q] d (aA hq') hd)).u hkS
    ·obtain ⟨o,ho,l⟩:=hR1.ak (τ j) k0 h1
     obtain ⟨xs,a1,a2,a3⟩:=l.row;have hlen:k0.T.length=k.T.length:=by rw [h5,bI]
     have hfl:k0.T.flatten=k.T.flatten.map (Ce τ):=by rw [h5];exact List.map_flatten.symm
     refine ⟨o,by rw [hs j hj];exact ho,by rw [l.ai,hlen],by rw [l.ty,h2],by rw [l.Z,h3],fun c hc=>?_,xs,by rw [← h2,← hlen];exact a1,a2,by rw [a3.len,hfl,bI],fun q u d hu hd=>?_⟩
     ·have:=l.J (c.map (Ce τ)) (by rw [h5];exact jD hc)
      rwa [bI] at this
     ·have hd2:k0.T.flatten[q]?=some (Ce τ d):=by rw [hfl,aP,hd];rfl
      obtain ⟨c,hc,hdc⟩:=eR.1 (aM hd);exact (a3.ad q u _ hu hd2).cz (h6 c hc d hdc) hs hmut
   ·have hi':=hal i o hi
    have hj':=hal j o' hj;rw [hs i hi'] at hi;rw [hs j hj'] at hj;exact X.inj i j hi' hj' (hR1.inj _ _ o o' b hi hj hb hb')
   ·rw [hs i (hal i o hi)] at hi
    exact hR1.lt (τ i) o b hi hb
  refine ⟨v,r,E,σE,he,hRE,hv.d3 hok hs hmut,⟨hst.os,hst.tape,hst.output,hst.size,hst.bo,fun i o' b ho hb=>?_⟩,hkE,rfl,rfl⟩;rw [hs i (hal i o' ho)] at ho;exact hst.new (τ i) o' b ho hb⟩
end Go.Abs
end
section
set_option maxRecDepth 100000
set_option maxHeartbeats 4000000
open Go Go.Proofs Tryz
namespace Go.Abs
structure SmallA (x:Attr):Prop where
 lo : -1000000<=x.ax
 hi:x.ay<=1000000
 le:x.ax<=x.ay
theorem GA {x:Attr}{b:List Attr}(h:dX x b=0):SmallA x:=by
 unfold dX at h;split at h<;>try (cases h;done)
 split at h<;>try (cases h;done)
 split at h
 .exact absurd h (by assumption)
 .rename_i h3;split at h
  .rename_i h4;split at h
   .rename_i h5;have a:x.ah.length<=20:=by
     refine bH λc=>h3 ?_;unfold pI;rw [if_pos bZ];decide
    simp at h5;exact ⟨bZ,bZ,bZ⟩
   .cases h
  .split at h
   .rename_i h5;simp at h5;exact ⟨bZ,bZ,bZ⟩
   .cases h
theorem OP {t:Types}{a:Nat}(b:a<t.h.length)(h:iV t a=0):∀ k,(t.y a).length - t.h[a].y.length<=k->∀ hk:k<(t.y a).length,SmallA (t.y a)[k]:=by
 rw [Dp t a b] at h;split at h<;>try (cases h;done)
 split at h<;>try (cases h;done)
 split at h<;>try (cases h;done)
 split at h<;>try (cases h;done)
 split at h<;>try (cases h;done)
 intro k c hk;have:=fD _ _ h k c bZ;unfold B6 at this;rw [aA hk] at this;exact GA this
theorem PS {t:Types}(g:(cQ t).2=0):∀ a:Nat,a<t.h.length->∀ x∈t.y a,SmallA x:=by
 have c:=oZ g;have f:∀ j,j<t.h.length->iV t j=0:=by
  have h:=g;unfold cQ at h;split at h
  .simp at h
  .split at h
   .simp at h
   .obtain ⟨f,_⟩:=tH _ _ h;exact λj p=>f j bZ bZ
 intro a;induction a using Nat.strongRecOn with
 | _ a ih =>
 intro e x m;have b:=EV t a e (c.ap a);have i:=c.G a _ (aA e);obtain ⟨k,l,rfl⟩:=aO m;by_cases q:k<(t.y a).length - t.h[a].y.length
 .by_cases hp:0<=t.h[a].G
  .rw [if_pos hp] at b;have n:(t.y a).length=(t.y t.h[a].G.toNat).length+t.h[a].y.length:=by rw [b];simp
   have d:k<(t.y t.h[a].G.toNat).length:=bZ;have o:(t.y a)[k]=(t.y t.h[a].G.toNat)[k]:=by
    have:(t.y a)[k]?=(t.y t.h[a].G.toNat)[k]?:=by rw [b,aR d]
    rw [aA l,aA d] at this;exact Option.some.inj this
   rw [o];exact ih _ bZ bZ _ (aC d)
  .rw [if_neg hp] at b;have n:(t.y a).length=t.h[a].y.length:=by rw [b];simp
   omega
 .exact OP e (f a e) k bZ l
theorem LH {t:Types}(c:t.av):∀ b:Nat,b<t.h.length->∀ a:Nat,mem (t.ao b) (a:Int)=true->∃ r,t.y b=t.y a++r:=by
 intro b;induction b using Nat.strongRecOn with
 | _ b ih =>
 intro d a hm;have e:=c.G b _ (aA d);rw [AJ t b d (c.ap b),xK,c5] at hm;rcases hm with hm|hm
 .by_cases h0:0<=t.h[b].G
  .rw [if_pos h0] at hm;obtain ⟨r,f⟩:=ih t.h[b].G.toNat bZ bZ a hm;exact ⟨r++t.h[b].y,by rw [EV t b d (c.ap b),if_pos h0,f,List.append_assoc]⟩
  .rw [if_neg h0,Ds] at hm;cases hm
 .simp at hm;have:a=b:=bZ;subst this;exact ⟨[],by simp⟩
structure SOk (p:Pattern) (h:Host) (m:Part):Prop where
 vars:0<=p.vars/\p.vars<=12
 node:∀ s∈p.q,0<=s.node/\s.node<m.h.length
 bx:∀ k∈m.h,0<=k/\k<h.k.length
 P:∀ s∈p.q,0<=s.P/\s.P<(h.k[(m.h[s.node.toNat]?.getD 0).toNat]?.getD []).length
 fm:∀ l∈h.k,∀ v∈l,-1000000<=v/\v<=1000000
 C:∀ s∈p.q,q7 s.C p.vars.toNat
 test:∀ x∈p.I,Jh x p.vars.toNat
theorem t6 {t:Types}(b:(cQ t).2=0){a:Int}(d:0<=a)(c:a<t.h.length):bV t a=t.y a.toNat:=by
 unfold bV;rw [if_pos];simp [given2F,b,insideF,d,c]
theorem uS {t:Types}(b:(cQ t).2=0)(a:Int):(bV t a).length<=8:=by
 by_cases h:0<=a/\a<t.h.length
 .rw [t6 b h.1 h.2];exact (oZ b).y _ bZ
 .unfold bV;rw [if_neg (by simp [given2F,b,insideF];omega)];simp
theorem D4 {t:Types}(b:(cQ t).2=0)(a:Int):∀ x∈bV t a,SmallA x:=by
 by_cases h:0<=a/\a<t.h.length
 .rw [t6 b h.1 h.2];exact PS b _ bZ
 .unfold bV;rw [if_neg (by simp [given2F,b,insideF];omega)];simp
structure HostOk (t:Types) (h:Host):Prop where
 vf:(cQ t).2=0
 gg:graphF h.j=0
 vl:h.k.length=h.j.h.length
 nd:∀ (i:Nat) (hi:i<h.j.h.length) (hv:i<h.k.length),i4 t h.j.h[i] h.k[i]=0
 ed:∀ x∈h.j.i,x.type<t.i.length/\oR t x.type (gN h.j x.B) (gN h.j x.O)=true
theorem y4 {t:Types}{h:Host}(a:jB t h=0):HostOk t h:=by
 unfold jB pR at a;split at a
 .rename_i h1;exact absurd a h1
 .rename_i h1;split at a
  .rename_i h2;exact absurd a h2
  .rename_i h2;split at a
   .cases a
   .rename_i h3;split at a
    .rename_i h4;exact absurd a h4
    .rename_i h4;rw [kU] at h4;rw [vS] at h4 a;refine ⟨bZ,bZ,bZ,λi e c=>?_,λx b=>?_⟩
     .have:=fD _ _ h4 i (d9 _) bZ;simpa only [Io,aA e,aA c,aD] using this
     .obtain ⟨k,d,rfl⟩:=aO b;have:=fD _ _ a k (d9 _) bZ;simp only [TJ,aA d,aD] at this;split at this
      .cases this
      .split at this
       .exact ⟨bZ,by assumption⟩
       .cases this
theorem xR {t:Types}{k:Int}{vs:Xa0}(h:i4 t k vs=0):k<t.h.length/\zT t k.toNat=false/\vs.length=(bV t k).length /\
  ∀ (j:Nat) (a:j<vs.length) (b:j<(bV t k).length),(bV t k)[j].ax<=vs[j]/\vs[j]<=(bV t k)[j].ay:=by
 unfold i4 at h;split at h
 .cases h
 .rename_i h1;split at h
  .cases h
  .rename_i h2;split at h
   .cases h
   .rename_i h3;refine ⟨bZ,by simpa using h2,bZ,λj a b=>?_⟩;have:=fD _ _ h j (d9 _) bZ;simp only [Dt,aA a,aA b,aD] at this;split at this
    .cases this
    .omega
theorem HostOk.row {t:Types}{h:Host}(ho:HostOk t h):∀ v∈h.k,v.length<=8/\∀ x∈v,-1000000<=x/\x<=1000000:=λv hv=>by
 obtain ⟨i,hi,rfl⟩:=aO hv;have hn:=ho.vl;obtain ⟨h1,h2,h3,h4⟩:=xR (ho.nd i bZ hi);have hl:=uS ho.vf (h.j.h[i]' bZ);refine ⟨bZ,λx hx=>?_⟩;obtain ⟨j,hj,rfl⟩:=aO hx;have:=h4 j hj bZ;have hs:=D4 ho.vf _ _ (aC (show j<(bV t (h.j.h[i]' bZ)).length by omega));have:=hs.lo;have:=hs.hi;omega
/-! ### a host in owned slices -/
def lW (qs:List Nat)(vs:Yb):Xa1:=List.zipWith (λq (v:Xa0)=>[D.own q v.length]) qs vs
theorem kC {a:List Nat}{vs:Yb}(h:a.length=vs.length):(lW a vs).length=vs.length:=by simp [lW,h]
theorem yV {a:List Nat}{vs:Yb}(h:a.length=vs.length)(q:Nat)(v:Xa0):lW (a++[q]) (vs++[v])=lW a vs++[[.own q v.length]]:=by
 simp [lW,List.zipWith_append h]
theorem tS {a:List Nat}{vs:Yb}{i q:Nat}{v:Xa0}(c:a[i]?=some q)(b:vs[i]?=some v):(lW a vs)[i]?=some [.own q v.length]:=by
 simp [lW,List.getElem?_zipWith,c,b]
theorem S7 {a:List Nat}{vs:Yb}{i:Nat}{v b:Xa0}(c:vs[i]?=some v)(d:b.length=v.length):lW a (vs.set i b)=lW a vs:=by
 apply f9;intro j;simp only [lW,List.getElem?_zipWith,eB];by_cases h:i=j
 .subst h;have e:=(aK.1 c).1;rw [if_pos rfl,if_pos e,c];cases a[i]?<;>simp [d]
 .rw [if_neg h]
structure HH (H:AHeap) (lo a b V:Nat) (qs:List Nat) (h:Host):Prop where
 ga:H.get a=some ⟨3,1,h.j.h.map cI,false⟩
 gb:H.get b=some ⟨153,3,h.j.i.map Edge.c,false⟩
 gV:H.get V=some ⟨26,1,lW qs h.k,false⟩
 len:qs.length=h.k.length
 gq:∀ (i q:Nat) (v:Xa0),qs[i]?=some q->h.k[i]?=some v->H.get q=some ⟨3,1,v.map cI,false⟩
 nd:(a :: b :: V :: qs).Nodup
 ac:∀ q∈a :: b :: V :: qs,lo<=q/\q<H.next
section
variable {H H':AHeap} {lo a b V:Nat} {qs:List Nat} {x:Host}
theorem HH.bc (h:HH H lo a b V qs x):a∈a :: b :: V :: qs:=eG
theorem HH.bb (h:HH H lo a b V qs x):b∈a :: b :: V :: qs:=eG
theorem HH.bi (h:HH H lo a b V qs x):V∈a :: b :: V :: qs:=eG
theorem HH.a6 (h:HH H lo a b V qs x){q:Nat}(c:q∈qs):q∈a :: b :: V :: qs:=by simp [c]
theorem HH.ab (h:HH H lo a b V qs x):a≠b/\a≠V/\b≠V:=by
 have:=h.nd;simp only [gZ,aS,not_or] at this;exact ⟨this.1.1,this.1.2.1,this.2.1.1⟩
theorem HH.qn (h:HH H lo a b V qs x){q:Nat}(c:q∈qs):q≠a/\q≠b/\q≠V:=by
 have:=h.nd;simp only [gZ,aS,not_or] at this;exact ⟨λe=>this.1.2.2 (e ▸ c),λe=>this.2.1.2 (e ▸ c),λe=>this.2.2.1 (e ▸ c)⟩
theorem HH.em (h:HH H lo a b V qs x){lo':Nat}(hl:lo'<=lo):HH H lo' a b V qs x:=⟨h.ga,h.gb,h.gV,h.len,h.gq,h.nd,λq hq=>⟨eI hl (h.ac q hq).1,(h.ac q hq).2⟩⟩
theorem HH.same (h:HH H lo a b V qs x)(hn:H.next<=H'.next)(hf:∀ j∈a :: b :: V :: qs,H'.get j=H.get j):HH H' lo a b V qs x where
 ga:=(hf a h.bc).trans h.ga
 gb:=(hf b h.bb).trans h.gb
 gV:=(hf V h.bi).trans h.gV
 len:=h.len
 gq i q v h1 h2:=(hf q (h.a6 (aM h1))).trans (h.gq i q v h1 h2)
 nd:=h.nd
 ac q hq:=⟨(h.ac q hq).1,b4 (h.ac q hq).2 hn⟩
theorem HH.h (h:HH H lo a b V qs x)(hn:H.next<=H'.next){ns:Xa0}(ga:H'.get a=some ⟨3,1,ns.map cI,false⟩)(hf:∀ j∈b :: V :: qs,H'.get j=H.get j):HH H' lo a b V qs ⟨⟨ns,x.j.i⟩,x.k⟩ where
 ga:=ga
 gb:=(hf b eG).trans h.gb
 gV:=(hf V eG).trans h.gV
 len:=h.len
 gq i q v h1 h2:=(hf q (by simp [aM h1])).trans (h.gq i q v h1 h2)
 nd:=h.nd
 ac q hq:=⟨(h.ac q hq).1,b4 (h.ac q hq).2 hn⟩
theorem HH.i (h:HH H lo a b V qs x)(hn:H.next<=H'.next){es:List Edge}(gb:H'.get b=some ⟨153,3,es.map Edge.c,false⟩)(hf:∀ j∈a :: V :: qs,H'.get j=H.get j):HH H' lo a b V qs ⟨⟨x.j.h,es⟩,x.k⟩ where
 ga:=(hf a eG).trans h.ga
 gb:=gb
 gV:=(hf V eG).trans h.gV
 len:=h.len
 gq i q v h1 h2:=(hf q (by simp [aM h1])).trans (h.gq i q v h1 h2)
 nd:=h.nd
 ac q hq:=⟨(h.ac q hq).1,b4 (h.ac q hq).2 hn⟩
theorem HH.cq (h:HH H lo a b V qs x)(hn:H.next<=H'.next){q:Nat}{v:Xa0}(hlo:lo<=q)(hq:∀ j∈a :: b :: V :: qs,j≠q)(hq2:q<H'.next)(gq:H'.get q=some ⟨3,1,v.map cI,false⟩)
  (gV:H'.get V=some ⟨26,1,lW qs x.k++[[.own q v.length]],false⟩) (hf:∀ j∈a :: b :: qs,H'.get j=H.get j):HH H' lo a b V (qs++[q]) ⟨x.j,x.k++[v]⟩ where
 ga:=(hf a eG).trans h.ga
 gb:=(hf b eG).trans h.gb
 gV:=by rw [yV h.len];exact gV
 len:=by simp [h.len]
 gq i q' v' h1 h2:=by
  by_cases hi:i<qs.length
  .rw [aR hi] at h1;rw [aR (by rw [<- h.len];exact hi)] at h2;exact (hf q' (by simp [aM h1])).trans (h.gq i q' v' h1 h2)
  .have h1':=(aK.1 h1).1;have:i=qs.length:=by simp at h1';omega
   subst this;simp at h1;rw [h.len] at h2;simp at h2;subst h1 h2;exact gq
 nd:=by
  have:=h.nd;have e:a :: b :: V :: (qs++[q])=(a :: b :: V :: qs)++[q]:=rfl;rw [e,sQ];exact ⟨this,by simp,λy hy z hz=>by rw [bU] at hz;subst hz;exact hq y hy⟩
 ac j hj:=by
  have e:a :: b :: V :: (qs++[q])=(a :: b :: V :: qs)++[q]:=rfl;rw [e,bE,bU] at hj;rcases hj with hj|rfl
  .exact ⟨(h.ac j hj).1,b4 (h.ac j hj).2 hn⟩
  .exact ⟨hlo,hq2⟩
theorem HH.c4 (h:HH H lo a b V qs x)(hn:H.next<=H'.next){i q:Nat}{v v':Xa0}(h1:qs[i]?=some q)(h2:x.k[i]?=some v)(hl:v'.length=v.length)(gq:H'.get q=some ⟨3,1,v'.map cI,false⟩)
  (hf:∀ j∈a :: b :: V :: qs,j≠q->H'.get j=H.get j):HH H' lo a b V qs ⟨x.j,x.k.set i v'⟩ where
 ga:=(hf a h.bc (Ne.symm (h.qn (aM h1)).1)).trans h.ga
 gb:=(hf b h.bb (Ne.symm (h.qn (aM h1)).2.1)).trans h.gb
 gV:=by rw [S7 h2 hl];exact (hf V h.bi (Ne.symm (h.qn (aM h1)).2.2)).trans h.gV
 len:=by simp [h.len]
 gq j q' w k1 k2:=by
  have hqn:qs.Nodup:=by have:=h.nd;simp only [gZ] at this;exact this.2.2.2
  rw [eB] at k2;by_cases hj:i=j
  .subst hj;rw [h1] at k1;cases k1
   rw [if_pos rfl] at k2;split at k2
   .cases k2;exact gq
   .cases k2
  .rw [if_neg hj] at k2;refine (hf q' (h.a6 (aM k1)) λe=>hj ?_).trans (h.gq j q' w k1 k2);subst e;obtain ⟨a1,a2⟩:=aK.1 h1;obtain ⟨b1,b2⟩:=aK.1 k1;exact (j9 hqn).1 (a2.trans b2.symm)
 nd:=h.nd
 ac q hq:=⟨(h.ac q hq).1,b4 (h.ac q hq).2 hn⟩
theorem HH.e0 (h:HH H lo a b V qs x):(lW qs x.k).map (·.map (fN H))=x.k.map cL:=by
 apply f9;intro i;simp only [aP];by_cases d:i<x.k.length
 .have hq:i<qs.length:=by rw [h.len];exact d
  have c:=aA d;have e:=aA hq;rw [tS e c,c];have:=h.gq i _ _ e c;simp [fN,this,cL,dLI]
 .rw [b5 (by rw [kC h.len];omega),b5 bZ];rfl
theorem HH.co (h:HH H lo a b V qs x):kW H (.agg [.own a x.j.h.length,.own b x.j.i.length,.own V x.k.length])=x.d:=by
 have j:∀ l:Xa1,(∀ c∈l,∀ y∈c,∀ i n,y≠D.own i n/\∀ p q r,y≠D.win i p q r)->l.map (·.map (fN H))=l:=λl g=>by
  conv=>rhs;rw [<- List.map_id l]
  refine cE λc f=>?_;conv=>rhs;rw [id,<- List.map_id c]
  refine cE λy e=>?_;cases y<;>first|rfl|(exfalso;first|exact (g c f _ e _ _).1 rfl|exact (g c f _ e _ 0).2 _ _ _ rfl)
 simp only [kW,q8,gJ,jJ,h.ga,h.gb,h.gV,bI,kC h.len,if_true,h.e0];rw [j (x.j.h.map cI) (λc f y e i n=>by
  rw [aV] at f;obtain ⟨z,_,rfl⟩:=f;simp [cI] at e;subst e;simp),j (x.j.i.map Edge.c) (λc f y e i n=>by
  rw [aV] at f;obtain ⟨z,_,rfl⟩:=f;simp [Edge.c,dI] at e;rcases e with rfl|rfl|rfl<;>simp)]
 rfl
theorem O9 {l:Xa1}(d:∀ c∈l,∀ y∈c,lR y=[]):l.flatten.flatMap lR=[]:=by
 rw [pM];intro i a;rw [cD] at a;obtain ⟨y,b,a⟩:=a;rw [eR] at b;obtain ⟨c,e,b⟩:=b;rw [d c e y b] at a;cases a
theorem HH.fs (h:HH H lo a b V qs x)(n m k:Nat)(e:Int):∀ i∈BX H (.tup [.agg [.own a n,.own b m,.own V k],dI e]),i∈a :: b :: V :: qs:=by
 intro i hi;have l:(x.j.h.map cI).flatten.flatMap lR=[]:=O9 λc f y d=>by
  rw [aV] at f;obtain ⟨z,_,rfl⟩:=f;simp [cI] at d;subst d;rfl
 have g:(x.j.i.map Edge.c).flatten.flatMap lR=[]:=O9 λc f y d=>by
  rw [aV] at f;obtain ⟨z,_,rfl⟩:=f;simp [Edge.c,dI] at d;rcases d with rfl|rfl|rfl<;>rfl
 simp only [BX,Im,MN,zX,Kh,h.ga,h.gb,h.gV,l,g,dI,lR,cZ,bE,aS,eC,or_false] at hi;rcases hi with rfl|rfl|rfl|hi
 .exact h.bc
 .exact h.bb
 .exact h.bi
 .rw [cD] at hi;obtain ⟨y,d,hi⟩:=hi;rw [eR] at d;obtain ⟨c,f,d⟩:=d;simp only [lW] at f;obtain ⟨j,o,rfl⟩:=aO f;rw [List.getElem_zipWith,bU] at d;subst d;simp only [lR,bU] at hi;subst hi;exact h.a6 (aC _)
end
theorem PY (h:Host):D.N h.c=true:=by simp [Host.c,D.N,D.W,qU,pT];exact dU _ (λv=>by simp [cL,D.N,qU]) _
@[go_sem] theorem Host.fi (h:Host):h.d.W=true:=by simp [Host.d,D.W,PY]
/-! ### Extract -/
def Za (t:Types)(h:Host)(p:Part):Int:=if jB t h≠0 then jB t h else subF h.j p
def V2 (t:Types)(h:Host)(p:Part):Host:=if Za t h p=0 then ⟨bG h.j p,p.h.map λk=>h.k[k.toNat]?.getD []⟩ else ⟨⟨[],[]⟩,[]⟩
theorem JM (t:Types)(J:t.ok)(h:Host)(p:Part)(O:p.h.length<=1000000)(C:p.i.length<=1000000):Pua 171 [t.d,h.d,p.d] (.tup [(V2 t h p).d,dI (Za t h p)]):=by
 refine Tz.pK ⟨λt=>t==6||t==10||t==11||t==13||t==48,λr=>match r with|11=>[(0,2),(1,2),(2,3),(2,4),(2,5),(2,6),(2,8),(2,9),(2,10),(2,11),(0,12),(1,12),(0,13),(1,13)]|_=>[]⟩ func171 rfl (λQ E=>?_);have Y:=wa @Host.d.eq_1 @Host.c.eq_1;refine wv (h:=aB (Aw t J h) wl ?_);refine c8 (λT=>?_) λT=>?_
 .have z:Za t h p=(pR t h).2:=by unfold Za;rw [if_pos (by unfold jB;omega)];rfl
  have q:V2 t h p=⟨⟨[],[]⟩,[]⟩:=by unfold V2;rw [if_neg bZ]
  exact wv (h:=E _ _ (by simp [go_sem,z,q,dLI]))
 .have h0:jB t h=0:=by unfold jB;omega
  have z:Za t h p=subF h.j p:=by unfold Za;rw [if_neg bZ]
  have B:=y4 h0;have o:=B.row;have P:=aY B.gg;have I:=B.vl;refine wv (h:=aB (BS h.j p O C) wl ?_);refine c8 (λS=>?_) λS=>?_
  .have q:V2 t h p=⟨⟨[],[]⟩,[]⟩:=by unfold V2;rw [if_neg bZ]
   exact wv (h:=E _ _ (by simp [go_sem,z,q,dLI]))
  .have h5':subF h.j p=0:=bZ;obtain ⟨M,L,A,K⟩:=fO h5';have R:FF h.j p=p:=by unfold FF;rw [if_pos h5']
   have q:V2 t h p=⟨bG h.j p,p.h.map λk=>h.k[k.toNat]?.getD []⟩:=by unfold V2;rw [if_pos bZ]
   have Y:=xa4 Y R @Part.d.eq_1 @Part.c.eq_1 @Graph.d.eq_1 @Graph.c.eq_1;refine wv (h:=nE (Ghosts.step (Ghosts.refl _) 3 0 2 26 1 _ _ ((by simp [go_sem];rfl)) rfl rfl rfl) (λi e H=>∃ a:Yb,(e 3=.adr t.c/\e 4=.adr h.c/\e 5=.adr p.c/\e 6=.ptr 0 1 0 0/\e 10=.ptr 1 1 0 0/\e 11=.ptr 2 1 0 0/\e 13=.ptr 3 1 0 0/\e 14=dI i)/\(H.get 0=some ⟨50,3,[[.nil,.nil,.nil]],false⟩)/\(0<H.next)/\(H.get 1=some ⟨29,2,[(bG h.j p).c],false⟩)/\(1<H.next)/\(H.get 2=some ⟨36,2,[p.c],false⟩)/\(2<H.next)/\(H.get 3=some ⟨50,3,[[dLI (bG h.j p).h,.list ((bG h.j p).i.map Edge.c),.own 4 a.length]],false⟩)/\(3<H.next)/\(H.get 4=some ⟨26,1,a.map cL,false⟩)/\(4<H.next)/\(i<=p.h.length)/\(a=(p.h.take i).map λk=>h.k[k.toNat]?.getD [])/\(a.length=i)) (λi=>p.h.length - i) 0 ⟨([]),wg,wn,wn,wn,wn,wn,wn,wn,wn,wn,wn,wi,(by rfl),(by rfl)⟩ λW F i e H D=>?_);obtain ⟨a,U,y,m,x,l,w,j,v,g,u,f,V,n,G⟩:=D;have Y:=xb0 Y U y (bP m) x (bP l) w (bP j) v (bP g) u (bP f);refine kI (λs=>?_) λs=>?_
   .have hk:=A _ (aC s);have b:p.h[i].toNat<h.k.length:=bZ;have N:=(o _ (aC b)).1;have Y:=xa3 Y s (aA s) (aA b) @cL.eq_1;exact wp (h:=wx F (i+1) ⟨(a++[h.k[p.h[i].toNat]]),wg,wn,wn,wn,wn,wn,wn,wn,wn,wn,wn,wj,(by rw [dB _ s,<- n,aA b];rfl),(by simp;omega)⟩)
   .have hVS:a=p.h.map λk=>h.k[k.toNat]?.getD []:=by rw [n,dV _ bZ]
    exact wv (h:=E _ _ (by simp [go_sem,Y,z,q,h5',hVS,cL]))
theorem JN (h:Host)(hn:h.j.h.length<=100000)(he:h.j.i.length<=100000)(hv:h.k.length<=100000)(S:∀ v∈h.k,v.length<=100000)(G:AHeap)(Q:D->AHeap->Prop)
  (hQ:∀ a b V qs H',HH H' G.next a b V qs h->(∀ j,j<G.next->H'.get j=G.get j)->G.next<=H'.next->Q (.agg [.own a h.j.h.length,.own b h.j.i.length,.own V h.k.length]) H'):ACalls prog 93 [h.d] G Q:=by
 refine (Tz.cK ⟨λt=>t==2||t==3||t==18||t==1000001,λr=>match r with|5=>[(0,2),(1,2),(2,3),(2,4),(2,6),(2,7),(0,8),(1,8),(0,9),(1,9)]|_=>[]⟩ func93 rfl ?_);have Y:=wa @Host.d.eq_1 @Host.c.eq_1;refine wv (h:=?_);unfold e8;refine BT h.j bZ bZ _ _ (λa b g ha W Z X U C B u y=>?_);simp [go_sem] at ha W y;have o:=u G.next (by simp [go_sem]);simp [go_sem] at o;have s:∀ j,j<G.next->g.get j=G.get j:=λj hj=>by
  rw [u j (by simp [go_sem];omega)];simp [go_sem,(bZ:j≠G.next)]
 have M:=nxs g.next;have I:=xa1 (bP (bZ:a<g.next)) (bP (bZ:b<g.next)) (bP (bZ:G.next<g.next));have K:=xa1 (dE (bZ:G.next≠b)) (dE (bZ:G.next≠a)) (dE (bZ:b≠a));have Y:=xa5 Y I K C B o M;refine wv (h:=nE (Ghosts.step (Ghosts.refl _) g.next 0 2 26 1 _ _ ((by simp [go_sem];rfl)) rfl rfl rfl) (λi e H=>∃ R:Nat,∃ c:Nat,∃ V:Nat,∃ qs:List Nat,(e 1=.adr h.c/\e 2=.ptr R 1 0 0/\e 3=.ptr c 1 0 0/\e 4=dI i)/\(H.get R=some ⟨50,3,[[.nil,.nil,.nil]],false⟩)/\(R<H.next)/\(H.get c=some ⟨50,3,[[.own a h.j.h.length,.own b h.j.i.length,.own V i]],false⟩)/\(c<H.next)/\(H.get V=some ⟨26,1,lW qs (h.k.take i),false⟩)/\(V<H.next)/\(i<=h.k.length)/\(HH H (G.next+1) a b V qs ⟨h.j,h.k.take i⟩)/\((a<c/\b<c/\c<V/\V<H.next/\R<a/\R<b/\R<c/\G.next<=R))/\(∀ q∈qs,V<q)/\(∀ j,j<G.next->H.get j=G.get j)/\(G.next<=H.next)) (λi=>h.k.length - i) 0 ⟨G.next,g.next,(g.next+1),([]),wg,wn,wn,wn,wn,(by simp [go_sem,Y,lW]),wn,wi,(by refine ⟨by simp [go_sem,Y],by simp [go_sem,Y],by simp [go_sem,lW],rfl,by simp,by simp;omega,by simp [go_sem];omega⟩),(by simp [go_sem];omega),(by intro q n;cases n),(by intro j hj;simp [go_sem,(bZ:j≠g.next),(bZ:j≠g.next+1)];exact s j hj),(by simp [go_sem];omega)⟩ λI0 F i e H A=>?_);obtain ⟨R,c,V,qs,E0,gR_0,nR_0,w,l,gV_0,nV_0,hi,f,hc,n,L,T⟩:=A;have J:=xa8 (dE (bZ:R≠V)) (dE (bZ:R≠c)) (dE (bZ:R≠b)) (dE (bZ:R≠a)) (dE (bZ:V≠c)) (dE (bZ:V≠b)) (dE (bZ:V≠a)) (dE (bZ:c≠b)) (dE (bZ:c≠a)) (dE (bZ:b≠a));have Y:=xa8 Y @Host.c.eq_1 E0 gR_0 (bP nR_0) w (bP l) gV_0 (bP nV_0) J;refine kI (λk=>?_) λk=>?_
 .have hr8:=S _ (aC k);have p:∀ j∈a :: b :: qs,j≠V/\j≠c/\j<H.next:=λj hj=>by
   simp only [aS] at hj;rcases hj with rfl|rfl|hj
   .exact ⟨bZ,bZ,(f.ac _ f.bc).2⟩
   .exact ⟨bZ,bZ,(f.ac _ f.bb).2⟩
   .have:=n j hj;exact ⟨bZ,bZ,(f.ac _ (f.a6 hj)).2⟩
  have x:(lW qs (h.k.take i)).length=i:=by rw [kC f.len];simp;omega
  have Y:=xa3 Y k (aA k) @cL.eq_1 x;exact wp (h:=wx F (i+1) ⟨R,c,V,(qs++[H.next+2]),wg,wn,wn,wn,wn,(by rw [aF k,yV f.len];simp [go_sem,Y,cL]),wn,wj,(by rw [aF k];exact f.cq (by first|(simp [go_sem];done)|(simp [go_sem];omega)) bZ (λj hj=>by have:=(f.ac j hj).2;omega) (by simp [go_sem]) (by simp [go_sem,Y]) (by simp [go_sem,Y,cL]) (λj hj=>by obtain ⟨P,O,N⟩:=p j hj;simp [go_sem,P,O,bP N])),(by simp [go_sem];omega),(by intro q m;rw [bE,bU] at m;rcases m with h1|rfl;exact n q h1;omega),(by intro j hj;simp [go_sem,(bZ:j≠H.next+2),(bZ:j≠V),(bZ:j≠c)];exact L j hj),(by simp [go_sem];omega)⟩)
 .rw [aH bZ] at f;have z:i=h.k.length:=bZ;have E:∀ j∈a :: b :: V :: qs,j≠R:=λj hj=>by
   simp only [aS] at hj;rcases hj with rfl|rfl|rfl|hj
   .omega
   .omega
   .omega
   .have:=n j hj;omega
  refine wv (h:=?_);rw [z];exact hQ a b V qs _ ((f.em bZ).same (by simp [go_sem]) (λj hj=>by simp [go_sem,E j hj])) (λj hj=>by simp [go_sem,(bZ:j≠R)];exact L j hj) (by simp [go_sem];omega)
/-! ### exact numbers -/
def Ht (l l1:List Nat)(j:Nat):Nat:=if j∈l then l1[l.idxOf j]?.getD 0 else j
theorem C2 {l a:List Nat}(e:l.Nodup){i j b:Nat}(h:l[i]?=some j)(f:a[i]?=some b):Ht l a j=b:=by
 obtain ⟨c,d⟩:=aK.1 h;unfold Ht;rw [if_pos (d ▸ aC c)];have:l.idxOf j=i:=by rw [<- d];exact e.idxOf_getElem i c
 rw [this,f];rfl
theorem An {l a:List Nat}{j:Nat}(h:j∉l):Ht l a j=j:=by unfold Ht;rw [if_neg h]
theorem AG {τ:Nat->Nat}{l:Xa1}(b:∀ c∈l,∀ y∈c,Ce τ y=y):l.map (·.map (Ce τ))=l:=by
 conv=>rhs;rw [<- List.map_id l]
 refine cE λc d=>?_;conv=>rhs;rw [id,<- List.map_id c]
 exact cE λy a=>b c d y a
theorem HH.exact {H H1 E:AHeap}{lo a0 a b V a1 b1 V1:Nat}{N t:List Nat}{x:Host}(G:HH E lo a b V N x)(M:HH H1 a0 a1 b1 V1 t x)
  (a2:∀ j,H.H j->j<H.next) (O:∀ j,¬ H.H j->H.get j=none) (Io:H.next<=E.next)
  (g:∀ j,E.H j↔H.H j\/j∈a :: b :: V :: N) (Y:∀ j,H.H j->j∉a :: b :: V :: N->H1.get j=H.get j) (Q:∀ j,j∉a :: b :: V :: N->E.get j=H.get j)
  (f:∀ (i j F:Nat),(a :: b :: V :: N)[i]?=some j->(a1 :: b1 :: V1 :: t)[i]?=some F->(H.H j->F=j)/\(¬ H.H j->¬ H.H F)) :
  ∃ τ,Exact H H1 E τ/\.agg [.own a1 x.j.h.length,.own b1 x.j.i.length,.own V1 x.k.length]=Uw τ (.agg [.own a x.j.h.length,.own b x.j.i.length,.own V x.k.length])/\okC E.H (.agg [.own a x.j.h.length,.own b x.j.i.length,.own V x.k.length]):=by
 obtain ⟨l,A⟩:=fH (a :: b :: V :: N);obtain ⟨D,w⟩:=fH (a1 :: b1 :: V1 :: t);have u:=G.nd;have P:=M.nd;have W:=G.ac;rw [<- A] at g Y Q f u W;rw [<- w] at f P;have a3:D.length=l.length:=by rw [A,w];simp [M.len,G.len]
 have o:∀ j∈l,∃ i F,l[i]?=some j/\D[i]?=some F/\Ht l D j=F:=λj B=>by
  obtain ⟨i,C,L⟩:=aO B;have m:l[i]?=some j:=by rw [aA C,L]
  have n:=aA (bZ:i<D.length);exact ⟨i,_,m,n,C2 u m n⟩
 have ra:Ht l D a=a1:=C2 u (i:=0) (by rw [A];rfl) (by rw [w];rfl);have rb:Ht l D b=b1:=C2 u (i:=1) (by rw [A];rfl) (by rw [w];rfl);have rV:Ht l D V=V1:=C2 u (i:=2) (by rw [A];rfl) (by rw [w];rfl);have rq:∀ i q q1,N[i]?=some q->t[i]?=some q1->Ht l D q=q1:=λi q q1 e m=>C2 u (i:=i+3) (by rw [A];exact e) (by rw [w];exact m);have cI_ren:∀ (v:Xa0),(v.map cI).map (·.map (Ce (Ht l D)))=v.map cI:=λv=>AG λc r y s=>by
  rw [aV] at r;obtain ⟨z,_,rfl⟩:=r;simp [cI] at s;subst s;rfl
 have cI_ok:∀ (v:Xa0),∀ c∈v.map cI,∀ y∈c,Z0 E.H y:=λv c r y s=>by
  rw [aV] at r;obtain ⟨z,_,rfl⟩:=r;simp [cI] at s;subst s;rfl
 refine ⟨Ht l D,⟨λj B=>?_,λi j C B L=>?_,λj B=>⟨(g j).2 (.inl B),?_⟩,λj B=>?_,λj k I=>?_⟩,?_,?_⟩
 .rcases (g j).1 B with h|h
  .exact b4 (a2 j h) Io
  .exact (W j h).2
 .by_cases hi2:i∈l<;>by_cases d:j∈l
  .obtain ⟨p,S,m,n,R⟩:=o i hi2;obtain ⟨p',F,f1,f2,f3⟩:=o j d;rw [R,f3] at L;subst L;obtain ⟨u1,u2⟩:=aK.1 n;obtain ⟨v1,v2⟩:=aK.1 f2;have:p=p':=(j9 P).1 (u2.trans v2.symm);subst this;rw [m] at f1;cases f1;rfl
  .obtain ⟨p,S,m,n,R⟩:=o i hi2;rw [R,An d] at L;subst L;have J:H.H S:=(((g S).1 B).resolve_right d);by_cases K:H.H i
   .exact ((f p i S m n).1 K).symm
   .exact absurd J ((f p i S m n).2 K)
  .obtain ⟨p,F,m,n,R⟩:=o j d;rw [R,An hi2] at L;subst L;have K:H.H i:=(((g i).1 C).resolve_right hi2);by_cases J:H.H j
   .exact (f p j i m n).1 J
   .exact absurd K ((f p j i m n).2 J)
  .rwa [An hi2,An d] at L
 .by_cases d:j∈l
  .obtain ⟨p,F,m,n,R⟩:=o j d;rw [R];exact (f p j F m n).1 B
  .exact An d
 .have h2:¬ H.H j/\j∉l:=⟨λh=>B ((g j).2 (.inl h)),λh=>B ((g j).2 (.inr h))⟩;rw [Q j h2.2];exact O j h2.1
 .by_cases d:j∈l
  .right
   have T:=d;rw [A,aS,aS,aS] at T;rcases T with rfl|rfl|rfl|hq
   .rw [G.ga] at I;cases I
    rw [ra];exact ⟨_,M.ga,rfl,rfl,rfl,(cI_ren _).symm,cI_ok _⟩
   .rw [G.gb] at I;cases I
    rw [rb];refine ⟨_,M.gb,rfl,rfl,rfl,(AG λc r y s=>?_).symm,λc r y s=>?_⟩
    .rw [aV] at r;obtain ⟨z,_,rfl⟩:=r;simp [Edge.c,dI] at s;rcases s with rfl|rfl|rfl<;>rfl
    .rw [aV] at r;obtain ⟨z,_,rfl⟩:=r;simp [Edge.c,dI] at s;rcases s with rfl|rfl|rfl<;>rfl
   .rw [G.gV] at I;cases I
    rw [rV];refine ⟨_,M.gV,rfl,rfl,rfl,?_,λc r y s=>?_⟩
    .apply f9;intro i;simp only [aP];by_cases C:i<x.k.length
     .have Z:=aA C;have m:=aA (show i<N.length by rw [G.len];exact C);have n:=aA (show i<t.length by rw [M.len];exact C);rw [tS m Z,tS n Z];simp [Ce,rq i _ _ m n]
     .rw [b5 (by rw [kC M.len];omega),b5 (by rw [kC G.len];omega)];rfl
    .simp only [lW] at r;obtain ⟨i,C,rfl⟩:=aO r;rw [List.getElem_zipWith,bU] at s;subst s;show E.H _;exact (g _).2 (.inr (by rw [A];exact cX _ (cX _ (cX _ (aC _)))))
   .obtain ⟨i,C,rfl⟩:=aO hq;have m:=aA C;have U:i<x.k.length:=by rw [<- G.len];exact C
    have Z:=aA U;have n:=aA (show i<t.length by rw [M.len];exact U);rw [G.gq i _ _ m Z] at I;cases I
    rw [rq i _ _ m n];exact ⟨_,M.gq i _ _ n Z,rfl,rfl,rfl,(cI_ren _).symm,cI_ok _⟩
  .left
   have X:=Q j d;rw [I] at X;have hA:H.H j:=bH λhn=>by rw [O j hn] at X;cases X
   exact ⟨hA,X.symm,(Y j hA d).trans X.symm⟩
 .simp [Uw,Ce,ra,rb,rV]
 .intro c r;simp only [aS,eC,or_false] at r;rcases r with rfl|rfl|rfl
  .exact (g _).2 (.inr (by rw [A];simp))
  .exact (g _).2 (.inr (by rw [A];simp))
  .exact (g _).2 (.inr (by rw [A];simp))
theorem xC {j:Nat}{k:Blk}:∀ (q:List (Nat × Blk)) (H:AHeap),(q.map (·.1)).Nodup->(j,k)∈q->(H.af q).get j=some k
 | p :: q,H,hn,hm=>by
  rw [gJ,gZ] at hn;rw [aS] at hm;simp only [AHeap.af];rcases hm with rfl|hm
  .rw [pO q _ _ hn.1];simp [AHeap.push]
  .exact xC q _ hn.2 hm
def S8 (qs:List Nat)(vs:Yb):List (Nat × Blk):=List.zipWith (λq (v:Xa0)=>(q,(⟨3,1,v.map cI,false⟩:Blk))) qs vs
theorem Hq {a:List Nat}{vs:Yb}(h:a.length=vs.length):(S8 a vs).map (·.1)=a:=by
 unfold S8;rw [List.map_zipWith];apply iE (by simp [h]);intro i c b;simp
theorem NW {qs:List Nat}{vs:Yb}{i q:Nat}{v:Xa0}(h1:qs[i]?=some q)(h2:vs[i]?=some v):(q,(⟨3,1,v.map cI,false⟩:Blk))∈S8 qs vs :=
 aM (i:=i) (by simp [S8,List.getElem?_zipWith,h1,h2])
def J6 (a b V:Nat)(qs:List Nat)(h:Host):List (Nat × Blk):=(a,⟨3,1,h.j.h.map cI,false⟩) :: (b,⟨153,3,h.j.i.map Edge.c,false⟩) :: (V,⟨26,1,lW qs h.k,false⟩) :: S8 qs h.k
theorem Pv {a b V:Nat}{c:List Nat}{h:Host}(d:c.length=h.k.length):(J6 a b V c h).map (·.1)=a :: b :: V :: c:=by simp [J6,Hq d]
theorem Sz {H:AHeap}{a b V:Nat}{d:List Nat}{h:Host}(l:d.length=h.k.length)(e:(a :: b :: V :: d).Nodup)(f:∀ j∈a :: b :: V :: d,j<H.next):HH (H.af (J6 a b V d h)) 0 a b V d h:=by
 have c:=Pv (a:=a) (b:=b) (V:=V) l;have g:((J6 a b V d h).map (·.1)).Nodup:=by rw [c];exact e
 have k:(H.af (J6 a b V d h)).next=H.next:=rJ _ _ λp n=>f p.1 (by rw [<- c];exact jD n);refine ⟨xC _ _ g (by simp [J6]),xC _ _ g (by simp [J6]),xC _ _ g (by simp [J6]),l,λi q v r o=>xC _ _ g ?_,e,λq m=>⟨d9 _,by rw [k];exact f q m⟩⟩;exact cX _ (cX _ (cX _ (NW r o)))
theorem J5 {md:Nat->Bool}{ops:Array Oper}{F:List (Nat × Nat)}{B i:Nat}{n:List Oper}{s:List (Nat × List Nat)}{e:d7}{r:Option Tmp}{K:d7->AHeap->Prop}{H:AHeap}
  (h:Host) (P:h.j.h.length<=100000) (Q:h.j.i.length<=100000) (N:h.k.length<=100000) (O:∀ v∈h.k,v.length<=100000)
  (a b V:Nat) (k:List Nat) (I:k.length=h.k.length) (w:(a :: b :: V :: k).Nodup) (x:B<=H.next) (q:∀ j∈a :: b :: V :: k,j<B/\¬ H.H j) (G:CJ md r=true) (R:BH F i (a :: b :: V :: k) s)
  (S:∀ E,HH E 0 a b V k h->(∀ j,j∉a :: b :: V :: k->E.get j=H.get j)->(∀ j,E.H j↔H.H j\/j∈a :: b :: V :: k)->E.next=H.next ->
   j5 prog md ops F B (i+1) n ((i,a :: b :: V :: k) :: s) (pE e r (.agg [.own a h.j.h.length,.own b h.j.i.length,.own V h.k.length])) E K) :
  mR prog md ops F B i n s e r K 93 [h.d] H:=by
 have c:=Pv (a:=a) (b:=b) (V:=V) I;unfold mR;refine Or.inr ⟨G,.agg [.own a h.j.h.length,.own b h.j.i.length,.own V h.k.length],[],[],J6 a b V k h,λp m=>absurd m (eC),λp m=>q p.1 (by rw [<- c];exact jD m),λt _ f=>?_,?_,?_⟩
 .have hf':∀ j∈a :: b :: V :: k,j<t.next/\¬ t.H j:=λj g=>by
   rw [<- c,aV] at g;obtain ⟨p,m,rfl⟩:=g;exact f p m
  refine ACalls.exact (E:=t.af (J6 a b V k h)) (JN h P Q N O t (λd D=>∃ z y A l,HH D t.next z y A l h/\(∀ j,j<t.next->D.get j=t.get j)/\d=.agg [.own z h.j.h.length,.own y h.j.i.length,.own A h.k.length]) (λz y A l D C L _=>⟨z,y,A,l,C,L,rfl⟩)) ?_;rintro o u d D ⟨z,y,A,l,C,L,rfl⟩;refine HH.exact (Sz I w λj g=>(hf' j g).1) C o u ?_ (λj=>?_) (λj g _=>L j (o j g)) (λj g=>pO _ _ _ (by rw [c];exact g)) (λi j M e T=>⟨λJ=>absurd J (hf' j (aM e)).2,λ_ J=>?_⟩)
  .rw [rJ _ _ λp m=>(f p m).1];exact bD _
  .rw [uH,c]
  .have:=(C.ac M (aM T)).1;have:=o M J;omega
 .rw [c];exact R
 .rw [c];refine S _ (Sz I w λj g=>b4 (q j g).1 x) (λj g=>pO _ _ _ (by rw [c];exact g)) (λj=>by rw [uH,c];rfl) (rJ _ _ λp m=>b4 (q p.1 (by rw [<- c];exact jD m)).1 x)
theorem O0 {α:Type}{f:α->Int}{m:Int}(h0:(0:Int)≠m)(h:∀ x,f x≠m):∀ l,iB f l≠m
 | []=>h0
 | x :: l=>by
  simp only [iB];split
  .exact h x
  .exact O0 h0 h l
theorem SV (n:Int)(l:List Test):lN n l≠9:=by
 unfold lN;split
 .decide
 .split
  .decide
  .refine O0 (by decide) (λx=>?_) l;unfold u7;split
   .decide
   .split<;>decide
structure PatOk (t:Types) (q:Pattern):Prop where
 vf:(cQ t).2=0
 gg:graphF q.j=0
 ty:eY t q.j=true
 vars:0<=q.vars/\q.vars<=12
 bL:q.q.length<=10/\q.I.length<=10
 ey:∀ s∈q.q,iI t q s=0
 test:∀ x∈q.I,u7 q.vars x=0
theorem OJ {t:Types}{q:Pattern}(h:c6 t q=9\/c6 t q=0):PatOk t q:=by
 have i:=lP h;have k:=Km t;have l:graphF q.j≠9:=by
  unfold graphF;repeat' split
  all_goals decide
 have j:=SV q.vars q.I;unfold c6 at h;by_cases g:(cQ t).2=0
 .rw [if_neg bZ] at h;by_cases f:graphF q.j=0
  .rw [if_neg bZ] at h;by_cases b:eY t q.j=false
   .rw [if_pos b] at h;omega
   .rw [if_neg b] at h;by_cases e:inF q.vars 0 12=false
    .rw [if_pos e] at h;omega
    .rw [if_neg e] at h;by_cases d:10<q.q.length\/10<q.I.length
     .rw [if_pos d] at h;omega
     .rw [if_neg d] at h;by_cases c:iB (iI t q) q.q=0
      .rw [if_neg bZ] at h;by_cases a:lN q.vars q.I=0
       .refine ⟨g,f,by simpa using b,i,bZ,rL c,rL ?_⟩;unfold lN at a;split at a
        .cases a
        .split at a
         .cases a
         .exact a
       .rw [if_pos a] at h;omega
      .rw [if_pos c] at h;omega
  .rw [if_pos f] at h;omega
 .rw [if_pos g] at h;omega
theorem NL {n:Int}{x:Term}(h:termB n x=true)(hn:0<=n):q7 x n.toNat:=by
 simp only [termB,aL,decide_eq_true_eq] at h;exact ⟨⟨bZ,bZ⟩,bZ,bZ⟩
theorem PatOk.I {t:Types}{q:Pattern}(hp:PatOk t q):∀ x∈q.I,Jh x q.vars.toNat:=λx hx=>by
 have:=hp.test x hx;unfold u7 at this;split at this
 .cases this
 .rename_i h1;split at this
  .rename_i h2;rw [aL] at h2;exact ⟨bZ,NL h2.1 hp.vars.1,NL h2.2 hp.vars.1⟩
  .cases this
theorem PatOk.q {t:Types}{q:Pattern}(hp:PatOk t q):∀ s∈q.q,(0<=s.node/\s.node<q.j.h.length)/\(0<=s.P/\s.P<(bV t (q.j.h[s.node.toNat]?.getD 0)).length)/\q7 s.C q.vars.toNat:=λs hs=>by
 have:=hp.ey s hs;have hv:=hp.vars;unfold iI at this;split at this
 .rename_i h1;simp only [aL,mK,decide_eq_true_eq,inF,Pattern.F] at h1;exact ⟨h1.1.1.1,⟨h1.1.1.2.1,of_decide_eq_true h1.1.1.2.2⟩,⟨bZ,bZ⟩,bZ,bZ⟩
 .cases this
structure MOk (t:Types) (p g:Graph) (m:Part):Prop where
 len:m.h.length=p.h.length
 bz:m.i.length=p.i.length
 bx:∀ (i:Nat) (hi:i<m.h.length) (hp:i<p.h.length),(0<=m.h[i]/\m.h[i]<g.h.length)/\wO t p.h[i] (g.h[m.h[i].toNat]?.getD 0)=true
 db:∀ (i:Nat) (hi:i<m.i.length),0<=m.i[i]/\m.i[i]<g.i.length
theorem uI {t:Types}{p g:Graph}{m:Part}{b:Bool}(h:iZ t p g m b=0):MOk t p g m:=by
 obtain ⟨⟨j,f⟩,e,d⟩:=Bj h;refine ⟨j,f,λi a c=>⟨e _ (aC a),?_⟩,λi a=>d _ (aC a)⟩;unfold iZ at h;rw [if_neg bZ] at h;split at h
 .exact absurd h (by assumption)
 .rename_i h5;have:=fD _ _ (eL h5) i (d9 _) bZ;unfold K7 at this;rw [aA a,aA c,aD,aD] at this;split at this
  .cases this
  .split at this
   .assumption
   .cases this
theorem Pk {S:Srch}{ns:Xa0}:∀ (d:Nat) (l es:Xa0),es∈Gt S ns d l->es.length=l.length+d/\(∀ x∈l,0<=x/\x<S.g.i.length->True)/\((∀ x∈l,0<=x/\x<S.g.i.length)->∀ x∈es,0<=x/\x<S.g.i.length)
 | 0,l,es,h=>by
  simp only [Gt,bU] at h;subst h;exact ⟨rfl,λ_ _ _=>trivial,λh=>h⟩
 | d+1,l,es,h=>by
  simp only [Gt,cD,f7,bY] at h;obtain ⟨k,⟨hk,_⟩,hr⟩:=h;obtain ⟨h1,_,h3⟩:=Pk d _ es hr;refine ⟨by simp at h1;omega,λ_ _ _=>trivial,λhl=>h3 λx hx=>?_⟩;rw [bE,bU] at hx;rcases hx with hx|rfl
  .exact hl x hx
  .omega
theorem Pj {S:Srch}:∀ (d:Nat) (l:Xa0) (m:Part),m∈DK S d l->m.h.length=l.length+d/\∀ i,l.length<=i->i<l.length+d->∃ k:Nat,m.h[i]?=some (k:Int)/\k<S.g.h.length/\wO S.t (S.p.h[i]?.getD 0) (S.g.h[k]?.getD 0)=true
 | 0,l,m,h=>by
  simp only [DK,aV] at h;obtain ⟨es,_,rfl⟩:=h;exact ⟨rfl,λi h1 h2=>by omega⟩
 | d+1,l,m,h=>by
  have h':=h;simp only [DK,cD,f7,bY] at h;obtain ⟨k,⟨hk,ho⟩,hr⟩:=h;obtain ⟨h1,h2⟩:=Pj d _ m hr;simp at h1 h2;refine ⟨bZ,λi h3 h4=>?_⟩;by_cases hi:i=l.length
  .subst hi;obtain ⟨⟨r,hr2⟩,_⟩:=AW d _ m hr;refine ⟨k,by rw [hr2];simp,hk,?_⟩;simp only [KO,aL] at ho;exact ho.2.2
  .exact h2 i bZ bZ
theorem VM {S:Srch}{m:Part}(h:m∈CI S):MOk S.t S.p S.g m:=by
 unfold CI at h;obtain ⟨f,e⟩:=Pj _ _ m h;obtain ⟨_,q⟩:=AW _ _ m h;obtain ⟨d,_,o⟩:=Pk _ _ _ q;simp at f e d;refine ⟨f,d,λi a l=>?_,λi a=>o (by intro x j;cases j) _ (aC a)⟩;obtain ⟨k,c,r,b⟩:=e i bZ;rw [aA a] at c;have n:m.h[i]=(k:Int):=Option.some.inj c;rw [aA l,aD] at b;rw [n];exact ⟨bZ,by simpa using b⟩
theorem AN {t:Types}{h:Host}(ho:HostOk t h):∀ a∈h.j.h,0<=a/\a<t.h.length:=λa ha=>by
 obtain ⟨i,hi,rfl⟩:=aO ha;have:=ho.vl;exact ⟨((dO ho.gg).1 _ ha).1,(xR (ho.nd i hi bZ)).1⟩
theorem Yf {t:Types}{q:Pattern}{h:Host}{m:Part}(hp:PatOk t q)(ho:HostOk t h)(hm:MOk t q.j h.j m):SOk q h m where
 vars:=hp.vars
 node s hs:=by have:=hp.q s hs;have:=hm.len;omega
 bx k hk:=by
  obtain ⟨i,hi,rfl⟩:=aO hk;have:=(hm.bx i hi (by have:=hm.len;omega)).1;have:=ho.vl;omega
 P s hs:=by
  obtain ⟨h1,h2,_⟩:=hp.q s hs;have hl:=hm.len;have hi:s.node.toNat<m.h.length:=bZ;have hq:s.node.toNat<q.j.h.length:=bZ;obtain ⟨h3,h4⟩:=hm.bx _ hi hq;have hvl:=ho.vl;have hk:m.h[s.node.toNat].toNat<h.j.h.length:=bZ;have hkv:m.h[s.node.toNat].toNat<h.k.length:=bZ;rw [aA hi,aD,aA hkv,aD];rw [aA hq,aD] at h2;rw [aA hk,aD] at h4;have ha:=(iW hp.gg hp.ty).1 _ (aC hq);have hb:=AN ho _ (aC hk);rw [t6 hp.vf ha.1 ha.2] at h2;have hrow:=(xR (ho.nd _ hk hkv)).2.2.1;rw [t6 hp.vf hb.1 hb.2] at hrow;unfold wO at h4;obtain ⟨r,hr⟩:=LH (oZ hp.vf) (h.j.h[m.h[s.node.toNat].toNat]).toNat bZ (q.j.h[s.node.toNat]).toNat (by rw [Int.toNat_of_nonneg ha.1];exact h4);rw [hr,aQ] at hrow;omega
 fm l hl v hv:=(ho.row l hl).2 v hv
 C s hs:=(hp.q s hs).2.2
 test:=hp.I
/-! ### values -/
def L3 (p:Pattern)(vs:Xa0):Xa0 × List Bool:=(vs++List.replicate (p.vars.toNat - vs.length) 0,List.replicate vs.length true++List.replicate (p.vars.toNat - vs.length) false)
theorem GH (p:Pattern):L3 p []=(List.replicate p.vars.toNat 0,List.replicate p.vars.toNat false):=by simp [L3]
theorem eO {p:Pattern}{h:Host}{m:Part}{vs:Xa0}(a:j6 h m (L3 p vs) p.q=none):fK p h m vs=([],11):=by
 unfold fK;unfold L3 at a;rw [a]
theorem qC {p:Pattern}{h:Host}{m:Part}{vs:Xa0}{q:Xa0 × List Bool}(a:j6 h m (L3 p vs) p.q=some q):fK p h m vs=if p.I.all (λx=>By x q.1)=true then (q.1,0) else ([],16):=by
 unfold fK;unfold L3 at a;rw [a]
structure StOk (n:Nat) (st:Xa0 × List Bool):Prop where
 l1:st.1.length=n
 l2:st.2.length=n
 sm:∀ v∈st.1,-2000000<=v/\v<=2000000
theorem StOk.ba {n:Nat}{st:Xa0 × List Bool}(h:StOk n st):Sm st.1:=λv hv=>by have:=h.sm v hv;omega
theorem NN {p:Pattern}{vs:Xa0}(b:0<=p.vars)(c:vs.length<=p.vars.toNat)(a:∀ v∈vs,-2000000<=v/\v<=2000000):StOk p.vars.toNat (L3 p vs):=by
 refine ⟨by simp [L3];omega,by simp [L3];omega,λv h=>?_⟩;simp only [L3,bE,List.mem_replicate] at h;rcases h with h|h
 .exact a v h
 .omega
theorem Aj {n:Nat}{h:Host}{m:Part}{b:Xa0 × List Bool}{s:Slot}(a:StOk n b)(f : -1000000<=mH h m s/\mH h m s<=1000000)(d:q7 s.C n):StOk n (mY h m b s):=by
 unfold mY;split
 .refine ⟨by simp [a.l1],by simp [a.l2],λv c=>?_⟩;rcases oE c with e|rfl
  .exact a.sm v e
  .have:=d.2;omega
 .exact a
theorem SOk.cf {p:Pattern}{h:Host}{m:Part}(d:SOk p h m){s:Slot}(e:s∈p.q) : -1000000<=mH h m s/\mH h m s<=1000000:=by
 have g:=d.node s e;have a:s.node.toNat<m.h.length:=bZ;have i:=d.bx _ (aC a);have b:(m.h[s.node.toNat]).toNat<h.k.length:=bZ;have f:=d.P s e;unfold mH;rw [aA a,aD,aA b,aD] at f ⊢;have c:s.P.toNat<(h.k[(m.h[s.node.toNat]).toNat]).length:=bZ;rw [aA c];exact d.fm _ (aC b) _ (aC c)
theorem Kw {p:Pattern}{h:Host}{m:Part}(hO:SOk p h m):∀ (l:List Slot) (st q:Xa0 × List Bool),(∀ s∈l,s∈p.q)->StOk p.vars.toNat st->j6 h m st l=some q->StOk p.vars.toNat q
 | [],st,q,_,hst,hq=>by simp only [j6,aZ] at hq;exact hq ▸ hst
 | s :: l,st,q,hl,hst,hq=>by
  simp only [j6] at hq;split at hq
  .have hs:=hl s (eT ..);exact Kw hO l _ q (λx hx=>hl x (cX _ hx)) (Aj hst (hO.cf hs) (hO.C s hs)) hq
  .cases hq
theorem B8 {p:Pattern}{h:Host}{m:Part}(d:SOk p h m){vs:Xa0}(f:vs.length<=p.vars.toNat)(e:∀ v∈vs,-2000000<=v/\v<=2000000)(a:(fK p h m vs).2=0) :
  (fK p h m vs).1.length=p.vars.toNat/\∀ v∈(fK p h m vs).1,-2000000<=v/\v<=2000000:=by
 cases b:j6 h m (L3 p vs) p.q with
 | none=>rw [eO b] at a;cases a
 | some q =>
  have c:=Kw d _ _ _ (λ_ h=>h) (NN d.vars.1 f e) b;rw [qC b] at a ⊢;split at a
  .rename_i h1;rw [if_pos h1];exact ⟨c.l1,c.sm⟩
  .cases a
theorem yJ (q:Pattern)(h:Host)(a:Xa0)(l:List Part)(x:Part):BL q h a (l++[x])=BL q h a l++if (fK q h x a).2=0 then [⟨x,(fK q h x a).1⟩] else []:=by
 unfold BL;rw [List.filterMap_append];congr 1;simp only [List.filterMap_cons,List.filterMap_nil];split<;>simp_all
end Go.Abs
end
