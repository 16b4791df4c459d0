/- Plain law of undoing a step: one sort of elements (nodes, or -/
import Derived.Test.YthalajhajpjjeaaGreatZhU
import Derived.Test.YthalajhajpjjeaaGreatZhF
import Derived.Test.YthalajhajpjjeaaGreatZhA
set_option linter.unusedVariables false
set_option linter.unusedSimpArgs false
section
set_option maxRecDepth 100000
set_option maxHeartbeats 4000000
open Go Go.Proofs
namespace Go.Abs
structure Srt (keep into mm:List Int) (nL nR nH:Nat):Prop where
 kl:keep.length=into.length
 kr:∀ x∈keep,0≤x∧x<nL
 ir:∀ x∈into,0≤x∧x<nR
 inn:into.Nodup
 ml:mm.length=nL
 mr:∀ x∈mm,0≤x∧x<nH
 du:qH mm keep=[]
def iL (keep mm:List Int)(nH:Nat):List Int:=bF (j5 mm keep) nH
def kP (keep mm:List Int)(nH:Nat):List Int:=mM (iL keep mm nH) nH
def wI (keep into mm:List Int)(nR nH:Nat):List Int:=N4 keep into (uE mm (kP keep mm nH)) nR (iL keep mm nH).length
theorem lH {l:List Int}{i:Nat}(h:i<l.length):iA l i=l[i]:=by simp [iA,h]
theorem Wp {l:List Int}{k:Int}(h:k.toNat<l.length):iA l k=l[k.toNat]:=by unfold iA;rw [aA h];rfl
theorem w5 {l:List Int}{v:Int}(h:v∈l):∃ i:Nat,i<l.length∧iA l i=v:=by
 obtain ⟨i,hi,rfl⟩:=aK h
 exact ⟨i,hi,lH hi⟩
theorem qG {l:List Int}(hn:l.Nodup){i j:Nat}(hi:i<l.length)(hj:j<l.length)(h:iA l i=iA l j):i=j:=by
 rw [lH hi,lH hj] at h;exact (sH hn).1 h
section
variable {keep into mm:List Int} {nL nR nH:Nat}
theorem Srt.d_iff (S:Srt keep into mm nL nR nH){x:Int}:x∈iL keep mm nH↔(0≤x∧x<nH)∧∀ k:Int,0≤k→k<nL→k∉keep→iA mm k≠x:=by
 have hl:=S.ml
 unfold iL
 rw [fC]
 refine and_congr_right fun _=>⟨fun h k h0 h1 hk he=>h (rE.2 ⟨k.toNat,by omega,?_,?_⟩),fun h hg=>?_⟩
 ·rw [show ((k.toNat:Nat):Int)=k by omega,bN];exact fun hm=>hk ((cQ _ _).1 hm)
 ·rw [← he,aA (show k.toNat<mm.length by omega)]
  unfold iA;rw [aA (show k.toNat<mm.length by omega)];rfl
 ·obtain ⟨i,hi,hm,he⟩:=rE.1 hg
  refine h i (by omega) (by omega) (fun hk=>?_) (by unfold iA;rw [show ((i:Int)).toNat=i by omega,he];rfl)
  rw [(cQ _ _).2 hk] at hm;cases hm
theorem Srt.asc (S:Srt keep into mm nL nR nH):(iL keep mm nH).Nodup:=nM (lX _ _)
theorem Srt.t_get (S:Srt keep into mm nL nR nH){x:Int}(h:0≤x∧x<nH):iA (kP keep mm nH) x=iM (iL keep mm nH) (iL keep mm nH).length x:=by
 unfold iA kP mM
 rw [pA _ (by omega),Option.getD_some,show ((x.toNat:Nat):Int)=x by omega]
theorem Srt.t_in (S:Srt keep into mm nL nR nH){x:Int}(hx:x∈iL keep mm nH):∃ p:Nat,iA (kP keep mm nH) x=p∧p<(iL keep mm nH).length∧iA (iL keep mm nH) p=x:=by
 obtain ⟨p,hp,rfl⟩:=aK hx
 exact ⟨p,by rw [S.t_get (S.d_iff.1 hx).1,oI S.asc hp],hp,lH hp⟩
theorem Srt.t_at (S:Srt keep into mm nL nR nH){p:Nat}(hp:p<(iL keep mm nH).length):iA (iL keep mm nH) p∈iL keep mm nH∧iA (kP keep mm nH) (iA (iL keep mm nH) p)=p:=by
 have hm:iA (iL keep mm nH) p∈iL keep mm nH:=fG (by omega) (by omega)
 exact ⟨hm,by rw [S.t_get (S.d_iff.1 hm).1,lH hp,oI S.asc hp]⟩
theorem Srt.t_out (S:Srt keep into mm nL nR nH){x:Int}(h:0≤x∧x<nH)(hx:x∉iL keep mm nH):iA (kP keep mm nH) x = -1:=by rw [S.t_get h,pB hx _ (bC _)]
theorem Srt.t_inj (S:Srt keep into mm nL nR nH){x y:Int}(hx:x∈iL keep mm nH)(hy:y∈iL keep mm nH)(h:iA (kP keep mm nH) x=iA (kP keep mm nH) y):x=y:=by
 obtain ⟨p,h1,_,rfl⟩:=S.t_in hx
 obtain ⟨q,h2,_,rfl⟩:=S.t_in hy
 rw [show p=q by omega]
theorem Srt.c_get (S:Srt keep into mm nL nR nH){j:Int}(h:0≤j∧j<nR):iA (wI keep into mm nR nH) j=Lg keep into (uE mm (kP keep mm nH)) (iL keep mm nH).length j.toNat:=by
 unfold iA wI N4;simp [show j.toNat<nR by omega]
theorem Srt.kept_in (S:Srt keep into mm nL nR nH){k:Int}(hk:k∈keep):iA mm k∈iL keep mm nH:=by
 have hr:=S.kr k hk
 have hl:=S.ml
 exact fC.2 ⟨S.mr _ (fG hr.1 (by omega)),u6 S.du hr.1 (by omega) hk⟩
theorem Srt.c_kept (S:Srt keep into mm nL nR nH){q:Nat}(hq:q<keep.length):iA (wI keep into mm nR nH) (iA into q)=iA (kP keep mm nH) (iA mm (iA keep q)):=by
 have hkl:=S.kl
 have hl:=S.ml
 have hj:iA into q∈into:=fG (by omega) (by omega)
 have hk:=S.kr _ (fG (l:=keep) (n:=(q:Int)) (by omega) (by omega))
 rw [S.c_get (S.ir _ hj)]
 have hb:iM into into.length ((iA into q).toNat:Nat)=q:=by
  have:=S.ir _ hj
  rw [show (((iA into q).toNat:Nat):Int)=iA into q by omega,lH (by omega),oI S.inn (by omega)]
 unfold Lg
 rw [hb,if_pos (by omega),show (q:Int).toNat=q by omega]
 unfold uE
 have h1:(iA keep q).toNat<mm.length:=by omega
 have h2:keep[q]?.getD 0=iA keep q:=by unfold iA;rw [show (q:Int).toNat=q by omega]
 rw [h2,aH,aA h1,c6,Option.getD_some]
 have h3:iA mm (iA keep q)=mm[(iA keep q).toNat]:=Wp h1
 rw [h3];rfl
theorem Srt.c_fresh (S:Srt keep into mm nL nR nH){j:Int}(h:0≤j∧j<nR)(hj:j∉into):∃ f:Nat,f<(bF into nR).length∧iA (bF into nR) f=j∧iA (wI keep into mm nR nH) j=((iL keep mm nH).length+f:Nat):=by
 have ho:=C7 (l:=into) nR j.toNat (by omega) (by rw [show ((j.toNat:Nat):Int)=j by omega,bN];exact fun hm=>hj ((cQ _ _).1 hm))
 have hlt:=(aL.1 ho).1
 refine ⟨_,hlt,by unfold iA;rw [show ((((bF into j.toNat).length:Nat):Int)).toNat=(bF into j.toNat).length by omega,ho,Option.getD_some];omega,?_⟩
 rw [S.c_get h]
 unfold Lg
 rw [show ((j.toNat:Nat):Int)=j by omega,pB hj _ (bC _),if_neg (by omega),Ks S.inn]
theorem Srt.c_at (S:Srt keep into mm nL nR nH){f:Nat}(hf:f<(bF into nR).length):∃ j:Int,(0≤j∧j<nR)∧j∉into∧iA (wI keep into mm nR nH) j=((iL keep mm nH).length+f:Nat):=by
 have hm:iA (bF into nR) f∈bF into nR:=fG (by omega) (by omega)
 obtain ⟨h1,h2⟩:=fC.1 hm
 obtain ⟨g,g1,g2,g3⟩:=S.c_fresh h1 h2
 have:=qG (nM (lX _ _)) g1 hf g2
 subst this
 exact ⟨_,h1,h2,g3⟩
theorem Srt.c_in (S:Srt keep into mm nL nR nH){j:Int}(h:0≤j∧j<nR):0≤iA (wI keep into mm nR nH) j∧iA (wI keep into mm nR nH) j<((iL keep mm nH).length+(bF into nR).length:Nat):=by
 by_cases hj:j∈into
 ·obtain ⟨q,hq,rfl⟩:=w5 hj
  have hkl:=S.kl
  rw [S.c_kept (by omega)]
  obtain ⟨p,h1,h2,_⟩:=S.t_in (S.kept_in (fG (l:=keep) (n:=(q:Int)) (by omega) (by omega)))
  omega
 ·obtain ⟨f,h1,_,h3⟩:=S.c_fresh h hj
  omega
end
/-! ### undoing -/
def fI (part into keep:List Int):List Int:=part.map fun x=>iA keep (idx into x)
structure Und (keep into mm m0 b mm':List Int) (nL nR nH N:Nat):Prop where
 S:Srt keep into mm nL nR nH
 n:N=(iL keep mm nH).length+(bF into nR).length
 to:∀ x:Int,0≤x→x<N→(0≤iA m0 x∧iA m0 x<N)∧iA b (iA m0 x)=x
 of:∀ y:Int,0≤y→y<N→(0≤iA b y∧iA b y<N)∧iA m0 (iA b y)=y
 m:∀ y:Int,0≤y→y<nR→iA mm' y=iA b (iA (wI keep into mm nR nH) y)
 S':Srt (f8 into nR) (fI (f8 into nR) into keep) mm' nR nL N
section
variable {keep into mm m0 b mm':List Int} {nL nR nH N:Nat}
def CH (keep into mm m0 mm':List Int)(nL nR nH N:Nat)(p v:Int):Prop :=
 (∃ x∈iL (f8 into nR) mm' N,iA (kP (f8 into nR) mm' N) x=p∧v∈iL keep mm nH∧iA (kP keep mm nH) v=iA m0 x) ∨
 (∃ j:Int,(0≤j∧j<nL)∧iA (wI (f8 into nR) (fI (f8 into nR) into keep) mm' nL N) j=p∧iA mm j=v)
theorem Wc {l:List Int}(hn:l.Nodup){q:Nat}(hq:q<l.length):idx l (iA l q)=q:=by
 obtain ⟨h1,h2,h3⟩:=Kx ((cQ l _).2 (fG (l:=l) (n:=(q:Int)) (by omega) (by omega)))
 have e:iA l (((idx l (iA l q)).toNat:Nat):Int)=iA l q:=by
  rw [lH h2];rw [aA h2] at h3;exact Option.some.inj h3
 have:(idx l (iA l q)).toNat=q:=qG hn h2 hq e
 omega
theorem Und.kept (U:Und keep into mm m0 b mm' nL nR nH N){j:Int}(hj:j∈keep):∃ y:Int,(0≤y∧y<nR)∧y∈into∧j∈fI (f8 into nR) into keep ∧
  iA (wI (f8 into nR) (fI (f8 into nR) into keep) mm' nL N) j=iA (kP (f8 into nR) mm' N) (iA mm' y)∧iA mm' y∈iL (f8 into nR) mm' N∧iA m0 (iA mm' y)=iA (kP keep mm nH) (iA mm j):=by
 have S:=U.S
 have hkl:=S.kl
 obtain ⟨q,hq,rfl⟩:=w5 hj
 have hy:iA into q∈into:=fG (by omega) (by omega)
 have hyr:=S.ir _ hy
 have hyk:iA into q∈f8 into nR:=Fa.2 ⟨hyr,hy⟩
 obtain ⟨s,hs,hse⟩:=w5 hyk
 have hll:(fI (f8 into nR) into keep).length=(f8 into nR).length:=by simp [fI]
 have hse':iA (fI (f8 into nR) into keep) s=iA keep q:=by
  rw [lH (by omega)]
  unfold fI
  rw [jB,← lH hs,hse,Wc S.inn (by omega)]
 have hc:=U.S'.c_kept hs
 rw [hse,hse'] at hc
 have hcr:=S.c_in hyr
 rw [← U.n] at hcr
 refine ⟨_,hyr,hy,?_,hc,U.S'.kept_in hyk,?_⟩
 ·rw [← hse'];exact fG (by omega) (by omega)
 ·rw [U.m _ hyr.1 hyr.2,(U.of _ hcr.1 hcr.2).2,S.c_kept hq]
theorem Und.turned (U:Und keep into mm m0 b mm' nL nR nH N){j:Int}(hj:j∈fI (f8 into nR) into keep):j∈keep:=by
 unfold fI at hj
 obtain ⟨x,hx,rfl⟩:=aQ.1 hj
 obtain ⟨h1,h2,_⟩:=Kx ((cQ _ _).2 (Fa.1 hx).2)
 have:=U.S.kl
 exact fG h1 (by omega)
theorem Und.left (U:Und keep into mm m0 b mm' nL nR nH N){x:Int}(hx:x∈iL (f8 into nR) mm' N):∃ v∈iL keep mm nH,iA (kP keep mm nH) v=iA m0 x:=by
 obtain ⟨h1,h2⟩:=U.S'.d_iff.1 hx
 obtain ⟨h3,h4⟩:=U.to x h1.1 h1.2
 have hn:=U.n
 by_cases hlt:iA m0 x<(iL keep mm nH).length
 ·obtain ⟨a,b⟩:=U.S.t_at (p:=(iA m0 x).toNat) (by omega)
  exact ⟨_,a,by omega⟩
 ·obtain ⟨j,hj,hji,hc⟩:=U.S.c_at (f:=(iA m0 x).toNat - (iL keep mm nH).length) (by omega)
  have he:iA (wI keep into mm nR nH) j=iA m0 x:=by omega
  have:=h2 j hj.1 hj.2 (fun hk=>hji (Fa.1 hk).2)
  rw [U.m j hj.1 hj.2,he,h4] at this
  exact absurd rfl this
theorem Und.right (U:Und keep into mm m0 b mm' nL nR nH N){v:Int}(hv:v∈iL keep mm nH):∃ x∈iL (f8 into nR) mm' N,iA (kP keep mm nH) v=iA m0 x:=by
 obtain ⟨p,h1,h2,_⟩:=U.S.t_in hv
 have hn:=U.n
 obtain ⟨h3,h4⟩:=U.of (iA (kP keep mm nH) v) (by omega) (by omega)
 refine ⟨_,U.S'.d_iff.2 ⟨h3,fun k k0 k1 hk he=>?_⟩,h4.symm⟩
 obtain ⟨f,f1,f2,f3⟩:=U.S.c_fresh ⟨k0,k1⟩ (fun hi=>hk (Fa.2 ⟨⟨k0,k1⟩,hi⟩))
 rw [U.m k k0 k1] at he
 have hc:=U.S.c_in (j:=k) ⟨k0,k1⟩
 have:=(U.of (iA (wI keep into mm nR nH) k) (by omega) (by omega)).2
 rw [he,h4] at this
 omega
theorem Und.fresh (U:Und keep into mm m0 b mm' nL nR nH N){j:Int}(h:0≤j∧j<nL)(hj:j∉keep):∃ f:Nat,f<(bF (fI (f8 into nR) into keep) nL).length∧iA (bF (fI (f8 into nR) into keep) nL) f=j ∧
  iA (wI (f8 into nR) (fI (f8 into nR) into keep) mm' nL N) j=((iL (f8 into nR) mm' N).length+f:Nat):=U.S'.c_fresh h fun hi=>hj (U.turned hi)
theorem Und.uni (U:Und keep into mm m0 b mm' nL nR nH N){p v w:Int}(h1:CH keep into mm m0 mm' nL nR nH N p v)(h2:CH keep into mm m0 mm' nL nR nH N p w):v=w:=by
 have key:∀ {x:Int} {j u:Int},x∈iL (f8 into nR) mm' N→0≤j∧j<nL→iA (wI (f8 into nR) (fI (f8 into nR) into keep) mm' nL N) j=iA (kP (f8 into nR) mm' N) x→u∈iL keep mm nH→iA (kP keep mm nH) u=iA m0 x→iA mm j=u:=by
  intro x j u hx hj he hu hT
  by_cases hk:j∈keep
  ·obtain ⟨y,hyr,hyi,_,hc,hd,hm⟩:=U.kept hk
   have hxy:iA mm' y=x:=U.S'.t_inj hd hx (by rw [← hc,he])
   exact U.S.t_inj (U.S.kept_in hk) hu (by rw [← hm,hxy,hT])
  ·obtain ⟨f,_,_,hf⟩:=U.fresh hj hk
   obtain ⟨q,hq,hq2,_⟩:=U.S'.t_in hx
   omega
 rcases h1 with ⟨x,hx,rfl,hv,hT⟩|⟨j,hj,rfl,rfl⟩
 ·rcases h2 with ⟨y,hy,he,hw,hS⟩|⟨j,hj,he,rfl⟩
  ·have:=U.S'.t_inj hy hx he
   subst this
   exact U.S.t_inj hv hw (by rw [hT,hS])
  ·exact (key hx hj he hv hT).symm
 ·rcases h2 with ⟨y,hy,he,hw,hS⟩|⟨i,hi,he,rfl⟩
  ·exact key hy hj he.symm hw hS
  ·by_cases hk:j∈keep
   ·obtain ⟨y,hyr,hyi,_,hc,hd,hm⟩:=U.kept hk
    exact (key hd hi (by rw [he,hc]) (U.S.kept_in hk) hm.symm).symm
   ·by_cases hl:i∈keep
    ·obtain ⟨y,hyr,hyi,_,hc,hd,hm⟩:=U.kept hl
     exact key hd hj (by rw [← he,hc]) (U.S.kept_in hl) hm.symm
    ·obtain ⟨f,_,hf1,hf⟩:=U.fresh hj hk
     obtain ⟨g,_,hg1,hg⟩:=U.fresh hi hl
     rw [← hf1,← hg1,show f=g by omega]
theorem Und.inj (U:Und keep into mm m0 b mm' nL nR nH N){p q v:Int}(h1:CH keep into mm m0 mm' nL nR nH N p v)(h2:CH keep into mm m0 mm' nL nR nH N q v):p=q:=by
 have key:∀ {j:Int},0≤j∧j<nL→iA mm j∈iL keep mm nH→∃ x∈iL (f8 into nR) mm' N,iA (kP (f8 into nR) mm' N) x=iA (wI (f8 into nR) (fI (f8 into nR) into keep) mm' nL N) j∧iA (kP keep mm nH) (iA mm j)=iA m0 x:=by
  intro j hj hd
  by_cases hk:j∈keep
  ·obtain ⟨y,hyr,hyi,_,hc,hd',hm⟩:=U.kept hk
   exact ⟨_,hd',hc.symm,hm.symm⟩
  ·exact absurd rfl ((U.S.d_iff.1 hd).2 j hj.1 hj.2 hk)
 have one:∀ {x y v:Int},x∈iL (f8 into nR) mm' N→y∈iL (f8 into nR) mm' N→iA (kP keep mm nH) v=iA m0 x→iA (kP keep mm nH) v=iA m0 y→x=y:=by
  intro x y v hx hy h1 h2
  have a:=(U.S'.d_iff.1 hx).1
  have b:=(U.S'.d_iff.1 hy).1
  rw [← (U.to x a.1 a.2).2,← (U.to y b.1 b.2).2,← h1,← h2]
 rcases h1 with ⟨x,hx,rfl,hv,hT⟩|⟨j,hj,rfl,rfl⟩
 ·rcases h2 with ⟨y,hy,rfl,_,hS⟩|⟨i,hi,rfl,rfl⟩
  ·rw [one hx hy hT hS]
  ·obtain ⟨z,hz,h3,h4⟩:=key hi hv
   rw [← h3,one hx hz hT h4]
 ·rcases h2 with ⟨y,hy,rfl,hv,hS⟩|⟨i,hi,rfl,he⟩
  ·obtain ⟨z,hz,h3,h4⟩:=key hj hv
   rw [← h3,one hz hy h4 hS]
  ·by_cases hd:iA mm j∈iL keep mm nH
   ·obtain ⟨x,hx,h3,h4⟩:=key hj hd
    obtain ⟨y,hy,h5,h6⟩:=key hi (by rw [he];exact hd)
    rw [← h3,← h5,one hx hy h4 (by rw [← he];exact h6)]
   ·by_cases hij:i=j
    ·rw [hij]
    ·exfalso
     have hl:=U.S.ml
     have hdk:=Nn U.S.du (i:=i.toNat) (k:=j.toNat) (by omega) (by omega) (by omega) he
     rw [show ((j.toNat:Nat):Int)=j by omega] at hdk
     exact hd (U.S.kept_in ((cQ _ _).1 hdk.2))
theorem Und.range (U:Und keep into mm m0 b mm' nL nR nH N){p v:Int}(h:CH keep into mm m0 mm' nL nR nH N p v):(0≤p∧p<((iL (f8 into nR) mm' N).length+(bF (fI (f8 into nR) into keep) nL).length:Nat))∧0≤v∧v<nH:=by
 rcases h with ⟨x,hx,rfl,hv,hT⟩|⟨j,hj,rfl,rfl⟩
 ·obtain ⟨q,h1,h2,_⟩:=U.S'.t_in hx
  exact ⟨by omega,(U.S.d_iff.1 hv).1⟩
 ·have hl:=U.S.ml
  exact ⟨U.S'.c_in hj,U.S.mr _ (fG hj.1 (by omega))⟩
theorem Und.onto (U:Und keep into mm m0 b mm' nL nR nH N){v:Int}(h:0≤v∧v<nH):∃ p,CH keep into mm m0 mm' nL nR nH N p v:=by
 by_cases hd:v∈iL keep mm nH
 ·obtain ⟨x,hx,hT⟩:=U.right hd
  exact ⟨_,.inl ⟨x,hx,rfl,hd,hT⟩⟩
 ·have:¬ ∀ k:Int,0≤k→k<nL→k∉keep→iA mm k≠v:=fun hh=>hd (U.S.d_iff.2 ⟨h,hh⟩)
  have:∃ k:Int,0≤k∧k<nL∧iA mm k=v:=by
   refine bA fun hc=>this fun k k0 k1 _ he=>hc ⟨k,k0,k1,he⟩
  obtain ⟨k,k0,k1,he⟩:=this
  exact ⟨_,.inr ⟨k,⟨k0,k1⟩,rfl,he⟩⟩
end
def NI (i j:Int)(x:Edge):Bool:=decide (x.from_=i)&&decide (x.to_=j)
def Bi (g:Graph)(i j:Int)(k:Nat):List Int:=((g.edges.take k).filter (NI i j)).map Edge.type
def y9 (g:Graph)(i j:Int):List Int:=lC (Bi g i j g.edges.length)
@[go_sem] theorem XE (g:Graph)(i j:Int):Bi g i j 0=[]:=by simp [Bi]
theorem R3 {g:Graph}{i j:Int}{k:Nat}(h:k<g.edges.length):Bi g i j (k+1)=Bi g i j k++if NI i j g.edges[k]=true then [g.edges[k].type] else []:=by
 unfold Bi
 rw [List.take_succ_eq_append_getElem h,gA,List.map_append]
 split<;>rename_i h1<;>simp [h1]
theorem qY (g:Graph)(he:g.edges.length≤1000000)(a b:Int):Pure Tryz.prog 272 [g.d,dI a,dI b] (dLI (y9 g a b)):=by
 have hlen:∀ k,(Bi g a b k).length≤k:=fun k=>by unfold Bi;rw [aS];exact c9 (iB _ _) (by simp;omega)
 refine Tz.pK ⟨fun t=>t==7||t==9,fun _=>[]⟩ Tryz.func272 rfl (fun Q hQ=>?_)
 have Y:=trivial
 refine wp (h:=bV (fun i e H=>(e 1=dI a∧e 2=dI b∧e 3=.adr g.c∧e 11=.list (g.edges.map Edge.c)∧e 12=dI g.edges.length∧e 7=.own 0 (Bi g a b i).length∧e 13=dI i)∧(H.get 0=some ⟨3,1,(Bi g a b i).map cI,false⟩)∧(0<H.next)∧(i≤g.edges.length)) (fun i=>g.edges.length - i) 0 ⟨wg,(by (simp [go_sem,Bi])),wn,wi⟩ fun I0 hI0 i e H hi0=>?_)
 obtain ⟨E0,g0_0,n0_0,hii⟩:=hi0
 have Y:=wa Y (wa E0 (wa g0_0 (b8 n0_0)))
 refine d7 (fun h3=>?_) fun h3=>?_
 ·have hSt:=R3 (i:=a) (j:=b) h3
  have hl:=hlen i
  have nx:=Lf H.next
  have Y:=wa Y (wa h3 (wa nx (wa (aA h3) @Edge.c.eq_1)))
  refine vJ (fun h5=>?_) fun h5=>?_
  ·have hb:NI a b g.edges[i]=true:=by unfold NI;simpa using h5
   rw [if_pos hb] at hSt
   have hsl:(Bi g a b (i+1)).length=(Bi g a b i).length+1:=by rw [hSt];simp
   have Y:=wa Y hsl
   exact wp (h:=wx hI0 (i+1) ⟨wg,(by (simp [go_sem,Y,hSt,cI])),wn,wj⟩)
  ·have hb:NI a b g.edges[i]=false:=by unfold NI;simpa using h5
   rw [if_neg (by rw [hb];simp),jV] at hSt
   have Y:=wa Y hSt
   exact wp (h:=wx hI0 (i+1) ⟨wg,(by (simp [go_sem,Y,hSt,cI])),wn,wj⟩)
 ·have hie:i=g.edges.length:=by omega
  subst hie
  refine wv (h:=?_)
  unfold g5;refine Fx (ty:=3) (xs:=Bi g a b g.edges.length) (by exact g0_0) (by have:=hlen g.edges.length;omega) ?_
  exact wv (h:=hQ _ _ (by simp [go_sem,Y,y9,dLI,kU]))
def fcA (a b:Host)(n:D):List D:=a.c++b.c++[n]
def KG (a b:Host)(l:List Int)(k j:Nat):Bool :=
 decide (y9 a.graph j l.length=y9 b.graph (iA (l++[(k:Int)]) j) k)&&decide (y9 a.graph l.length j=y9 b.graph k (iA (l++[(k:Int)]) j))
def At (a b:Host)(l:List Int)(k:Nat):Bool :=
 !(mem l k)&&(decide (gN a.graph l.length=gN b.graph k)&&(decide (a.values[l.length]?.getD []=b.values[k]?.getD [])&&(List.range (l.length+1)).all (KG a b l k)))
theorem KW {f:Nat→Bool}{n:Nat}(h:∀ j,j<n→f j=true):(List.range n).all f=true:=by
 rw [cD];intro j hj;exact h j (aR.1 hj)
theorem RN (a b:Host)(l:List Int)(k:Nat)(hl:l.length<a.graph.nodes.length)(hk:k<b.graph.nodes.length)(ha:a.values.length=a.graph.nodes.length)(hb:b.values.length=b.graph.nodes.length)(hn:a.graph.nodes.length≤100000)
  (hea:a.graph.edges.length≤1000000) (heb:b.graph.edges.length≤1000000):Pure Tryz.prog 179 [.adr (fcA a b (dLI l)),dI k] (.bool (At a b l k)):=by
 have kA:l.length<a.values.length:=by omega
 have kB:k<b.values.length:=by omega
 have hG:At a b l k=(!(mem l k)&&(decide (a.graph.nodes[l.length]=b.graph.nodes[k])&&(decide (a.values[l.length]=b.values[k])&&(List.range (l.length+1)).all (KG a b l k)))):=by
  unfold At gN
  simp [aA hl,aA hk,aA kA,aA kB]
 refine Tz.pK ⟨fun t=>t==67,fun _=>[]⟩ Tryz.func179 rfl (fun Q hQ=>?_)
 have Y:=wa @fcA.eq_1 (wa @Host.c.eq_1 (wa (aA hl) (wa (aA hk) (wa (aA kA) (wa (aA kB) @cL.eq_1)))))
 refine wp (h:=aM (fF l k) wl ?_)
 refine wp (h:=eP (fun hg=>(by simpa [dLI] using u9 a.values[l.length] b.values[k])) (fun hg=>wl) ?_)
 refine vJ (fun h2=>?_) fun h2=>?_
 ·have hE:At a b l k=false:=by
   rw [hG,bN];intro hT;simp at hT h2
   obtain ⟨q1,q2,q3,_⟩:=hT
   simp_all
  exact wv (h:=hQ _ _ (by simp [go_sem,hE]))
 ·have hE:At a b l k=(List.range (l.length+1)).all (KG a b l k):=by
   obtain ⟨⟨q1,q2⟩,q3⟩:=h2
   rw [hG,q1,decide_eq_true q2,decide_eq_true q3];rfl
  refine wp (h:=kY (kK l (by omega)) wl ?_)
  refine wp (h:=bV (fun j e H=>(e 0=.adr (fcA a b (dLI l))∧e 1=dI k∧e 5=dI l.length∧e 67=.own 47 (l.length+1)∧e 68=dI ((l.length+1:Nat):Int)∧e 69=dI j)∧(H.get 47=some ⟨3,1,(l++[(k:Int)]).map cI,false⟩)∧(47<H.next)∧(j≤l.length+1)∧(∀ i,i<j→KG a b l k i=true)) (fun j=>l.length+1 - j) 0 ⟨wg,wn,wn,wi,(by (intro i hi;omega))⟩ fun I0 hI0 j e H hi0=>?_)
  obtain ⟨E0,g47_0,n47_0,hj,hF⟩:=hi0
  have Y:=wa Y (wa E0 (wa g47_0 (b8 n47_0)))
  refine d7 (fun h5=>?_) fun h5=>?_
  ·have hjl:j<(l++[(k:Int)]).length:=by simp;omega
   obtain ⟨v,hv⟩:∃ v,v=(l++[(k:Int)])[j]:=⟨_,rfl⟩
   have hjv:iA (l++[(k:Int)]) j=v:=by unfold iA;rw [hv];simp [aA hjl]
   have hgj:(l.map cI++[[D.int .i64 (k:Int)]])[j]?=some [.int .i64 v]:=by
    rw [show l.map cI++[[D.int .i64 (k:Int)]]=(l++[(k:Int)]).map cI by simp [cI],aH,aA hjl,hv];rfl
   have hD:KG a b l k j=(decide (y9 a.graph j l.length=y9 b.graph v k)&&decide (y9 a.graph l.length j=y9 b.graph k v)):=by unfold KG;rw [hjv]
   have Y:=wa Y (wa h5 hgj)
   refine wp (h:=aM (qY a.graph hea j l.length) wl ?_)
   refine wp (h:=aM (qY b.graph heb v k) wl ?_)
   refine wp (h:=aM (u9 (y9 a.graph j l.length) (y9 b.graph v k)) wl ?_)
   refine wp (h:=eP (fun hg=>qY a.graph hea l.length j) (fun hg=>wl) ?_)
   refine wp (h:=eP (fun hg=>qY b.graph heb k v) (fun hg=>wl) ?_)
   refine wp (h:=eP (fun hg=>u9 (y9 a.graph l.length j) (y9 b.graph k v)) (fun hg=>wl) ?_)
   refine vJ (fun h7=>?_) fun h7=>?_
   ·have hJ0:KG a b l k j=false:=by rw [hD,bN];intro hT;simp at hT h7;simp_all
    have hE2:At a b l k=false:=by
     rw [hE,bN];intro hT
     have:=cD.1 hT j (aR.2 (by omega))
     rw [hJ0] at this;cases this
    exact wv (h:=hQ _ _ (by simp [go_sem,hE2]))
   ·have hJ:KG a b l k j=true:=by rw [hD];simp at h7 ⊢;simp_all
    exact wp (h:=wx hI0 (j+1) ⟨wg,wn,wn,wj,(by (intro i hi;rcases bX i j with hij|hij;exact hF i hij;(obtain rfl:i=j:=(by omega);exact hJ)))⟩)
  ·have hE2:At a b l k=true:=by rw [hE];exact KW fun i hi=>hF i (by omega)
   exact wv (h:=hQ _ _ (by simp [go_sem,hE2]))
def oC (a b:Host):Nat→List Int→Option (List Int)
 | 0,l=>some l
 | d+1,l=>(List.range b.graph.nodes.length).findSome? fun (k:Nat)=>if At a b l k=true then oC a b d (l++[(k:Int)]) else none
structure FhS (f n:Nat) (a b:Host) (ns:List Int) (H:AHeap):Prop where
 bf:H.get f=some ⟨152,7,[fcA a b (.own n ns.length)],false⟩
 bn:H.get n=some ⟨3,1,ns.map cI,false⟩
 lf:f<H.next
 ln:n<H.next
 d:f≠n
structure FhG (a b:Host):Prop where
 av:a.values.length=a.graph.nodes.length
 bv:b.values.length=b.graph.nodes.length
 an:a.graph.nodes.length≤100000
 bn:b.graph.nodes.length≤100000
 ae:a.graph.edges.length≤1000000
 be:b.graph.edges.length≤1000000
def Frm (f n n':Nat)(G H:AHeap):Prop:=(n'=n∨G.next≤n')∧G.next≤H.next∧∀ x,x<G.next→x≠f→x≠n→H.get x=G.get x
def NX (a b:Host)(f m:Nat):Prop:=∀ (ns:List Int) (n:Nat) (G:AHeap) (Q:D→AHeap→Prop),ns.length+m=a.graph.nodes.length→FhS f n a b ns G →
  (∀ n' H',FhS f n' a b ((oC a b m ns).getD ns) H'→Frm f n n' G H'→Q (.bool (oC a b m ns).isSome) H')→ACalls Tryz.prog 82 [.ptr f 1 0 0] G Q
theorem Pb (a b:Host)(hG:FhG a b)(f:Nat):NX a b f 0:=by
 intro ns n G Q hm hF hQ
 obtain ⟨gf,gn,lf,ln,d⟩:=hF
 have ff:=b8 lf
 have fn:=b8 ln
 have hl:ns.length=a.graph.nodes.length:=by omega
 refine (aG (cfg:=⟨fun _=>false,fun _=>[]⟩) Tz.mixed Tryz.func82 rfl rfl (aE rfl) (by kernel_rfl) ?_)
 have di1:=dG (show n≠f by omega)
 try simp [go_sem,seval,gf,gn,ff,fn,fcA,Host.c,hl,di1]
 repeat first|intro _|refine ⟨eK,?_⟩
 exact hQ n _ ⟨by first|exact gf|simpa [go_sem] using gf,by first|exact gn|simpa [go_sem] using gn,by first|exact lf|(simp;omega),by first|exact ln|(simp;omega),d⟩ ⟨.inl rfl,by simp,fun x _ _ _=>rfl⟩
theorem AN {α:Type}{f:Nat→Option α}{n:Nat}(h:∀ k,k<n→f k=none):(List.range n).findSome? f=none:=by
 rw [List.findSome?_eq_none_iff];intro k hk;exact h k (aR.1 hk)
theorem Eh {α:Type}{f:Nat→Option α}:∀ {n k:Nat} {r:α},k<n→(∀ j,j<k→f j=none)→f k=some r→(List.range n).findSome? f=some r
 | 0,k,r,h,_,_=>by omega
 | n+1,k,r,h,hn,hk=>by
  rw [bK,List.findSome?_append]
  by_cases hkn:k<n
  ·rw [Eh hkn hn hk];rfl
  ·obtain rfl:k=n:=by omega
   rw [AN hn];simp [hk]
theorem Pa (a b:Host)(hG:FhG a b)(f m:Nat)(ih:NX a b f m):NX a b f (m+1):=by
 intro ns n G Q hm hF hQ
 unfold NX at ih
 obtain ⟨gf,gn,lf,ln,d⟩:=hF
 have ff:=b8 lf
 have fn:=b8 ln
 have hl:ns.length<a.graph.nodes.length:=by omega
 have hne:((ns.length:Int)==(a.graph.nodes.length:Int))=false:=by rw [beq_eq_false_iff_ne];omega
 have hR:oC a b (m+1) ns=(List.range b.graph.nodes.length).findSome? fun (k:Nat)=>if At a b ns k=true then oC a b m (ns++[(k:Int)]) else none:=rfl
 have hbn:=hG.bn
 have han:ns.length≤4294967295:=by have:=hG.an;omega
 refine (aG (cfg:=⟨fun _=>false,fun _=>[]⟩) Tz.mixed Tryz.func82 rfl rfl (aE rfl) (by kernel_rfl) ?_)
 have di1:=dG (show n≠f by omega)
 try simp [go_sem,seval,gf,gn,ff,fn,fcA,Host.c,hne,han,di1]
 repeat first|intro _|refine ⟨eK,?_⟩
 obtain ⟨I0,hI0⟩:∃ I0:Nat→dA→AHeap→Prop,∀ (k:Nat) (e:dA) (H:AHeap),I0 k e H↔(∃ n1:Nat,(e 0=.ptr f 1 0 0)∧(e 22=dLI b.graph.nodes)∧(e 23=dI b.graph.nodes.length)∧(e 24=dI k)∧(H.get f=some ⟨152,7,[fcA a b (.own n1 ns.length)],false⟩)∧(f<H.next)∧(H.get n1=some ⟨3,1,ns.map cI,false⟩)∧(n1<H.next)∧(f≠n1)∧(n1=n∨G.next≤n1)∧(G.next≤H.next)∧(∀ x,x<G.next→x≠f→x≠n→H.get x=G.get x)∧(k≤b.graph.nodes.length)∧(∀ j,j<k→(if At a b ns j=true then oC a b m (ns++[(j:Int)]) else none)=none)):=⟨fun k e H=>_,fun _ _ _=>Iff.rfl⟩
 refine oR I0 (fun k=>b.graph.nodes.length - k) (0) ((hI0 _ _ _).2 ⟨(n),?_,?_,?_,?_,?_,?_,?_,?_,(by first|assumption|omega|(simp [go_sem,gf,gn,ff,fn,fcA,Host.c,hne,han,di1];done)|(simp_all;done)),(by exact .inl rfl),(by (simp [go_sem])),(by (intro x _ _ _;rfl)),(by first|assumption|omega|(simp [go_sem,gf,gn,ff,fn,fcA,Host.c,hne,han,di1];done)|(simp_all;done)),(by (intro j hj;omega))⟩) ?_
 iterate 8 (first|omega|(simp [go_sem,seval,gf,gn,ff,fn,fcA,Host.c,hne,han,di1]<;>omega))
 intro k e H hi0
 obtain ⟨n1,q0_0,q22_0,q23_0,q24_0,gf_0,nf_0,gn1_0,nn1_0,e1,m1,m2,m3,hk,hst⟩:=(hI0 _ _ _).1 hi0
 have xf:=b8 nf_0
 have xn1:=b8 nn1_0
 have F0:=And.intro q0_0 (And.intro q22_0 (And.intro q23_0 (And.intro q24_0 (And.intro gf_0 (And.intro gn1_0 (And.intro xf xn1))))))
 have di2:=dG (show n1≠f by omega)
 try simp [go_sem,seval,gf,gn,ff,fn,fcA,Host.c,hne,han,di1,F0,di2]
 refine aP (fun h4=>?_) (fun h4=>?_)
 ·try simp [go_sem] at h4
  have hki:=h4
  obtain ⟨fb,hfb⟩:∃ x,x=At a b ns k:=⟨_,rfl⟩
  try simp [go_sem,seval,gf,gn,ff,fn,fcA,Host.c,hne,han,di1,F0,di2,h4]
  repeat first|intro _|refine ⟨eK,?_⟩
  refine y7 (RN a b ns k hl h4 hG.av hG.bv hG.an hG.ae hG.be) (by simp [EC,BE,LT,Kz,fP,go_sem,← List.map_take,← List.map_drop,gf,gn,ff,fn,fcA,Host.c,hne,han,di1,F0,di2,h4]) ((by first|rfl|(simp [go_sem,← List.map_take,← List.map_drop,gf,gn,ff,fn,fcA,Host.c,hne,han,di1,F0,di2,h4];done))) ( rfl) ?_
  try simp [go_sem,seval,gf,gn,ff,fn,fcA,Host.c,hne,han,di1,F0,di2,h4]
  repeat first|intro _|refine ⟨eK,?_⟩
  refine aP (fun h6=>?_) (fun h6=>?_)
  ·try simp [go_sem] at h6
   have hK:(if At a b ns k=true then oC a b m (ns++[(k:Int)]) else none)=none:=by rw [if_neg (by simpa using h6)]
   obtain ⟨n2,hn2⟩:∃ x,x=n1:=⟨_,rfl⟩
   try simp [go_sem,seval,gf,gn,ff,fn,fcA,Host.c,hne,han,di1,F0,di2,h4,hn2]
   repeat first|intro _|refine ⟨eK,?_⟩
   refine dN (k+1) (by omega) ((hI0 _ _ _).2 ⟨(n2),?_,?_,?_,?_,?_,?_,?_,?_,(by first|assumption|omega|(simp [go_sem,gf,gn,ff,fn,fcA,Host.c,hne,han,di1,F0,di2,h4,hn2,h6];done)|(simp_all<;>omega)),(by first|(rw [hn2];exact m1)|(right;omega)),(by first|exact m2|(simp [go_sem,gf,gn,ff,fn,fcA,Host.c,hne,han,di1,F0,di2,h4,hn2];omega)),(by first|exact m3|(intro x q1 q2 q3;have w1:x≠n3:=(by rcases km1 with km1|km1<;>omega);have w2:x≠n2:=(by omega);have w3:x≠H3.next+15:=(by omega);have w4:=km3 x q1 q2 q3;simp [go_sem,gf,gn,ff,fn,fcA,Host.c,hne,han,di1,F0,di2,h4,hn2,q2,w1,w3,w4])),(by first|assumption|omega|(simp [go_sem,gf,gn,ff,fn,fcA,Host.c,hne,han,di1,F0,di2,h4,hn2,h6];done)|(simp_all<;>omega)),(by (intro j hj;rcases bX j k with hjk|hjk;exact hst j hjk;(obtain rfl:j=k:=(by omega);exact hK)))⟩)<;>first|omega|(simp [go_sem,seval,gf,gn,ff,fn,fcA,Host.c,hne,han,di1,F0,di2,h4,hn2]<;>omega)
  ·try simp [go_sem] at h6
   have hfit:At a b ns k=true:=by simpa using h6
   try simp [go_sem,seval,gf,gn,ff,fn,fcA,Host.c,hne,han,di1,F0,di2,h4,h6]
   repeat first|intro _|refine ⟨eK,?_⟩
   unfold g5
   refine ih (ns++[(k:Int)]) n1 _ _ ?_ ?_ (fun n3 H3 hF3 hM3=>?_)
   focus simp;omega
   focus exact ⟨by simp [go_sem,gf,gn,ff,fn,fcA,Host.c,hne,han,di1,F0,di2,h4,h6,fcA,Host.c],by simp [go_sem,gf,gn,ff,fn,fcA,Host.c,hne,han,di1,F0,di2,h4,h6,cI],by simp [go_sem];omega,by simp [go_sem];omega,e1⟩
   obtain ⟨gf3,gn3,lf3,ln3,d3⟩:=hF3
   obtain ⟨k1,k2,k3⟩:=hM3
   simp [go_sem] at k2 k3
   have hm3:Frm f n n3 G H3:=⟨by rcases k1 with rfl|k1;exact m1;right;simp [go_sem] at k1;omega,by omega,fun x q1 q2 q3=>by
    rw [k3 x (by omega) q2 (by rcases m1 with m1|m1<;>omega),← m3 x q1 q2 q3]
    have:x≠n1:=by rcases m1 with m1|m1<;>omega
    simp [q2,this]⟩
   have fr3:=And.intro (b8 (show f<H3.next by omega)) (b8 (show n3<H3.next by omega))
   have di4:=dG (show n3≠f by omega)
   obtain ⟨n2,hn2⟩:∃ x,x=H3.next+15:=⟨_,rfl⟩
   try simp [go_sem,seval,gf,gn,ff,fn,fcA,Host.c,hne,han,di1,F0,di2,h4,h6,gf3,gn3,fr3,di4,hn2]
   repeat first|intro _|refine ⟨eK,?_⟩
   refine aP (fun h8=>?_) (fun h8=>?_)
   ·try simp [go_sem] at h8
    obtain ⟨r,hr⟩:=fQ.1 h8
    rw [hr] at gf3 gn3
    have hE:oC a b (m+1) ns=some r:=by rw [hR];exact Eh h4 hst (by rw [if_pos hfit];exact hr)
    try simp [go_sem,seval,gf,gn,ff,fn,fcA,Host.c,hne,han,di1,F0,di2,h4,h6,gf3,gn3,fr3,di4,hn2]
    have hq:=hQ n3 H3 (by rw [hE];exact ⟨gf3,gn3,lf3,ln3,d3⟩) hm3;rw [hE] at hq;exact hq
   ·try simp [go_sem] at h8
    have hr:oC a b m (ns++[(k:Int)])=none:=by simpa using h8
    rw [hr] at gf3 gn3
    simp only [Option.getD_none] at gf3 gn3
    have hK:(if At a b ns k=true then oC a b m (ns++[(k:Int)]) else none)=none:=by rw [if_pos hfit];exact hr
    obtain ⟨km1,km2,km3⟩:=hm3
    try simp [go_sem,seval,gf,gn,ff,fn,fcA,Host.c,hne,han,di1,F0,di2,h4,h6,gf3,gn3,fr3,di4,hn2]
    repeat first|intro _|refine ⟨eK,?_⟩
    refine BW (Ghosts.trunc (.refl _) f 0 6 n3 ns.length _ _ _ (by simp [go_sem,gf,gn,ff,fn,fcA,Host.c,hne,han,di1,F0,di2,h4,h6,gf3,gn3,fr3,di4,hn2];rfl) rfl rfl (by simp [go_sem,gf,gn,ff,fn,fcA,Host.c,hne,han,di1,F0,di2,h4,h6,gf3,gn3,fr3,di4,hn2];rfl) (by simp [go_sem,gf,gn,ff,fn,fcA,Host.c,hne,han,di1,F0,di2,h4,h6,gf3,gn3,fr3,di4,hn2]) rfl (by omega)) (k+1) (by omega) ((hI0 _ _ _).2 ⟨(n2),?_,?_,?_,?_,?_,?_,?_,?_,(by first|assumption|omega|(simp [go_sem,gf,gn,ff,fn,fcA,Host.c,hne,han,di1,F0,di2,h4,h6,gf3,gn3,fr3,di4,hn2,h8];done)|(simp_all<;>omega)),(by first|(rw [hn2];exact m1)|(right;omega)),(by first|exact m2|(simp [go_sem,gf,gn,ff,fn,fcA,Host.c,hne,han,di1,F0,di2,h4,h6,gf3,gn3,fr3,di4,hn2];omega)),(by first|exact m3|(intro x q1 q2 q3;have w1:x≠n3:=(by rcases km1 with km1|km1<;>omega);have w2:x≠n2:=(by omega);have w3:x≠H3.next+15:=(by omega);have w4:=km3 x q1 q2 q3;simp [go_sem,gf,gn,ff,fn,fcA,Host.c,hne,han,di1,F0,di2,h4,h6,gf3,gn3,fr3,di4,hn2,q2,w1,w3,w4])),(by first|assumption|omega|(simp [go_sem,gf,gn,ff,fn,fcA,Host.c,hne,han,di1,F0,di2,h4,h6,gf3,gn3,fr3,di4,hn2,h8];done)|(simp_all<;>omega)),(by (intro j hj;rcases bX j k with hjk|hjk;exact hst j hjk;(obtain rfl:j=k:=(by omega);exact hK)))⟩)<;>first|omega|(simp [go_sem,seval,gf,gn,ff,fn,fcA,Host.c,hne,han,di1,F0,di2,h4,h6,gf3,gn3,fr3,di4,hn2]<;>omega)
 ·try simp [go_sem] at h4
  have hE:oC a b (m+1) ns=none:=by rw [hR];exact AN fun j hj=>hst j (by omega)
  try simp [go_sem,seval,gf,gn,ff,fn,fcA,Host.c,hne,han,di1,F0,di2]
  have hq:=hQ n1 H (by rw [hE];exact ⟨by assumption,by assumption,by assumption,by assumption,e1⟩) ⟨m1,m2,m3⟩;rw [hE] at hq;exact hq
theorem Je (a b:Host)(hG:FhG a b)(f:Nat):∀ m,NX a b f m
 | 0=>Pb a b hG f
 | m+1=>Pa a b hG f m (Je a b hG f m)
theorem wA (t:Types)(ht:t.ok)(h:Host):Pure Tryz.prog 81 [t.d,h.d] (dI (fA t h)):=by
 refine Tz.pK ⟨fun _=>false,fun _=>[]⟩ Tryz.func81 rfl (fun Q hQ=>?_)
 have Y:=trivial
 refine wv (h:=aB (wB t ht h) wl ?_)
 exact wv (h:=hQ _ _ (by simp [go_sem,fA]))
theorem Pd (t:Types)(ht:t.ok)(a b:Host)(ha:fA t a=0)(hb:fA t b=0)(hL:8<max a.graph.nodes.length b.graph.nodes.length):Pure Tryz.prog 26 [t.d,a.d,b.d] (.tup [(Part.mk [] []).d,dI 3]):=by
 have hX:(8:Int)<if a.graph.nodes.length<b.graph.nodes.length then (b.graph.nodes.length:Int) else (a.graph.nodes.length:Int):=by split<;>omega
 refine Tz.pK ⟨fun t=>t==6||t==11||t==13||t==14||t==16,fun r=>match r with|16=>[(0,19),(1,19),(3,19),(4,19),(5,19),(6,19),(7,19),(8,19),(9,19),(11,19),(12,19),(13,19),(14,19),(15,19),(16,19),(17,19)]|_=>[]⟩ Tryz.func26 rfl (fun Q hQ=>?_)
 have Y:=hX
 refine wv (h:=aB ((by have h:=wA t ht a;rw [ha] at h;exact h)) wl ?_)
 refine wv (h:=aB ((by have h:=wA t ht b;rw [hb] at h;exact h)) wl ?_)
 exact wo (h:=hQ _ _ (by simp [go_sem,Y,Part.d,Part.c,dLI,Rl,oM,kJ,oX]))
def Lk (r:List Int)(x:Edge):Edge:=⟨x.type,iA r x.from_,iA r x.to_⟩
def Mp (b:Host)(r used:List Int)(x:Edge):Option Nat:=(List.range b.graph.edges.length).find? fun (k:Nat)=>decide (eA b.graph k=Lk r x)&&!(mem used k)
def Nl (b:Host)(r used:List Int)(x:Edge):List Int:=match Mp b r used x with|some k=>used++[(k:Int)]|none=>used
def RX (b:Host)(r:List Int)(xs:List Edge):List Int:=xs.foldl (Nl b r) []
theorem Jr {b:Host}{r:List Int}{xs:List Edge}{i:Nat}(h:i<xs.length):RX b r (xs.take (i+1))=Nl b r (RX b r (xs.take i)) xs[i]:=by
 unfold RX;rw [List.take_succ_eq_append_getElem h,jO];rfl
theorem UM {f:Nat→Bool}{n k:Nat}(h:k<n)(h1:∀ j,j<k→f j=false)(h2:f k=true):(List.range n).find? f=some k:=by
 rw [List.find?_range_eq_some]
 exact ⟨h2,aR.2 h,fun j hj=>by rw [h1 j hj];rfl⟩
theorem Pc (t:Types)(ht:t.ok)(a b:Host)(ha:fA t a=0)(hb:fA t b=0)(hL:a.graph.nodes.length≤8)(hnn:b.graph.nodes.length=a.graph.nodes.length)(hne:b.graph.edges.length=a.graph.edges.length)
  (hG:FhG a b) (r:List Int) (hr:oC a b a.graph.nodes.length []=some r) (hrl:r.length=a.graph.nodes.length):Pure Tryz.prog 26 [t.d,a.d,b.d] (.tup [(Part.mk r (RX b r a.graph.edges)).d,dI 0]):=by
 have hX:¬ (8:Int)<(a.graph.nodes.length:Int):=by omega
 have ea:=(hostOk ha).gg
 have hin:=(dF ea).2
 have hae:=hG.ae
 refine Tz.pK ⟨fun t=>t==6||t==11||t==13||t==14||t==16||t==45||t==10,fun r=>match r with|16=>[(0,19),(1,19),(3,19),(4,19),(5,19),(6,19),(7,19),(8,19),(9,19),(11,19),(12,19),(13,19),(14,19),(15,19),(16,19),(17,19)]|_=>[]⟩ Tryz.func26 rfl (fun Q hQ=>?_)
 have Y:=wa hX (wa hnn hne)
 refine wv (h:=aB ((by have h:=wA t ht a;rw [ha] at h;exact h)) wl ?_)
 refine wv (h:=aB ((by have h:=wA t ht b;rw [hb] at h;exact h)) wl ?_)
 refine wp (h:=?_)
 refine KE (fun _=>?_) (fun h=>by cases h)
 refine AS (.step (.refl _) 1 0 6 3 1 _ _ (by simp [go_sem];rfl) rfl rfl rfl) ?_
 simp [go_sem]
 refine Je a b hG 1 a.graph.nodes.length [] 2 _ _ (by simp) ⟨by simp [go_sem,fcA,Host.c,dLI],by simp [go_sem],by simp [go_sem],by simp [go_sem],by simp⟩ (fun n3 H3 hF3 hM3=>?_)
 obtain ⟨gf3,gn3,lf3,ln3,d3⟩:=hF3
 obtain ⟨k1,k2,k3⟩:=hM3
 simp [go_sem] at k2
 have g03:=k3 0 (by simp [go_sem]) (by omega) (by omega)
 simp [go_sem] at g03
 rw [hr] at gf3 gn3 ⊢
 simp only [Option.getD_some] at gf3 gn3
 have hnz:=Lf H3.next
 have f0:=b8 (show 0<H3.next by omega)
 have f1:=b8 (show 1<H3.next by omega)
 have f3:=b8 ln3
 have k1':n3=2∨3≤n3:=by simpa [go_sem] using k1
 have d0:=dG (show n3≠0 by omega)
 have d1:=dG (show n3≠1 by omega)
 have Y:=wa Y (wa gf3 (wa gn3 (wa g03 (wa @fcA.eq_1 (wa @Host.c.eq_1 (wa hnz (wa f0 (wa f1 (wa f3 (wa d0 d1))))))))))
 refine wp (h:=tX (Ghosts.step (Ghosts.refl _) H3.next 0 1 3 1 _ _ ((by simp [go_sem,hnz];rfl)) rfl rfl rfl) (fun i e H=>∃ p:Nat,∃ q:Nat,∃ us:List Int,(e 3=.adr t.c∧e 4=.adr a.c∧e 5=.adr b.c∧e 6=.ptr 0 1 0 0∧e 10=.ptr 1 1 0 0∧e 11=.ptr p 1 0 0∧e 79=.list (a.graph.edges.map Edge.c)∧e 80=dI a.graph.edges.length∧e 81=dI i)∧(H.get 0=some ⟨36,2,[[.nil,.nil]],false⟩)∧(0<H.next)∧(H.get 1=some ⟨152,7,[fcA a b (.own n3 r.length)],false⟩)∧(1<H.next)∧(H.get n3=some ⟨3,1,r.map cI,false⟩)∧(n3<H.next)∧(H.get p=some ⟨36,2,[[.own n3 r.length,.own q us.length]],false⟩)∧(p<H.next)∧(H.get q=some ⟨3,1,us.map cI,false⟩)∧(q<H.next)∧(p=H3.next)∧(q=H3.next+1)∧(i≤a.graph.edges.length)∧(us.length≤i)∧(us=RX b r (a.graph.edges.take i))) (fun i=>a.graph.edges.length - i) 0 ⟨H3.next,(H3.next+1),([]),wg,wn,wn,wn,wn,wn,wn,wn,wn,wn,wn,(by rfl),(by rfl),wi,(by simp),(by rfl)⟩ fun I0 hI0 i e H hi0=>?_)
 obtain ⟨p,q,us,E0,g0_0,n0_0,g1_0,n1_0,gn3_0,nn3_0,gp_0,np_0,gq_0,nq_0,hp,hq,hi,hlu,hus⟩:=hi0
 have di1:=And.intro (dG (show q≠p by omega)) (And.intro (dG (show q≠n3 by omega)) (And.intro (dG (show q≠1 by omega)) (And.intro (dG (show q≠0 by omega)) (And.intro (dG (show p≠n3 by omega)) (And.intro (dG (show p≠1 by omega)) (And.intro (dG (show p≠0 by omega)) (And.intro (dG (show n3≠1 by omega)) (And.intro (dG (show n3≠0 by omega)) (dG (show 1≠0 by omega))))))))))
 have Y:=wa Y (wa E0 (wa g0_0 (wa (b8 n0_0) (wa g1_0 (wa (b8 n1_0) (wa gn3_0 (wa (b8 nn3_0) (wa gp_0 (wa (b8 np_0) (wa gq_0 (wa (b8 nq_0) di1)))))))))))
 refine d7 (fun h14=>?_) fun h14=>?_
 ·have hx:=(hin _ (aC h14)).2
  have hxf:a.graph.edges[i].from_.toNat<r.length:=by omega
  have hxt:a.graph.edges[i].to_.toNat<r.length:=by omega
  have hw:Lk r a.graph.edges[i]=⟨a.graph.edges[i].type,r[a.graph.edges[i].from_.toNat],r[a.graph.edges[i].to_.toNat]⟩:=by
   unfold Lk iA;rw [aA hxf,aA hxt];rfl
  have nx:=Lf H.next
  have Y:=wa Y (wa h14 (wa nx (wa (aA h14) (wa (aA hxf) (wa (aA hxt) @Edge.c.eq_1)))))
  refine wp (h:=bV (fun k e H=>∃ z:Nat,(e 14=.ptr z 1 0 0∧e 3=.adr t.c∧e 4=.adr a.c∧e 5=.adr b.c∧e 6=.ptr 0 1 0 0∧e 10=.ptr 1 1 0 0∧e 11=.ptr p 1 0 0∧e 79=.list (a.graph.edges.map Edge.c)∧e 80=dI a.graph.edges.length∧e 81=dI i∧e 106=.list (b.graph.edges.map Edge.c)∧e 107=dI a.graph.edges.length∧e 108=dI k)∧(H.get 0=some ⟨36,2,[[.nil,.nil]],false⟩)∧(0<H.next)∧(H.get 1=some ⟨152,7,[fcA a b (.own n3 r.length)],false⟩)∧(1<H.next)∧(H.get n3=some ⟨3,1,r.map cI,false⟩)∧(n3<H.next)∧(H.get p=some ⟨36,2,[[.own n3 r.length,.own q us.length]],false⟩)∧(p<H.next)∧(H.get q=some ⟨3,1,us.map cI,false⟩)∧(q<H.next)∧(H.get z=some ⟨122,3,[[dI a.graph.edges[i].type,dI r[a.graph.edges[i].from_.toNat],dI r[a.graph.edges[i].to_.toNat]]],false⟩)∧(z<H.next)∧(z≠0∧z≠1∧z≠n3∧z≠p∧z≠q)∧(k≤b.graph.edges.length)∧(∀ j,j<k→(decide (eA b.graph j=Lk r a.graph.edges[i])&&!(mem us j))=false)) (fun k=>b.graph.edges.length - k) 0 ⟨(H.next+1+19),wg,wn,wn,wn,wn,wn,wn,wn,wn,wn,wn,wn,wn,(by omega),wi,(by (intro j hj;omega))⟩ fun I2 hI2 k e H hi2=>?_)
  obtain ⟨z,E2,g0_2,n0_2,g1_2,n1_2,gn3_2,nn3_2,gp_2,np_2,gq_2,nq_2,gz_2,nz_2,hz,hk,hst⟩:=hi2
  have di2:=And.intro (dG (show z≠q by omega)) (And.intro (dG (show z≠p by omega)) (And.intro (dG (show z≠n3 by omega)) (And.intro (dG (show z≠1 by omega)) (And.intro (dG (show z≠0 by omega)) (And.intro (dG (show q≠p by omega)) (And.intro (dG (show q≠n3 by omega)) (And.intro (dG (show q≠1 by omega)) (And.intro (dG (show q≠0 by omega)) (And.intro (dG (show p≠n3 by omega)) (And.intro (dG (show p≠1 by omega)) (And.intro (dG (show p≠0 by omega)) (And.intro (dG (show n3≠1 by omega)) (And.intro (dG (show n3≠0 by omega)) (dG (show 1≠0 by omega)))))))))))))))
  have Y:=wa Y (wa E2 (wa g0_2 (wa (b8 n0_2) (wa g1_2 (wa (b8 n1_2) (wa gn3_2 (wa (b8 nn3_2) (wa gp_2 (wa (b8 np_2) (wa gq_2 (wa (b8 nq_2) (wa gz_2 (wa (b8 nz_2) di2)))))))))))))
  refine d7 (fun h18=>?_) fun h18=>?_
  ·have hkb:k<b.graph.edges.length:=by omega
   obtain ⟨y,hy⟩:∃ y,y=b.graph.edges[k]:=⟨_,rfl⟩
   have hyk:eA b.graph k=y:=by rw [hy];exact Js hkb
   have nx2:=Lf H.next
   have Y:=wa Y (wa h18 (wa nx2 (wa (aA hkb) (Eq.symm hy))))
   refine wp (h:=Cd (fun hg=>fF us k) wr (fun hg=>wl) (fun hg=> rfl) ?_)
   refine vJ (fun h20=>?_) fun h20=>?_
   ·have hU:Nl b r us a.graph.edges[i]=us++[(k:Int)]:=by
     unfold Nl
     rw [show Mp b r us a.graph.edges[i]=some k by
      unfold Mp
      exact UM hkb hst (by rw [hyk,hw];obtain ⟨⟨c1,c2,c3⟩,c4⟩:=h20;rw [c4];cases y;simp_all)]
    obtain ⟨us2,hus2⟩:∃ x,x=us++[(k:Int)]:=⟨_,rfl⟩
    have hU:us2=Nl b r us a.graph.edges[i]:=by rw [hU,hus2]
    have hul:us2.length=us.length+1:=by rw [hus2];simp
    have hlb:us.length≤4294967295:=by omega
    have Y:=wa Y (wa hus2 (wa @cI.eq_1 hlb))
    exact wp (h:=wx hI0 (i+1) ⟨p,q,us2,wg,wn,wn,wn,wn,wn,wn,wn,wn,wn,wn,(by exact hp),(by exact hq),wj,(by (rw [hul];omega)),(by (rw [Jr h14,← hus];exact hU))⟩)
   ·have hK:(decide (eA b.graph k=Lk r a.graph.edges[i])&&!(mem us k))=false:=by
     rw [bN];intro hT;rw [hyk,hw,aN,decide_eq_true_eq] at hT;obtain ⟨c1,c2⟩:=hT;rw [c1] at h20;simp_all
    have Y:=wa Y h20
    exact wp (h:=wx hI2 (k+1) ⟨z,wg,wn,wn,wn,wn,wn,wn,wn,wn,wn,wn,wn,wn,(by exact hz),wj,(by (intro j hj;rcases bX j k with hjk|hjk;exact hst j hjk;(obtain rfl:j=k:=(by omega);exact hK)))⟩)
  ·have hU:Nl b r us a.graph.edges[i]=us:=by
    unfold Nl
    rw [show Mp b r us a.graph.edges[i]=none by
     unfold Mp;rw [List.find?_eq_none];intro j hj;rw [hst j (by have:=aR.1 hj;omega)];simp]
   obtain ⟨us2,hus2⟩:∃ x,x=us:=⟨_,rfl⟩
   have hU:us2=Nl b r us a.graph.edges[i]:=by rw [hU,hus2]
   have hul:us2.length=us.length:=by rw [hus2]
   have Y:=wa Y hus2
   exact wp (h:=wx hI0 (i+1) ⟨p,q,us2,wg,wn,wn,wn,wn,wn,wn,wn,wn,wn,wn,(by exact hp),(by exact hq),wj,(by (rw [hul];omega)),(by (rw [Jr h14,← hus];exact hU))⟩)
 ·have hie:i=a.graph.edges.length:=by omega
  have hU2:us=RX b r a.graph.edges:=by rw [hus,hie,nY]
  exact wv (h:=hQ _ _ (by simp [go_sem,Y,← hU2,Part.d,Part.c,dLI]))
deriving instance DecidableEq for Term
deriving instance DecidableEq for Slot
deriving instance DecidableEq for Test
deriving instance DecidableEq for Pattern
mutual
def SD:Cond→Cond→Bool
 | .mk k l m p,.mk k' l' m' p'=>decide (k=k')&&decide (m=m')&&decide (p=p')&&AV l l'
def AV:List Cond→List Cond→Bool
 | [],[]=>true
 | [],_ :: _=>false
 | _ :: _,[]=>false
 | a :: l,b :: l'=>SD a b&&AV l l'
end
mutual
theorem Iw:∀ a b:Cond,SD a b=true↔a=b
 | .mk k l m p,.mk k' l' m' p'=>by
  have:=FJ l l'
  simp only [SD,aN,decide_eq_true_eq,this,Cond.mk.injEq]
  constructor
  ·rintro ⟨⟨⟨h1,h2⟩,h3⟩,h4⟩;exact ⟨h1,h4,h2,h3⟩
  ·rintro ⟨h1,h4,h2,h3⟩;exact ⟨⟨⟨h1,h2⟩,h3⟩,h4⟩
theorem FJ:∀ a b:List Cond,AV a b=true↔a=b
 | [],[]=>by simp [AV]
 | [],_ :: _=>by simp [AV]
 | _ :: _,[]=>by simp [AV]
 | a :: l,b :: l'=>by
  have h1:=Iw a b
  have h2:=FJ l l'
  simp [AV,h1,h2]
end
instance:DecidableEq Cond:=fun a b=>decidable_of_iff _ (Iw a b)
deriving instance DecidableEq for Rule
deriving instance DecidableEq for Stp26
structure Stp26.le (s:Stp26):Prop where
 r:s.rule.le
 m:s.mat.m.le
 t:s.track.le
 c:s.comatch.le
theorem QE {l:List Int}(hd:l.Nodup){v:Int}(h0:0≤iM l l.length v):∃ p:Nat,∃ hp:p<l.length,l[p]=v∧iM l l.length v=p:=by
 by_cases hv:v∈l
 ·obtain ⟨p,hp,rfl⟩:=aK hv
  exact ⟨p,hp,rfl,oI hd hp⟩
 ·rw [pB hv _ (bC _)] at h0;omega
section
variable {t:Types} {r:Rule} {h:Host} {m:Mat}
theorem StepOk.track_node (K:StepOk t r h m){i:Nat}(hi:i<h.graph.nodes.length)(h0:0≤iA (dJ r h m).nodes i) :
  ∃ p:Nat,∃ hp:p<(bY r h m).nodes.length,(bY r h m).nodes[p]=(i:Int)∧iA (dJ r h m).nodes i=p:=by
 have e:iA (dJ r h m).nodes i=iM (bY r h m).nodes (bY r h m).nodes.length i:=by
  unfold iA dJ mM
  simp only
  rw [show ((i:Int)).toNat=i by omega,pA _ hi,Option.getD_some]
 rw [e] at h0 ⊢
 obtain ⟨p,hp,h1,h2⟩:=QE (nM K.S.nasc) h0
 exact ⟨p,hp,h1,h2⟩
theorem StepOk.track_edge (K:StepOk t r h m){i:Nat}(hi:i<h.graph.edges.length)(h0:0≤iA (dJ r h m).edges i) :
  ∃ p:Nat,∃ hp:p<(bY r h m).edges.length,(bY r h m).edges[p]=(i:Int)∧iA (dJ r h m).edges i=p:=by
 have e:iA (dJ r h m).edges i=iM (bY r h m).edges (bY r h m).edges.length i:=by
  unfold iA dJ mM
  simp only
  rw [show ((i:Int)).toNat=i by omega,pA _ hi,Option.getD_some]
 rw [e] at h0 ⊢
 obtain ⟨p,hp,h1,h2⟩:=QE (nM K.S.easc) h0
 exact ⟨p,hp,h1,h2⟩
theorem StepOk.put_in (K:StepOk t r h m):∀ s∈r.right.slots,0≤kF (dO r h m) s∧eE (dO r h m) s<(bI t r h m).values.length∧0≤s.attr∧s.attr<((bI t r h m).values[eE (dO r h m) s]?.getD []).length:=fun s hs=>by
 have P:=K.S.put
 have a:=(K.S.hR.slots s hs).2.1
 exact ⟨(P.spot s hs).1,(P.spot s hs).2.1,a.1,(P.attr s hs).1⟩
theorem StepOk.value (K:StepOk t r h m){n a:Nat}(hn:n<(bI t r h m).values.length)(ha:a<((bI t r h m).values[n]?.getD []).length) :
  ((dR t r h m).values[n]?.getD [])[a]?=some ((FA (dO r h m) m.vars r.right.slots n a).getD (((bI t r h m).values[n]?.getD [])[a]?.getD 0)) :=
 F9 _ _ r.right.slots rfl K.put_in n a hn ha
theorem StepOk.rows (K:StepOk t r h m):(dR t r h m).values.length=(bI t r h m).values.length∧∀ n:Nat,((dR t r h m).values[n]?.getD []).length=((bI t r h m).values[n]?.getD []).length :=
 ⟨(rN _ _ _ _).1,fun n=>(rN (dO r h m) m.vars r.right.slots (bI t r h m).values).2 n⟩
theorem StepOk.eqK (K:StepOk t r h m):WR (dO r h m) m.vars r.right.slots:=by
 refine Pn ?_
 have:=K.put
 unfold xJ at this
 split at this
 ·cases this
 ·rename_i hc;simpa using hc
structure RemN (t:Types) (r:Rule) (h:Host) (m:Mat) (i:Nat) (k:Int):Prop where
 n1:k.toNat<(dR t r h m).graph.nodes.length
 n2:(dR t r h m).graph.nodes[k.toNat]?.getD 0=h.graph.nodes[i]?.getD 0
 v1:k.toNat<(dR t r h m).values.length
 v2:((dR t r h m).values[k.toNat]?.getD []).length=(h.values[i]?.getD []).length
 v3:∀ a:Nat,a<(h.values[i]?.getD []).length→(∀ s∈r.right.slots,¬ (kF (dO r h m) s=k∧s.attr=a))→((dR t r h m).values[k.toNat]?.getD [])[a]?.getD 0=(h.values[i]?.getD [])[a]?.getD 0
theorem StepOk.remN (K : StepOk t r h m) {i : Nat} (hi : i < h.graph.nodes.length) (h0 : 0 ≤ iA (dJ r h m).nodes i) : RemN t r h m i (iA (dJ r h m).nodes i) := by
  obtain ⟨p, hp, h1, h2⟩ := K.track_node hi h0
  have hb := K.S.bareN
  have hl : (bI t r h m).graph.nodes.length = (bY r h m).nodes.length + r.freshN.length := by rw [hb, aJ, aS, aS]
  have hvl := K.S.vlen
  have eg : (dR t r h m).graph = (bI t r h m).graph := rfl
  obtain ⟨r1, r2⟩ := K.rows
  have en : (bI t r h m).graph.nodes[p]?.getD 0 = h.graph.nodes[i]?.getD 0 := by
    rw [hb, aT (by simpa using hp), aH, aA hp, c6, Option.getD_some, h1]
    unfold gN
    rw [show ((i : Int)).toNat = i by omega]
  have ev : (bI t r h m).values[p]?.getD [] = h.values[i]?.getD [] := by
    rw [JC, aT (by simpa using hp), aH, aA hp, c6, Option.getD_some, h1]
    rw [show ((i : Int)).toNat = i by omega]
  rw [h2]
  have ep : ((p : Nat) : Int).toNat = p := by omega
  refine ⟨by rw [ep, eg]; omega, by rw [ep, eg]; exact en, by rw [ep]; omega, by rw [ep, r2, ev], fun a ha hn => ?_⟩
  rw [ep, K.value (by omega) (by rw [ev]; exact ha), Option.getD_some]
  have hF : FA (dO r h m) m.vars r.right.slots p a = none := by
    cases hq : FA (dO r h m) m.vars r.right.slots p a with
    | none => rfl
    | some x =>
      obtain ⟨s, hs, e1, e2, _⟩ := Am hq
      exact absurd ⟨e1, e2⟩ (hn s hs)
  rw [hF, ev]; rfl
theorem StepOk.remE (K:StepOk t r h m){i:Nat}(hi:i<h.graph.edges.length)(h0:0≤iA (dJ r h m).edges i) :
  (iA (dJ r h m).edges i).toNat<(dR t r h m).graph.edges.length∧eA (dR t r h m).graph (iA (dJ r h m).edges i)=⟨(eA h.graph i).type,iA (dJ r h m).nodes (eA h.graph i).from_,iA (dJ r h m).nodes (eA h.graph i).to_⟩:=by
 obtain ⟨p,hp,h1,h2⟩:=K.track_edge hi h0
 have S:=K.S
 have hb:=S.bareE
 have hl:(bI t r h m).graph.edges.length=(bY r h m).edges.length+r.freshE.length:=by rw [hb,aJ,aS,aS]
 have eg:(dR t r h m).graph=(bI t r h m).graph:=rfl
 rw [h2,eg]
 refine ⟨by omega,?_⟩
 have e:eA (bI t r h m).graph (p:Int)=gEd h.graph (bY r h m) (i:Int):=by
  unfold eA
  rw [show ((p:Nat):Int).toNat=p by omega,hb,aT (by simpa using hp),aH,aA hp,c6,Option.getD_some,h1]
 rw [e,KF]
 have hm:(i:Int)∈(bY r h m).edges:=h1 ▸ aC hp
 obtain ⟨s1,s2⟩:=pT S.sub hm
 have key:∀ v:Int,v∈(bY r h m).nodes→iA (dJ r h m).nodes v=(pY (bY r h m).nodes v:Int):=fun v hv=>by
  have hr:=S.nin v hv
  unfold iA dJ mM
  simp only
  rw [pA _ (by omega),Option.getD_some,show ((v.toNat:Nat):Int)=v by omega,Ai S.nasc,if_pos ((cQ _ _).2 hv)]
 rw [key _ s1,key _ s2]
end
def wU (ps:List (Int × Int))(l:List Int):List Int:=ps.foldl (fun l p=>l.set p.1.toNat p.2) l
theorem oW:∀ (ps:List (Int × Int)) (l:List Int),(wU ps l).length=l.length
 | [],_=>rfl
 | p :: ps,l=>by
  have:=oW ps (l.set p.1.toNat p.2)
  simpa [wU] using this
theorem Iu (ps qs:List (Int × Int))(l:List Int):wU (ps++qs) l=wU qs (wU ps l):=by simp [wU]
theorem Wo {l:List Int}{a:Nat}(h:a<l.length)(v:Int)(p:Nat):iA (l.set a v) p=if a=p then v else iA l p:=by
 unfold iA
 rw [show (p:Int).toNat=p by omega,cE]
 by_cases he:a=p
 ·subst he;simp [h]
 ·rw [if_neg he,if_neg he]
theorem EU {R:Int→Int→Prop}:∀ (ps:List (Int × Int)) (l:List Int),(∀ q∈ps,R q.1 q.2∧0≤q.1)→∀ p:Nat,p<l.length→(R p (iA l p)∨∃ v,((p:Int),v)∈ps)→R p (iA (wU ps l) p)
 | [],l,_,p,_,h=>by
  rcases h with h|⟨v,hv⟩
  ·exact h
  ·cases hv
 | (a,v) :: ps,l,hR,p,hp,h=>by
  have h0:=hR (a,v) (lN ..)
  refine EU ps (l.set a.toNat v) (fun q hq=>hR q (iY _ hq)) p (by simpa using hp) ?_
  by_cases he:a.toNat=p
  ·left
   rw [Wo (by omega),if_pos he,← he,show ((a.toNat:Nat):Int)=a by have:=h0.2;simp only at this;omega]
   exact h0.1
  ·rcases h with h|⟨w,hw⟩
   ·left
    have e:iA (l.set a.toNat v) p=iA l p:=by
     unfold iA;rw [cE,if_neg (by omega)]
    rw [e];exact h
   ·right
    exact ⟨w,(bP.1 hw).resolve_left fun e=>he (by have:=congrArg Prod.fst e;simp only at this;omega)⟩
theorem Ta {l l':List Int}(h:l.length=l'.length)(he:∀ p:Nat,p<l.length→iA l p=iA l' p):l=l':=by
 refine eW h fun i h1 h2=>?_
 have:=he i h1
 rwa [lH h1,lH h2] at this
def V4 (track undo:List Int)(k:Nat):List (Int × Int):=(List.range k).flatMap fun (i:Nat)=>if 0≤iA track i∧0≤iA undo (iA track i) then [(iA undo (iA track i),(i:Int))] else []
def V3 (com mat:List Int)(k:Nat):List (Int × Int):=(List.range k).map fun (i:Nat)=>(iA com i,iA mat i)
def AZ (track undo com mat:List Int)(n:Nat):List Int:=wU (V3 com mat com.length) (wU (V4 track undo track.length) (List.replicate n 0))
def WM (iso undone track:List Int)(k:Nat):List (Int × Int):=(List.range k).flatMap fun (i:Nat)=>if 0≤iA undone i then [(iA undone i,idx track (iA iso i))] else []
def WL (com mat keep:List Int)(k:Nat):List (Int × Int):=(List.range k).flatMap fun (i:Nat)=>if mem keep i=true then [] else [(iA com i,iA mat i)]
def KQ (n:Nat)(iso undone track com mat keep:List Int):List Int:=wU (WL com mat keep com.length) (wU (WM iso undone track undone.length) (List.replicate n 0))
def oP (l by_:List Int):List Int:=l.map fun n=>if 0≤n then iA by_ n else n
section
variable {keep into mm m0 b mm':List Int} {nL nR nH N:Nat}
theorem pD:(kP keep mm nH).length=nH:=rH _ _
theorem nP:(wI keep into mm nR nH).length=nR:=by simp [wI,N4]
theorem Ly {l by_:List Int}{i:Int}(h0:0≤i)(h:i<l.length):iA (oP l by_) i=if 0≤iA l i then iA by_ (iA l i) else iA l i:=by
 have h':i.toNat<l.length:=by omega
 have e:iA l i=l[i.toNat]:=by unfold iA;rw [aA h'];rfl
 rw [e];unfold iA oP
 rw [aH,aA h'];rfl
theorem Srt.t_pos (S:Srt keep into mm nL nR nH){x:Int}(h:0≤x∧x<nH)(ht:0≤iA (kP keep mm nH) x):x∈iL keep mm nH:=by
 refine bA fun hx=>?_
 rw [S.t_out h hx] at ht;omega
theorem Und.org (U:Und keep into mm m0 b mm' nL nR nH N){n:Nat}(hn:n=(iL (f8 into nR) mm' N).length+(bF (fI (f8 into nR) into keep) nL).length) :
  ∀ p:Nat,p<n→CH keep into mm m0 mm' nL nR nH N p (iA (AZ (oP (kP keep mm nH) b) (kP (f8 into nR) mm' N) (wI (f8 into nR) (fI (f8 into nR) into keep) mm' nL N) mm n) p):=by
 intro p hp
 unfold AZ
 rw [← Iu]
 have hN:=U.n
 have hlt:(oP (kP keep mm nH) b).length=nH:=by unfold oP;rw [aS];exact pD
 refine EU _ _ (fun q hq=>?_) p (by simpa using hp) (.inr ?_)
 ·rcases aV.1 hq with h|h
  ·unfold V4 at h
   obtain ⟨i,hi,hq⟩:=bH.1 h
   have hi':=aR.1 hi
   rw [hlt] at hi'
   split at hq
   ·rename_i hc
    obtain ⟨c1,c2⟩:=hc
    simp only [aW] at hq
    subst hq
    refine ⟨.inl ?_,c2⟩
    rw [Ly (by omega) (by rw [pD];omega)] at c1 c2 ⊢
    by_cases h0:0≤iA (kP keep mm nH) i
    ·rw [if_pos h0] at c1 c2 ⊢
     have hd:=U.S.t_pos (x:=(i:Int)) (by omega) h0
     obtain ⟨p',e1,e2,_⟩:=U.S.t_in hd
     obtain ⟨r1,r2⟩:=U.of (iA (kP keep mm nH) i) h0 (by omega)
     exact ⟨_,U.S'.t_pos r1 c2,rfl,hd,r2.symm⟩
    ·rw [if_neg h0] at c1;exact absurd c1 h0
   ·cases hq
  ·unfold V3 at h
   obtain ⟨j,hj,rfl⟩:=aQ.1 h
   have hj':=aR.1 hj
   rw [nP] at hj'
   exact ⟨.inr ⟨j,by omega,rfl,rfl⟩,(U.S'.c_in (j:=(j:Int)) (by omega)).1⟩
 ·by_cases hd:p<(iL (f8 into nR) mm' N).length
  ·obtain ⟨h1,h2⟩:=U.S'.t_at hd
   obtain ⟨v,hv,hT⟩:=U.left h1
   have hx:=(U.S'.d_iff.1 h1).1
   have hvr:=(U.S.d_iff.1 hv).1
   obtain ⟨x1,x2⟩:=U.to _ hx.1 hx.2
   refine ⟨v,aV.2 (.inl ?_)⟩
   unfold V4
   have hvl:v.toNat<(oP (kP keep mm nH) b).length:=by rw [hlt];omega
   refine bH.2 ⟨v.toNat,aR.2 hvl,?_⟩
   rw [show ((v.toNat:Nat):Int)=v by omega,Ly (by omega) (by rw [pD];omega),if_pos (by omega:0≤iA (kP keep mm nH) v),hT,x2,h2,if_pos (by omega)]
   simp
  ·obtain ⟨j,hj,_,hc⟩:=U.S'.c_at (f:=p - (iL (f8 into nR) mm' N).length) (by omega)
   refine ⟨iA mm j,aV.2 (.inr ?_)⟩
   unfold V3
   have hjl:j.toNat<(wI (f8 into nR) (fI (f8 into nR) into keep) mm' nL N).length:=by rw [nP];omega
   refine aQ.2 ⟨j.toNat,aR.2 hjl,?_⟩
   rw [show ((j.toNat:Nat):Int)=j by omega,hc]
   congr 1;omega
theorem Und.idx (U:Und keep into mm m0 b mm' nL nR nH N){x:Int}(hx:x∈iL (f8 into nR) mm' N):idx (kP keep mm nH) (iA m0 x)∈iL keep mm nH∧iA (kP keep mm nH) (idx (kP keep mm nH) (iA m0 x))=iA m0 x:=by
 obtain ⟨v,hv,hT⟩:=U.left hx
 have hvr:=(U.S.d_iff.1 hv).1
 have hxr:=(U.S'.d_iff.1 hx).1
 have hm:iA m0 x∈kP keep mm nH:=by rw [← hT];exact fG hvr.1 (by rw [pD];omega)
 obtain ⟨h1,h2,h3⟩:=Kx ((cQ _ _).2 hm)
 have he:iA (kP keep mm nH) (Go.Abs.idx (kP keep mm nH) (iA m0 x))=iA m0 x:=by unfold iA at h3 ⊢;rw [h3];rfl
 rw [pD] at h2
 exact ⟨U.S.t_pos (by omega) (by rw [he];exact (U.to x hxr.1 hxr.2).1.1),he⟩
theorem Und.bak (U:Und keep into mm m0 b mm' nL nR nH N){n:Nat}(hn:n=(iL (f8 into nR) mm' N).length+(bF (fI (f8 into nR) into keep) nL).length) :
  ∀ p:Nat,p<n→CH keep into mm m0 mm' nL nR nH N p (iA (KQ n m0 (kP (f8 into nR) mm' N) (kP keep mm nH) (wI (f8 into nR) (fI (f8 into nR) into keep) mm' nL N) mm keep) p):=by
 intro p hp
 unfold KQ
 rw [← Iu]
 refine EU _ _ (fun q hq=>?_) p (by simpa using hp) (.inr ?_)
 ·rcases aV.1 hq with h|h
  ·unfold WM at h
   obtain ⟨i,hi,hq⟩:=bH.1 h
   have hi':=aR.1 hi
   rw [pD] at hi'
   split at hq
   ·rename_i c
    simp only [aW] at hq
    subst hq
    have hd:=U.S'.t_pos (x:=(i:Int)) (by omega) c
    obtain ⟨i1,i2⟩:=U.idx hd
    exact ⟨.inl ⟨_,hd,rfl,i1,i2⟩,c⟩
   ·cases hq
  ·unfold WL at h
   obtain ⟨j,hj,hq⟩:=bH.1 h
   have hj':=aR.1 hj
   rw [nP] at hj'
   split at hq
   ·cases hq
   ·simp only [aW] at hq
    subst hq
    exact ⟨.inr ⟨j,by omega,rfl,rfl⟩,(U.S'.c_in (j:=(j:Int)) (by omega)).1⟩
 ·by_cases hd:p<(iL (f8 into nR) mm' N).length
  ·obtain ⟨h1,h2⟩:=U.S'.t_at hd
   have hx:=(U.S'.d_iff.1 h1).1
   refine ⟨Go.Abs.idx (kP keep mm nH) (iA m0 (iA (iL (f8 into nR) mm' N) p)),aV.2 (.inl ?_)⟩
   unfold WM
   have hxl:(iA (iL (f8 into nR) mm' N) p).toNat<(kP (f8 into nR) mm' N).length:=by rw [pD];omega
   refine bH.2 ⟨(iA (iL (f8 into nR) mm' N) p).toNat,aR.2 hxl,?_⟩
   rw [show (((iA (iL (f8 into nR) mm' N) p).toNat:Nat):Int)=iA (iL (f8 into nR) mm' N) p by omega,h2,if_pos (by omega)]
   simp
  ·obtain ⟨j,hj,hji,hc⟩:=U.S'.c_at (f:=p - (iL (f8 into nR) mm' N).length) (by omega)
   refine ⟨iA mm j,aV.2 (.inr ?_)⟩
   unfold WL
   have hjl:j.toNat<(wI (f8 into nR) (fI (f8 into nR) into keep) mm' nL N).length:=by rw [nP];omega
   refine bH.2 ⟨j.toNat,aR.2 hjl,?_⟩
   rw [show ((j.toNat:Nat):Int)=j by omega,hc,if_neg]
   ·simp;omega
   ·intro hk
    obtain ⟨_,_,_,h,_⟩:=U.kept ((cQ _ _).1 hk)
    exact hji h
theorem Und.same (U:Und keep into mm m0 b mm' nL nR nH N){n:Nat}(hn:n=(iL (f8 into nR) mm' N).length+(bF (fI (f8 into nR) into keep) nL).length) :
  KQ n m0 (kP (f8 into nR) mm' N) (kP keep mm nH) (wI (f8 into nR) (fI (f8 into nR) into keep) mm' nL N) mm keep=AZ (oP (kP keep mm nH) b) (kP (f8 into nR) mm' N) (wI (f8 into nR) (fI (f8 into nR) into keep) mm' nL N) mm n:=by
 have h1:(KQ n m0 (kP (f8 into nR) mm' N) (kP keep mm nH) (wI (f8 into nR) (fI (f8 into nR) into keep) mm' nL N) mm keep).length=n:=by unfold KQ;rw [oW,oW,jU]
 have h2:(AZ (oP (kP keep mm nH) b) (kP (f8 into nR) mm' N) (wI (f8 into nR) (fI (f8 into nR) into keep) mm' nL N) mm n).length=n:=by unfold AZ;rw [oW,oW,jU]
 exact Ta (by rw [h1,h2]) fun p hp=>U.uni (U.bak hn p (by omega)) (U.org hn p (by omega))
theorem Und.perm (U:Und keep into mm m0 b mm' nL nR nH N){n:Nat}(hn:n=(iL (f8 into nR) mm' N).length+(bF (fI (f8 into nR) into keep) nL).length){l:List Int}(hl:l.length=n)(hR:∀ p:Nat,p<n→CH keep into mm m0 mm' nL nR nH N p (iA l p)) :
  (∀ x∈l,0≤x∧x<nH)∧l.Nodup∧n=nH:=by
 have hnd:l.Nodup:=by
  rw [cY,dH]
  intro i j hi hj hij he
  have h1:=hR i (by omega)
  have h2:=hR j (by omega)
  rw [lH hi] at h1
  rw [lH hj,← he] at h2
  have:=U.inj h1 h2
  omega
 have hin:∀ x∈l,0≤x∧x<nH:=fun x hx=>by
  obtain ⟨i,hi,rfl⟩:=w5 hx
  exact (U.range (hR i (by omega))).2
 have h1:=BT hin hnd
 have h2:bF l nH=[]:=by
  refine xP.2 fun x hx=>?_
  obtain ⟨h3,h4⟩:=fC.1 hx
  obtain ⟨p,hp⟩:=U.onto h3
  have hr:=(U.range hp).1
  have h5:=hR p.toNat (by omega)
  rw [show ((p.toNat:Nat):Int)=p by omega] at h5
  refine h4 ?_
  rw [U.uni hp h5]
  exact fG hr.1 (by omega)
 rw [h2] at h1
 simp at h1
 exact ⟨hin,hnd,by omega⟩
theorem Und.cases (U:Und keep into mm m0 b mm' nL nR nH N){p v:Int}(h:CH keep into mm m0 mm' nL nR nH N p v) :
  (∃ x∈iL (f8 into nR) mm' N,iA (kP (f8 into nR) mm' N) x=p∧v∈iL keep mm nH∧iA (kP keep mm nH) v=iA m0 x) ∨
  (∃ (j:Int) (f:Nat),(0≤j∧j<nL)∧j∉keep∧f<(bF (fI (f8 into nR) into keep) nL).length∧iA (bF (fI (f8 into nR) into keep) nL) f=j∧p=((iL (f8 into nR) mm' N).length+f:Nat)∧iA mm j=v):=by
 rcases h with h|⟨j,hj,rfl,rfl⟩
 ·exact .inl h
 ·by_cases hk:j∈keep
  ·obtain ⟨y,hyr,hyi,_,hc,hd,hm⟩:=U.kept hk
   exact .inl ⟨_,hd,hc.symm,U.S.kept_in hk,hm.symm⟩
  ·obtain ⟨f,h1,h2,h3⟩:=U.fresh hj hk
   exact .inr ⟨j,f,hj,hk,h1,h2,h3,rfl⟩
theorem Mx (track undo com mat:List Int)(n:Nat):(AZ track undo com mat n).length=n:=by unfold AZ;rw [oW,oW,jU]
end
def abM:Pattern:=⟨⟨[],[]⟩,[],0,[]⟩
def Aq (s:Stp26)(i:Nat):List Int:=s.before.values[(iA s.mat.m.nodes i).toNat]?.getD []
def S3 (t:Types)(s:Stp26)(i k:Nat):Int :=
 if mem s.rule.keep.nodes i=true then (s.after.values[(iA s.track.nodes (iA s.mat.m.nodes i)).toNat]?.getD [])[k]?.getD 0 else ((bM t (gN s.before.graph (iA s.mat.m.nodes i)))[k]?.getD mQ).low
def U6 (t:Types)(s:Stp26)(i k:Nat):List Slot:=if (Aq s i)[k]?.getD 0≠S3 t s i k then [⟨i,k,⟨-1,(Aq s i)[k]?.getD 0⟩⟩] else []
def SB (t:Types)(s:Stp26)(i n:Nat):List Slot:=(List.range n).flatMap (U6 t s i)
def JX (t:Types)(s:Stp26)(n:Nat):List Slot:=(List.range n).flatMap fun i=>SB t s i (Aq s i).length
def Sq (r:Rule):Part:=⟨f8 r.into.nodes r.right.graph.nodes.length,f8 r.into.edges r.right.graph.edges.length⟩
def XO (r:Rule):Part:=⟨fI (Sq r).nodes r.into.nodes r.keep.nodes,fI (Sq r).edges r.into.edges r.keep.edges⟩
def gB (t:Types)(s:Stp26):Rule :=
 ⟨s.rule.name,⟨nI s.rule.right.graph s.after.graph s.comatch,[],0,[]⟩,⟨nI s.rule.left.graph s.before.graph s.mat.m,JX t s s.mat.m.nodes.length,0,[]⟩,Sq s.rule,XO s.rule,
  decide s.comatch.nodes.Nodup&&decide s.comatch.edges.Nodup,.mk 1 [] ⟨[],[]⟩ abM⟩
theorem Fz {t:Types}{s:Stp26}{n:Nat}{x:Slot}:x∈JX t s n↔∃ i,i<n∧∃ k,k<(Aq s i).length∧(Aq s i)[k]?.getD 0≠S3 t s i k∧x=⟨i,k,⟨-1,(Aq s i)[k]?.getD 0⟩⟩:=by
 unfold JX SB U6
 simp only [bH,aR]
 refine exists_congr fun i=>and_congr_right fun _=>exists_congr fun k=>and_congr_right fun _=>?_
 split
 ·rename_i h;simp [h]
 ·rename_i h;simp [h]
structure HIso (a b:Host) (s:Part):Prop where
 nl:s.nodes.length=a.graph.nodes.length
 el:s.edges.length=a.graph.edges.length
 nn:a.graph.nodes.length=b.graph.nodes.length
 en:a.graph.edges.length=b.graph.edges.length
 av:a.values.length=a.graph.nodes.length
 bv:b.values.length=b.graph.nodes.length
 ni:∀ x∈s.nodes,0≤x∧x<b.graph.nodes.length
 ei:∀ x∈s.edges,0≤x∧x<b.graph.edges.length
 nd:s.nodes.Nodup
 ed:s.edges.Nodup
 ty:∀ p:Int,0≤p→p<a.graph.nodes.length→gN a.graph p=gN b.graph (iA s.nodes p)
 eg:∀ p:Int,0≤p→p<a.graph.edges.length→eA b.graph (iA s.edges p)=⟨(eA a.graph p).type,iA s.nodes (eA a.graph p).from_,iA s.nodes (eA a.graph p).to_⟩
 va:∀ p:Int,0≤p→p<a.graph.nodes.length→a.values[p.toNat]?.getD []=b.values[(iA s.nodes p).toNat]?.getD []
def UB (l:List Int)(k:Nat):List (Int × Int):=(List.range k).map fun (i:Nat)=>(iA l i,(i:Int))
def tY (l:List Int):List Int:=wU (UB l l.length) (List.replicate l.length 0)
theorem o3 {l:List Int}{n:Nat}(hl:l.length=n)(hr:∀ x∈l,0≤x∧x<n)(hd:l.Nodup){v:Int}(h:0≤v∧v<n):v∈l:=by
 have h1:=BT hr hd
 refine bA fun hv=>?_
 have h2:v∈bF l n:=fC.2 ⟨h,hv⟩
 rw [bJ (show (bF l n).length=0 by omega)] at h2
 cases h2
theorem Ku {l:List Int}{n:Nat}(hl:l.length=n)(hr:∀ x∈l,0≤x∧x<n)(hd:l.Nodup){y:Int}(h0:0≤y)(h:y<n):(0≤iA (tY l) y∧iA (tY l) y<n)∧iA l (iA (tY l) y)=y:=by
 have:=EU (R:=fun p v=>(0≤v∧v<n)∧iA l v=p) (UB l l.length) (List.replicate l.length 0) (fun q hq=>by
  unfold UB at hq
  obtain ⟨i,hi,rfl⟩:=aQ.1 hq
  have hi':=aR.1 hi
  exact ⟨⟨by simp only;omega,rfl⟩,(hr _ (fG (by omega) (by omega))).1⟩) y.toNat (by simp;omega) (.inr (by
  obtain ⟨i,hi,he⟩:=w5 (o3 hl hr hd ⟨h0,h⟩)
  refine ⟨i,?_⟩
  unfold UB
  exact aQ.2 ⟨i,aR.2 hi,by rw [he];congr 1;omega⟩))
 rw [show ((y.toNat:Nat):Int)=y by omega] at this
 exact this
theorem Qk {l:List Int}{n:Nat}(hl:l.length=n)(hr:∀ x∈l,0≤x∧x<n)(hd:l.Nodup){x:Int}(h0:0≤x)(h:x<n):(0≤iA l x∧iA l x<n)∧iA (tY l) (iA l x)=x:=by
 have h1:=hr _ (fG h0 (by omega:x<l.length))
 obtain ⟨h2,h3⟩:=Ku hl hr hd h1.1 h1.2
 refine ⟨h1,?_⟩
 have:=qG hd (i:=(iA (tY l) (iA l x)).toNat) (j:=x.toNat) (by omega) (by omega) (by
  rw [show (((iA (tY l) (iA l x)).toNat:Nat):Int)=iA (tY l) (iA l x) by omega,show ((x.toNat:Nat):Int)=x by omega];exact h3)
 omega
section
variable {t:Types} {r:Rule} {h:Host} {m:Mat}
theorem StepIn.srtN (S:StepIn t r h m):Srt r.keep.nodes r.into.nodes m.m.nodes r.left.graph.nodes.length r.right.graph.nodes.length h.graph.nodes.length :=
 ⟨S.hR.keep.1.1,S.hR.keep.2.1,S.hR.keep.2.2.2.1,S.intoN.1,S.hm.len,S.imN,S.dup.1⟩
theorem StepIn.srtE (S:StepIn t r h m):Srt r.keep.edges r.into.edges m.m.edges r.left.graph.edges.length r.right.graph.edges.length h.graph.edges.length :=
 ⟨S.hR.keep.1.2,S.hR.keep.2.2.1,S.hR.keep.2.2.2.2,S.intoN.2,S.hm.elen,S.imE,S.dup.2⟩
theorem StepIn.restN (S:StepIn t r h m):(bY r h m).nodes=iL r.keep.nodes m.m.nodes h.graph.nodes.length:=by rw [S.rest];rfl
theorem StepIn.restE (S:StepIn t r h m):(bY r h m).edges=iL r.keep.edges m.m.edges h.graph.edges.length:=by rw [S.rest];rfl
theorem StepIn.trN (S:StepIn t r h m):(dJ r h m).nodes=kP r.keep.nodes m.m.nodes h.graph.nodes.length:=by unfold dJ kP;rw [S.restN]
theorem StepIn.trE (S:StepIn t r h m):(dJ r h m).edges=kP r.keep.edges m.m.edges h.graph.edges.length:=by unfold dJ kP;rw [S.restE]
theorem StepIn.coN (S:StepIn t r h m):(dO r h m).nodes=wI r.keep.nodes r.into.nodes m.m.nodes r.right.graph.nodes.length h.graph.nodes.length:=by unfold dO wI;rw [S.restN,S.trN]
theorem StepIn.coE (S:StepIn t r h m):(dO r h m).edges=wI r.keep.edges r.into.edges m.m.edges r.right.graph.edges.length h.graph.edges.length:=by unfold dO wI;rw [S.restE,S.trE]
theorem StepIn.sizeN (S:StepIn t r h m):(dR t r h m).graph.nodes.length=(iL r.keep.nodes m.m.nodes h.graph.nodes.length).length+(bF r.into.nodes r.right.graph.nodes.length).length:=by
 show (bI t r h m).graph.nodes.length=_
 rw [S.bareN,aJ,aS,aS,S.restN];rfl
theorem StepIn.sizeE (S:StepIn t r h m):(dR t r h m).graph.edges.length=(iL r.keep.edges m.m.edges h.graph.edges.length).length+(bF r.into.edges r.right.graph.edges.length).length:=by
 show (bI t r h m).graph.edges.length=_
 rw [S.bareE,aJ,aS,aS,S.restE];rfl
end
structure Back (t:Types) (r:Rule) (h:Host) (m:Mat) (g:Host) (m0:Part) (m':Mat):Prop where
 K:StepOk t r h m
 I:HIso g (dR t r h m) m0
 bn:m'.m.nodes=(dO r h m).nodes.map fun k=>iA (tY m0.nodes) k
 be:m'.m.edges=(dO r h m).edges.map fun k=>iA (tY m0.edges) k
 K':StepOk t (gB t (b9 t r h m)) g m'
def YA (T T' c' mm:Part)(b:Part)(nn ne:Nat):Part:=⟨AZ (oP T.nodes b.nodes) T'.nodes c'.nodes mm.nodes nn,AZ (oP T.edges b.edges) T'.edges c'.edges mm.edges ne⟩
section
variable {t:Types} {r:Rule} {h g:Host} {m m':Mat} {m0:Part}
theorem yN {l:List Int}(f:Int→Int){k:Int}(h0:0≤k)(h:k<l.length):iA (l.map f) k=f (iA l k):=by
 have h':k.toNat<l.length:=by omega
 unfold iA;rw [aH,aA h'];rfl
theorem Back.undN (B:Back t r h m g m0 m'):Und r.keep.nodes r.into.nodes m.m.nodes m0.nodes (tY m0.nodes) m'.m.nodes r.left.graph.nodes.length r.right.graph.nodes.length h.graph.nodes.length g.graph.nodes.length where
 S:=B.K.S.srtN
 n:=by rw [B.I.nn];exact B.K.S.sizeN
 to x h0 h1:=Qk B.I.nl (by rw [B.I.nn];exact B.I.ni) B.I.nd h0 h1
 of x h0 h1:=Ku B.I.nl (by rw [B.I.nn];exact B.I.ni) B.I.nd h0 h1
 m y h0 h1:=by rw [B.bn,yN _ h0 (by rw [B.K.S.coN,nP];omega),B.K.S.coN]
 S':=by
  have hS:=B.K'.S.srtN
  have e1:(gB t (b9 t r h m)).left.graph.nodes.length=r.right.graph.nodes.length:=by show ((dO r h m).nodes.map _).length=_;rw [aS,B.K.S.coN,nP]
  have e2:(gB t (b9 t r h m)).right.graph.nodes.length=r.left.graph.nodes.length:=by show (m.m.nodes.map _).length=_;rw [aS];exact B.K.S.hm.len
  rw [e1,e2] at hS
  exact hS
theorem Back.undE (B:Back t r h m g m0 m'):Und r.keep.edges r.into.edges m.m.edges m0.edges (tY m0.edges) m'.m.edges r.left.graph.edges.length r.right.graph.edges.length h.graph.edges.length g.graph.edges.length where
 S:=B.K.S.srtE
 n:=by rw [B.I.en];exact B.K.S.sizeE
 to x h0 h1:=Qk B.I.el (by rw [B.I.en];exact B.I.ei) B.I.ed h0 h1
 of x h0 h1:=Ku B.I.el (by rw [B.I.en];exact B.I.ei) B.I.ed h0 h1
 m y h0 h1:=by rw [B.be,yN _ h0 (by rw [B.K.S.coE,nP];omega),B.K.S.coE]
 S':=B.K'.S.srtE
theorem Back.left_len (B:Back t r h m g m0 m'):(gB t (b9 t r h m)).left.graph.nodes.length=r.right.graph.nodes.length∧(gB t (b9 t r h m)).right.graph.nodes.length=r.left.graph.nodes.length :=
 ⟨by show ((dO r h m).nodes.map _).length=_;rw [aS,B.K.S.coN,nP],by show (m.m.nodes.map _).length=_;rw [aS];exact B.K.S.hm.len⟩
end
end Go.Abs
end
