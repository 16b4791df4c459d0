/- Plain law: made graphs, shuffled graphs, kept parts (what th -/
import Derived.Test.YtjfaalokjnmdoaaGreatZcAS
import Derived.Test.YtjfaalokjnmdoaaGreatZcAP
set_option linter.unusedVariables false
set_option linter.unusedSimpArgs false
section
set_option maxRecDepth 100000
set_option maxHeartbeats 4000000
open Go Go.Proofs
namespace Go.Abs
theorem DN {g:Graph}{p:Part}(h:subF g p=0):(bS g p).nodes.length=p.nodes.length∧(bS g p).edges.length=p.edges.length:=by
 unfold bS;rw [if_pos h];simp
theorem Nk {g:Graph}{p:Part}(h:subF g p=0):p.nodes.length≤g.nodes.length∧p.edges.length≤g.edges.length:=by
 obtain ⟨_,h1,h2,h3⟩:=rI h
 exact ⟨Ka h1 h2,Ka (Nl h) h3⟩
theorem Oj {g:Graph}{p:Part}(h:subF g p=0):graphF (bS g p)=0:=by
 obtain ⟨hg,hs,hn,he⟩:=rI h
 obtain ⟨l1,l2⟩:=DN h
 obtain ⟨l3,l4⟩:=Nk h
 have hle:=cC hg
 have hin:=dL hg
 refine n4 (by omega) (by omega) (fun a ha=>?_) (fun x hx=>?_)
 ·unfold bS at ha;rw [if_pos h,aT] at ha
  obtain ⟨n,hn',rfl⟩:=ha
  exact hin.1 _ (Av (hn n hn').1 (hn n hn').2)
 ·rw [l1]
  unfold bS at hx;rw [if_pos h,aT] at hx
  obtain ⟨k,hk,rfl⟩:=hx
  rw [JX]
  have h1:=hin.2 _ (CS (he k hk).1 (he k hk).2)
  have h2:=AT h hk
  have h3:=(Fx hs h2.1).1
  have h4:=(Fx hs h2.2).1
  exact ⟨h1.1,by show (0:Int)≤(oT _ _:Nat)∧((oT _ _:Nat):Int)<_;omega,by show (0:Int)≤(oT _ _:Nat)∧((oT _ _:Nat):Int)<_;omega⟩
theorem Cz {a b:Graph}{m:Part}(ha:graphF a=0)(hb:graphF b=0)(l1:m.nodes.length=a.nodes.length)(l2:m.edges.length=a.edges.length)
  (hn:∀ i:Int,0≤i→i<a.nodes.length→(0≤iA m.nodes i∧iA m.nodes i<b.nodes.length)∧gN b (iA m.nodes i)=gN a i)
  (he:∀ k:Int,0≤k→k<a.edges.length→(0≤iA m.edges k∧iA m.edges k<b.edges.length)∧(eA a k).type=(eA b (iA m.edges k)).type∧iA m.nodes (eA a k).from_=(eA b (iA m.edges k)).from_∧iA m.nodes (eA a k).to_=(eA b (iA m.edges k)).to_):dE a b m=0:=by
 unfold dE
 rw [if_neg (by rw [ha];simp),if_neg (by rw [hb];simp),if_neg (by omega)]
 have h1:bR (i6 a b m) 0 a.nodes.length=0:=jP _ _ fun i _ hi=>by
  have:=hn i (by omega) (by omega)
  unfold iA gN at this
  unfold i6
  simp only [Int.toNat_natCast] at this
  rw [if_neg (by omega),if_neg (by rw [this.2];simp)]
 rw [if_neg (by rw [h1];simp)]
 refine jP _ _ fun k _ hk=>?_
 have:=he k (by omega) (by omega)
 unfold iA eA at this
 simp only [Int.toNat_natCast] at this
 obtain ⟨q1,q2,q3,q4⟩:=this
 unfold jF
 rw [if_neg (by omega),if_neg (by rw [q2];simp),if_neg]
 rintro (h|h)
 ·exact h q3
 ·exact h q4
theorem nT {t:Types}{g:Graph}(hn:∀ a∈g.nodes,a<t.nodes.length)(he:∀ x∈g.edges,x.type<t.edges.length):dP t g=true:=by
 unfold dP
 rw [aJ,cQ,cQ,gI,gI]
 exact ⟨fun a ha=>by have:=hn a ha;simpa using this,fun x hx=>by have:=he x hx;simpa using this⟩
section
variable {g:Graph} {p:Part} {more:Graph} {kept:Part} {im:List Int}
theorem Ke {α:Type}(a b:List α){i:Nat}(h:i<a.length):(a++b)[i]?=a[i]?:=aU h
theorem Si {α:Type}(a b:List α){i:Nat}(h:a.length≤i):(a++b)[i]?=b[i - a.length]?:=bE h
end
theorem S0 {l:List Int}{x:Int}(h:x∈l):∃ j:Int,(0≤j∧j<l.length)∧iA l j=x:=by
 obtain ⟨i,hi,he⟩:=aN h
 exact ⟨i,by omega,by unfold iA;simp [hi,he]⟩
theorem TR {g:Graph}{i:Nat}(h:i<g.nodes.length):gN g i=g.nodes[i]:=by unfold gN;simp [h]
theorem Pv {g:Graph}{i:Nat}(h:i<g.edges.length):eA g i=g.edges[i]:=by unfold eA;simp [h]
theorem RN {t:Types}{g:Graph}{ns es:List Int}(h1:∀ i∈ns,absB t g i=false)(h2:∀ k∈es,unfitB t g k=false):zX t g ns es=true:=by
 unfold zX
 rw [aJ,cQ,cQ,gI,gI]
 exact ⟨fun i hi=>by rw [h1 i hi];simp,fun k hk=>by rw [h2 k hk];simp⟩
section
variable {t:Types} {a b:Rule} {o:Ovl}
theorem Fz {g:Graph}(hv:(b9 t).2=0)(hg:graphF g=0)(ht:dP t g=true):bN t ⟨g,[],0,[]⟩=0:=by
 unfold bN
 rw [if_neg (by rw [hv];simp),if_neg (by show ¬ graphF g≠0;rw [hg];simp),if_neg (by show ¬ dP t g=false;rw [ht];simp),if_neg (by show ¬ inF 0 0 12=false;decide),if_neg (by simp),if_neg (by simp [eX]),if_neg (by show ¬ gJ 0 []≠0;decide),if_neg (by show ¬ mem (iR (0:Int).toNat []) false=true;decide)]
end
theorem Ay {f:Nat→Int}{nm:Nat→ByteArray}{last:ByteArray × Int}:∀ (n k:Nat),(∀ j,k≤j→j<k+n→f j=0)→dM f nm last k n=last
 | 0,k,_=>rfl
 | n+1,k,h=>by
  unfold dM
  rw [if_neg (by rw [h k (aY _) (by omega)];simp)]
  exact Ay n (k+1) fun j h1 h2=>h j (by omega) (by omega)
theorem Rh:∀ i,i<6→fT (tyA.extract i (i+1))=true:=by decide +kernel
theorem KF:∀ i,i<6→fT (tyU.extract i (i+1))=true:=by decide +kernel
theorem Rg:∀ i,i<5→fT (tyE.extract i (i+1))=true:=by decide +kernel
theorem T9:∀ i,i<6→∀ j,j<i→tyA.extract j (j+1)≠tyA.extract i (i+1):=by decide +kernel
theorem T8:∀ i,i<5→∀ j,j<i→tyE.extract j (j+1)≠tyE.extract i (i+1):=by decide +kernel
theorem LM:kY [⟨#[111,102,102]⟩,⟨#[111,110]⟩]=0:=by decide +kernel
theorem FO {ns es:List B2}{i:Nat}(hi:i<(iH ns es).nodes.length):(iH ns es).nodes[i]=kZ i (iD ns i) :=
 (uY (aA hi)).2
theorem Ip {ns es:List B2}{i:Nat}(hi:i<(iH ns es).edges.length):(iH ns es).edges[i]=Bo (kH ns) i (iD es i):=by
 simp [iH,qI]
theorem SL {xs:List Int}{i j:Nat}(hi:i<xs.length)(hj:j<xs.length){v:Int}(hv:v∈xs):v∈Jf xs i j:=by
 obtain ⟨k,hk⟩:=List.getElem?_of_mem hv
 by_cases h1:k=i
 ·subst h1;exact aH (i:=j) (by rw [s8 hi hj,if_pos rfl,hk])
 ·by_cases h2:k=j
  ·subst h2
   by_cases h3:i=k
   ·exact absurd h3.symm h1
   ·exact aH (i:=i) (by rw [s8 hi hj,if_neg h3,if_pos rfl,hk])
  ·exact aH (i:=k) (by rw [s8 hi hj,if_neg h2,if_neg h1,hk])
theorem KQ (n:Nat)(l:List UInt8){v:Int}(hv:0≤v∧v<n):∀ k,k≤n→v∈(List.range k).foldl (KR n l) (cF n)
 | 0,_=>by
  have:=mV (n:=n) (a:=v.toNat) (by omega)
  exact aH (i:=v.toNat) (by show (cF n)[v.toNat]?=some v;rw [this];congr 1;omega)
 | k+1,h=>by
  have ih:=KQ n l hv k (by omega)
  have hp:=Ci n l k (by omega)
  rw [bJ,jU]
  exact SL (by rw [hp.1];omega) (by rw [hp.1];exact KS (by omega)) ih
theorem HT (n:Nat)(l:List UInt8){v:Int}(hv:0≤v∧v<n):v∈kG n l:=KQ n l hv _ (by omega)
theorem JH {n:Nat}{p:List Int}(h:mJ n p){i j:Nat}(hi:i<p.length)(hj:j<p.length)(hne:i≠j):p[i]≠p[j]:=by
 intro he
 rcases Nat.lt_or_gt_of_ne hne with hlt|hlt
 ·exact h.2.2 i j hlt hj (by rw [aA hi,aA hj,he])
 ·exact h.2.2 j i hlt hi (by rw [aA hi,aA hj,he])
theorem Aj {n:Nat}{p:List Int}(h:mJ n p):p.Nodup:=by
 rw [B8,dB]
 exact fun a b ha hb hab=>JH h ha hb (by omega)
theorem O3 {n:Nat}{p xs:List Int}(hp:mJ n p)(hx:xs.length=n){i:Nat}(hi:i<p.length):∀ k,k≤n→i<k→(Cr p xs k)[p[i].toNat]?=xs[i]?
 | 0,_,h=>by omega
 | k+1,hk,h=>by
  rw [Cq]
  have hkp:k<p.length:=by rw [hp.1];omega
  have r1:=hp.2.1 _ (aC hi)
  have r2:=hp.2.1 _ (aC hkp)
  rw [aA hkp,aD]
  rcases bZ i k with hlt|hge
  ·have:=JH hp hi hkp (by omega)
   rw [zN (by omega)]
   exact O3 hp hx hi k (by omega) hlt
  ·obtain rfl:i=k:=by omega
   rw [nJ (by rw [tF];omega),aA (show i<xs.length by omega)];rfl
theorem O4 {n:Nat}{p q:List Int}{es:List Edge}(hq:mJ n q)(hx:es.length=n){i:Nat}(hi:i<q.length):∀ k,k≤n→i<k→(D6 p q es k)[q[i].toNat]?=some (Ld p (es[i]?.getD b7))
 | 0,_,h=>by omega
 | k+1,hk,h=>by
  rw [Cs]
  have hkp:k<q.length:=by rw [hq.1];omega
  have r1:=hq.2.1 _ (aC hi)
  have r2:=hq.2.1 _ (aC hkp)
  rw [aA hkp,aD]
  rcases bZ i k with hlt|hge
  ·have:=JH hq hi hkp (by omega)
   rw [zN (by omega)]
   exact O4 hq hx hi k (by omega) hlt
  ·obtain rfl:i=k:=by omega
   rw [nJ (by rw [tG];omega)];rfl
section
variable {g:Graph} {p q:List Int}
theorem NE (hg:graphF g=0):wH g p q=⟨Cr p g.nodes g.nodes.length,D6 p q g.edges g.edges.length⟩:=if_pos hg
theorem Jy (hg:graphF g=0):(wH g p q).nodes.length=g.nodes.length∧(wH g p q).edges.length=g.edges.length:=by
 rw [NE hg];exact ⟨tF _ _ _,tG _ _ _ _⟩
theorem Es {n:Nat}(hp:mJ n p){i:Int}(h0:0≤i)(hi:i<n):0≤iA p i∧iA p i<n:=hp.2.1 _ (Od h0 (by rw [hp.1];exact hi))
theorem Fd (hg:graphF g=0)(hp:mJ g.nodes.length p){i:Int}(h0:0≤i)(hi:i<g.nodes.length):gN (wH g p q) (iA p i)=gN g i:=by
 rw [NE hg]
 have hip:i.toNat<p.length:=by rw [hp.1];omega
 have:=O3 hp rfl hip g.nodes.length (aY _) (by omega)
 show ((Cr p g.nodes g.nodes.length)[(iA p i).toNat]?).getD 0=(g.nodes[i.toNat]?).getD 0
 rw [show iA p i=p[i.toNat] by unfold iA;rw [aA hip];rfl,this]
theorem Fe (hg:graphF g=0)(hq:mJ g.edges.length q){i:Int}(h0:0≤i)(hi:i<g.edges.length):eA (wH g p q) (iA q i)=Ld p (eA g i):=by
 rw [NE hg]
 have hip:i.toNat<q.length:=by rw [hq.1];omega
 have:=O4 (p:=p) hq rfl hip g.edges.length (aY _) (by omega)
 show ((D6 p q g.edges g.edges.length)[(iA q i).toNat]?).getD b7=Ld p ((g.edges[i.toNat]?).getD b7)
 rw [show iA q i=q[i.toNat] by unfold iA;rw [aA hip];rfl,this];rfl
theorem Ep (x:Edge):Ld p x=⟨x.type,iA p x.from_,iA p x.to_⟩:=rfl
def G1 (n:Nat)(p:List Int):Prop:=∀ v:Int,0≤v→v<n→∃ i:Int,(0≤i∧i<n)∧iA p i=v
theorem Pe {n:Nat}(hp:mJ n p)(h:∀ v:Int,0≤v∧v<n→v∈p):G1 n p:=fun v h0 h1=>by
 obtain ⟨j,hj,he⟩:=S0 (h v ⟨h0,h1⟩)
 exact ⟨j,by rw [← hp.1];exact hj,he⟩
theorem Uh (hg:graphF g=0)(hp:mJ g.nodes.length p)(hq:mJ g.edges.length q)(op:G1 g.nodes.length p)(oq:G1 g.edges.length q):graphF (wH g p q)=0:=by
 have hle:=cC hg
 have hin:=dL hg
 have hl:=Jy (p:=p) (q:=q) hg
 refine n4 (by omega) (by omega) (fun a ha=>?_) (fun x hx=>?_)
 ·obtain ⟨j,hj,rfl⟩:=aN ha
  rw [← TR hj]
  obtain ⟨i,hi,he⟩:=op (j:Int) (by omega) (by omega)
  rw [← he,Fd hg hp hi.1 hi.2]
  exact hin.1 _ (Av hi.1 hi.2)
 ·obtain ⟨j,hj,rfl⟩:=aN hx
  rw [← Pv hj]
  obtain ⟨i,hi,he⟩:=oq (j:Int) (by omega) (by omega)
  rw [← he,Fe hg hq hi.1 hi.2,Ep]
  have h1:=hin.2 _ (CS hi.1 hi.2)
  exact ⟨h1.1,by rw [hl.1];exact Es hp h1.2.1.1 h1.2.1.2,by rw [hl.1];exact Es hp h1.2.2.1 h1.2.2.2⟩
theorem P6 {t:Types}(hg:graphF g=0)(ht:dP t g=true)(hp:mJ g.nodes.length p)(hq:mJ g.edges.length q)(op:G1 g.nodes.length p)(oq:G1 g.edges.length q):dP t (wH g p q)=true:=by
 have hin:=iV hg ht
 have hl:=Jy (p:=p) (q:=q) hg
 refine nT (fun a ha=>?_) (fun x hx=>?_)
 ·obtain ⟨j,hj,rfl⟩:=aN ha
  rw [← TR hj]
  obtain ⟨i,hi,he⟩:=op (j:Int) (by omega) (by omega)
  rw [← he,Fd hg hp hi.1 hi.2]
  exact (hin.1 _ (Av hi.1 hi.2)).2
 ·obtain ⟨j,hj,rfl⟩:=aN hx
  rw [← Pv hj]
  obtain ⟨i,hi,he⟩:=oq (j:Int) (by omega) (by omega)
  rw [← he,Fe hg hq hi.1 hi.2,Ep]
  exact (hin.2 _ (CS hi.1 hi.2)).1.2
end
theorem Io (b:List Bool):(vT b).Pairwise (· < ·):=by
 have h:=Fp (fun i=>b[i]?.getD false) b.length
 exact h
theorem tQ {b:List Bool}{x:Int}:x∈vT b↔(0≤x∧x<b.length)∧b[x.toNat]?.getD false=true:=by
 have h:=Ah (fun i=>b[i]?.getD false) b.length x
 exact h
theorem Cj {l:List Bool}{i j:Nat}(h:l[j]?.getD false=true):(l.set i true)[j]?.getD false=true:=by
 rw [cO]
 split
 ·rename_i he
  subst he
  split
  ·rfl
  ·rename_i hlt
   rw [bL (by omega)] at h;cases h
 ·exact h
theorem HU {l:List Bool}{i:Nat}(h:i<l.length):(l.set i true)[i]?.getD false=true:=by
 rw [nJ h];rfl
theorem yQ (g:Graph)(nb eb:List Bool):∀ k,(sR g nb eb k).length=nb.length
 | 0=>rfl
 | k+1=>by
  rw [nY];split
  ·rw [dV,dV];exact yQ g nb eb k
  ·exact yQ g nb eb k
theorem It (g:Graph)(nb eb:List Bool){j k:Nat}(h:(sR g nb eb k)[j]?.getD false=true):(sR g nb eb (k+1))[j]?.getD false=true:=by
 rw [nY];split
 ·exact Cj (Cj h)
 ·exact h
theorem Iu {g:Graph}(he:g.ends){nb eb:List Bool}(hn:nb.length=g.nodes.length){i:Nat}(hi:i<g.edges.length)(hb:eb[i]?.getD false=true):∀ k,i<k→(sR g nb eb k)[g.edges[i].from_.toNat]?.getD false=true∧(sR g nb eb k)[g.edges[i].to_.toNat]?.getD false=true
 | 0,h=>by omega
 | k+1,h=>by
  rcases bZ i k with hlt|hge
  ·have ih:=Iu he hn hi hb k hlt
   exact ⟨It g nb eb ih.1,It g nb eb ih.2⟩
  ·obtain rfl:i=k:=by omega
   have hx:=he _ (aC hi)
   rw [nY,if_pos hb,aA hi,aD]
   have hl:=yQ g nb eb i
   exact ⟨Cj (HU (by omega)),HU (by rw [dV];omega)⟩
theorem Qv {g:Graph}(hg:graphF g=0)(he:g.ends)(k:UInt64):subF g (oV g k)=0:=by
 have l1:(sR g (sS k 0 g.nodes.length) (sS k g.nodes.length g.edges.length) g.edges.length).length=g.nodes.length:=by rw [yQ];simp [sS]
 have l2:(sS k g.nodes.length g.edges.length).length=g.edges.length:=by simp [sS]
 refine Jg hg (fun x hx=>?_) (Io _) (fun x hx=>?_) (Io _) fun x hx=>?_
 ·have:=(tQ.1 hx).1;omega
 ·have:=(tQ.1 hx).1;omega
 ·obtain ⟨h1,h2⟩:=tQ.1 hx
  have hi:x.toNat<g.edges.length:=by omega
  have hen:=he _ (aC hi)
  have hh:=Iu he (nb:=sS k 0 g.nodes.length) (by simp [sS]) hi h2 g.edges.length hi
  have hE:eA g x=g.edges[x.toNat]:=by unfold eA;rw [aA hi];rfl
  rw [hE]
  exact ⟨tQ.2 ⟨by omega,hh.1⟩,tQ.2 ⟨by omega,hh.2⟩⟩
theorem DD {t:Types}{d:Dr5}{x:Edge}(h:x∈(fG t d).edges):0≤x.type∧x.type<t.edges.length:=by
 unfold fG at h
 split at h
 ·cases h
 ·rename_i h0
  simp only [Hq,bQ] at h
  obtain ⟨i,_,hx⟩:=h
  unfold Eb at hx
  split at hx
  ·rw [aV] at hx
   subst hx
   exact b4 (show 0≤((d.edges[i]?.getD (0,0,0)).1.toNat:Int) by omega) (show (0:Int)<t.edges.length by omega)
  ·cases hx
theorem Oq {t:Types}(h:0<(g9 t).length)(b:UInt8):0≤rP (g9 t) b∧rP (g9 t) b<t.nodes.length:=IM (tI h b)
section
variable {t:Types} {g:Graph} {d:Dr24}
theorem S8 (h:∀ a∈g.nodes,0≤a∧a<t.nodes.length):∀ a∈(iI t g d).nodes,0≤a∧a<t.nodes.length:=fun a ha=>by
 unfold iI Po at ha
 rcases aW.1 ha with ha|ha
 ·exact h a ha
 ·obtain ⟨i,hi,rfl⟩:=aT.1 ha
  rw [bK] at hi
  by_cases h0:(g9 t).length=0
  ·rw [if_pos h0] at hi;omega
  ·exact Oq (by omega) _
theorem RX {ns:List Int}{y:B3}{x:Edge}(h:x∈tX t ns y):j4 t x.type (nN ns x.from_) (nN ns x.to_)=true:=by
 unfold tX at h
 split at h
 ·rename_i hf
  rw [aV] at h
  subst h
  exact hf
 ·cases h
theorem Ta:∃ l:List Edge,(iI t g d).edges=g.edges++l∧∀ x∈l,j4 t x.type (nN (iI t g d).nodes x.from_) (nN (iI t g d).nodes x.to_)=true:=by
 refine ⟨_,rfl,fun x hx=>?_⟩
 obtain ⟨i,_,hx⟩:=bQ.1 hx
 exact RX hx
theorem QM {a b e:Int}(h:j4 t e a b=true):0≤e∧e<t.edges.length:=by
 unfold j4 at h
 simp only [aJ,decide_eq_true_eq] at h
 exact h.1.2
structure GrOk (t:Types) (g G:Graph):Prop where
 ok:graphF G=0
 ty:dP t G=true
 no:∀ i:Int,0≤i→i<g.nodes.length→gN G i=gN g i
 ed:∀ k:Int,0≤k→k<g.edges.length→eA G k=eA g k
 fi:∀ k:Int,g.edges.length≤k→k<G.edges.length→j4 t (eA G k).type (gN G (eA G k).from_) (gN G (eA G k).to_)=true
 ln:g.nodes.length≤G.nodes.length
 le:g.edges.length≤G.edges.length
end
/-! ### type graphs -/
theorem T7:∀ i,i<6→∀ j,j<i→tyU.extract j (j+1)≠tyU.extract i (i+1):=by decide +kernel
theorem CE (i:Nat)(y:B2) : -1≤(kZ i y).parent∧(kZ i y).parent<i:=by
 have:=b4 (show 0≤(y.1.toNat:Int) by omega) (show (0:Int)<(i:Int)+1 by omega)
 show -1≤(y.1.toNat:Int).tmod ((i:Int)+1) - 1∧(y.1.toNat:Int).tmod ((i:Int)+1) - 1<i
 omega
theorem Iq (i:Nat)(hi:i<6)(y:B2):∀ x∈(kZ i y).attrs,fT x.name=true∧wD x=0∧x.name=tyU.extract i (i+1):=by
 have hm:=b4 (show 0≤(y.2.toNat:Int) / 4 by omega) (show (0:Int)<9 by omega)
 intro x hx
 unfold kZ at hx
 dsimp only at hx
 by_cases h1:(y.2.toNat:Int).tmod 4=1
 ·rw [if_pos h1,aV] at hx
  subst hx
  refine ⟨KF i hi,?_,rfl⟩
  unfold wD
  rw [if_neg (by show ¬ kY []≠0;decide),if_pos]
  simp;omega
 ·by_cases h2:(y.2.toNat:Int).tmod 4=2
  ·rw [if_neg h1,if_pos h2,aV] at hx
   subst hx
   refine ⟨KF i hi,?_,rfl⟩
   unfold wD
   rw [if_neg (by rw [LM];simp),if_pos]
   simp
  ·rw [if_neg h1,if_neg h2] at hx
   cases hx
theorem GO (ns:List B2)(n:Nat):∀ (f a:Nat) (x:Attr),x∈fU (qH ns n) f a→∃ j,j≤a∧j<n∧x∈(kZ j (iD ns j)).attrs
 | 0,a,x,h=>by simp [fU] at h
 | f+1,a,x,h=>by
  unfold fU at h
  by_cases ha:a<n
  ·have hg:(qH ns n)[a]?=some (kZ a (iD ns a)):=by simp [qH,ha]
   rw [hg] at h
   dsimp only at h
   rcases aW.1 h with h|h
   ·split at h
    ·rename_i hp
     obtain ⟨j,h1,h2,h3⟩:=GO ns n f _ x h
     have hpr:=(CE a (iD ns a)).2
     exact ⟨j,by omega,h2,h3⟩
    ·cases h
   ·exact ⟨a,aY _,ha,h⟩
  ·have hg:(qH ns n)[a]?=none:=by simp [qH];omega
   rw [hg] at h
   cases h
theorem N0 (ns es:List B2){j:Nat}(hj:j<(iH ns es).nodes.length):∃ l,(iH ns es).attrs j=l++(kZ j (iD ns j)).attrs∧∀ x∈l,∃ i,i<j∧x∈(kZ i (iD ns i)).attrs:=by
 have e:(iH ns es).attrs j=(if 0≤(kZ j (iD ns j)).parent then fU (iH ns es).nodes j (kZ j (iD ns j)).parent.toNat else [])++(kZ j (iD ns j)).attrs:=by
  unfold Types.attrs
  rw [fU,aA hj,FO hj]
 refine ⟨_,e,fun x hx=>?_⟩
 split at hx
 ·rename_i hp
  obtain ⟨i,h1,h2,h3⟩:=GO ns (kH ns) _ _ x hx
  have:=(CE j (iD ns j)).2
  exact ⟨i,by omega,h3⟩
 ·cases hx
theorem Uk {l own:List Attr}(h1:own.length≤1)(h:∀ x∈own,fT x.name=true∧wD x=0∧∀ y∈l,y.name≠x.name):bR (uF (l++own)) ((l++own).length - own.length) own.length=0:=by
 match own,h1,h with
 | [],_,_=>rfl
 | [x],_,h =>
  obtain ⟨a1,a2,a3⟩:=h x (by simp)
  have e:(l++[x]).length - [x].length=l.length:=by simp
  rw [e]
  have h0:uF (l++[x]) l.length=0:=by
   rw [MQ (by simp)]
   have hx:(l++[x])[l.length]'(by simp)=x:=by simp
   have ht:(l++[x]).take l.length=l:=List.take_left' rfl
   rw [hx,ht,if_neg (by rw [a1];simp),if_neg (by rw [aX];rintro ⟨y,hy,he⟩;exact a3 y hy (of_decide_eq_true he)),a2]
  show bR (uF (l++[x])) l.length 1=0
  unfold bR
  rw [if_neg (by rw [h0];simp)];rfl
 | _ :: _ :: _,h1,_=>simp at h1
theorem S2 (ns es:List B2):(b9 (iH ns es)).2=0:=by
 obtain ⟨l1,l2,l3,l4⟩:=yO ns es
 have hV:=DB ns es
 unfold b9
 rw [if_neg (by omega),if_neg (by omega),Ay,Ay]
 ·intro j _ hj
  have hj':j<(iH ns es).edges.length:=by omega
  have hx:=Ip hj'
  have hxm:=Am (aC hj')
  unfold iO
  rw [aA hj']
  simp only
  rw [if_neg (by rw [hx];show ¬ fT (tyE.extract j (j+1))=false;rw [Rg j (by omega)];simp),if_neg,if_pos]
  ·rw [hx] at hxm ⊢
   have hb:boundedF (Bo (kH ns) j (iD es j)).outLow (Bo (kH ns) j (iD es j)).outHigh=true:=by show boundedF 0 (-1)=true;decide
   have hb2:boundedF (Bo (kH ns) j (iD es j)).inLow (Bo (kH ns) j (iD es j)).inHigh=true:=by show boundedF 0 (-1)=true;decide
   rw [hb,hb2]
   simp [insideF];omega
  ·rw [aX]
   rintro ⟨y,hy,he⟩
   obtain ⟨q,hq,rfl⟩:=aN hy
   rw [bH] at hq
   rw [List.getElem_take,Ip (by omega),hx] at he
   exact T8 j (by omega) q (by omega) (of_decide_eq_true he)
 ·intro j _ hj
  have hj':j<(iH ns es).nodes.length:=by omega
  have hx:=FO hj'
  have hal:=(rY j (iD ns j)).1
  have h8:=hV.attrs j hj'
  have hpr:=CE j (iD ns j)
  obtain ⟨l,e1,e2⟩:=N0 ns es hj'
  rw [xF _ _ hj',hx,if_neg (by show ¬ fT (tyA.extract j (j+1))=false;rw [Rh j (by omega)];simp),if_neg,if_neg (by simp;omega),if_neg (by omega),if_neg (by omega),e1]
  ·refine Uk hal fun x hxo=>?_
   obtain ⟨b1,b2,b3⟩:=Iq j (by omega) _ x hxo
   refine ⟨b1,b2,fun y hy=>?_⟩
   obtain ⟨i,hi,hyi⟩:=e2 y hy
   rw [b3,(Iq i (by omega) _ y hyi).2.2]
   exact T7 j (by omega) i hi
  ·rw [aX]
   rintro ⟨y,hy,he⟩
   obtain ⟨q,hq,rfl⟩:=aN hy
   rw [bH] at hq
   rw [List.getElem_take,FO (by omega)] at he
   exact T9 j (by omega) q (by omega) (of_decide_eq_true he)
structure MadeTy (t:Types):Prop where
 v:(b9 t).2=0
 fine:t.fine
 ne:t.edges.length≤5
 nn:t.nodes.length≤6
theorem JK (ns es:List B2):MadeTy (iH ns es):=by
 obtain ⟨l1,l2,l3,l4⟩:=yO ns es
 exact ⟨S2 ns es,FN _ _,l4,by omega⟩
/-! ### patterns -/
theorem DC {t:Types}(h:MadeTy t)(d:Dr5):graphF (fG t d)=0∧dP t (fG t d)=true:=by
 have hl:=qJ t d
 have he:=rZ t d
 have h0:=h.fine.valid.ne
 have hn:∀ a∈(fG t d).nodes,0≤a∧a<t.nodes.length:=fun a ha=>L0 h0 (ds:=d.nodes) (k:=min d.nodes.length 8) ha
 have h5:=h.ne
 have h6:=h.nn
 refine ⟨n4 (by omega) (by omega) (fun a ha=>by have:=hn a ha;omega) (fun x hx=>?_),nT (fun a ha=>(hn a ha).2) (fun x hx=>(DD hx).2)⟩
 have h1:=DD hx
 have h2:=he x hx
 exact ⟨by omega,h2.1,h2.2⟩
structure SlotIn (t:Types) (ns:List Int) (v:Int) (s:Slot):Prop where
 n0:0≤s.node
 n1:s.node<ns.length
 a0:0≤s.attr
 a1:s.attr<(bI t (ns[s.node.toNat]?.getD 0)).length
 v0 : -1≤s.term.var
 v1:s.term.var<v
 d0 : -1000000≤s.term.add
 d1:s.term.add≤1000000
theorem SlotIn.mono {t:Types}{ns:List Int}{v w:Int}{s:Slot}(h:SlotIn t ns v s)(hv:v≤w):SlotIn t ns w s:=⟨h.n0,h.n1,h.a0,h.a1,h.v0,by have:=h.v1;omega,h.d0,h.d1⟩
theorem KO {t:Types}{p:Pattern}{s:Slot}(h:SlotIn t p.graph.nodes p.vars s):fZ t p s=0:=by
 obtain ⟨h1,h2,h3,h4,h5,h6,h7,h8⟩:=h
 unfold fZ
 rw [if_pos]
 unfold kJ inF Pattern.kind
 simp only [aJ,decide_eq_true_eq]
 exact ⟨⟨⟨⟨h1,h2⟩,h3,h4⟩,h5,by omega⟩,h7,h8⟩
theorem MX {t:Types}{ns:List Int}:∀ {k:Nat} {x:Nat × Nat},x∈zL t ns k→x.1<k∧x.2<(TZ t ns x.1).length
 | 0,x,h=>by rw [IX] at h;cases h
 | k+1,x,h=>by
  rw [y9] at h
  rcases aW.1 h with h|h
  ·have:=MX h;exact ⟨by omega,this.2⟩
  ·unfold GU at h
   obtain ⟨j,hj,rfl⟩:=aT.1 h
   rw [bK] at hj
   exact ⟨by simp,hj⟩
theorem Qw {all:List (Nat × Nat)}(h:0<all.length)(b:UInt8):nM all b∈all:=by
 have:=b4 (show 0≤(b.toNat:Int) by omega) (show (0:Int)<all.length by omega)
 unfold nM
 rw [aA (show ((b.toNat:Int).tmod all.length).toNat<all.length by omega),aD]
 exact aC _
theorem LZ {t:Types}{ns:List Int}{all:List (Nat × Nat)}(hall:∀ x∈all,x.1<ns.length∧x.2<(TZ t ns x.1).length)(h0:0<all.length)(ds:List B3):∀ k,(∀ s∈(tT all ds k).1,SlotIn t ns (tT all ds k).2 s)∧(∀ v:Int,0≤v→v<(tT all ds k).2→∃ s∈(tT all ds k).1,s.term.var=v)
 | 0=>⟨fun s hs=>by simp [tT] at hs,fun v h1 h2=>by simp [tT] at h2;omega⟩
 | k+1=>by
  obtain ⟨i1,i2⟩:=LZ hall h0 ds k
  obtain ⟨_,c0,c3⟩:=yP all ds k
  rw [CH]
  obtain ⟨st,hst⟩:∃ st,st=tT all ds k:=⟨_,rfl⟩
  obtain ⟨x,hx⟩:∃ x,x=ds[k]?.getD (0,0,0):=⟨_,rfl⟩
  rw [← hst] at i1 i2 c0 c3 ⊢
  rw [← hx]
  have hm:=hall _ (Qw h0 x.1)
  have hmk:∀ (z a:Int) (w:Int),-1≤z→z<w→-1000000≤a→a≤1000000→SlotIn t ns w ⟨(nM all x.1).1,(nM all x.1).2,⟨z,a⟩⟩:=fun z a w h1 h2 h3 h4=>by
   refine ⟨by simp,by have:=hm.1;simp;omega,by simp,?_,h1,h2,h3,h4⟩
   have:=hm.2
   unfold TZ at this
   simpa using this
  have t5:=b4 (show 0≤(x.2.1.toNat:Int) by omega) (show (0:Int)<5 by omega)
  have u5:=b4 (show 0≤(x.2.2.toNat:Int) by omega) (show (0:Int)<5 by omega)
  unfold Qy
  split
  ·rename_i h1
   split
   ·rename_i h2
    have e3:st.2=3:=by omega
    dsimp only
    refine ⟨fun s hs=>?_,fun v v0 v1=>?_⟩
    ·rcases aW.1 hs with hs|hs
     ·exact (i1 s hs).mono (by omega)
     ·rw [aV] at hs;subst hs
      exact hmk 0 0 3 (by omega) (by omega) (by omega) (by omega)
    ·obtain ⟨s,hs,he⟩:=i2 v v0 (by omega)
     exact ⟨s,zM _ hs,he⟩
   ·rename_i h2
    dsimp only
    refine ⟨fun s hs=>?_,fun v v0 v1=>?_⟩
    ·rcases aW.1 hs with hs|hs
     ·exact (i1 s hs).mono (by omega)
     ·rw [aV] at hs;subst hs
      exact hmk st.2 0 (st.2+1) (by omega) (by omega) (by omega) (by omega)
    ·by_cases hv:v<st.2
     ·obtain ⟨s,hs,he⟩:=i2 v v0 hv
      exact ⟨s,zM _ hs,he⟩
     ·exact ⟨_,List.mem_append_right _ (aV.2 rfl),by show st.2=v;omega⟩
  ·rename_i h1
   dsimp only
   refine ⟨fun s hs=>?_,fun v v0 v1=>?_⟩
   ·rcases aW.1 hs with hs|hs
    ·exact i1 s hs
    ·rw [aV] at hs;subst hs
     exact hmk _ _ st.2 (by omega) (by omega) (by omega) (by omega)
   ·obtain ⟨s,hs,he⟩:=i2 v v0 v1
    exact ⟨s,zM _ hs,he⟩
theorem N5 {v:Int}(hv:0≤v)(x:T4):pA v (made3 v x)=0:=by
 have h1:=yK x.1.toInt (show (0:Int)<4 by omega)
 have h2:=yK x.2.1.toInt (show (0:Int)<v+1 by omega)
 have h3:=yK x.2.2.1.toInt (show (0:Int)<v+1 by omega)
 have h4:=AR x.2.2.2.toInt (show (0:Int)<12 by omega)
 have hk:(made3 v x).kind=1∨(made3 v x).kind=2:=by
  show 1+(remF x.1.toInt 4).tdiv 3=1∨1+(remF x.1.toInt 4).tdiv 3=2
  rw [Int.tdiv_eq_ediv_of_nonneg h1.1];omega
 unfold pA
 rw [if_neg (by omega),if_pos]
 unfold termB
 simp only [aJ,decide_eq_true_eq]
 show (((-1≤remF x.2.1.toInt (v+1) - 1∧remF x.2.1.toInt (v+1) - 1<v)∧-1000000≤(0:Int))∧(0:Int)≤1000000)∧((-1≤remF x.2.2.1.toInt (v+1) - 1∧remF x.2.2.1.toInt (v+1) - 1<v)∧-1000000≤x.2.2.2.toInt.tmod 12)∧x.2.2.2.toInt.tmod 12≤1000000
 omega
theorem LY {t:Types}(h:MadeTy t)(d:Dr21):bN t (dF t d)=0:=by
 obtain ⟨g0,t0⟩:=DC h d.graph
 obtain ⟨_,_,_,hv⟩:=tS t d
 have hS:(∀ s∈(iZ t d).1,SlotIn t (fG t d.graph).nodes (iZ t d).2 s)∧(∀ v:Int,0≤v→v<(iZ t d).2→∃ s∈(iZ t d).1,s.term.var=v)∧(iZ t d).1.length≤4:=by
  unfold iZ
  split
  ·exact ⟨by simp,fun v h1 h2=>by simp at h2;omega,by simp⟩
  ·rename_i h0
   obtain ⟨a,b⟩:=LZ (t:=t) (ns:=(fG t d.graph).nodes) (all:=IY t d) (fun x hx=>MX hx) (by omega) d.slots (min d.slots.length 4)
   refine ⟨a,b,?_⟩
   rw [(yP (IY t d) d.slots (min d.slots.length 4)).1];omega
 obtain ⟨s1,s2,s3⟩:=hS
 have e1:(dF t d).graph=fG t d.graph:=rfl
 have e2:(dF t d).slots=(iZ t d).1:=rfl
 have e3:(dF t d).vars=(iZ t d).2:=rfl
 have e4:(dF t d).tests=FP (iZ t d).2 d.tests (min d.tests.length 3):=rfl
 have hT:gJ (dF t d).vars (dF t d).tests=0:=by
  unfold gJ
  rw [if_neg (by omega),if_neg (by rw [e4,Bp];omega)]
  refine Bs fun x hx=>?_
  rw [e4] at hx
  unfold FP at hx
  obtain ⟨i,_,rfl⟩:=aT.1 hx
  exact N5 (by omega) _
 unfold bN
 rw [if_neg (by rw [h.v];simp),if_neg (by rw [e1,g0];simp),if_neg (by rw [e1,t0];simp),if_neg (by unfold inF;simp;omega),if_neg (by rw [e2,e4,Bp];omega),if_neg,if_neg (by rw [hT];simp),if_neg]
 ·rw [Ca]
  rintro ⟨v,hv1,hv2⟩
  obtain ⟨s,hs,he⟩:=s2 v (by omega) (by rw [← e3];omega)
  have:gP (dF t d) v=true:=by
   unfold gP
   rw [aX]
   exact ⟨s,hs,by rw [he];simp⟩
  rw [this] at hv2;cases hv2
 ·have hl:eX (fZ t (dF t d)) (dF t d).slots=0:=Bs fun s hs=>KO (p:=dF t d) (s1 s hs)
  rw [hl];simp
/-! ### rules -/
theorem My {t:Types}{x:Int}(h:x∈g9 t):j6 t x.toNat=false:=by
 unfold g9 at h
 obtain ⟨i,hi,rfl⟩:=aT.1 h
 have:=(dN.1 hi).2
 simpa using this
def G2 (l:List Slot):Prop:=∀ (i:Nat) (h:i<l.length),((l.take i).any (sameSlot l[i]))=false
theorem LP {l:List Slot}{s:Slot}(h:G2 l)(hs:l.any (sameSlot s)=false):G2 (l++[s]):=fun i hi=>by
 rcases bZ i l.length with hl|hl
 ·rw [List.take_append_of_le_length (by omega),List.getElem_append_left hl]
  exact h i hl
 ·have:i=l.length:=by simp at hi;omega
  subst this
  rw [List.take_left' rfl,List.getElem_append_right (aY _)]
  simpa using hs
theorem KW {t:Types}{vars:Int}(hv:0≤vars){ns:List Int}(hn:0<ns.length)(l:List B3):∀ k,(∀ s∈tB t vars ns l k,SlotIn t ns vars s)∧G2 (tB t vars ns l k)
 | 0=>⟨fun s hs=>by simp [tB] at hs,fun i hi=>by simp [tB] at hi⟩
 | k+1=>by
  obtain ⟨i1,i2⟩:=KW hv hn l k
  rw [Cl]
  obtain ⟨out,ho⟩:∃ o,o=tB t vars ns l k:=⟨_,rfl⟩
  obtain ⟨x,hx⟩:∃ x,x=l[k]?.getD (0,0,0):=⟨_,rfl⟩
  rw [← ho] at i1 i2 ⊢
  rw [← hx]
  unfold Nu
  split
  ·exact ⟨i1,i2⟩
  ·rename_i h1
   split
   ·exact ⟨i1,i2⟩
   ·rename_i h2
    have m1:=b4 (show 0≤(x.1.toNat:Int) by omega) (show (0:Int)<ns.length by omega)
    have m2:=b4 (show 0≤(x.2.1.toNat:Int) by omega) (show (0:Int)<(bI t (nN ns ((x.1.toNat:Int).tmod ns.length))).length by omega)
    have m3:=b4 (show 0≤(x.2.1.toNat:Int) / 16 by omega) (show (0:Int)<vars+1 by omega)
    have m4:=b4 (show 0≤(x.2.2.toNat:Int) by omega) (show (0:Int)<3 by omega)
    refine ⟨fun s hs=>?_,LP i2 ?_⟩
    ·rcases aW.1 hs with hs|hs
     ·exact i1 s hs
     ·rw [aV] at hs
      subst hs
      exact ⟨m1.1,m1.2,m2.1,m2.2,by show -1≤((x.2.1.toNat:Int) / 16).tmod (vars+1) - 1;omega,by show ((x.2.1.toNat:Int) / 16).tmod (vars+1) - 1<vars;omega,by show -1000000≤(x.2.2.toNat:Int).tmod 3;omega,by show (x.2.2.toNat:Int).tmod 3≤1000000;omega⟩
    ·rw [bX]
     intro hh
     refine h2 ?_
     rw [aX] at hh ⊢
     obtain ⟨y,hy,he⟩:=hh
     refine ⟨y,hy,?_⟩
     unfold sameSlot at he
     unfold HP
     simpa using he
theorem PW {t:Types}{p:Pattern}(h1:∀ s∈p.slots,SlotIn t p.graph.nodes p.vars s)(h2:G2 p.slots):bR (wU t p) 0 p.slots.length=0:=by
 refine jP _ _ fun j _ hj=>?_
 have hj':j<p.slots.length:=by omega
 rw [Ch hj',if_neg (by rw [KO (h1 _ (aC hj'))];simp),if_neg (by rw [h2 j hj'];simp)]
def F3 (t:Types)(d:Dr24):Part:=⟨(kG (kL t d).nodes.length d.order).take (lN t d).nodes.length,(kG (kL t d).edges.length d.order).take (lN t d).edges.length⟩
theorem S9 {t:Types}{g:Graph}{d:Dr24}(hf:MadeTy t)(hg:graphF g=0)(ht:dP t g=true)(l1:g.nodes.length≤20)(l2:g.edges.length≤20):GrOk t g (iI t g d):=by
 have hin:=iV hg ht
 have hge:g.ends:=fun x hx=>(hin.2 x hx).2
 obtain ⟨he,hn,hm⟩:=QK (t:=t) (d:=d) hge
 have hnn:=S8 (t:=t) (g:=g) (d:=d) hin.1
 obtain ⟨l,hl,hfit⟩:=Ta (t:=t) (g:=g) (d:=d)
 have h5:=hf.ne
 have h6:=hf.nn
 have hty:∀ x∈(iI t g d).edges,0≤x.type∧x.type<t.edges.length:=fun x hx=>by
  rw [hl] at hx
  rcases aW.1 hx with hx|hx
  ·exact (hin.2 x hx).1
  ·exact QM (hfit x hx)
 have hlen:=Mg t g d
 refine ⟨n4 (by omega) (by omega) (fun a ha=>by have:=hnn a ha;omega) (fun x hx=>?_),nT (fun a ha=>(hnn a ha).2) (fun x hx=>(hty x hx).2),fun i h0 hi=>?_,fun k h0 hk=>?_,fun k h0 hk=>?_,hlen.1,hlen.2⟩
 ·have h1:=hty x hx
  have h2:=he x hx
  exact ⟨by omega,h2.1,h2.2⟩
 ·unfold gN
  show ((g.nodes++_)[i.toNat]?).getD 0=_
  rw [Ke _ _ (by omega)]
 ·unfold eA
  rw [hl,Ke _ _ (by omega)]
 ·have hk2:k.toNat - g.edges.length<l.length:=by rw [hl,aI] at hk;omega
  have hE:eA (iI t g d) k=l[k.toNat - g.edges.length]:=by
   unfold eA
   rw [hl,Si _ _ (by omega),aA hk2];rfl
  rw [hE]
  exact hfit _ (aC hk2)
theorem UP {t:Types}{g:Graph}{d:Dr24}{i:Int}(h0:g.nodes.length≤i)(h1:i<(iI t g d).nodes.length):j6 t (gN (iI t g d) i).toNat=false:=by
 have hn:(iI t g d).nodes=g.nodes++(List.range (if (g9 t).length=0 then 0 else min d.nodes.length 2)).map fun i=>rP (g9 t) (d.nodes[i]?.getD 0):=rfl
 have hm:gN (iI t g d) i∈(List.range (if (g9 t).length=0 then 0 else min d.nodes.length 2)).map fun i=>rP (g9 t) (d.nodes[i]?.getD 0):=by
  rw [hn,aI] at h1
  unfold gN
  rw [hn,Si _ _ (by omega),aA (by omega),aD]
  exact aC _
 obtain ⟨j,hj,he⟩:=aT.1 hm
 rw [bK] at hj
 rw [← he]
 refine My (tI ?_ _)
 refine Nat.pos_of_ne_zero fun hz=>?_
 rw [if_pos hz] at hj;omega
structure Core24 (t:Types) (d:Dr24):Prop where
 g0:graphF (fG t d.left.graph)=0
 t0:dP t (fG t d.left.graph)=true
 gR:graphF (mB t d)=0
 tR:dP t (mB t d)=true
 sub:subF (fG t d.left.graph) (mY t d)=0
 mor:dE (bS (fG t d.left.graph) (mY t d)) (mB t d) (F3 t d)=0
 inj:u0 (bS (fG t d.left.graph) (mY t d)) (mB t d) (F3 t d)=true
 mkb:zX t (mB t d) (b6 (F3 t d).nodes (mB t d).nodes.length) (b6 (F3 t d).edges (mB t d).edges.length)=true
theorem J1 {t:Types}(h:MadeTy t)(d:Dr24):Core24 t d:=by
 obtain ⟨g0,t0⟩:=DC h d.left.graph
 have e0:=rZ t d.left.graph
 have hl0:=qJ t d.left.graph
 have hS:subF (fG t d.left.graph) (mY t d)=0:=Qv g0 e0 _
 have hkg:lN t d=bS (fG t d.left.graph) (mY t d):=rfl
 have hk:=Oj hS
 obtain ⟨x1,x2⟩:=DN hS
 obtain ⟨s1,s2⟩:=Nk hS
 obtain ⟨_,hs,hsn,hse⟩:=rI hS
 have tin:=iV g0 t0
 have tk:dP t (lN t d)=true:=by
  rw [hkg]
  unfold bS;rw [if_pos hS]
  refine nT (fun a ha=>?_) (fun x hx=>?_)
  ·obtain ⟨n,hn,rfl⟩:=aT.1 ha
   exact (tin.1 _ (Av (hsn n hn).1 (hsn n hn).2)).2
  ·obtain ⟨k,hk',rfl⟩:=aT.1 hx
   exact (tin.2 _ (CS (hse k hk').1 (hse k hk').2)).1.2
 rw [← hkg] at hk x1 x2
 have hG:GrOk t (lN t d) (kL t d):=S9 h hk tk (by omega) (by omega)
 have pN:=uP (kL t d).nodes.length d.order
 have pE:=uP (kL t d).edges.length d.order
 have oN:G1 (kL t d).nodes.length (kG (kL t d).nodes.length d.order):=Pe pN fun v hv=>HT _ _ hv
 have oE:G1 (kL t d).edges.length (kG (kL t d).edges.length d.order):=Pe pE fun v hv=>HT _ _ hv
 have gR:graphF (mB t d)=0:=Uh hG.ok pN pE oN oE
 have tR:dP t (mB t d)=true:=P6 hG.ok hG.ty pN pE oN oE
 have lR:=Jy (p:=kG (kL t d).nodes.length d.order) (q:=kG (kL t d).edges.length d.order) hG.ok
 have hln:=hG.ln
 have hle:=hG.le
 have nd:=fun (i:Int) (h0:0≤i) (hi:i<(kL t d).nodes.length)=>Fd (q:=kG (kL t d).edges.length d.order) hG.ok pN h0 hi
 have ed:=fun (i:Int) (h0:0≤i) (hi:i<(kL t d).edges.length)=>Fe (p:=kG (kL t d).nodes.length d.order) hG.ok pE h0 hi
 have gin:=fun (k:Int) (h0:0≤k) (hk:k<(kL t d).edges.length)=>yZ hG.ok h0 hk
 have hrg:wH (kL t d) (kG (kL t d).nodes.length d.order) (kG (kL t d).edges.length d.order)=mB t d:=rfl
 rw [hrg] at lR
 simp only [hrg] at nd ed
 have fitG:=hG.fi
 have nG:=hG.no
 have eG:=hG.ed
 have oN1:=pN.1
 have oE1:=pE.1
 have newG:∀ j:Int,(lN t d).nodes.length≤j→j<(kL t d).nodes.length→j6 t (gN (kL t d) j).toNat=false:=fun j h1 h2=>UP h1 h2
 have hi24:F3 t d=⟨(kG (kL t d).nodes.length d.order).take (lN t d).nodes.length,(kG (kL t d).edges.length d.order).take (lN t d).edges.length⟩:=rfl
 generalize kG (kL t d).nodes.length d.order=p at *
 generalize kG (kL t d).edges.length d.order=q at *
 have tk1:∀ {l:List Int} {m:Nat} {i:Int},0≤i→i<m→m≤l.length→iA (l.take m) i=iA l i:=fun {l m i} h0 hi hm=>by
  unfold iA;rw [bU,if_pos (by omega)]
 have hM:dE (bS (fG t d.left.graph) (mY t d)) (mB t d) ⟨p.take (lN t d).nodes.length,q.take (lN t d).edges.length⟩=0:=by
  rw [← hkg]
  refine Cz hk gR (by simp only [bH];omega) (by simp only [bH];omega) (fun i h0 hi=>?_) (fun k h0 hk'=>?_)
  ·show (0≤iA (p.take (lN t d).nodes.length) i∧iA (p.take (lN t d).nodes.length) i<_)∧gN _ (iA (p.take (lN t d).nodes.length) i)=_
   rw [tk1 h0 hi (by omega),nd i h0 (by omega),nG i h0 hi]
   have:=Es pN h0 (show i<(kL t d).nodes.length by omega)
   exact ⟨by omega,rfl⟩
  ·show (0≤iA (q.take (lN t d).edges.length) k∧iA (q.take (lN t d).edges.length) k<_)∧_=(eA _ (iA (q.take (lN t d).edges.length) k)).type∧iA (p.take (lN t d).nodes.length) _=(eA _ (iA (q.take (lN t d).edges.length) k)).from_∧iA (p.take (lN t d).nodes.length) _=(eA _ (iA (q.take (lN t d).edges.length) k)).to_
   rw [tk1 h0 hk' (by omega),ed k h0 (by omega),eG k h0 hk',Ep]
   have:=Es pE h0 (show k<(kL t d).edges.length by omega)
   have hen:=yZ hk h0 hk'
   exact ⟨by omega,rfl,tk1 hen.1.1 hen.1.2 (by omega),tk1 hen.2.1.1 hen.2.1.2 (by omega)⟩
 have hI:u0 (bS (fG t d.left.graph) (mY t d)) (mB t d) ⟨p.take (lN t d).nodes.length,q.take (lN t d).edges.length⟩=true:=by
  simp only [u0,aJ,decide_eq_true_eq]
  exact ⟨hM,(List.take_sublist _ _).nodup (Aj pN),(List.take_sublist _ _).nodup (Aj pE)⟩
 refine ⟨g0,t0,gR,tR,hS,by rw [hi24];exact hM,by rw [hi24];exact hI,?_⟩
 rw [hi24]
 refine RN (fun i hi=>?_) (fun i hi=>?_)
 ·obtain ⟨hr,hni⟩:=i5.1 hi
  obtain ⟨k,hk',he⟩:=oN i hr.1 (by omega)
  have hge:(lN t d).nodes.length≤k:=by
   refine bD fun hc=>hni ?_
   rw [← he,← tk1 (m:=(lN t d).nodes.length) hk'.1 (by omega) (by omega)]
   exact Od hk'.1 (by rw [bH];omega)
  have hab:=newG k hge hk'.2
  have hn:=nd k hk'.1 hk'.2
  rw [he] at hn
  have hmem:=(iV gR tR).1 _ (Av hr.1 hr.2)
  unfold absB
  rw [← hn] at hab
  unfold j6 at hab
  rw [aA (show (gN (mB t d) i).toNat<t.nodes.length by omega)] at hab ⊢
  exact hab
 ·obtain ⟨hr,hni⟩:=i5.1 hi
  obtain ⟨k,hk',he⟩:=oE i hr.1 (by omega)
  have hge:(lN t d).edges.length≤k:=by
   refine bD fun hc=>hni ?_
   rw [← he,← tk1 (m:=(lN t d).edges.length) hk'.1 (by omega) (by omega)]
   exact Od hk'.1 (by rw [bH];omega)
  have hf:=fitG k hge hk'.2
  have hen:=gin k hk'.1 hk'.2
  have hE:=ed k hk'.1 hk'.2
  rw [he,Ep] at hE
  show (!j4 t (eA (mB t d) i).type (gN (mB t d) (eA (mB t d) i).from_) (gN (mB t d) (eA (mB t d) i).to_))=false
  rw [hE]
  show (!j4 t (eA (kL t d) k).type (gN (mB t d) (iA p (eA (kL t d) k).from_)) (gN (mB t d) (iA p (eA (kL t d) k).to_)))=false
  rw [nd _ hen.1.1 hen.1.2,nd _ hen.2.1.1 hen.2.1.2,hf];rfl
theorem E5 {t:Types}{r:Rule}(hv:(b9 t).2=0)(hn:fT r.name=true)(hl:bN t r.left=0)(hr:kC t r=0)(hk:keptF r=0)(hm:zX t r.right.graph r.freshN r.freshE=true)(hc:condF t r.left r.cond=0):ruleF t r=0:=by
 unfold ruleF
 rw [if_neg (by rw [hv];simp),if_neg (by rw [hn];simp),if_neg (by rw [hl];simp),if_neg (by rw [hr];simp),if_neg (by rw [hk];simp),if_neg (by rw [hm];simp),hc]
theorem EI {t:Types}{p:Pattern}(hp:bN t p=0):condF t p trueC=0:=by
 unfold condF
 rw [if_neg (by rw [hp];simp),if_neg (by decide)]
 rfl
theorem qE (n:Nat):(cF n).Nodup:=Aj (Cx n)
theorem pQ {n:Nat}{i:Int}(h0:0≤i)(h1:i<n):iA (cF n) i=i:=by
 unfold iA
 rw [mV (show i.toNat<n by omega),aD];omega
theorem Mk {t:Types}{p:Pattern}(hv:(b9 t).2=0)(hp:bN t p=0)(hp0:0≤p.vars∧p.vars≤12){g:Graph}(hpg:graphF p.graph=0)(hg:graphF g=0)(ht:dP t g=true)(hN:∃ l,g.nodes=p.graph.nodes++l)(hE:∃ l,g.edges=p.graph.edges++l):condF t p (forbC p g)=0:=by
 obtain ⟨ln,hN⟩:=hN
 obtain ⟨le,hE⟩:=hE
 have hM:dE p.graph g ⟨cF p.graph.nodes.length,cF p.graph.edges.length⟩=0:=by
  refine Cz hpg hg (by simp [d9]) (by simp [d9]) (fun i h0 h1=>?_) (fun k h0 h1=>?_)
  ·show (0≤iA (cF p.graph.nodes.length) i∧iA (cF p.graph.nodes.length) i<_)∧gN _ (iA (cF p.graph.nodes.length) i)=_
   rw [pQ h0 h1]
   refine ⟨⟨h0,by rw [hN,aI];omega⟩,?_⟩
   unfold gN
   rw [hN,Ke _ _ (by omega)]
  ·have hen:=yZ hpg h0 h1
   show (0≤iA (cF p.graph.edges.length) k∧iA (cF p.graph.edges.length) k<_)∧_=(eA _ (iA (cF p.graph.edges.length) k)).type∧iA (cF p.graph.nodes.length) _=(eA _ (iA (cF p.graph.edges.length) k)).from_∧iA (cF p.graph.nodes.length) _=(eA _ (iA (cF p.graph.edges.length) k)).to_
   rw [pQ h0 h1,pQ hen.1.1 hen.1.2,pQ hen.2.1.1 hen.2.1.2]
   have e:eA g k=eA p.graph k:=by unfold eA;rw [hE,Ke _ _ (by omega)]
   rw [e]
   exact ⟨⟨h0,by rw [hE,aI];omega⟩,rfl,rfl,rfl⟩
 have hI:u0 p.graph g ⟨cF p.graph.nodes.length,cF p.graph.edges.length⟩=true:=by
  simp only [u0,aJ,decide_eq_true_eq]
  exact ⟨hM,qE _,qE _⟩
 have hq:bN t ⟨g,[],p.vars,[]⟩=0∨bN t ⟨g,[],p.vars,[]⟩=9:=by
  unfold bN
  rw [if_neg (by rw [hv];simp),if_neg (by show ¬ graphF g≠0;rw [hg];simp),if_neg (by show ¬ dP t g=false;rw [ht];simp),if_neg (by show ¬ inF p.vars 0 12=false;unfold inF;simp;omega),if_neg (by simp),if_neg (by simp [eX])]
  have hT:gJ p.vars []=0:=by unfold gJ;rw [if_neg (by omega),if_neg (by simp)];rfl
  rw [if_neg (by show ¬ gJ p.vars []≠0;rw [hT];simp)]
  split
  ·exact .inr rfl
  ·exact .inl rfl
 have hIn:k7 t ⟨g,[],p.vars,[]⟩ p.vars=0:=by
  rcases hq with h|h
  ·unfold k7;rw [if_pos (by rw [h];decide),h]
  ·exact xO h hp0.1 fun v h1 h2=>absurd h2 (by show ¬ v<p.vars;omega)
 have hX:gS t p ⟨cF p.graph.nodes.length,cF p.graph.edges.length⟩ ⟨g,[],p.vars,[]⟩=0:=by
  unfold gS
  rw [if_neg (by show ¬ p.vars<p.vars;omega),if_neg (by rw [hIn];simp),if_neg (by show ¬ dE p.graph g _≠0;rw [hM];simp),if_neg (by show ¬ u0 p.graph g _=false;rw [hI];simp)]
 unfold condF
 rw [if_neg (by rw [hp];simp),if_neg (by
  have e:o4 (forbC p g)=0:=rfl
  rw [e];simp)]
 unfold forbC
 have h1:mP t ⟨g,[],p.vars,[]⟩ trueC=0:=rfl
 have h2:L9 t ⟨g,[],p.vars,[]⟩ [trueC]=0:=by unfold L9;rw [if_neg (by rw [h1];simp)];rfl
 have h3:mP t p (.mk 5 [trueC] ⟨cF p.graph.nodes.length,cF p.graph.edges.length⟩ ⟨g,[],p.vars,[]⟩)=0:=by
  unfold mP
  rw [if_neg (by rw [if_pos rfl,hX];simp),if_pos rfl];exact h2
 unfold mP
 rw [if_neg (by rw [if_neg (by decide)];simp),if_neg (by decide)]
 unfold L9
 rw [if_neg (by rw [h3];simp)];rfl
theorem Tc {t:Types}(h:MadeTy t){p:Pattern}(hp:bN t p=0)(hp0:0≤p.vars∧p.vars≤3)(hpg:graphF p.graph=0)(hpt:dP t p.graph=true)(hn:p.graph.nodes.length≤8)(he:p.graph.edges.length≤10)(x:B4):condF t p (Aw t p x)=0:=by
 have hne:=h.fine.valid.ne
 have h5:=h.ne
 have h6:=h.nn
 have hin:=iV hpg hpt
 have m1:=b4 (show 0≤(x.2.1.toNat:Int) by omega) (show (0:Int)<t.nodes.length by omega)
 unfold Aw
 split
 ·refine Mk h.v hp ⟨hp0.1,by omega⟩ hpg (n4 (by simp;omega) (by simp;omega) (fun a ha=>?_) fun y hy=>?_) (nT (fun a ha=>?_) fun y hy=>(hin.2 y hy).1.2) ⟨_,rfl⟩ ⟨[],by simp⟩
  ·rcases aW.1 ha with ha|ha
   ·have:=hin.1 a ha;omega
   ·rw [aV] at ha;omega
  ·have h1:=hin.2 y hy
   refine ⟨by omega,?_,?_⟩
   ·have:=h1.2.1;simp;omega
   ·have:=h1.2.2;simp;omega
  ·rcases aW.1 ha with ha|ha
   ·exact (hin.1 a ha).2
   ·rw [aV] at ha;omega
 ·split
  ·split
   ·exact EI hp
   ·rename_i h0
    have k1:=b4 (show 0≤(x.2.1.toNat:Int) by omega) (show (0:Int)<t.edges.length by omega)
    have k2:=b4 (show 0≤(x.2.2.1.toNat:Int) by omega) (show (0:Int)<p.graph.nodes.length by omega)
    have k3:=b4 (show 0≤(x.2.2.2.toNat:Int) by omega) (show (0:Int)<p.graph.nodes.length by omega)
    refine Mk h.v hp ⟨hp0.1,by omega⟩ hpg (n4 (by simp;omega) (by simp;omega) (fun a ha=>by have:=hin.1 a ha;omega) fun y hy=>?_) (nT (fun a ha=>(hin.1 a ha).2) fun y hy=>?_) ⟨[],by simp⟩ ⟨_,rfl⟩
    ·rcases aW.1 hy with hy|hy
     ·have h1:=hin.2 y hy
      exact ⟨by omega,h1.2.1,h1.2.2⟩
     ·rw [aV] at hy
      subst hy
      exact ⟨⟨k1.1,by simp only;omega⟩,k2,k3⟩
    ·rcases aW.1 hy with hy|hy
     ·exact (hin.2 y hy).1.2
     ·rw [aV] at hy
      subst hy
      exact k1.2
  ·exact EI hp
theorem Co {t:Types}{r:Rule}(hg:graphF r.right.graph=0)(ht:dP t r.right.graph=true)(hv:r.right.vars=r.left.vars)(hT:r.right.tests=[])(hl:r.right.slots.length≤10)(hs:bR (wU t r.right) 0 r.right.slots.length=0):kC t r=0:=by
 unfold kC
 rw [if_neg (by rw [hg];simp),if_neg (by rw [ht];simp),if_neg (by rw [hv,hT];simp),if_neg (by omega),hs]
theorem F1 {r:Rule}(hS:subF r.left.graph r.keep=0)(hM:dE (bS r.left.graph r.keep) r.right.graph r.into=0)(hI:u0 (bS r.left.graph r.keep) r.right.graph r.into=true):keptF r=0:=by
 unfold keptF
 rw [if_neg (by rw [hS];simp),if_neg (by rw [hM];simp),if_neg (by rw [hI];simp)]
theorem xI {t:Types}(h:MadeTy t)(d:Dr24):ruleF t (lV t d)=0:=by
 have C:=J1 h d
 obtain ⟨_,l1,l2,hv⟩:=tS t d.left
 have hP:=LY h d.left
 have hg:(dF t d.left).graph=fG t d.left.graph:=rfl
 have hname:fT ⟨#[114]⟩=true:=by decide
 unfold lV
 split
 ·have hPp:=Fz h.v C.g0 C.t0
  refine E5 h.v hname hPp (Co C.gR C.tR rfl rfl (by show ([]:List Slot).length≤10;simp) rfl) (F1 C.sub C.mor C.inj) C.mkb (EI hPp)
 ·have hS:(∀ s∈mS t (mB t d).nodes (dF t d.left).vars d.slots,SlotIn t (mB t d).nodes (dF t d.left).vars s)∧G2 (mS t (mB t d).nodes (dF t d.left).vars d.slots)∧(mS t (mB t d).nodes (dF t d.left).vars d.slots).length≤10:=by
   unfold mS
   split
   ·exact ⟨fun s hs=>by simp [tB] at hs,fun i hi=>by simp [tB] at hi,by simp [tB]⟩
   ·rename_i h0
    obtain ⟨a,b⟩:=KW (t:=t) hv.1 (show 0<(mB t d).nodes.length by omega) d.slots (min d.slots.length 3)
    have:=A2 t (dF t d.left).vars (mB t d).nodes d.slots (min d.slots.length 3)
    exact ⟨a,b,by omega⟩
  obtain ⟨s1,s2,s3⟩:=hS
  refine E5 h.v hname hP (Co C.gR C.tR rfl rfl s3 (PW (p:=(p9 t d).right) s1 s2)) (F1 C.sub C.mor C.inj) C.mkb ?_
  exact Tc h hP hv C.g0 C.t0 l1 l2 d.forbid
/-! ### hosts -/
theorem Rr {t:Types}(h:MadeTy t){k:Int}(h0:0≤k)(h1:k<t.nodes.length)(ha:j6 t k.toNat=false)(b:UInt8):iT t k (l9 (bI t k) b (bI t k).length)=0:=by
 have hl:(l9 (bI t k) b (bI t k).length).length=(bI t k).length:=by simp [l9]
 unfold iT
 rw [if_neg (by omega),if_neg (by rw [ha];simp),if_neg (by rw [hl];simp)]
 refine jP _ _ fun j _ hj=>?_
 have hj':j<(bI t k).length:=by omega
 obtain ⟨g1,g2,g3⟩:=(h.fine.good k).1 _ (aC hj')
 have hm:=b4 (show (0:Int)≤(b.toNat:Int)+7 * (j:Int) by omega) (show (0:Int)<(bI t k)[j].high - (bI t k)[j].low+1 by omega)
 have hv:(l9 (bI t k) b (bI t k).length)[j]?.getD 0=(bI t k)[j].low+((b.toNat:Int)+7 * (j:Int)).tmod ((bI t k)[j].high - (bI t k)[j].low+1):=by
  unfold l9
  rw [aM,eM hj']
  simp only [cZ,aD,Kz]
  rw [aA hj']
 unfold Hr
 rw [hv,aA hj',aD,if_neg]
 omega
theorem xJ {t:Types}(h:MadeTy t)(d:Dr15):fR t (Ao t d)=0:=by
 have hv:=h.v
 have hf:=h.nn
 have hf2:=h.ne
 obtain ⟨k,hk⟩:∃ k,k=if (g9 t).length=0 then 0 else min d.nodes.length 8:=⟨_,rfl⟩
 obtain ⟨ns,hns⟩:∃ ns,ns=zF t d.nodes k:=⟨_,rfl⟩
 have hnl:ns.length=k:=by rw [hns];simp [zF]
 have hk8:k≤8:=by rw [hk];split<;>omega
 have hpos:∀ i,i<k→0<(g9 t).length:=fun i hi=>Nat.pos_of_ne_zero fun h0=>by rw [hk,if_pos h0] at hi;omega
 have hn:∀ a∈ns,(0≤a∧a<t.nodes.length)∧j6 t a.toNat=false:=fun a ha=>by
  rw [hns] at ha
  unfold zF at ha
  rw [aT] at ha
  obtain ⟨i,hi,rfl⟩:=ha
  rw [bK] at hi
  have hm:=tI (hpos i hi) (iD d.nodes i).1
  exact ⟨IM hm,My hm⟩
 obtain ⟨q,hq⟩:∃ q,q=if ns.length=0∨t.edges.length=0 then 0 else min d.edges.length 10:=⟨_,rfl⟩
 have hq10:q≤10:=by rw [hq];split<;>omega
 have hG:Ao t d=⟨⟨ns,Mh t ns [] d.edges q⟩,zC t d.nodes k⟩:=by unfold Ao;rw [hq,hns,hk]
 rw [hG]
 have hmem:∀ x∈Mh t ns [] d.edges q,((0≤x.type∧x.type<t.edges.length)∧(0≤x.from_∧x.from_<ns.length)∧(0≤x.to_∧x.to_<ns.length))∧j4 t x.type (nN ns x.from_) (nN ns x.to_)=true:=fun x hx=>by
  unfold Mh at hx
  rw [eJ,bQ] at hx
  obtain ⟨i,hi,hx⟩:=hx
  rw [bK] at hi
  have hne:¬ (ns.length=0∨t.edges.length=0):=fun h0=>by rw [hq,if_pos h0] at hi;omega
  obtain ⟨y,hy⟩:∃ y,y=d.edges[i]?.getD (0,0,0):=⟨_,rfl⟩
  rw [← hy] at hx
  unfold tX at hx
  split at hx
  ·rename_i hfit
   rw [aV] at hx
   subst hx
   refine ⟨⟨?_,?_,?_⟩,hfit⟩
   ·exact b4 (show (0:Int)≤(y.1.toNat:Int) by omega) (show (0:Int)<(t.edges.length:Int) by omega)
   ·exact b4 (show (0:Int)≤(y.2.1.toNat:Int) by omega) (show (0:Int)<(ns.length:Int) by omega)
   ·exact b4 (show (0:Int)≤(y.2.2.toNat:Int) by omega) (show (0:Int)<(ns.length:Int) by omega)
  ·cases hx
 have hlen:=Ey t ns [] d.edges q
 have hvl:(zC t d.nodes k).length=k:=by simp [zC]
 refine Me hv (by simp only;omega) (by simp only;simp at hlen;omega) (by simp only;omega) (fun a ha=>(hn a ha).1) (fun n h1 h2=>?_) hmem
 have hnk:n<k:=by simp only at h1;omega
 have e1:ns[n]'h1=As t (iD d.nodes n):=by simp [hns,zF]
 have e2:(zC t d.nodes k)[n]'h2=K8 t (iD d.nodes n):=by simp [zC]
 simp only [e1,e2]
 have hkk:=hn _ (aC (show n<ns.length by omega))
 rw [e1] at hkk
 exact Rr h hkk.1.1 hkk.1.2 hkk.2 _
/-! ### matches of made things: too many, or all -/
theorem JL {t:Types}{p:Pattern}{h:Host}(hv:(b9 t).2=0)(hp:bN t p=0)(hpg:graphF p.graph=0)(hpt:dP t p.graph=true)(hh:fR t h=0)(inj:Bool):(fK t p h inj).2=0∨(fK t p h inj).2=3:=by
 have H:=qO hh
 have hht:dP t h.graph=true:=nT (fun a ha=>by
  obtain ⟨i,hi,rfl⟩:=aN ha
  have:=H.nd i hi (by rw [H.vl];exact hi)
  refine bD fun hc=>?_
  unfold iT at this
  rw [if_pos (by omega)] at this
  cases this) fun x hx=>(H.ed x hx).1
 have hg:eB t p.graph h.graph=0:=by
  unfold eB
  rw [if_neg (by rw [hv];simp),if_neg (by rw [hpg];simp),if_neg (by rw [H.gg];simp),uL hpg,uL H.gg,hpt,hht]
  rfl
 unfold fK
 rw [if_neg (by rw [hp];simp),if_neg (by rw [hh];simp)]
 have hA:(mI t p.graph h.graph inj).2=0∨(mI t p.graph h.graph inj).2=3:=by
  unfold mI Gv
  rw [if_neg (by rw [hg];simp)]
  split
  ·exact .inr rfl
  ·exact .inl rfl
 rcases hA with h0|h0
 ·rw [if_neg (by rw [h0];simp)];exact .inl rfl
 ·rw [if_pos (by rw [h0];decide)];exact .inr h0
theorem JM {t:Types}{r:Rule}(h:ruleF t r=0):bN t r.left=0:=by
 unfold ruleF at h
 refine bD fun hc=>?_
 split at h
 ·contradiction
 ·split at h
  ·exact absurd h (by decide)
  ·first|exact hc h|(rw [if_pos hc] at h;exact hc h)
theorem CC {t:Types}{r:Rule}{h:Host}(ho:r.ok)(hr:ruleF t r=0)(hh:fR t h=0):(n7 t r h).2=0∨(n7 t r h).2=3:=by
 have R:=HW ho hr
 have hv:=R.vf
 have hg:gQ t r h=0:=by unfold gQ;rw [if_neg (by rw [hr];simp),hh]
 unfold n7
 rw [if_neg (by rw [hg];simp)]
 rcases JL hv (JM hr) R.pl.gg R.pl.ty hh r.inj with h0|h0
 ·rw [if_neg (by rw [h0];simp)];exact .inl rfl
 ·rw [if_pos (by rw [h0];decide)];exact .inr h0
def uC (p:Nat→Bool)(n:Nat):Nat:=((List.range n).filter p).length
theorem y4 (p:Nat→Bool)(n:Nat):uC p (n+1)=uC p n+(if p n=true then 1 else 0):=by
 unfold uC
 rw [bJ,fP,aI]
 by_cases h:p n=true<;>simp [h]
theorem GB (p:Nat→Bool):∀ n,uC p n+uC (fun i=>!p i) n=n
 | 0=>rfl
 | n+1=>by
  have ih:=GB p n
  rw [y4,y4]
  cases p n<;>simp<;>omega
theorem LJ (l:List Int)(n:Nat):(b6 l n).length=uC (fun i=>!mem l i) n:=by unfold b6 uC;rw [bA]
theorem GA {p q:Nat→Bool}{n:Nat}(h:∀ i,i<n→p i=q i):uC p n=uC q n:=by
 unfold uC
 rw [List.filter_congr fun i hi=>h i (bK.1 hi)]
theorem PA (p:Nat→Bool)(v:Nat):∀ n,uC (fun i=>p i||decide (i=v)) n=uC p n+(if v<n∧p v=false then 1 else 0)
 | 0=>by simp [uC]
 | n+1=>by
  rw [y4,y4,PA p v n]
  by_cases h:n=v
  ·subst h
   cases hp:p n<;>simp [hp]
  ·have e:decide (n=v)=false:=by simpa using h
   have h2:(v<n+1∧p v=false)↔(v<n∧p v=false):=⟨fun ⟨a,b⟩=>⟨by omega,b⟩,fun ⟨a,b⟩=>⟨by omega,b⟩⟩
   rw [e,mM]
   simp only [h2]
   omega
theorem sP (l:List Int)(v:Int){j:Nat}(h:j<l.length):mem (l.take (j+1)) v=(mem (l.take j) v||decide (l[j]=v)):=by
 rw [aS,cG,dA,dA,aF h,aW,aV,decide_eq_true_eq]
 exact ⟨fun h=>h.imp id Eq.symm,fun h=>h.imp id Eq.symm⟩
def nR (l:List Int)(k:Nat):Nat:=((List.range k).filter fun i=>!mem (l.take i) (l[i]?.getD 0)).length
theorem AB (l:List Int)(k:Nat):nR l (k+1)=nR l k+if mem (l.take k) (l[k]?.getD 0)=true then 0 else 1:=by
 unfold nR
 rw [bJ,fP,aI]
 cases h:mem (l.take k) (l[k]?.getD 0)<;>simp [h]
theorem Gt (l:List Int)(k:Nat):nR l k≤k:=by
 unfold nR;exact c6 (e9 _ _) (by simp)
theorem Mw {l:List Int}{n:Nat}(hr:∀ x∈l,0≤x∧x<n):∀ k,k≤l.length→nR l k=uC (fun i=>mem (l.take k) i) n
 | 0,_=>by
  have:uC (fun i=>mem (l.take 0) (i:Int)) n=uC (fun _=>false) n:=GA fun i _=>by simp [pP]
  have h2:uC (fun _=>false) n=0:=by
   unfold uC
   rw [vL.2 (fun _ _=>by simp)]
   rfl
  rw [this,h2];rfl
 | k+1,hk=>by
  have ih:=Mw hr k (by omega)
  have hx:=hr _ (aC (show k<l.length by omega))
  have e:uC (fun i=>mem (l.take (k+1)) (i:Int)) n=uC (fun i=>mem (l.take k) (i:Int)||decide (i=l[k].toNat)) n:=GA fun i _=>by
   rw [sP l _ (show k<l.length by omega)]
   congr 1
   rw [decide_eq_decide];omega
  rw [e,PA,AB,ih,aA (show k<l.length by omega),aD,show ((l[k].toNat:Nat):Int)=l[k] by omega]
  have hlt:l[k].toNat<n:=by omega
  cases hm:mem (l.take k) l[k]<;>simp [hlt]
theorem xE {l:List Int}{n:Nat}(hr:∀ x∈l,0≤x∧x<n):(b6 l n).length+nR l l.length=n:=by
 rw [LJ,Mw hr l.length (aY _),HK]
 have:=GB (fun i=>mem l (i:Int)) n
 omega
theorem Gs {l:List Int}(hd:l.Nodup):∀ k,k≤l.length→nR l k=k
 | 0,_=>rfl
 | k+1,hk=>by
  rw [AB,Gs hd k (by omega),if_neg]
  rw [Bool.not_eq_true,bX]
  intro hm
  have hk':k<l.length:=by omega
  rw [dA,aA hk',aD] at hm
  have h2:(l.take (k+1)).Nodup:=(List.take_sublist _ _).nodup hd
  rw [aF hk',List.nodup_append] at h2
  exact h2.2.2 _ hm _ (aV.2 rfl) rfl
theorem Bg {l:List Int}{n:Nat}(hr:∀ x∈l,0≤x∧x<n)(hd:l.Nodup):(b6 l n).length+l.length=n:=by
 have:=xE hr
 rw [Gs hd _ (aY _)] at this
 exact this
theorem Pq {im keep:List Int}{n:Nat}(h:∀ x∈im,0≤x∧x<n):∀ x∈eL im keep,0≤x∧x<n:=fun x hx=>by
 unfold eL at hx
 obtain ⟨i,hi,rfl⟩:=aT.1 hx
 have:=bK.1 (dN.1 hi).1
 rw [aA this,aD]
 exact h _ (aC _)
theorem Pp (im keep:List Int):(eL im keep).length≤im.length:=by
 unfold eL;rw [bA]
 exact c6 (e9 _ _) (by simp)
section
variable {t:Types} {r:Rule} {h:Host} {m:Mat}
theorem StepIn.imN (S:StepIn t r h m):∀ x∈m.m.nodes,0≤x∧x<h.graph.nodes.length:=fun x hx=>by
 obtain ⟨i,hi,rfl⟩:=aN hx
 have:=S.hm.len
 exact (S.hm.img i hi (by omega)).1
theorem StepIn.imE (S:StepIn t r h m):∀ x∈m.m.edges,0≤x∧x<h.graph.edges.length:=fun x hx=>by
 obtain ⟨i,hi,rfl⟩:=aN hx
 exact S.hm.eimg i hi
theorem StepIn.cntN (S:StepIn t r h m):(cD t r h m).graph.nodes.length+nR (eL m.m.nodes r.keep.nodes) (eL m.m.nodes r.keep.nodes).length+r.keep.nodes.length=h.graph.nodes.length+r.right.graph.nodes.length:=by
 have h1:=xE (Pq (keep:=r.keep.nodes) S.imN)
 have hk:=S.hR.keep
 have h2:=Bg hk.2.2.2.1 S.intoN.1
 have e1:(cE r h m).nodes.length=(b6 (eL m.m.nodes r.keep.nodes) h.graph.nodes.length).length:=by rw [S.rest]
 have e2:r.freshN.length=(b6 r.into.nodes r.right.graph.nodes.length).length:=rfl
 rw [S.bareN,aI,bA,bA]
 have:=hk.1.1
 omega
theorem StepIn.cntE (S:StepIn t r h m):(cD t r h m).graph.edges.length+nR (eL m.m.edges r.keep.edges) (eL m.m.edges r.keep.edges).length+r.keep.edges.length=h.graph.edges.length+r.right.graph.edges.length:=by
 have h1:=xE (Pq (keep:=r.keep.edges) S.imE)
 have hk:=S.hR.keep
 have h2:=Bg hk.2.2.2.2 S.intoN.2
 have e1:(cE r h m).edges.length=(b6 (eL m.m.edges r.keep.edges) h.graph.edges.length).length:=by rw [S.rest]
 have e2:r.freshE.length=(b6 r.into.edges r.right.graph.edges.length).length:=rfl
 rw [S.bareE,aI,bA,bA]
 have:=hk.1.2
 omega
end
structure StepOk (t:Types) (r:Rule) (h:Host) (m:Mat):Prop where
 S:StepIn t r h m
 pre:Ai t r h m=0
 sol:eN t r.left h m.m=(m.vars,0)
 put:Bb t (cD t r h m).graph (gM r h m) m.vars r.right.slots=0
 nn:(cD t r h m).graph.nodes.length≤40
 ne:(cD t r h m).graph.edges.length≤80
theorem No {t:Types}{r:Rule}{h:Host}{m:Mat}(hR:RuleV t r)(ho:HostOk t h)(h0:iY t r h m=0):StepOk t r h m:=by
 unfold iY at h0
 split at h0
 ·contradiction
 ·rename_i h1
  have hp:zW t r h m=0:=by simpa using h1
  unfold zW at hp
  split at hp
  ·contradiction
  ·rename_i h2
   have h2':Ai t r h m=0:=by simpa using h2
   have hsol:eN t r.left h m.m=(m.vars,0):=by
    unfold Ai at h2'
    split at h2'
    ·cases h2'
    ·split at h2'
     ·contradiction
     ·rename_i h4
      split at h2'
      ·cases h2'
      ·rename_i h5
       exact Prod.ext (by simpa using h5) (by simpa using h4)
   split at h0
   ·contradiction
   ·rename_i h3
    split at h0
    ·cases h0
    ·rename_i h4
     exact ⟨Rl hR ho h2',h2',hsol,by simpa using h3,by omega,by omega⟩
theorem StepOk.after {t:Types}{r:Rule}{h:Host}{m:Mat}(S:StepOk t r h m):fR t (fO t r h m)=0:=S.S.after S.put S.nn S.ne
theorem BU {t:Types}{r:Rule}{h:Host}{m:Mat}(hm:m∈(n7 t r h).1):gQ t r h=0∧iY t r h m=0:=by
 unfold n7 at hm
 split at hm
 ·cases hm
 ·rename_i h1
  split at hm
  ·cases hm
  ·exact ⟨by simpa using h1,of_decide_eq_true (dN.1 hm).2⟩
end Go.Abs
end
