/- Plain law: made graphs, shuffled graphs, kept parts (what th -/
import Derived.Test.YthalajhajpjjeaaGreatZhS
import Derived.Test.YthalajhajpjjeaaGreatZhM
import Derived.Test.YthalajhajpjjeaaGreatZhP
import Derived.Test.YthalajhajpjjeaaGreatZhF
import Derived.Test.YthalajhajpjjeaaGreatZhT
set_option linter.unusedVariables false
set_option linter.unusedSimpArgs false
section
set_option maxRecDepth 100000
set_option maxHeartbeats 4000000
open Go Go.Proofs
namespace Go.Abs
theorem Ek {g:Graph}{p:Part}(h:subF g p=0):(b5 g p).nodes.length=p.nodes.length∧(b5 g p).edges.length=p.edges.length:=by
 unfold b5;rw [if_pos h];simp
theorem Sx {g:Graph}{p:Part}(h:subF g p=0):p.nodes.length≤g.nodes.length∧p.edges.length≤g.edges.length:=by
 obtain ⟨_,h1,h2,h3⟩:=sP h
 exact ⟨KS h1 h2,KS (Oh h) h3⟩
theorem Pm {g:Graph}{p:Part}(h:subF g p=0):graphF (b5 g p)=0:=by
 obtain ⟨hg,hs,hn,he⟩:=sP h
 obtain ⟨l1,l2⟩:=Ek h
 obtain ⟨l3,l4⟩:=Sx h
 have hle:=cJ hg
 have hin:=dF hg
 refine o7 (by omega) (by omega) (fun a ha=>?_) (fun x hx=>?_)
 ·unfold b5 at ha;rw [if_pos h,aQ] at ha
  obtain ⟨n,hn',rfl⟩:=ha
  exact hin.1 _ (yX (hn n hn').1 (hn n hn').2)
 ·rw [l1]
  unfold b5 at hx;rw [if_pos h,aQ] at hx
  obtain ⟨k,hk,rfl⟩:=hx
  rw [KF]
  have h1:=hin.2 _ (t7 (he k hk).1 (he k hk).2)
  have h2:=pT h hk
  have h3:=(Kn hs h2.1).1
  have h4:=(Kn hs h2.2).1
  exact ⟨h1.1,by show (0:Int)≤(pY _ _:Nat)∧((pY _ _:Nat):Int)<_;omega,by show (0:Int)≤(pY _ _:Nat)∧((pY _ _:Nat):Int)<_;omega⟩
theorem Dc {a b:Graph}{m:Part}(ha:graphF a=0)(hb:graphF b=0)(l1:m.nodes.length=a.nodes.length)(l2:m.edges.length=a.edges.length)
  (hn:∀ i:Int,0≤i→i<a.nodes.length→(0≤iA m.nodes i∧iA m.nodes i<b.nodes.length)∧gN b (iA m.nodes i)=gN a i)
  (he:∀ k:Int,0≤k→k<a.edges.length→(0≤iA m.edges k∧iA m.edges k<b.edges.length)∧(eA a k).type=(eA b (iA m.edges k)).type∧iA m.nodes (eA a k).from_=(eA b (iA m.edges k)).from_∧iA m.nodes (eA a k).to_=(eA b (iA m.edges k)).to_):dS a b m=0:=by
 unfold dS
 rw [if_neg (by rw [ha];simp),if_neg (by rw [hb];simp),if_neg (by omega)]
 have h1:bT (jY a b m) 0 a.nodes.length=0:=iJ _ _ fun i _ hi=>by
  have:=hn i (by omega) (by omega)
  unfold iA gN at this
  unfold jY
  simp only [Int.toNat_natCast] at this
  rw [if_neg (by omega),if_neg (by rw [this.2];simp)]
 rw [if_neg (by rw [h1];simp)]
 refine iJ _ _ fun k _ hk=>?_
 have:=he k (by omega) (by omega)
 unfold iA eA at this
 simp only [Int.toNat_natCast] at this
 obtain ⟨q1,q2,q3,q4⟩:=this
 unfold mapEE
 rw [if_neg (by omega),if_neg (by rw [q2];simp),if_neg]
 rintro (h|h)
 ·exact h q3
 ·exact h q4
theorem nD {t:Types}{g:Graph}(hn:∀ a∈g.nodes,a<t.nodes.length)(he:∀ x∈g.edges,x.type<t.edges.length):dP t g=true:=by
 unfold dP
 rw [aN,cG,cG,jP,jP]
 exact ⟨fun a ha=>by have:=hn a ha;simpa using this,fun x hx=>by have:=he x hx;simpa using this⟩
section
variable {g:Graph} {p:Part} {more:Graph} {kept:Part} {im:List Int}
theorem KV {α:Type}(a b:List α){i:Nat}(h:i<a.length):(a++b)[i]?=a[i]?:=aT h
theorem TM {α:Type}(a b:List α){i:Nat}(h:a.length≤i):(a++b)[i]?=b[i - a.length]?:=bB h
end
theorem Uw {l:List Int}{x:Int}(h:x∈l):∃ j:Int,(0≤j∧j<l.length)∧iA l j=x:=by
 obtain ⟨i,hi,he⟩:=aK h
 exact ⟨i,by omega,by unfold iA;simp [hi,he]⟩
theorem Nb {g:Graph}{i:Nat}(h:i<g.nodes.length):gN g i=g.nodes[i]:=by unfold gN;simp [h]
theorem Js {g:Graph}{i:Nat}(h:i<g.edges.length):eA g i=g.edges[i]:=by unfold eA;simp [h]
theorem S7 {t:Types}{g:Graph}{ns es:List Int}(h1:∀ i∈ns,absB t g i=false)(h2:∀ k∈es,unfitB t g k=false):AL t g ns es=true:=by
 unfold AL
 rw [aN,cG,cG,jP,jP]
 exact ⟨fun i hi=>by rw [h1 i hi];simp,fun k hk=>by rw [h2 k hk];simp⟩
section
variable {t:Types} {a b:Rule} {o:Ovl}
theorem Gh {g:Graph}(hv:(cH t).2=0)(hg:graphF g=0)(ht:dP t g=true):bR t ⟨g,[],0,[]⟩=0:=by
 unfold bR
 rw [if_neg (by rw [hv];simp),if_neg (by show ¬ graphF g≠0;rw [hg];simp),if_neg (by show ¬ dP t g=false;rw [ht];simp),if_neg (by show ¬ inF 0 0 12=false;decide),if_neg (by simp),if_neg (by simp [fM]),if_neg (by show ¬ iF 0 []≠0;decide),if_neg (by show ¬ mem (jQ (0:Int).toNat []) false=true;decide)]
end
theorem Bb {f:Nat→Int}{nm:Nat→ByteArray}{last:ByteArray × Int}:∀ (n k:Nat),(∀ j,k≤j→j<k+n→f j=0)→dY f nm last k n=last
 | 0,k,_=>rfl
 | n+1,k,h=>by
  unfold dY
  rw [if_neg (by rw [h k (bC _) (by omega)];simp)]
  exact Bb n (k+1) fun j h1 h2=>h j (by omega) (by omega)
theorem Su:∀ i,i<6→gW (tyA.extract i (i+1))=true:=by decide +kernel
theorem Lu:∀ i,i<6→gW (tyU.extract i (i+1))=true:=by decide +kernel
theorem Ss:∀ i,i<5→gW (tyE.extract i (i+1))=true:=by decide +kernel
theorem VJ:∀ i,i<6→∀ j,j<i→tyA.extract j (j+1)≠tyA.extract i (i+1):=by decide +kernel
theorem VI:∀ i,i<5→∀ j,j<i→tyE.extract j (j+1)≠tyE.extract i (i+1):=by decide +kernel
theorem Mz:lY [⟨#[111,102,102]⟩,⟨#[111,110]⟩]=0:=by decide +kernel
theorem Gv {ns es:List B2}{i:Nat}(hi:i<(jE ns es).nodes.length):(jE ns es).nodes[i]=l5 i (i5 ns i) :=
 (vZ (aA hi)).2
theorem IY {ns es:List B2}{i:Nat}(hi:i<(jE ns es).edges.length):(jE ns es).edges[i]=BZ (lG ns) i (i5 es i):=by
 simp [jE,rS]
theorem Uf {xs:List Int}{i j:Nat}(hi:i<xs.length)(hj:j<xs.length){v:Int}(hv:v∈xs):v∈JT xs i j:=by
 obtain ⟨k,hk⟩:=List.getElem?_of_mem hv
 by_cases h1:k=i
 ·subst h1;exact aI (i:=j) (by rw [uG hi hj,if_pos rfl,hk])
 ·by_cases h2:k=j
  ·subst h2
   by_cases h3:i=k
   ·exact absurd h3.symm h1
   ·exact aI (i:=i) (by rw [uG hi hj,if_neg h3,if_pos rfl,hk])
  ·exact aI (i:=k) (by rw [uG hi hj,if_neg h2,if_neg h1,hk])
theorem LH (n:Nat)(l:List UInt8){v:Int}(hv:0≤v∧v<n):∀ k,k≤n→v∈(List.range k).foldl (LI n l) (e9 n)
 | 0,_=>by
  have:=yK (n:=n) (a:=v.toNat) (by omega)
  exact aI (i:=v.toNat) (by show (e9 n)[v.toNat]?=some v;rw [this];congr 1;omega)
 | k+1,h=>by
  have ih:=LH n l hv k (by omega)
  have hp:=CV n l k (by omega)
  rw [bK,jO]
  exact Uf (by rw [hp.1];omega) (by rw [hp.1];exact LJ (by omega)) ih
theorem zL (n:Nat)(l:List UInt8){v:Int}(hv:0≤v∧v<n):v∈jD n l:=LH n l hv _ (by omega)
theorem Kp {n:Nat}{p:List Int}(h:lK n p){i j:Nat}(hi:i<p.length)(hj:j<p.length)(hne:i≠j):p[i]≠p[j]:=by
 intro he
 rcases Nat.lt_or_gt_of_ne hne with hlt|hlt
 ·exact h.2.2 i j hlt hj (by rw [aA hi,aA hj,he])
 ·exact h.2.2 j i hlt hi (by rw [aA hi,aA hj,he])
theorem lW {n:Nat}{p:List Int}(h:lK n p):p.Nodup:=by
 rw [cY,dH]
 exact fun a b ha hb hab=>Kp h ha hb (by omega)
theorem P4 {n:Nat}{p xs:List Int}(hp:lK n p)(hx:xs.length=n){i:Nat}(hi:i<p.length):∀ k,k≤n→i<k→(C2 p xs k)[p[i].toNat]?=xs[i]?
 | 0,_,h=>by omega
 | k+1,hk,h=>by
  rw [C1]
  have hkp:k<p.length:=by rw [hp.1];omega
  have r1:=hp.2.1 _ (aC hi)
  have r2:=hp.2.1 _ (aC hkp)
  rw [aA hkp,Option.getD_some]
  rcases bX i k with hlt|hge
  ·have:=Kp hp hi hkp (by omega)
   rw [iZ (by omega)]
   exact P4 hp hx hi k (by omega) hlt
  ·obtain rfl:i=k:=by omega
   rw [fK (by rw [uN];omega),aA (show i<xs.length by omega)];rfl
theorem P5 {n:Nat}{p q:List Int}{es:List Edge}(hq:lK n q)(hx:es.length=n){i:Nat}(hi:i<q.length):∀ k,k≤n→i<k→(ED p q es k)[q[i].toNat]?=some (Kd p (es[i]?.getD b4))
 | 0,_,h=>by omega
 | k+1,hk,h=>by
  rw [C3]
  have hkp:k<q.length:=by rw [hq.1];omega
  have r1:=hq.2.1 _ (aC hi)
  have r2:=hq.2.1 _ (aC hkp)
  rw [aA hkp,Option.getD_some]
  rcases bX i k with hlt|hge
  ·have:=Kp hq hi hkp (by omega)
   rw [iZ (by omega)]
   exact P5 hq hx hi k (by omega) hlt
  ·obtain rfl:i=k:=by omega
   rw [fK (by rw [uO];omega)];rfl
section
variable {g:Graph} {p q:List Int}
theorem OB (hg:graphF g=0):qD g p q=⟨C2 p g.nodes g.nodes.length,ED p q g.edges g.edges.length⟩:=if_pos hg
theorem sS (hg:graphF g=0):(qD g p q).nodes.length=g.nodes.length∧(qD g p q).edges.length=g.edges.length:=by
 rw [OB hg];exact ⟨uN _ _ _,uO _ _ _ _⟩
theorem zQ {n:Nat}(hp:lK n p){i:Int}(h0:0≤i)(hi:i<n):0≤iA p i∧iA p i<n:=hp.2.1 _ (fG h0 (by rw [hp.1];exact hi))
theorem BG (hg:graphF g=0)(hp:lK g.nodes.length p){i:Int}(h0:0≤i)(hi:i<g.nodes.length):gN (qD g p q) (iA p i)=gN g i:=by
 rw [OB hg]
 have hip:i.toNat<p.length:=by rw [hp.1];omega
 have:=P4 hp rfl hip g.nodes.length (bC _) (by omega)
 show ((C2 p g.nodes g.nodes.length)[(iA p i).toNat]?).getD 0=(g.nodes[i.toNat]?).getD 0
 rw [show iA p i=p[i.toNat] by unfold iA;rw [aA hip];rfl,this]
theorem BH (hg:graphF g=0)(hq:lK g.edges.length q){i:Int}(h0:0≤i)(hi:i<g.edges.length):eA (qD g p q) (iA q i)=Kd p (eA g i):=by
 rw [OB hg]
 have hip:i.toNat<q.length:=by rw [hq.1];omega
 have:=P5 (p:=p) hq rfl hip g.edges.length (bC _) (by omega)
 show ((ED p q g.edges g.edges.length)[(iA q i).toNat]?).getD b4=Kd p ((g.edges[i.toNat]?).getD b4)
 rw [show iA q i=q[i.toNat] by unfold iA;rw [aA hip];rfl,this];rfl
theorem EW (x:Edge):Kd p x=⟨x.type,iA p x.from_,iA p x.to_⟩:=rfl
def Hy (n:Nat)(p:List Int):Prop:=∀ v:Int,0≤v→v<n→∃ i:Int,(0≤i∧i<n)∧iA p i=v
theorem EZ {n:Nat}(hp:lK n p)(h:∀ v:Int,0≤v∧v<n→v∈p):Hy n p:=fun v h0 h1=>by
 obtain ⟨j,hj,he⟩:=Uw (h v ⟨h0,h1⟩)
 exact ⟨j,by rw [← hp.1];exact hj,he⟩
theorem SJ (hg:graphF g=0)(hp:lK g.nodes.length p)(hq:lK g.edges.length q)(op:Hy g.nodes.length p)(oq:Hy g.edges.length q):graphF (qD g p q)=0:=by
 have hle:=cJ hg
 have hin:=dF hg
 have hl:=sS (p:=p) (q:=q) hg
 refine o7 (by omega) (by omega) (fun a ha=>?_) (fun x hx=>?_)
 ·obtain ⟨j,hj,rfl⟩:=aK ha
  rw [← Nb hj]
  obtain ⟨i,hi,he⟩:=op (j:Int) (by omega) (by omega)
  rw [← he,BG hg hp hi.1 hi.2]
  exact hin.1 _ (yX hi.1 hi.2)
 ·obtain ⟨j,hj,rfl⟩:=aK hx
  rw [← Js hj]
  obtain ⟨i,hi,he⟩:=oq (j:Int) (by omega) (by omega)
  rw [← he,BH hg hq hi.1 hi.2,EW]
  have h1:=hin.2 _ (t7 hi.1 hi.2)
  exact ⟨h1.1,by rw [hl.1];exact zQ hp h1.2.1.1 h1.2.1.2,by rw [hl.1];exact zQ hp h1.2.2.1 h1.2.2.2⟩
theorem Q5 {t:Types}(hg:graphF g=0)(ht:dP t g=true)(hp:lK g.nodes.length p)(hq:lK g.edges.length q)(op:Hy g.nodes.length p)(oq:Hy g.edges.length q):dP t (qD g p q)=true:=by
 have hin:=jT hg ht
 have hl:=sS (p:=p) (q:=q) hg
 refine nD (fun a ha=>?_) (fun x hx=>?_)
 ·obtain ⟨j,hj,rfl⟩:=aK ha
  rw [← Nb hj]
  obtain ⟨i,hi,he⟩:=op (j:Int) (by omega) (by omega)
  rw [← he,BG hg hp hi.1 hi.2]
  exact (hin.1 _ (yX hi.1 hi.2)).2
 ·obtain ⟨j,hj,rfl⟩:=aK hx
  rw [← Js hj]
  obtain ⟨i,hi,he⟩:=oq (j:Int) (by omega) (by omega)
  rw [← he,BH hg hq hi.1 hi.2,EW]
  exact (hin.2 _ (t7 hi.1 hi.2)).1.2
end
theorem IX (b:List Bool):(AK b).Pairwise (· < ·):=by
 have h:=F5 (fun i=>b[i]?.getD false) b.length
 exact h
theorem uX {b:List Bool}{x:Int}:x∈AK b↔(0≤x∧x<b.length)∧b[x.toNat]?.getD false=true:=by
 have h:=vT (fun i=>b[i]?.getD false) b.length x
 exact h
theorem CW {l:List Bool}{i j:Nat}(h:l[j]?.getD false=true):(l.set i true)[j]?.getD false=true:=by
 rw [cE]
 split
 ·rename_i he
  subst he
  split
  ·rfl
  ·rename_i hlt
   rw [bE (by omega)] at h;cases h
 ·exact h
theorem Iv {l:List Bool}{i:Nat}(h:i<l.length):(l.set i true)[i]?.getD false=true:=by
 rw [fK h];rfl
theorem zV (g:Graph)(nb eb:List Bool):∀ k,(u0 g nb eb k).length=nb.length
 | 0=>rfl
 | k+1=>by
  rw [rD];split
  ·rw [c7,c7];exact zV g nb eb k
  ·exact zV g nb eb k
theorem I8 (g:Graph)(nb eb:List Bool){j k:Nat}(h:(u0 g nb eb k)[j]?.getD false=true):(u0 g nb eb (k+1))[j]?.getD false=true:=by
 rw [rD];split
 ·exact CW (CW h)
 ·exact h
theorem I9 {g:Graph}(he:g.ends){nb eb:List Bool}(hn:nb.length=g.nodes.length){i:Nat}(hi:i<g.edges.length)(hb:eb[i]?.getD false=true):∀ k,i<k→(u0 g nb eb k)[g.edges[i].from_.toNat]?.getD false=true∧(u0 g nb eb k)[g.edges[i].to_.toNat]?.getD false=true
 | 0,h=>by omega
 | k+1,h=>by
  rcases bX i k with hlt|hge
  ·have ih:=I9 he hn hi hb k hlt
   exact ⟨I8 g nb eb ih.1,I8 g nb eb ih.2⟩
  ·obtain rfl:i=k:=by omega
   have hx:=he _ (aC hi)
   rw [rD,if_pos hb,aA hi,Option.getD_some]
   have hl:=zV g nb eb i
   exact ⟨CW (Iv (by omega)),Iv (by rw [c7];omega)⟩
theorem Rz {g:Graph}(hg:graphF g=0)(he:g.ends)(k:UInt64):subF g (wZ g k)=0:=by
 have l1:(u0 g (wJ k 0 g.nodes.length) (wJ k g.nodes.length g.edges.length) g.edges.length).length=g.nodes.length:=by rw [zV];simp [wJ]
 have l2:(wJ k g.nodes.length g.edges.length).length=g.edges.length:=by simp [wJ]
 refine PW hg (fun x hx=>?_) (IX _) (fun x hx=>?_) (IX _) fun x hx=>?_
 ·have:=(uX.1 hx).1;omega
 ·have:=(uX.1 hx).1;omega
 ·obtain ⟨h1,h2⟩:=uX.1 hx
  have hi:x.toNat<g.edges.length:=by omega
  have hen:=he _ (aC hi)
  have hh:=I9 he (nb:=wJ k 0 g.nodes.length) (by simp [wJ]) hi h2 g.edges.length hi
  have hE:eA g x=g.edges[x.toNat]:=by unfold eA;rw [aA hi];rfl
  rw [hE]
  exact ⟨uX.2 ⟨by omega,hh.1⟩,uX.2 ⟨by omega,hh.2⟩⟩
theorem D8 {t:Types}{d:Dr5}{x:Edge}(h:x∈(fX t d).edges):0≤x.type∧x.type<t.edges.length:=by
 unfold fX at h
 split at h
 ·cases h
 ·rename_i h0
  simp only [H4,bH] at h
  obtain ⟨i,_,hx⟩:=h
  unfold EI at hx
  split at hx
  ·rw [aW] at hx
   subst hx
   exact b7 (show 0≤((d.edges[i]?.getD (0,0,0)).1.toNat:Int) by omega) (show (0:Int)<t.edges.length by omega)
  ·cases hx
theorem Ps {t:Types}(h:0<(iX t).length)(b:UInt8):0≤sZ (iX t) b∧sZ (iX t) b<t.nodes.length:=Jv (uQ h b)
section
variable {t:Types} {g:Graph} {d:Dr24}
theorem UG (h:∀ a∈g.nodes,0≤a∧a<t.nodes.length):∀ a∈(jF t g d).nodes,0≤a∧a<t.nodes.length:=fun a ha=>by
 unfold jF Qp at ha
 rcases aV.1 ha with ha|ha
 ·exact h a ha
 ·obtain ⟨i,hi,rfl⟩:=aQ.1 ha
  rw [aR] at hi
  by_cases h0:(iX t).length=0
  ·rw [if_pos h0] at hi;omega
  ·exact Ps (by omega) _
theorem Tj {ns:List Int}{y:B3}{x:Edge}(h:x∈u4 t ns y):kS t x.type (nN ns x.from_) (nN ns x.to_)=true:=by
 unfold u4 at h
 split at h
 ·rename_i hf
  rw [aW] at h
  subst h
  exact hf
 ·cases h
theorem UI:∃ l:List Edge,(jF t g d).edges=g.edges++l∧∀ x∈l,kS t x.type (nN (jF t g d).nodes x.from_) (nN (jF t g d).nodes x.to_)=true:=by
 refine ⟨_,rfl,fun x hx=>?_⟩
 obtain ⟨i,_,hx⟩:=bH.1 hx
 exact Tj hx
theorem RS {a b e:Int}(h:kS t e a b=true):0≤e∧e<t.edges.length:=by
 unfold kS at h
 simp only [aN,decide_eq_true_eq] at h
 exact h.1.2
structure GrOk (t:Types) (g G:Graph):Prop where
 ok:graphF G=0
 ty:dP t G=true
 no:∀ i:Int,0≤i→i<g.nodes.length→gN G i=gN g i
 ed:∀ k:Int,0≤k→k<g.edges.length→eA G k=eA g k
 fi:∀ k:Int,g.edges.length≤k→k<G.edges.length→kS t (eA G k).type (gN G (eA G k).from_) (gN G (eA G k).to_)=true
 ln:g.nodes.length≤G.nodes.length
 le:g.edges.length≤G.edges.length
end
/-! ### type graphs -/
theorem VH:∀ i,i<6→∀ j,j<i→tyU.extract j (j+1)≠tyU.extract i (i+1):=by decide +kernel
theorem Dg (i:Nat)(y:B2) : -1≤(l5 i y).parent∧(l5 i y).parent<i:=by
 have:=b7 (show 0≤(y.1.toNat:Int) by omega) (show (0:Int)<(i:Int)+1 by omega)
 show -1≤(y.1.toNat:Int).tmod ((i:Int)+1) - 1∧(y.1.toNat:Int).tmod ((i:Int)+1) - 1<i
 omega
theorem IZ (i:Nat)(hi:i<6)(y:B2):∀ x∈(l5 i y).attrs,gW x.name=true∧xE x=0∧x.name=tyU.extract i (i+1):=by
 have hm:=b7 (show 0≤(y.2.toNat:Int) / 4 by omega) (show (0:Int)<9 by omega)
 intro x hx
 unfold l5 at hx
 dsimp only at hx
 by_cases h1:(y.2.toNat:Int).tmod 4=1
 ·rw [if_pos h1,aW] at hx
  subst hx
  refine ⟨Lu i hi,?_,rfl⟩
  unfold xE
  rw [if_neg (by show ¬ lY []≠0;decide),if_pos]
  simp;omega
 ·by_cases h2:(y.2.toNat:Int).tmod 4=2
  ·rw [if_neg h1,if_pos h2,aW] at hx
   subst hx
   refine ⟨Lu i hi,?_,rfl⟩
   unfold xE
   rw [if_neg (by rw [Mz];simp),if_pos]
   simp
  ·rw [if_neg h1,if_neg h2] at hx
   cases hx
theorem Hk (ns:List B2)(n:Nat):∀ (f a:Nat) (x:Attr),x∈gG (rR ns n) f a→∃ j,j≤a∧j<n∧x∈(l5 j (i5 ns j)).attrs
 | 0,a,x,h=>by simp [gG] at h
 | f+1,a,x,h=>by
  unfold gG at h
  by_cases ha:a<n
  ·have hg:(rR ns n)[a]?=some (l5 a (i5 ns a)):=by simp [rR,ha]
   rw [hg] at h
   dsimp only at h
   rcases aV.1 h with h|h
   ·split at h
    ·rename_i hp
     obtain ⟨j,h1,h2,h3⟩:=Hk ns n f _ x h
     have hpr:=(Dg a (i5 ns a)).2
     exact ⟨j,by omega,h2,h3⟩
    ·cases h
   ·exact ⟨a,bC _,ha,h⟩
  ·have hg:(rR ns n)[a]?=none:=by simp [rR];omega
   rw [hg] at h
   cases h
theorem OY (ns es:List B2){j:Nat}(hj:j<(jE ns es).nodes.length):∃ l,(jE ns es).attrs j=l++(l5 j (i5 ns j)).attrs∧∀ x∈l,∃ i,i<j∧x∈(l5 i (i5 ns i)).attrs:=by
 have e:(jE ns es).attrs j=(if 0≤(l5 j (i5 ns j)).parent then gG (jE ns es).nodes j (l5 j (i5 ns j)).parent.toNat else [])++(l5 j (i5 ns j)).attrs:=by
  unfold Types.attrs
  rw [gG,aA hj,Gv hj]
 refine ⟨_,e,fun x hx=>?_⟩
 split at hx
 ·rename_i hp
  obtain ⟨i,h1,h2,h3⟩:=Hk ns (lG ns) _ _ x hx
  have:=(Dg j (i5 ns j)).2
  exact ⟨i,by omega,h3⟩
 ·cases hx
theorem VT {l own:List Attr}(h1:own.length≤1)(h:∀ x∈own,gW x.name=true∧xE x=0∧∀ y∈l,y.name≠x.name):bT (vH (l++own)) ((l++own).length - own.length) own.length=0:=by
 match own,h1,h with
 | [],_,_=>rfl
 | [x],_,h =>
  obtain ⟨a1,a2,a3⟩:=h x (by simp)
  have e:(l++[x]).length - [x].length=l.length:=by simp
  rw [e]
  have h0:vH (l++[x]) l.length=0:=by
   rw [NM (by simp)]
   have hx:(l++[x])[l.length]'(by simp)=x:=by simp
   have ht:(l++[x]).take l.length=l:=List.take_left' rfl
   rw [hx,ht,if_neg (by rw [a1];simp),if_neg (by rw [aZ];rintro ⟨y,hy,he⟩;exact a3 y hy (of_decide_eq_true he)),a2]
  show bT (vH (l++[x])) l.length 1=0
  unfold bT
  rw [if_neg (by rw [h0];simp)];rfl
 | _ :: _ :: _,h1,_=>simp at h1
theorem Uz (ns es:List B2):(cH (jE ns es)).2=0:=by
 obtain ⟨l1,l2,l3,l4⟩:=zT ns es
 have hV:=D6 ns es
 unfold cH
 rw [if_neg (by omega),if_neg (by omega),Bb,Bb]
 ·intro j _ hj
  have hj':j<(jE ns es).edges.length:=by omega
  have hx:=IY hj'
  have hxm:=A2 (aC hj')
  unfold jL
  rw [aA hj']
  simp only
  rw [if_neg (by rw [hx];show ¬ gW (tyE.extract j (j+1))=false;rw [Ss j (by omega)];simp),if_neg,if_pos]
  ·rw [hx] at hxm ⊢
   have hb:boundedF (BZ (lG ns) j (i5 es j)).outLow (BZ (lG ns) j (i5 es j)).outHigh=true:=by show boundedF 0 (-1)=true;decide
   have hb2:boundedF (BZ (lG ns) j (i5 es j)).inLow (BZ (lG ns) j (i5 es j)).inHigh=true:=by show boundedF 0 (-1)=true;decide
   rw [hb,hb2]
   simp [insideF];omega
  ·rw [aZ]
   rintro ⟨y,hy,he⟩
   obtain ⟨q,hq,rfl⟩:=aK hy
   rw [bQ] at hq
   rw [Fe,IY (by omega),hx] at he
   exact VI j (by omega) q (by omega) (of_decide_eq_true he)
 ·intro j _ hj
  have hj':j<(jE ns es).nodes.length:=by omega
  have hx:=Gv hj'
  have hal:=(tA j (i5 ns j)).1
  have h8:=hV.attrs j hj'
  have hpr:=Dg j (i5 ns j)
  obtain ⟨l,e1,e2⟩:=OY ns es hj'
  rw [yL _ _ hj',hx,if_neg (by show ¬ gW (tyA.extract j (j+1))=false;rw [Su j (by omega)];simp),if_neg,if_neg (by simp;omega),if_neg (by omega),if_neg (by omega),e1]
  ·refine VT hal fun x hxo=>?_
   obtain ⟨b1,b2,b3⟩:=IZ j (by omega) _ x hxo
   refine ⟨b1,b2,fun y hy=>?_⟩
   obtain ⟨i,hi,hyi⟩:=e2 y hy
   rw [b3,(IZ i (by omega) _ y hyi).2.2]
   exact VH j (by omega) i hi
  ·rw [aZ]
   rintro ⟨y,hy,he⟩
   obtain ⟨q,hq,rfl⟩:=aK hy
   rw [bQ] at hq
   rw [Fe,Gv (by omega)] at he
   exact VJ j (by omega) q (by omega) (of_decide_eq_true he)
structure MadeTy (t:Types):Prop where
 v:(cH t).2=0
 fine:t.fine
 ne:t.edges.length≤5
 nn:t.nodes.length≤6
theorem Uy (ns es:List B2):MadeTy (jE ns es):=by
 obtain ⟨l1,l2,l3,l4⟩:=zT ns es
 exact ⟨Uz ns es,Gu _ _,l4,by omega⟩
/-! ### patterns -/
theorem D7 {t:Types}(h:MadeTy t)(d:Dr5):graphF (fX t d)=0∧dP t (fX t d)=true:=by
 have hl:=v7 t d
 have he:=yO t d
 have h0:=h.fine.valid.ne
 have hn:∀ a∈(fX t d).nodes,0≤a∧a<t.nodes.length:=fun a ha=>MQ h0 (ds:=d.nodes) (k:=min d.nodes.length 8) ha
 have h5:=h.ne
 have h6:=h.nn
 refine ⟨o7 (by omega) (by omega) (fun a ha=>by have:=hn a ha;omega) (fun x hx=>?_),nD (fun a ha=>(hn a ha).2) (fun x hx=>(D8 hx).2)⟩
 have h1:=D8 hx
 have h2:=he x hx
 exact ⟨by omega,h2.1,h2.2⟩
structure SlotIn (t:Types) (ns:List Int) (v:Int) (s:Slot):Prop where
 n0:0≤s.node
 n1:s.node<ns.length
 a0:0≤s.attr
 a1:s.attr<(bM t (ns[s.node.toNat]?.getD 0)).length
 v0 : -1≤s.term.var
 v1:s.term.var<v
 d0 : -1000000≤s.term.add
 d1:s.term.add≤1000000
theorem SlotIn.mono {t:Types}{ns:List Int}{v w:Int}{s:Slot}(h:SlotIn t ns v s)(hv:v≤w):SlotIn t ns w s:=⟨h.n0,h.n1,h.a0,h.a1,h.v0,by have:=h.v1;omega,h.d0,h.d1⟩
theorem LF {t:Types}{p:Pattern}{s:Slot}(h:SlotIn t p.graph.nodes p.vars s):gK t p s=0:=by
 obtain ⟨h1,h2,h3,h4,h5,h6,h7,h8⟩:=h
 unfold gK
 rw [if_pos]
 unfold lJ inF Pattern.kind
 simp only [aN,decide_eq_true_eq]
 exact ⟨⟨⟨⟨h1,h2⟩,h3,h4⟩,h5,by omega⟩,h7,h8⟩
theorem NT {t:Types}{ns:List Int}:∀ {k:Nat} {x:Nat × Nat},x∈Az t ns k→x.1<k∧x.2<(atN t ns x.1).length
 | 0,x,h=>by rw [JH] at h;cases h
 | k+1,x,h=>by
  rw [Aj] at h
  rcases aV.1 h with h|h
  ·have:=NT h;exact ⟨by omega,this.2⟩
  ·unfold Hq at h
   obtain ⟨j,hj,rfl⟩:=aQ.1 h
   rw [aR] at hj
   exact ⟨by simp,hj⟩
theorem RB {all:List (Nat × Nat)}(h:0<all.length)(b:UInt8):oQ all b∈all:=by
 have:=b7 (show 0≤(b.toNat:Int) by omega) (show (0:Int)<all.length by omega)
 unfold oQ
 rw [aA (show ((b.toNat:Int).tmod all.length).toNat<all.length by omega),Option.getD_some]
 exact aC _
theorem MP {t:Types}{ns:List Int}{all:List (Nat × Nat)}(hall:∀ x∈all,x.1<ns.length∧x.2<(atN t ns x.1).length)(h0:0<all.length)(ds:List B3):∀ k,(∀ s∈(uZ all ds k).1,SlotIn t ns (uZ all ds k).2 s)∧(∀ v:Int,0≤v→v<(uZ all ds k).2→∃ s∈(uZ all ds k).1,s.term.var=v)
 | 0=>⟨fun s hs=>by simp [uZ] at hs,fun v h1 h2=>by simp [uZ] at h2;omega⟩
 | k+1=>by
  obtain ⟨i1,i2⟩:=MP hall h0 ds k
  obtain ⟨_,c0,c3⟩:=zU all ds k
  rw [Dh]
  obtain ⟨st,hst⟩:∃ st,st=uZ all ds k:=⟨_,rfl⟩
  obtain ⟨x,hx⟩:∃ x,x=ds[k]?.getD (0,0,0):=⟨_,rfl⟩
  rw [← hst] at i1 i2 c0 c3 ⊢
  rw [← hx]
  have hm:=hall _ (RB h0 x.1)
  have hmk:∀ (z a:Int) (w:Int),-1≤z→z<w→-1000000≤a→a≤1000000→SlotIn t ns w ⟨(oQ all x.1).1,(oQ all x.1).2,⟨z,a⟩⟩:=fun z a w h1 h2 h3 h4=>by
   refine ⟨by simp,by have:=hm.1;simp;omega,by simp,?_,h1,h2,h3,h4⟩
   have:=hm.2
   unfold atN at this
   simpa using this
  have t5:=b7 (show 0≤(x.2.1.toNat:Int) by omega) (show (0:Int)<5 by omega)
  have u5:=b7 (show 0≤(x.2.2.toNat:Int) by omega) (show (0:Int)<5 by omega)
  unfold RD
  split
  ·rename_i h1
   split
   ·rename_i h2
    have e3:st.2=3:=by omega
    dsimp only
    refine ⟨fun s hs=>?_,fun v v0 v1=>?_⟩
    ·rcases aV.1 hs with hs|hs
     ·exact (i1 s hs).mono (by omega)
     ·rw [aW] at hs;subst hs
      exact hmk 0 0 3 (by omega) (by omega) (by omega) (by omega)
    ·obtain ⟨s,hs,he⟩:=i2 v v0 (by omega)
     exact ⟨s,AA _ hs,he⟩
   ·rename_i h2
    dsimp only
    refine ⟨fun s hs=>?_,fun v v0 v1=>?_⟩
    ·rcases aV.1 hs with hs|hs
     ·exact (i1 s hs).mono (by omega)
     ·rw [aW] at hs;subst hs
      exact hmk st.2 0 (st.2+1) (by omega) (by omega) (by omega) (by omega)
    ·by_cases hv:v<st.2
     ·obtain ⟨s,hs,he⟩:=i2 v v0 hv
      exact ⟨s,AA _ hs,he⟩
     ·exact ⟨_,List.mem_append_right _ (aW.2 rfl),by show st.2=v;omega⟩
  ·rename_i h1
   dsimp only
   refine ⟨fun s hs=>?_,fun v v0 v1=>?_⟩
   ·rcases aV.1 hs with hs|hs
    ·exact i1 s hs
    ·rw [aW] at hs;subst hs
     exact hmk _ _ st.2 (by omega) (by omega) (by omega) (by omega)
   ·obtain ⟨s,hs,he⟩:=i2 v v0 v1
    exact ⟨s,AA _ hs,he⟩
theorem O1 {v:Int}(hv:0≤v)(x:T4):qL v (made3 v x)=0:=by
 have h1:=zO x.1.toInt (show (0:Int)<4 by omega)
 have h2:=zO x.2.1.toInt (show (0:Int)<v+1 by omega)
 have h3:=zO x.2.2.1.toInt (show (0:Int)<v+1 by omega)
 have h4:=Br x.2.2.2.toInt (show (0:Int)<12 by omega)
 have hk:(made3 v x).kind=1∨(made3 v x).kind=2:=by
  show 1+(remF x.1.toInt 4).tdiv 3=1∨1+(remF x.1.toInt 4).tdiv 3=2
  rw [Int.tdiv_eq_ediv_of_nonneg h1.1];omega
 unfold qL
 rw [if_neg (by omega),if_pos]
 unfold termB
 simp only [aN,decide_eq_true_eq]
 show (((-1≤remF x.2.1.toInt (v+1) - 1∧remF x.2.1.toInt (v+1) - 1<v)∧-1000000≤(0:Int))∧(0:Int)≤1000000)∧((-1≤remF x.2.2.1.toInt (v+1) - 1∧remF x.2.2.1.toInt (v+1) - 1<v)∧-1000000≤x.2.2.2.toInt.tmod 12)∧x.2.2.2.toInt.tmod 12≤1000000
 omega
theorem MN {t:Types}(h:MadeTy t)(d:Dr21):bR t (eF t d)=0:=by
 obtain ⟨g0,t0⟩:=D7 h d.graph
 obtain ⟨_,_,_,hv⟩:=uY t d
 have hS:(∀ s∈(jX t d).1,SlotIn t (fX t d.graph).nodes (jX t d).2 s)∧(∀ v:Int,0≤v→v<(jX t d).2→∃ s∈(jX t d).1,s.term.var=v)∧(jX t d).1.length≤4:=by
  unfold jX
  split
  ·exact ⟨by simp,fun v h1 h2=>by simp at h2;omega,by simp⟩
  ·rename_i h0
   obtain ⟨a,b⟩:=MP (t:=t) (ns:=(fX t d.graph).nodes) (all:=JI t d) (fun x hx=>NT hx) (by omega) d.slots (min d.slots.length 4)
   refine ⟨a,b,?_⟩
   rw [(zU (JI t d) d.slots (min d.slots.length 4)).1];omega
 obtain ⟨s1,s2,s3⟩:=hS
 have e1:(eF t d).graph=fX t d.graph:=rfl
 have e2:(eF t d).slots=(jX t d).1:=rfl
 have e3:(eF t d).vars=(jX t d).2:=rfl
 have e4:(eF t d).tests=Gw (jX t d).2 d.tests (min d.tests.length 3):=rfl
 have hT:iF (eF t d).vars (eF t d).tests=0:=by
  unfold iF
  rw [if_neg (by omega),if_neg (by rw [e4,B0];omega)]
  refine B6 fun x hx=>?_
  rw [e4] at hx
  unfold Gw at hx
  obtain ⟨i,_,rfl⟩:=aQ.1 hx
  exact O1 (by omega) _
 unfold bR
 rw [if_neg (by rw [h.v];simp),if_neg (by rw [e1,g0];simp),if_neg (by rw [e1,t0];simp),if_neg (by unfold inF;simp;omega),if_neg (by rw [e2,e4,B0];omega),if_neg,if_neg (by rw [hT];simp),if_neg]
 ·rw [CM]
  rintro ⟨v,hv1,hv2⟩
  obtain ⟨s,hs,he⟩:=s2 v (by omega) (by rw [← e3];omega)
  have:iI (eF t d) v=true:=by
   unfold iI
   rw [aZ]
   exact ⟨s,hs,by rw [he];simp⟩
  rw [this] at hv2;cases hv2
 ·have hl:fM (gK t (eF t d)) (eF t d).slots=0:=B6 fun s hs=>LF (p:=eF t d) (s1 s hs)
  rw [hl];simp
/-! ### rules -/
theorem Nt {t:Types}{x:Int}(h:x∈iX t):k7 t x.toNat=false:=by
 unfold iX at h
 obtain ⟨i,hi,rfl⟩:=aQ.1 h
 have:=(dL.1 hi).2
 simpa using this
def Hz (l:List Slot):Prop:=∀ (i:Nat) (h:i<l.length),((l.take i).any (sameSlot l[i]))=false
theorem ME {l:List Slot}{s:Slot}(h:Hz l)(hs:l.any (sameSlot s)=false):Hz (l++[s]):=fun i hi=>by
 rcases bX i l.length with hl|hl
 ·rw [List.take_append_of_le_length (by omega),List.getElem_append_left hl]
  exact h i hl
 ·have:i=l.length:=by simp at hi;omega
  subst this
  rw [List.take_left' rfl,List.getElem_append_right (bC _)]
  simpa using hs
theorem LN {t:Types}{vars:Int}(hv:0≤vars){ns:List Int}(hn:0<ns.length)(l:List B3):∀ k,(∀ s∈uJ t vars ns l k,SlotIn t ns vars s)∧Hz (uJ t vars ns l k)
 | 0=>⟨fun s hs=>by simp [uJ] at hs,fun i hi=>by simp [uJ] at hi⟩
 | k+1=>by
  obtain ⟨i1,i2⟩:=LN hv hn l k
  rw [CY]
  obtain ⟨out,ho⟩:∃ o,o=uJ t vars ns l k:=⟨_,rfl⟩
  obtain ⟨x,hx⟩:∃ x,x=l[k]?.getD (0,0,0):=⟨_,rfl⟩
  rw [← ho] at i1 i2 ⊢
  rw [← hx]
  unfold Oo
  split
  ·exact ⟨i1,i2⟩
  ·rename_i h1
   split
   ·exact ⟨i1,i2⟩
   ·rename_i h2
    have m1:=b7 (show 0≤(x.1.toNat:Int) by omega) (show (0:Int)<ns.length by omega)
    have m2:=b7 (show 0≤(x.2.1.toNat:Int) by omega) (show (0:Int)<(bM t (nN ns ((x.1.toNat:Int).tmod ns.length))).length by omega)
    have m3:=b7 (show 0≤(x.2.1.toNat:Int) / 16 by omega) (show (0:Int)<vars+1 by omega)
    have m4:=b7 (show 0≤(x.2.2.toNat:Int) by omega) (show (0:Int)<3 by omega)
    refine ⟨fun s hs=>?_,ME i2 ?_⟩
    ·rcases aV.1 hs with hs|hs
     ·exact i1 s hs
     ·rw [aW] at hs
      subst hs
      exact ⟨m1.1,m1.2,m2.1,m2.2,by show -1≤((x.2.1.toNat:Int) / 16).tmod (vars+1) - 1;omega,by show ((x.2.1.toNat:Int) / 16).tmod (vars+1) - 1<vars;omega,by show -1000000≤(x.2.2.toNat:Int).tmod 3;omega,by show (x.2.2.toNat:Int).tmod 3≤1000000;omega⟩
    ·rw [bN]
     intro hh
     refine h2 ?_
     rw [aZ] at hh ⊢
     obtain ⟨y,hy,he⟩:=hh
     refine ⟨y,hy,?_⟩
     unfold sameSlot at he
     unfold Ir
     simpa using he
theorem QV {t:Types}{p:Pattern}(h1:∀ s∈p.slots,SlotIn t p.graph.nodes p.vars s)(h2:Hz p.slots):bT (x9 t p) 0 p.slots.length=0:=by
 refine iJ _ _ fun j _ hj=>?_
 have hj':j<p.slots.length:=by omega
 rw [CU hj',if_neg (by rw [LF (h1 _ (aC hj'))];simp),if_neg (by rw [h2 j hj'];simp)]
def GF (t:Types)(d:Dr24):Part:=⟨(jD (lL t d).nodes.length d.order).take (mU t d).nodes.length,(jD (lL t d).edges.length d.order).take (mU t d).edges.length⟩
theorem UH {t:Types}{g:Graph}{d:Dr24}(hf:MadeTy t)(hg:graphF g=0)(ht:dP t g=true)(l1:g.nodes.length≤20)(l2:g.edges.length≤20):GrOk t g (jF t g d):=by
 have hin:=jT hg ht
 have hge:g.ends:=fun x hx=>(hin.2 x hx).2
 obtain ⟨he,hn,hm⟩:=RQ (t:=t) (d:=d) hge
 have hnn:=UG (t:=t) (g:=g) (d:=d) hin.1
 obtain ⟨l,hl,hfit⟩:=UI (t:=t) (g:=g) (d:=d)
 have h5:=hf.ne
 have h6:=hf.nn
 have hty:∀ x∈(jF t g d).edges,0≤x.type∧x.type<t.edges.length:=fun x hx=>by
  rw [hl] at hx
  rcases aV.1 hx with hx|hx
  ·exact (hin.2 x hx).1
  ·exact RS (hfit x hx)
 have hlen:=M8 t g d
 refine ⟨o7 (by omega) (by omega) (fun a ha=>by have:=hnn a ha;omega) (fun x hx=>?_),nD (fun a ha=>(hnn a ha).2) (fun x hx=>(hty x hx).2),fun i h0 hi=>?_,fun k h0 hk=>?_,fun k h0 hk=>?_,hlen.1,hlen.2⟩
 ·have h1:=hty x hx
  have h2:=he x hx
  exact ⟨by omega,h2.1,h2.2⟩
 ·unfold gN
  show ((g.nodes++_)[i.toNat]?).getD 0=_
  rw [KV _ _ (by omega)]
 ·unfold eA
  rw [hl,KV _ _ (by omega)]
 ·have hk2:k.toNat - g.edges.length<l.length:=by rw [hl,aJ] at hk;omega
  have hE:eA (jF t g d) k=l[k.toNat - g.edges.length]:=by
   unfold eA
   rw [hl,TM _ _ (by omega),aA hk2];rfl
  rw [hE]
  exact hfit _ (aC hk2)
theorem Ws {t:Types}{g:Graph}{d:Dr24}{i:Int}(h0:g.nodes.length≤i)(h1:i<(jF t g d).nodes.length):k7 t (gN (jF t g d) i).toNat=false:=by
 have hn:(jF t g d).nodes=g.nodes++(List.range (if (iX t).length=0 then 0 else min d.nodes.length 2)).map fun i=>sZ (iX t) (d.nodes[i]?.getD 0):=rfl
 have hm:gN (jF t g d) i∈(List.range (if (iX t).length=0 then 0 else min d.nodes.length 2)).map fun i=>sZ (iX t) (d.nodes[i]?.getD 0):=by
  rw [hn,aJ] at h1
  unfold gN
  rw [hn,TM _ _ (by omega),aA (by omega),Option.getD_some]
  exact aC _
 obtain ⟨j,hj,he⟩:=aQ.1 hm
 rw [aR] at hj
 rw [← he]
 refine Nt (uQ ?_ _)
 refine Nat.pos_of_ne_zero fun hz=>?_
 rw [if_pos hz] at hj;omega
structure Core24 (t:Types) (d:Dr24):Prop where
 g0:graphF (fX t d.left.graph)=0
 t0:dP t (fX t d.left.graph)=true
 gR:graphF (n6 t d)=0
 tR:dP t (n6 t d)=true
 sub:subF (fX t d.left.graph) (qF t d)=0
 mor:dS (b5 (fX t d.left.graph) (qF t d)) (n6 t d) (GF t d)=0
 inj:As (b5 (fX t d.left.graph) (qF t d)) (n6 t d) (GF t d)=true
 mkb:AL t (n6 t d) (bF (GF t d).nodes (n6 t d).nodes.length) (bF (GF t d).edges (n6 t d).edges.length)=true
theorem Tt {t:Types}(h:MadeTy t)(d:Dr24):Core24 t d:=by
 obtain ⟨g0,t0⟩:=D7 h d.left.graph
 have e0:=yO t d.left.graph
 have hl0:=v7 t d.left.graph
 have hS:subF (fX t d.left.graph) (qF t d)=0:=Rz g0 e0 _
 have hkg:mU t d=b5 (fX t d.left.graph) (qF t d):=rfl
 have hk:=Pm hS
 obtain ⟨x1,x2⟩:=Ek hS
 obtain ⟨s1,s2⟩:=Sx hS
 obtain ⟨_,hs,hsn,hse⟩:=sP hS
 have tin:=jT g0 t0
 have tk:dP t (mU t d)=true:=by
  rw [hkg]
  unfold b5;rw [if_pos hS]
  refine nD (fun a ha=>?_) (fun x hx=>?_)
  ·obtain ⟨n,hn,rfl⟩:=aQ.1 ha
   exact (tin.1 _ (yX (hsn n hn).1 (hsn n hn).2)).2
  ·obtain ⟨k,hk',rfl⟩:=aQ.1 hx
   exact (tin.2 _ (t7 (hse k hk').1 (hse k hk').2)).1.2
 rw [← hkg] at hk x1 x2
 have hG:GrOk t (mU t d) (lL t d):=UH h hk tk (by omega) (by omega)
 have pN:=lQ (lL t d).nodes.length d.order
 have pE:=lQ (lL t d).edges.length d.order
 have oN:Hy (lL t d).nodes.length (jD (lL t d).nodes.length d.order):=EZ pN fun v hv=>zL _ _ hv
 have oE:Hy (lL t d).edges.length (jD (lL t d).edges.length d.order):=EZ pE fun v hv=>zL _ _ hv
 have gR:graphF (n6 t d)=0:=SJ hG.ok pN pE oN oE
 have tR:dP t (n6 t d)=true:=Q5 hG.ok hG.ty pN pE oN oE
 have lR:=sS (p:=jD (lL t d).nodes.length d.order) (q:=jD (lL t d).edges.length d.order) hG.ok
 have hln:=hG.ln
 have hle:=hG.le
 have nd:=fun (i:Int) (h0:0≤i) (hi:i<(lL t d).nodes.length)=>BG (q:=jD (lL t d).edges.length d.order) hG.ok pN h0 hi
 have ed:=fun (i:Int) (h0:0≤i) (hi:i<(lL t d).edges.length)=>BH (p:=jD (lL t d).nodes.length d.order) hG.ok pE h0 hi
 have gin:=fun (k:Int) (h0:0≤k) (hk:k<(lL t d).edges.length)=>tG hG.ok h0 hk
 have hrg:qD (lL t d) (jD (lL t d).nodes.length d.order) (jD (lL t d).edges.length d.order)=n6 t d:=rfl
 rw [hrg] at lR
 simp only [hrg] at nd ed
 have fitG:=hG.fi
 have nG:=hG.no
 have eG:=hG.ed
 have oN1:=pN.1
 have oE1:=pE.1
 have newG:∀ j:Int,(mU t d).nodes.length≤j→j<(lL t d).nodes.length→k7 t (gN (lL t d) j).toNat=false:=fun j h1 h2=>Ws h1 h2
 have hi24:GF t d=⟨(jD (lL t d).nodes.length d.order).take (mU t d).nodes.length,(jD (lL t d).edges.length d.order).take (mU t d).edges.length⟩:=rfl
 generalize jD (lL t d).nodes.length d.order=p at *
 generalize jD (lL t d).edges.length d.order=q at *
 have tk1:∀ {l:List Int} {m:Nat} {i:Int},0≤i→i<m→m≤l.length→iA (l.take m) i=iA l i:=fun {l m i} h0 hi hm=>by
  unfold iA;rw [bU,if_pos (by omega)]
 have hM:dS (b5 (fX t d.left.graph) (qF t d)) (n6 t d) ⟨p.take (mU t d).nodes.length,q.take (mU t d).edges.length⟩=0:=by
  rw [← hkg]
  refine Dc hk gR (by simp only [bQ];omega) (by simp only [bQ];omega) (fun i h0 hi=>?_) (fun k h0 hk'=>?_)
  ·show (0≤iA (p.take (mU t d).nodes.length) i∧iA (p.take (mU t d).nodes.length) i<_)∧gN _ (iA (p.take (mU t d).nodes.length) i)=_
   rw [tk1 h0 hi (by omega),nd i h0 (by omega),nG i h0 hi]
   have:=zQ pN h0 (show i<(lL t d).nodes.length by omega)
   exact ⟨by omega,rfl⟩
  ·show (0≤iA (q.take (mU t d).edges.length) k∧iA (q.take (mU t d).edges.length) k<_)∧_=(eA _ (iA (q.take (mU t d).edges.length) k)).type∧iA (p.take (mU t d).nodes.length) _=(eA _ (iA (q.take (mU t d).edges.length) k)).from_∧iA (p.take (mU t d).nodes.length) _=(eA _ (iA (q.take (mU t d).edges.length) k)).to_
   rw [tk1 h0 hk' (by omega),ed k h0 (by omega),eG k h0 hk',EW]
   have:=zQ pE h0 (show k<(lL t d).edges.length by omega)
   have hen:=tG hk h0 hk'
   exact ⟨by omega,rfl,tk1 hen.1.1 hen.1.2 (by omega),tk1 hen.2.1.1 hen.2.1.2 (by omega)⟩
 have hI:As (b5 (fX t d.left.graph) (qF t d)) (n6 t d) ⟨p.take (mU t d).nodes.length,q.take (mU t d).edges.length⟩=true:=by
  simp only [As,aN,decide_eq_true_eq]
  exact ⟨hM,(List.take_sublist _ _).nodup (lW pN),(List.take_sublist _ _).nodup (lW pE)⟩
 refine ⟨g0,t0,gR,tR,hS,by rw [hi24];exact hM,by rw [hi24];exact hI,?_⟩
 rw [hi24]
 refine S7 (fun i hi=>?_) (fun i hi=>?_)
 ·obtain ⟨hr,hni⟩:=fC.1 hi
  obtain ⟨k,hk',he⟩:=oN i hr.1 (by omega)
  have hge:(mU t d).nodes.length≤k:=by
   refine bA fun hc=>hni ?_
   rw [← he,← tk1 (m:=(mU t d).nodes.length) hk'.1 (by omega) (by omega)]
   exact fG hk'.1 (by rw [bQ];omega)
  have hab:=newG k hge hk'.2
  have hn:=nd k hk'.1 hk'.2
  rw [he] at hn
  have hmem:=(jT gR tR).1 _ (yX hr.1 hr.2)
  unfold absB
  rw [← hn] at hab
  unfold k7 at hab
  rw [aA (show (gN (n6 t d) i).toNat<t.nodes.length by omega)] at hab ⊢
  exact hab
 ·obtain ⟨hr,hni⟩:=fC.1 hi
  obtain ⟨k,hk',he⟩:=oE i hr.1 (by omega)
  have hge:(mU t d).edges.length≤k:=by
   refine bA fun hc=>hni ?_
   rw [← he,← tk1 (m:=(mU t d).edges.length) hk'.1 (by omega) (by omega)]
   exact fG hk'.1 (by rw [bQ];omega)
  have hf:=fitG k hge hk'.2
  have hen:=gin k hk'.1 hk'.2
  have hE:=ed k hk'.1 hk'.2
  rw [he,EW] at hE
  show (!kS t (eA (n6 t d) i).type (gN (n6 t d) (eA (n6 t d) i).from_) (gN (n6 t d) (eA (n6 t d) i).to_))=false
  rw [hE]
  show (!kS t (eA (lL t d) k).type (gN (n6 t d) (iA p (eA (lL t d) k).from_)) (gN (n6 t d) (iA p (eA (lL t d) k).to_)))=false
  rw [nd _ hen.1.1 hen.1.2,nd _ hen.2.1.1 hen.2.1.2,hf];rfl
theorem LR {t:Types}{r:Rule}(hv:(cH t).2=0)(hn:gW r.name=true)(hl:bR t r.left=0)(hr:lD t r=0)(hk:keptF r=0)(hm:AL t r.right.graph r.freshN r.freshE=true)(hc:condF t r.left r.cond=0):ruleF t r=0:=by
 unfold ruleF
 rw [if_neg (by rw [hv];simp),if_neg (by rw [hn];simp),if_neg (by rw [hl];simp),if_neg (by rw [hr];simp),if_neg (by rw [hk];simp),if_neg (by rw [hm];simp),hc]
theorem Lv {t:Types}{p:Pattern}(hp:bR t p=0):condF t p trueC=0:=by
 unfold condF
 rw [if_neg (by rw [hp];simp),if_neg (by decide)]
 rfl
theorem Gm (n:Nat):(e9 n).Nodup:=lW (Da n)
theorem Fb {n:Nat}{i:Int}(h0:0≤i)(h1:i<n):iA (e9 n) i=i:=by
 unfold iA
 rw [yK (show i.toNat<n by omega),Option.getD_some];omega
theorem Tm {t:Types}{p:Pattern}(hv:(cH t).2=0)(hp:bR t p=0)(hp0:0≤p.vars∧p.vars≤12){g:Graph}(hpg:graphF p.graph=0)(hg:graphF g=0)(ht:dP t g=true)(hN:∃ l,g.nodes=p.graph.nodes++l)(hE:∃ l,g.edges=p.graph.edges++l):condF t p (forbC p g)=0:=by
 obtain ⟨ln,hN⟩:=hN
 obtain ⟨le,hE⟩:=hE
 have hM:dS p.graph g ⟨e9 p.graph.nodes.length,e9 p.graph.edges.length⟩=0:=by
  refine Dc hpg hg (by simp [gM]) (by simp [gM]) (fun i h0 h1=>?_) (fun k h0 h1=>?_)
  ·show (0≤iA (e9 p.graph.nodes.length) i∧iA (e9 p.graph.nodes.length) i<_)∧gN _ (iA (e9 p.graph.nodes.length) i)=_
   rw [Fb h0 h1]
   refine ⟨⟨h0,by rw [hN,aJ];omega⟩,?_⟩
   unfold gN
   rw [hN,KV _ _ (by omega)]
  ·have hen:=tG hpg h0 h1
   show (0≤iA (e9 p.graph.edges.length) k∧iA (e9 p.graph.edges.length) k<_)∧_=(eA _ (iA (e9 p.graph.edges.length) k)).type∧iA (e9 p.graph.nodes.length) _=(eA _ (iA (e9 p.graph.edges.length) k)).from_∧iA (e9 p.graph.nodes.length) _=(eA _ (iA (e9 p.graph.edges.length) k)).to_
   rw [Fb h0 h1,Fb hen.1.1 hen.1.2,Fb hen.2.1.1 hen.2.1.2]
   have e:eA g k=eA p.graph k:=by unfold eA;rw [hE,KV _ _ (by omega)]
   rw [e]
   exact ⟨⟨h0,by rw [hE,aJ];omega⟩,rfl,rfl,rfl⟩
 have hI:As p.graph g ⟨e9 p.graph.nodes.length,e9 p.graph.edges.length⟩=true:=by
  simp only [As,aN,decide_eq_true_eq]
  exact ⟨hM,Gm _,Gm _⟩
 have hq:bR t ⟨g,[],p.vars,[]⟩=0∨bR t ⟨g,[],p.vars,[]⟩=9:=by
  unfold bR
  rw [if_neg (by rw [hv];simp),if_neg (by show ¬ graphF g≠0;rw [hg];simp),if_neg (by show ¬ dP t g=false;rw [ht];simp),if_neg (by show ¬ inF p.vars 0 12=false;unfold inF;simp;omega),if_neg (by simp),if_neg (by simp [fM])]
  have hT:iF p.vars []=0:=by unfold iF;rw [if_neg (by omega),if_neg (by simp)];rfl
  rw [if_neg (by show ¬ iF p.vars []≠0;rw [hT];simp)]
  split
  ·exact .inr rfl
  ·exact .inl rfl
 have hIn:l6 t ⟨g,[],p.vars,[]⟩ p.vars=0:=by
  rcases hq with h|h
  ·unfold l6;rw [if_pos (by rw [h];decide),h]
  ·exact yS h hp0.1 fun v h1 h2=>absurd h2 (by show ¬ v<p.vars;omega)
 have hX:iK t p ⟨e9 p.graph.nodes.length,e9 p.graph.edges.length⟩ ⟨g,[],p.vars,[]⟩=0:=by
  unfold iK
  rw [if_neg (by show ¬ p.vars<p.vars;omega),if_neg (by rw [hIn];simp),if_neg (by show ¬ dS p.graph g _≠0;rw [hM];simp),if_neg (by show ¬ As p.graph g _=false;rw [hI];simp)]
 unfold condF
 rw [if_neg (by rw [hp];simp),if_neg (by
  have e:qC (forbC p g)=0:=rfl
  rw [e];simp)]
 unfold forbC
 have h1:nX t ⟨g,[],p.vars,[]⟩ trueC=0:=rfl
 have h2:M3 t ⟨g,[],p.vars,[]⟩ [trueC]=0:=by unfold M3;rw [if_neg (by rw [h1];simp)];rfl
 have h3:nX t p (.mk 5 [trueC] ⟨e9 p.graph.nodes.length,e9 p.graph.edges.length⟩ ⟨g,[],p.vars,[]⟩)=0:=by
  unfold nX
  rw [if_neg (by rw [if_pos rfl,hX];simp),if_pos rfl];exact h2
 unfold nX
 rw [if_neg (by rw [if_neg (by decide)];simp),if_neg (by decide)]
 unfold M3
 rw [if_neg (by rw [h3];simp)];rfl
theorem Ji {t:Types}(h:MadeTy t){p:Pattern}(hpg:graphF p.graph=0)(hpt:dP t p.graph=true)(hn:p.graph.nodes.length≤8)(he:p.graph.edges.length≤10)(x:B4) :
  yZ t p x=trueC∨∃ g,yZ t p x=forbC p g∧graphF g=0∧dP t g=true∧(∃ l,g.nodes=p.graph.nodes++l)∧∃ l,g.edges=p.graph.edges++l:=by
 have hne:=h.fine.valid.ne
 have h5:=h.ne
 have h6:=h.nn
 have hin:=jT hpg hpt
 have m1:=b7 (show 0≤(x.2.1.toNat:Int) by omega) (show (0:Int)<t.nodes.length by omega)
 unfold yZ
 split
 ·refine .inr ⟨_,rfl,o7 (by simp;omega) (by simp;omega) (fun a ha=>?_) fun y hy=>?_,nD (fun a ha=>?_) fun y hy=>(hin.2 y hy).1.2,⟨_,rfl⟩,[],by simp⟩
  ·rcases aV.1 ha with ha|ha
   ·have:=hin.1 a ha;omega
   ·rw [aW] at ha;omega
  ·have h1:=hin.2 y hy
   refine ⟨by omega,?_,?_⟩
   ·have:=h1.2.1;simp;omega
   ·have:=h1.2.2;simp;omega
  ·rcases aV.1 ha with ha|ha
   ·exact (hin.1 a ha).2
   ·rw [aW] at ha;omega
 ·split
  ·split
   ·exact .inl rfl
   ·rename_i h0
    have k1:=b7 (show 0≤(x.2.1.toNat:Int) by omega) (show (0:Int)<t.edges.length by omega)
    have k2:=b7 (show 0≤(x.2.2.1.toNat:Int) by omega) (show (0:Int)<p.graph.nodes.length by omega)
    have k3:=b7 (show 0≤(x.2.2.2.toNat:Int) by omega) (show (0:Int)<p.graph.nodes.length by omega)
    refine .inr ⟨_,rfl,o7 (by simp;omega) (by simp;omega) (fun a ha=>by have:=hin.1 a ha;omega) fun y hy=>?_,nD (fun a ha=>(hin.1 a ha).2) fun y hy=>?_,⟨[],by simp⟩,_,rfl⟩
    ·rcases aV.1 hy with hy|hy
     ·have h1:=hin.2 y hy
      exact ⟨by omega,h1.2.1,h1.2.2⟩
     ·rw [aW] at hy
      subst hy
      exact ⟨⟨k1.1,by simp only;omega⟩,k2,k3⟩
    ·rcases aV.1 hy with hy|hy
     ·exact (hin.2 y hy).1.2
     ·rw [aW] at hy
      subst hy
      exact k1.2
  ·exact .inl rfl
theorem UK {t:Types}(h:MadeTy t){p:Pattern}(hp:bR t p=0)(hp0:0≤p.vars∧p.vars≤3)(hpg:graphF p.graph=0)(hpt:dP t p.graph=true)(hn:p.graph.nodes.length≤8)(he:p.graph.edges.length≤10)(x:B4):condF t p (yZ t p x)=0:=by
 rcases Ji h hpg hpt hn he x with e|⟨g,e,h1,h2,h3,h4⟩
 ·rw [e];exact Lv hp
 ·rw [e];exact Tm h.v hp ⟨hp0.1,by omega⟩ hpg h1 h2 h3 h4
theorem IB {t:Types}{r:Rule}(hg:graphF r.right.graph=0)(ht:dP t r.right.graph=true)(hv:r.right.vars=r.left.vars)(hT:r.right.tests=[])(hl:r.right.slots.length≤10)(hs:bT (x9 t r.right) 0 r.right.slots.length=0):lD t r=0:=by
 unfold lD
 rw [if_neg (by rw [hg];simp),if_neg (by rw [ht];simp),if_neg (by rw [hv,hT];simp),if_neg (by omega),hs]
theorem M2 {r:Rule}(hS:subF r.left.graph r.keep=0)(hM:dS (b5 r.left.graph r.keep) r.right.graph r.into=0)(hI:As (b5 r.left.graph r.keep) r.right.graph r.into=true):keptF r=0:=by
 unfold keptF
 rw [if_neg (by rw [hS];simp),if_neg (by rw [hM];simp),if_neg (by rw [hI];simp)]
theorem ML {t:Types}(h:MadeTy t)(d:Dr24):ruleF t (v6 t d)=0:=by
 have C:=Tt h d
 obtain ⟨_,l1,l2,hv⟩:=uY t d.left
 have hP:=MN h d.left
 have hg:(eF t d.left).graph=fX t d.left.graph:=rfl
 have hname:gW ⟨#[114]⟩=true:=by decide
 unfold v6
 split
 ·have hPp:=Gh h.v C.g0 C.t0
  refine LR h.v hname hPp (IB C.gR C.tR rfl rfl (by show ([]:List Slot).length≤10;simp) rfl) (M2 C.sub C.mor C.inj) C.mkb (Lv hPp)
 ·have hS:(∀ s∈qS t (n6 t d).nodes (eF t d.left).vars d.slots,SlotIn t (n6 t d).nodes (eF t d.left).vars s)∧Hz (qS t (n6 t d).nodes (eF t d.left).vars d.slots)∧(qS t (n6 t d).nodes (eF t d.left).vars d.slots).length≤10:=by
   unfold qS
   split
   ·exact ⟨fun s hs=>by simp [uJ] at hs,fun i hi=>by simp [uJ] at hi,by simp [uJ]⟩
   ·rename_i h0
    obtain ⟨a,b⟩:=LN (t:=t) hv.1 (show 0<(n6 t d).nodes.length by omega) d.slots (min d.slots.length 3)
    have:=FK t (eF t d.left).vars (n6 t d).nodes d.slots (min d.slots.length 3)
    exact ⟨a,b,by omega⟩
  obtain ⟨s1,s2,s3⟩:=hS
  refine LR h.v hname hP (IB C.gR C.tR rfl rfl s3 (QV (p:=(AW t d).right) s1 s2)) (M2 C.sub C.mor C.inj) C.mkb ?_
  exact UK h hP hv C.g0 C.t0 l1 l2 d.forbid
/-! ### hosts -/
theorem SH {t:Types}(h:MadeTy t){k:Int}(h0:0≤k)(h1:k<t.nodes.length)(ha:k7 t k.toNat=false)(b:UInt8):jR t k (mX (bM t k) b (bM t k).length)=0:=by
 have hl:(mX (bM t k) b (bM t k).length).length=(bM t k).length:=by simp [mX]
 unfold jR
 rw [if_neg (by omega),if_neg (by rw [ha];simp),if_neg (by rw [hl];simp)]
 refine iJ _ _ fun j _ hj=>?_
 have hj':j<(bM t k).length:=by omega
 obtain ⟨g1,g2,g3⟩:=(h.fine.good k).1 _ (aC hj')
 have hm:=b7 (show (0:Int)≤(b.toNat:Int)+7 * (j:Int) by omega) (show (0:Int)<(bM t k)[j].high - (bM t k)[j].low+1 by omega)
 have hv:(mX (bM t k) b (bM t k).length)[j]?.getD 0=(bM t k)[j].low+((b.toNat:Int)+7 * (j:Int)).tmod ((bM t k)[j].high - (bM t k)[j].low+1):=by
  unfold mX
  rw [aH,dZ hj']
  simp only [c6,Option.getD_some,Lo]
  rw [aA hj']
 unfold H5
 rw [hv,aA hj',Option.getD_some,if_neg]
 omega
theorem MO {t:Types}(h:MadeTy t)(d:Dr15):fA t (A4 t d)=0:=by
 have hv:=h.v
 have hf:=h.nn
 have hf2:=h.ne
 obtain ⟨k,hk⟩:∃ k,k=if (iX t).length=0 then 0 else min d.nodes.length 8:=⟨_,rfl⟩
 obtain ⟨ns,hns⟩:∃ ns,ns=Ar t d.nodes k:=⟨_,rfl⟩
 have hnl:ns.length=k:=by rw [hns];simp [Ar]
 have hk8:k≤8:=by rw [hk];split<;>omega
 have hpos:∀ i,i<k→0<(iX t).length:=fun i hi=>Nat.pos_of_ne_zero fun h0=>by rw [hk,if_pos h0] at hi;omega
 have hn:∀ a∈ns,(0≤a∧a<t.nodes.length)∧k7 t a.toNat=false:=fun a ha=>by
  rw [hns] at ha
  unfold Ar at ha
  rw [aQ] at ha
  obtain ⟨i,hi,rfl⟩:=ha
  rw [aR] at hi
  have hm:=uQ (hpos i hi) (i5 d.nodes i).1
  exact ⟨Jv hm,Nt hm⟩
 obtain ⟨q,hq⟩:∃ q,q=if ns.length=0∨t.edges.length=0 then 0 else min d.edges.length 10:=⟨_,rfl⟩
 have hq10:q≤10:=by rw [hq];split<;>omega
 have hG:A4 t d=⟨⟨ns,M9 t ns [] d.edges q⟩,An t d.nodes k⟩:=by unfold A4;rw [hq,hns,hk]
 rw [hG]
 have hmem:∀ x∈M9 t ns [] d.edges q,((0≤x.type∧x.type<t.edges.length)∧(0≤x.from_∧x.from_<ns.length)∧(0≤x.to_∧x.to_<ns.length))∧kS t x.type (nN ns x.from_) (nN ns x.to_)=true:=fun x hx=>by
  unfold M9 at hx
  rw [fR,bH] at hx
  obtain ⟨i,hi,hx⟩:=hx
  rw [aR] at hi
  have hne:¬ (ns.length=0∨t.edges.length=0):=fun h0=>by rw [hq,if_pos h0] at hi;omega
  obtain ⟨y,hy⟩:∃ y,y=d.edges[i]?.getD (0,0,0):=⟨_,rfl⟩
  rw [← hy] at hx
  unfold u4 at hx
  split at hx
  ·rename_i hfit
   rw [aW] at hx
   subst hx
   refine ⟨⟨?_,?_,?_⟩,hfit⟩
   ·exact b7 (show (0:Int)≤(y.1.toNat:Int) by omega) (show (0:Int)<(t.edges.length:Int) by omega)
   ·exact b7 (show (0:Int)≤(y.2.1.toNat:Int) by omega) (show (0:Int)<(ns.length:Int) by omega)
   ·exact b7 (show (0:Int)≤(y.2.2.toNat:Int) by omega) (show (0:Int)<(ns.length:Int) by omega)
  ·cases hx
 have hlen:=Fc t ns [] d.edges q
 have hvl:(An t d.nodes k).length=k:=by simp [An]
 refine GM hv (by simp only;omega) (by simp only;simp at hlen;omega) (by simp only;omega) (fun a ha=>(hn a ha).1) (fun n h1 h2=>?_) hmem
 have hnk:n<k:=by simp only at h1;omega
 have e1:ns[n]'h1=A7 t (i5 d.nodes n):=by simp [hns,Ar]
 have e2:(An t d.nodes k)[n]'h2=LW t (i5 d.nodes n):=by simp [An]
 simp only [e1,e2]
 have hkk:=hn _ (aC (show n<ns.length by omega))
 rw [e1] at hkk
 exact SH h hkk.1.1 hkk.1.2 hkk.2 _
/-! ### matches of made things: too many, or all -/
theorem Kt {t:Types}{p:Pattern}{h:Host}(hv:(cH t).2=0)(hp:bR t p=0)(hpg:graphF p.graph=0)(hpt:dP t p.graph=true)(hh:fA t h=0)(inj:Bool):(f6 t p h inj).2=0∨(f6 t p h inj).2=3:=by
 have H:=hostOk hh
 have hht:dP t h.graph=true:=nD (fun a ha=>by
  obtain ⟨i,hi,rfl⟩:=aK ha
  have:=H.nd i hi (by rw [H.vl];exact hi)
  refine bA fun hc=>?_
  unfold jR at this
  rw [if_pos (by omega)] at this
  cases this) fun x hx=>(H.ed x hx).1
 have hg:dM t p.graph h.graph=0:=by
  unfold dM
  rw [if_neg (by rw [hv];simp),if_neg (by rw [hpg];simp),if_neg (by rw [H.gg];simp),oV hpg,oV H.gg,hpt,hht]
  rfl
 unfold f6
 rw [if_neg (by rw [hp];simp),if_neg (by rw [hh];simp)]
 have hA:(nO t p.graph h.graph inj).2=0∨(nO t p.graph h.graph inj).2=3:=by
  unfold nO xM
  rw [if_neg (by rw [hg];simp)]
  split
  ·exact .inr rfl
  ·exact .inl rfl
 rcases hA with h0|h0
 ·rw [if_neg (by rw [h0];simp)];exact .inl rfl
 ·rw [if_pos (by rw [h0];decide)];exact .inr h0
theorem UA {t:Types}{r:Rule}(h:ruleF t r=0):bR t r.left=0:=by
 unfold ruleF at h
 refine bA fun hc=>?_
 split at h
 ·contradiction
 ·split at h
  ·exact absurd h (by decide)
  ·first|exact hc h|(rw [if_pos hc] at h;exact hc h)
theorem Rx {t:Types}{r:Rule}{h:Host}(ho:r.ok)(hr:ruleF t r=0)(hh:fA t h=0):(sM t r h).2=0∨(sM t r h).2=3:=by
 have R:=LQ ho hr
 have hv:=R.vf
 have hg:fV t r h=0:=by unfold fV;rw [if_neg (by rw [hr];simp),hh]
 unfold sM
 rw [if_neg (by rw [hg];simp)]
 rcases Kt hv (UA hr) R.pl.gg R.pl.ty hh r.inj with h0|h0
 ·rw [if_neg (by rw [h0];simp)];exact .inl rfl
 ·rw [if_pos (by rw [h0];decide)];exact .inr h0
def vF (p:Nat→Bool)(n:Nat):Nat:=((List.range n).filter p).length
theorem Ac (p:Nat→Bool)(n:Nat):vF p (n+1)=vF p n+(if p n=true then 1 else 0):=by
 unfold vF
 rw [bK,gA,aJ]
 by_cases h:p n=true<;>simp [h]
theorem Ha (p:Nat→Bool):∀ n,vF p n+vF (fun i=>!p i) n=n
 | 0=>rfl
 | n+1=>by
  have ih:=Ha p n
  rw [Ac,Ac]
  cases p n<;>simp<;>omega
theorem Mw (l:List Int)(n:Nat):(bF l n).length=vF (fun i=>!mem l i) n:=by unfold bF vF;rw [aS]
theorem G9 {p q:Nat→Bool}{n:Nat}(h:∀ i,i<n→p i=q i):vF p n=vF q n:=by
 unfold vF
 rw [xH fun i hi=>h i (aR.1 hi)]
theorem QA (p:Nat→Bool)(v:Nat):∀ n,vF (fun i=>p i||decide (i=v)) n=vF p n+(if v<n∧p v=false then 1 else 0)
 | 0=>by simp [vF]
 | n+1=>by
  rw [Ac,Ac,QA p v n]
  by_cases h:n=v
  ·subst h
   cases hp:p n<;>simp [hp]
  ·have e:decide (n=v)=false:=by simpa using h
   have h2:(v<n+1∧p v=false)↔(v<n∧p v=false):=⟨fun ⟨a,b⟩=>⟨by omega,b⟩,fun ⟨a,b⟩=>⟨by omega,b⟩⟩
   rw [e,nU]
   simp only [h2]
   omega
theorem HY (l:List Int)(v:Int){j:Nat}(h:j<l.length):mem (l.take (j+1)) v=(mem (l.take j) v||decide (l[j]=v)):=by
 rw [aX,cO,cQ,cQ,List.take_succ_eq_append_getElem h,aV,aW,decide_eq_true_eq]
 exact ⟨fun h=>h.imp id Eq.symm,fun h=>h.imp id Eq.symm⟩
def G4 (l:List Int)(k:Nat):Nat:=((List.range k).filter fun i=>!mem (l.take i) (l[i]?.getD 0)).length
theorem G3 (l:List Int)(k:Nat):G4 l (k+1)=G4 l k+if mem (l.take k) (l[k]?.getD 0)=true then 0 else 1:=by
 unfold G4
 rw [bK,gA,aJ]
 cases h:mem (l.take k) (l[k]?.getD 0)<;>simp [h]
theorem Nq {l:List Int}{n:Nat}(hr:∀ x∈l,0≤x∧x<n):∀ k,k≤l.length→G4 l k=vF (fun i=>mem (l.take k) i) n
 | 0,_=>by
  have:vF (fun i=>mem (l.take 0) (i:Int)) n=vF (fun _=>false) n:=G9 fun i _=>by simp [zS]
  have h2:vF (fun _=>false) n=0:=by
   unfold vF
   rw [JL.2 (fun _ _=>by simp)]
   rfl
  rw [this,h2];rfl
 | k+1,hk=>by
  have ih:=Nq hr k (by omega)
  have hx:=hr _ (aC (show k<l.length by omega))
  have e:vF (fun i=>mem (l.take (k+1)) (i:Int)) n=vF (fun i=>mem (l.take k) (i:Int)||decide (i=l[k].toNat)) n:=G9 fun i _=>by
   rw [HY l _ (show k<l.length by omega)]
   congr 1
   rw [decide_eq_decide];omega
  rw [e,QA,G3,ih,aA (show k<l.length by omega),Option.getD_some,show ((l[k].toNat:Nat):Int)=l[k] by omega]
  have hlt:l[k].toNat<n:=by omega
  cases hm:mem (l.take k) l[k]<;>simp [hlt]
theorem Mu {l:List Int}{n:Nat}(hr:∀ x∈l,0≤x∧x<n):(bF l n).length+G4 l l.length=n:=by
 rw [Mw,Nq hr l.length (bC _),nY]
 have:=Ha (fun i=>mem l (i:Int)) n
 omega
theorem G2 {l:List Int}(hd:l.Nodup):∀ k,k≤l.length→G4 l k=k
 | 0,_=>rfl
 | k+1,hk=>by
  rw [G3,G2 hd k (by omega),if_neg]
  rw [Bool.not_eq_true,bN]
  intro hm
  have hk':k<l.length:=by omega
  rw [cQ,aA hk',Option.getD_some] at hm
  have h2:(l.take (k+1)).Nodup:=(List.take_sublist _ _).nodup hd
  rw [List.take_succ_eq_append_getElem hk',List.nodup_append] at h2
  exact h2.2.2 _ hm _ (aW.2 rfl) rfl
theorem BT {l:List Int}{n:Nat}(hr:∀ x∈l,0≤x∧x<n)(hd:l.Nodup):(bF l n).length+l.length=n:=by
 have:=Mu hr
 rw [G2 hd _ (bC _)] at this
 exact this
section
variable {t:Types} {r:Rule} {h:Host} {m:Mat}
theorem StepIn.imN (S:StepIn t r h m):∀ x∈m.m.nodes,0≤x∧x<h.graph.nodes.length:=fun x hx=>by
 obtain ⟨i,hi,rfl⟩:=aK hx
 have:=S.hm.len
 exact (S.hm.img i hi (by omega)).1
theorem StepIn.imE (S:StepIn t r h m):∀ x∈m.m.edges,0≤x∧x<h.graph.edges.length:=fun x hx=>by
 obtain ⟨i,hi,rfl⟩:=aK hx
 exact S.hm.eimg i hi
end
structure StepOk (t:Types) (r:Rule) (h:Host) (m:Mat):Prop where
 S:StepIn t r h m
 pre:vV t r h m=0
 sol:eL t r.left h m.m=(m.vars,0)
 put:xJ t (bI t r h m).graph (dO r h m) m.vars r.right.slots=0
 nn:(bI t r h m).graph.nodes.length≤40
 ne:(bI t r h m).graph.edges.length≤80
theorem JV {t:Types}{r:Rule}{h:Host}{m:Mat}(hR:RuleV t r)(ho:HostOk t h)(h0:jC t r h m=0):StepOk t r h m:=by
 unfold jC at h0
 split at h0
 ·contradiction
 ·rename_i h1
  have hp:pX t r h m=0:=by simpa using h1
  unfold pX at hp
  split at hp
  ·contradiction
  ·rename_i h2
   have h2':vV t r h m=0:=by simpa using h2
   have hsol:eL t r.left h m.m=(m.vars,0):=by
    unfold vV at h2'
    split at h2'
    ·cases h2'
    ·split at h2'
     ·contradiction
     ·rename_i h4
      split at h2'
      ·cases h2'
      ·rename_i h5
       exact Prod.ext (by simpa using h5) (by simpa using h4)
   split at h0
   ·contradiction
   ·rename_i h3
    split at h0
    ·cases h0
    ·rename_i h4
     exact ⟨JW hR ho h2',h2',hsol,by simpa using h3,by omega,by omega⟩
theorem StepOk.after {t:Types}{r:Rule}{h:Host}{m:Mat}(S:StepOk t r h m):fA t (dR t r h m)=0:=S.S.after S.put S.nn S.ne
theorem NO {t:Types}{r:Rule}{h:Host}{m:Mat}(hm:m∈(sM t r h).1):fV t r h=0∧jC t r h m=0:=by
 unfold sM at hm
 split at hm
 ·cases hm
 ·rename_i h1
  split at hm
  ·cases hm
  ·exact ⟨by simpa using h1,of_decide_eq_true (dL.1 hm).2⟩
@[go_sem] theorem acP (o:Option UInt8)(a0:D):((Option.map cU o).getD [a0]).length=1:=by cases o<;>rfl
@[go_sem] theorem ab2 (o:Option B3)(a0 a1 a2:D):((Option.map cT3 o).getD [a0,a1,a2]).length=3:=by cases o<;>rfl
@[go_sem] theorem acQ (o:Option B2)(a0 a1:D):((Option.map cP o).getD [a0,a1]).length=2:=by cases o<;>rfl
theorem MB (l:List Slot):eI (l.map Slot.c)=l.map Slot.c:=kI fun c hc=>by
 rw [aQ] at hc;obtain ⟨x,_,rfl⟩:=hc;rfl
theorem MA (l:List Test):eI (l.map Test.c)=l.map Test.c:=kI fun c hc=>by
 rw [aQ] at hc;obtain ⟨x,_,rfl⟩:=hc;rfl
theorem Uo (c:Cond):kJ c.c=c.c:=by
 refine k8 (p:=fun c=>kJ c.c=c.c) (fun c ih=>?_) c
 rw [Cond.c_eq]
 have hk:eI (c.kids.map Cond.c)=c.kids.map Cond.c:=kI fun d hd=>by
  rw [aQ] at hd;obtain ⟨x,hx,rfl⟩:=hd;exact ih x hx
 simp [kJ,oM,dLI,dI,fZ,yJ,MB,MA,hk]
theorem S0 (l:List Cond):eI (l.map Cond.c)=l.map Cond.c:=kI fun c hc=>by
 rw [aQ] at hc;obtain ⟨x,_,rfl⟩:=hc;exact Uo x
theorem Ym (l:List (List Int)):eI (l.map cL)=l.map cL:=kI fun c hc=>by
 rw [aQ] at hc;obtain ⟨x,_,rfl⟩:=hc
 simp [cL,dLI,kJ,oM,fZ]
theorem S5 (n a:Nat):(if a<n then (a:Int) else (n:Int))=((min n a:Nat):Int):=by split<;>omega
def small (d:Dr5)(a b:Nat):Dr5:=⟨d.nodes.take (min d.nodes.length a),d.edges.take (min d.edges.length b)⟩
theorem L1 (d:Dr5)(a b:Nat)(ha:a≤1000)(hb:b≤1000):Pure Tryz.prog 74 [.agg d.c,dI a,dI b] (.agg (small d a b).c):=by
 have hm1:=S5 d.nodes.length a
 have hm2:=S5 d.edges.length b
 obtain ⟨ma,hma⟩:∃ m,min d.nodes.length a=m:=⟨_,rfl⟩
 obtain ⟨mb,hmb⟩:∃ m,min d.edges.length b=m:=⟨_,rfl⟩
 rw [hma] at hm1
 rw [hmb] at hm2
 have hma':ma≤d.nodes.length:=by omega
 have hmb':mb≤d.edges.length:=by omega
 refine Tz.pK ⟨fun t=>t==6,fun _=>[]⟩ Tryz.func74 rfl (fun Q hQ=>?_)
 have Y:=wa @Dr5.c.eq_1 (wa hm1 hm2)
 exact wo (h:=hQ _ _ (by simp [go_sem,small,Y,hma,hmb]))
structure Dr26 where
 types:List B2
 ends:List B2
 rule:Dr24
 host:Dr15
def Dr26.c (d:Dr26):List D:=[.list (d.types.map cP),.list (d.ends.map cP)]++d.rule.c++d.host.c
@[go_sem] theorem Dr26.cl (d:Dr26):D.clL d.c=true:=by simp [Dr26.c,Bf,Dr24.cl,Dr15.c,D.clL,D.cl,TE,Cx]
def Qx (d:Dr24):Dr24:={ d with left:={ d.left with graph:=small d.left.graph 3 2 } }
def T0 (d:Dr26):Types:=jE d.types d.ends
def Vc (d:Dr26):Rule:=v6 (T0 d) (Qx d.rule)
def GO (d:Dr26):Host:=A4 (T0 d) ⟨d.host.nodes.take (min d.host.nodes.length 6),d.host.edges.take (min d.host.edges.length 8)⟩
theorem OD (d:Dr26):Pure Tryz.prog 22 [.agg d.c] (.tup [(T0 d).d,(Vc d).d,(GO d).d]):=by
 have hf:=Gu d.types d.ends
 obtain ⟨T,hT⟩:∃ T,jE d.types d.ends=T:=⟨_,rfl⟩
 have hM:=OP d.types d.ends
 rw [hT] at hf hM
 have hm1:(if (6:Int)<(d.host.nodes.length:Int) then (6:Int) else (d.host.nodes.length:Int))=((min d.host.nodes.length 6:Nat):Int):=by split<;>omega
 have hm2:(if (8:Int)<(d.host.edges.length:Int) then (8:Int) else (d.host.edges.length:Int))=((min d.host.edges.length 8:Nat):Int):=by split<;>omega
 obtain ⟨ma,hma⟩:∃ m,min d.host.nodes.length 6=m:=⟨_,rfl⟩
 obtain ⟨mb,hmb⟩:∃ m,min d.host.edges.length 8=m:=⟨_,rfl⟩
 rw [hma] at hm1
 rw [hmb] at hm2
 have hma':ma≤d.host.nodes.length:=by omega
 have hmb':mb≤d.host.edges.length:=by omega
 refine tT (by first|rfl|(simp [go_sem];done)) (fun Q hQ=>(aG (cfg:=⟨fun t=>t==1||t==2||t==3||t==4||t==5,fun r=>match r with|3=>[(15,20),(16,20),(17,20)]|_=>[]⟩) Tz.mixed Tryz.func22 rfl rfl (aE rfl) (by kernel_rfl) ?_))
 have Y:=wa @Dr26.c.eq_1 (wa @Dr24.c.eq_1 (wa @Dr15.c.eq_1 (wa @Dr5.c.eq_1 (wa @Host.d.eq_1 (wa @Host.c.eq_1 (wa hm1 hm2))))))
 refine Io (h:=aB (hM) wl ?_)
 refine Io (h:=aB (L1 d.rule.left.graph 3 2 (by omega) (by omega)) wl ?_)
 refine Lh (h:=aM ((by have hq:=OE T hf (Qx d.rule);simp only [Qx,Dr24.c,Dr5.c] at hq;exact hq)) wl ?_)
 refine Lh (h:=aM ((by have hq:=OK T hf ⟨d.host.nodes.take ma,d.host.edges.take mb⟩;simpa [go_sem,Dr15.c,Host.d,Host.c] using hq)) wl ?_)
 refine Lh (h:=?_)
 exact hQ _ _ (by simp [go_sem,Y,T0,Vc,GO,Qx,hT,hma,hmb,Types.d,Types.c,Host.d,Host.c,Rule.d,C8,Gk,fZ,yJ,MB,MA,S0,Ym])
@[go_sem] theorem ab0 (o:Option Mat)(a0 a1 a2:D):((Option.map Mat.c o).getD [a0,a1,a2]).length=3:=by cases o<;>rfl
/-! ### StepCounts -/
@[go_sem] theorem WB (l:List Int):G4 l 0=0:=rfl
theorem MJ {t:Types}(h:MadeTy t):∀ n∈t.nodes,n.attrs.length≤1000000000000000:=fun n hn=>c9 (h.fine.ok.nodes n hn).few (by omega)
theorem PQ {t:Types}{r:Rule}{h:Host}(ht:t.ok)(hr:r.ok){m:Mat}(hm:m∈(sM t r h).1):Pure Tryz.prog 15 [t.d,r.d,h.d,m.d] (.tup [.agg (b9 t r h m).c,dI 0]):=by
 obtain ⟨h1,h2⟩:=NO hm
 have hA:wN t r h m=0:=by unfold wN;rw [if_neg (by rw [h1];simp),h2]
 exact Bx t ht r hr h m (by unfold pU;rw [if_pos hA]) hA.symm
end Go.Abs
end
