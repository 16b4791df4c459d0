/- Complements and parts: general facts. · Layer 26 of the refe -/
import Derived.Test.YtjfaalokjnmdoaaGreatZcAO
import Derived.Test.YtjfaalokjnmdoaaGreatZcAF
import Derived.Test.YtjfaalokjnmdoaaGreatZcAA
import Derived.Test.YtjfaalokjnmdoaaGreatZcAE
import Derived.Carry
import Derived.ChangeArms
import Derived.WideShapes
import Derived.DataElems
set_option linter.unusedVariables false
set_option linter.unusedSimpArgs false
section
set_option maxRecDepth 100000
set_option maxHeartbeats 4000000
open Go Go.Proofs
namespace Go.Abs
theorem UC {l:List Int}{v:Int}(h:mem l v=true):0≤Ks l v∧(Ks l v).toNat<l.length∧l[(Ks l v).toNat]?=some v:=by
 obtain ⟨i,hi,he⟩:=aN ((dA l v).1 h)
 have h0:0≤Ks l v:=by simpa [mem] using h
 unfold Ks at h0 ⊢
 cases hf:l.findIdx? (fun x=>decide (x=v)) with
 | none=>rw [hf] at h0;simp at h0
 | some k =>
  rw [g5] at hf
  obtain ⟨hk,hv,_⟩:=hf
  simp only [decide_eq_true_eq] at hv
  exact ⟨by simp,by simpa using hk,by simp [hk,hv]⟩
theorem jP {f:Nat→Int}:∀ (n k:Nat),(∀ j,k≤j→j<k+n→f j=0)→bR f k n=0
 | 0,k,_=>rfl
 | n+1,k,h=>by
  unfold bR
  rw [if_neg (by rw [h k (aY _) (by omega)];simp)]
  exact jP n (k+1) fun j h1 h2=>h j (by omega) (by omega)
theorem Sg {l:List Int}{n:Int}(h1:∀ x∈l,0≤x∧x<n)(h2:l.Pairwise (· < ·)):C5 l n=0:=by
 refine jP _ _ fun j _ hj=>?_
 have hj':j<l.length:=by omega
 have hx:=h1 _ (aC hj')
 unfold GR
 rw [aA hj',aD,if_neg (by omega),if_neg]
 rintro ⟨h0,hle⟩
 rw [aA (show j - 1<l.length by omega),aD] at hle
 have:=dB.1 h2 (j - 1) j (by omega) hj' (by omega)
 omega
theorem Sh {l:List Int}(h:l.Pairwise (· < ·))(h0:∀ x∈l,0≤x):∀ i (hi:i<l.length),(i:Int)≤l[i]
 | 0,hi=>by have:=h0 _ (aC hi);omega
 | i+1,hi=>by
  have h1:=Sh h h0 i (by omega)
  have h2:=dB.1 h i (i+1) (by omega) hi (by omega)
  omega
theorem Bs {α:Type}{f:α→Int}:∀ {l:List α},(∀ x∈l,f x=0)→eX f l=0
 | [],_=>rfl
 | x :: l,h=>by
  unfold eX
  rw [if_neg (by rw [h x (nL ..)];simp)]
  exact Bs fun y hy=>h y (jL _ hy)
def eA (g:Graph)(k:Int):Edge:=g.edges[k.toNat]?.getD b7
def iA (l:List Int)(k:Int):Int:=l[k.toNat]?.getD 0
theorem Jg {g:Graph}{p:Part}(hg:graphF g=0)(hn:∀ x∈p.nodes,0≤x∧x<g.nodes.length)(hns:p.nodes.Pairwise (· < ·))(he:∀ x∈p.edges,0≤x∧x<g.edges.length)(hes:p.edges.Pairwise (· < ·))
  (hends:∀ k∈p.edges,(eA g k).from_∈p.nodes∧(eA g k).to_∈p.nodes):subF g p=0:=by
 unfold subF oU
 rw [if_neg (by rw [hg];simp),if_neg (by rw [Sg hn hns];simp),if_neg (by rw [Sg he hes];simp)]
 refine Bs fun k hk=>?_
 have h1:=(dA _ _).2 (hends k hk).1
 have h2:=(dA _ _).2 (hends k hk).2
 unfold eA at h1 h2
 unfold xU;rw [if_pos (by rw [h1,h2];rfl)]
theorem Fp (p:Nat→Bool)(n:Nat):(((List.range n).filter p).map fun (b:Nat)=>(b:Int)).Pairwise (· < ·):=by
 rw [List.pairwise_map]
 have h:((List.range n).filter p).Pairwise (· < ·):=List.Pairwise.filter _ List.pairwise_lt_range
 exact h.imp fun h=>by omega
theorem Ah (p:Nat→Bool)(n:Nat)(x:Int):x∈(((List.range n).filter p).map fun (b:Nat)=>(b:Int))↔(0≤x∧x<n)∧p x.toNat=true:=by
 simp only [aT,dN,bK]
 constructor
 ·rintro ⟨a,⟨h1,h2⟩,rfl⟩;exact ⟨by omega,by simpa using h2⟩
 ·rintro ⟨⟨h1,h2⟩,h3⟩;exact ⟨x.toNat,⟨by omega,h3⟩,by omega⟩
theorem i5 {l:List Int}{n:Nat}{x:Int}:x∈b6 l n↔(0≤x∧x<n)∧x∉l:=by
 unfold b6
 rw [Ah]
 constructor
 ·rintro ⟨h,h2⟩
  refine ⟨h,fun hm=>?_⟩
  rw [show ((x.toNat:Nat):Int)=x by omega,(dA l x).2 hm] at h2;cases h2
 ·rintro ⟨h,h2⟩
  refine ⟨h,?_⟩
  rw [show ((x.toNat:Nat):Int)=x by omega,cQ,bX]
  exact fun hm=>h2 ((dA l x).1 hm)
theorem rS (l:List Int)(n:Nat):(b6 l n).Pairwise (· < ·):=Fp _ n
theorem Ik {a b:Graph}{m:Part}(h:dE a b m=0):(∀ i,i<a.nodes.length→i6 a b m i=0)∧∀ k,k<a.edges.length→jF a b m k=0:=by
 obtain ⟨g1,g2,h3,h4⟩:=mD h
 have hM:dE a b m=(if bR (i6 a b m) 0 a.nodes.length≠0 then bR (i6 a b m) 0 a.nodes.length else bR (jF a b m) 0 a.edges.length):=by
  unfold dE;rw [if_neg (by rw [g1];simp),if_neg (by rw [g2];simp),if_neg (by omega)]
 rw [hM] at h
 split at h
 ·rename_i q;exact absurd h q
 ·rename_i q
  exact ⟨fun i hi=>dY a.nodes.length 0 (show bR (i6 a b m) 0 a.nodes.length=0 by omega) i (by omega) (by omega),fun k hk=>dY a.edges.length 0 h k (by omega) (by omega)⟩
theorem NV {a b:Graph}{m:Part}(h:dE a b m=0){i:Int}(h0:0≤i)(hi:i<a.nodes.length):(0≤iA m.nodes i∧iA m.nodes i<b.nodes.length)∧gN b (iA m.nodes i)=gN a i:=by
 have q:=(Ik h).1 i.toNat (by omega)
 unfold i6 at q
 split at q
 ·cases q
 ·rename_i q1
  split at q
  ·cases q
  ·rename_i q2
   exact ⟨by unfold iA;omega,by unfold gN iA;simpa using q2⟩
theorem NW {a b:Graph}{m:Part}(h:dE a b m=0){k:Int}(h0:0≤k)(hk:k<a.edges.length):(0≤iA m.edges k∧iA m.edges k<b.edges.length)∧(eA a k).type=(eA b (iA m.edges k)).type ∧
  iA m.nodes (eA a k).from_=(eA b (iA m.edges k)).from_∧iA m.nodes (eA a k).to_=(eA b (iA m.edges k)).to_:=by
 have q:=(Ik h).2 k.toNat (by omega)
 unfold jF at q
 split at q
 ·cases q
 ·rename_i q1
  split at q
  ·cases q
  ·rename_i q2
   split at q
   ·cases q
   ·rename_i q3
    unfold eA iA
    refine ⟨by omega,by simpa using q2,?_,?_⟩<;>exact bD fun hc=>q3 (by first|exact .inl hc|exact .inr hc)
theorem yZ {g:Graph}(hg:graphF g=0){k:Int}(h0:0≤k)(hk:k<g.edges.length):(0≤(eA g k).from_∧(eA g k).from_<g.nodes.length)∧(0≤(eA g k).to_∧(eA g k).to_<g.nodes.length)∧0≤(eA g k).type∧(eA g k).type≤99:=by
 have hk':k.toNat<g.edges.length:=by omega
 have hx:=(dL hg).2 _ (aC hk')
 unfold eA
 rw [aA hk',aD]
 exact ⟨hx.2.1,hx.2.2,hx.1⟩
theorem Mt {im keep:List Int}(h:vD im keep=[]){i k:Nat}(hik:i<k)(hk:k<im.length):AA im keep i k=false:=by
 rw [bX]
 intro hd
 have hm:(i,k)∈vD im keep:=by
  unfold vD J0
  rw [bQ]
  refine ⟨i,bK.2 (by omega),?_⟩
  unfold nB
  rw [aT]
  exact ⟨k - (i+1),dN.2 ⟨bK.2 (by omega),by rw [show i+1+(k - (i+1))=k by omega];exact hd⟩,by simp;omega⟩
 rw [h] at hm;cases hm
theorem R0 {im keep:List Int}(h:vD im keep=[]){i k:Nat}(hi:i<im.length)(hk:k<im.length)(hne:i≠k)(he:im[i]?.getD 0=im[k]?.getD 0):mem keep i=true∧mem keep k=true:=by
 rcases Nat.lt_or_gt_of_ne hne with hlt|hlt
 ·have:=Mt h hlt hk
  unfold AA at this;rw [he] at this;simpa using this
 ·have:=Mt h hlt hi
  unfold AA at this;rw [he] at this;simp at this;exact ⟨this.2,this.1⟩
theorem J2 {l g:Graph}{keep m:Part}(h:xZ l g keep m=0):dE l g m=0∧subF l keep=0∧vD m.nodes keep.nodes=[]∧vD m.edges keep.edges=[]∧Gu g m.edges (eL m.nodes keep.nodes)=[]:=by
 unfold xZ at h
 split at h
 ·rename_i q;exact absurd h q
 ·rename_i q
  have q':compG l g keep m=0:=by omega
  unfold compG at q'
  split at h
  ·cases h
  ·rename_i q2
   split at h
   ·cases h
   ·rename_i q3
    have q4:dE l g m=0∧subF l keep=0:=by
     split at q'
     ·rename_i q5;exact absurd q' q5
     ·rename_i q5;exact ⟨by omega,q'⟩
    exact ⟨q4.1,q4.2,bG (by omega),bG (by omega),bG (by omega)⟩
theorem yS {im keep:List Int}(hd:vD im keep=[]){j:Int}(h0:0≤j)(hj:j<im.length)(hk:j∈keep):iA im j∉eL im keep:=by
 intro hm
 obtain ⟨i,hi,hki,he⟩:=CN.1 hm
 have hne:i≠j.toNat:=by
  rintro rfl
  rw [show ((j.toNat:Nat):Int)=j by omega,(dA _ _).2 hk] at hki;cases hki
 have:=R0 hd hi (show j.toNat<im.length by omega) hne (by rw [he];rfl)
 rw [hki] at this;exact absurd this.1 (by simp)
theorem Tl {l g:Graph}{keep m:Part}(h:xZ l g keep m=0):subF g (z8 l g keep m)=0:=by
 obtain ⟨hm,hs,hd1,hd2,hda⟩:=J2 h
 unfold z8;rw [if_pos h]
 obtain ⟨hgl,hg,hln,hle⟩:=mD hm
 refine Jg hg (fun x hx=>mF hx) (rS _ _) (fun x hx=>mF hx) (rS _ _) fun k hk=>?_
 obtain ⟨hkr,hkn⟩:=i5.1 hk
 have hen:=yZ hg hkr.1 hkr.2
 by_cases hkm:k∈m.edges
 ·obtain ⟨i,hi,hik⟩:=aN hkm
  have hkeep:(i:Int)∈keep.edges:=by
   refine bD fun hc=>hkn (CN.2 ⟨i,hi,?_,?_⟩)
   ·rw [bX];exact fun h'=>hc ((dA _ _).1 h')
   ·rw [aA hi,hik]
  have hse:=Cg hs i hkeep
  have hei:=yZ (k:=(i:Int)) hgl (by omega) (by omega)
  have hme:=NW (k:=(i:Int)) hm (by omega) (by omega)
  have hii:iA m.edges i=k:=by unfold iA;simp [hi,hik]
  rw [hii] at hme
  have g1:=yS hd1 hei.1.1 (by omega) ((dA _ _).1 hse.1)
  have g2:=yS hd1 hei.2.1.1 (by omega) ((dA _ _).1 hse.2)
  rw [hme.2.2.1] at g1
  rw [hme.2.2.2] at g2
  exact ⟨i5.2 ⟨hen.1,g1⟩,i5.2 ⟨hen.2.1,g2⟩⟩
 ·have hb:DQ g m.edges (eL m.nodes keep.nodes) k.toNat=false:=by
   rw [bX]
   intro hb
   have hmm:k∈Gu g m.edges (eL m.nodes keep.nodes):=by
    unfold Gu;rw [Ah];exact ⟨hkr,hb⟩
   rw [hda] at hmm;cases hmm
  unfold DQ at hb
  rw [show ((k.toNat:Nat):Int)=k by omega,show mem m.edges k=false by rw [bX];exact fun h'=>hkm ((dA _ _).1 h')] at hb
  simp only [Bool.not_false,g6,Bool.or_eq_false_iff] at hb
  exact ⟨i5.2 ⟨hen.1,fun h'=>by have:=(dA _ _).2 h';unfold eA at this;rw [hb.1] at this;cases this⟩,i5.2 ⟨hen.2.1,fun h'=>by have:=(dA _ _).2 h';unfold eA at this;rw [hb.2] at this;cases this⟩⟩
theorem n4 {g:Graph}(h1:g.nodes.length≤40)(h2:g.edges.length≤80)(hn:∀ a∈g.nodes,0≤a∧a≤99)
  (he:∀ x∈g.edges,(0≤x.type∧x.type≤99)∧(0≤x.from_∧x.from_<g.nodes.length)∧(0≤x.to_∧x.to_<g.nodes.length)):graphF g=0:=by
 unfold graphF
 rw [if_neg (by omega),if_neg,if_neg]
 ·rw [aX];rintro ⟨x,hx,hf⟩
  have h3:=he x hx
  have h4:r9 x g.nodes.length=true:=by simp [r9,gF];omega
  rw [h4] at hf;cases hf
 ·rw [aX];rintro ⟨a,ha,hf⟩
  have h3:=hn a ha
  have h4:gF a 99=true:=by simp [gF];omega
  rw [h4] at hf;cases hf
theorem Av {g:Graph}{n:Int}(h0:0≤n)(h:n<g.nodes.length):gN g n∈g.nodes:=by
 unfold gN;rw [aA (show n.toNat<g.nodes.length by omega),aD];exact aC _
theorem CS {g:Graph}{n:Int}(h0:0≤n)(h:n<g.edges.length):eA g n∈g.edges:=by
 unfold eA;rw [aA (show n.toNat<g.edges.length by omega),aD];exact aC _
theorem Od {l:List Int}{n:Int}(h0:0≤n)(h:n<l.length):iA l n∈l:=by
 unfold iA;rw [aA (show n.toNat<l.length by omega),aD];exact aC _
theorem Ka {l:List Int}{n:Nat}(h:l.Pairwise (· < ·))(hr:∀ x∈l,0≤x∧x<n):l.length≤n:=by
 rcases Nat.eq_zero_or_pos l.length with h1|h1
 ·omega
 ·have h2:=Sh h (fun x hx=>(hr x hx).1) (l.length - 1) (by omega)
  have h3:=hr _ (aC (show l.length - 1<l.length by omega))
  omega
theorem Nl {g:Graph}{p:Part}(h:subF g p=0):p.edges.Pairwise (· < ·):=by
 unfold subF oU at h
 split at h
 ·rename_i q;exact absurd h q
 ·split at h
  ·rename_i q;exact absurd h q
  ·split at h
   ·rename_i q;exact absurd h q
   ·rename_i q;exact (AI (show C5 p.edges g.edges.length=0 by omega)).2
theorem Fx {l:List Int}(hs:l.Pairwise (· < ·)){v:Int}(hv:v∈l):oT l v<l.length∧iA l (oT l v)=v∧Ks l v=oT l v:=by
 have hm:=(dA l v).2 hv
 have h1:=Bw hs hm
 obtain ⟨h2,h3,h4⟩:=UC hm
 rw [h1] at h2 h3 h4
 refine ⟨by simpa using h3,?_,h1⟩
 unfold iA;rw [h4];rfl
theorem AT {g:Graph}{p:Part}(h:subF g p=0){k:Int}(hk:k∈p.edges):(eA g k).from_∈p.nodes∧(eA g k).to_∈p.nodes:=by
 have:=Cg h k hk
 exact ⟨(dA _ _).1 this.1,(dA _ _).1 this.2⟩
theorem JX (g:Graph)(p:Part)(k:Int):gEd g p k=⟨(eA g k).type,oT p.nodes (eA g k).from_,oT p.nodes (eA g k).to_⟩:=rfl
theorem Ux {α β:Type}(f:α→β)(l:List α)(d:α)(e:β){i:Nat}(h:i<l.length):((l.map f)[i]?).getD e=f ((l[i]?).getD d):=by simp [h]
theorem JZ {g:Graph}{p:Part}(h:subF g p=0){i:Int}(h0:0≤i)(hi:i<p.nodes.length):gN (bS g p) i=gN g (iA p.nodes i):=by
 unfold bS;rw [if_pos h]
 exact Ux (gN g) p.nodes 0 0 (by omega)
theorem Qe (c:Part)(vs:List Int)(l:List Slot)(s:Slot)(vals:List (List Int)):zD c vs (l++[s]) vals=(zD c vs l vals).set (fI c s) (((zD c vs l vals)[fI c s]?.getD []).set s.attr.toNat (c5 s.term vs)):=by unfold zD;rw [jU];rfl
theorem qB (c:Part)(vs:List Int):∀ (l:List Slot) (vals:List (List Int)),(zD c vs l vals).length=vals.length∧∀ n:Nat,((zD c vs l vals)[n]?.getD []).length=(vals[n]?.getD []).length
 | [],vals=>⟨rfl,fun _=>rfl⟩
 | s :: l,vals=>by
  obtain ⟨h1,h2⟩:=qB c vs l (vals.set (fI c s) ((vals[fI c s]?.getD []).set s.attr.toNat (c5 s.term vs)))
  have e:zD c vs (s :: l) vals=zD c vs l (vals.set (fI c s) ((vals[fI c s]?.getD []).set s.attr.toNat (c5 s.term vs))):=rfl
  rw [e]
  refine ⟨by rw [h1,dV],fun n=>?_⟩
  rw [h2 n,cO]
  split
  ·rename_i hn
   subst hn
   split
   ·simp
   ·rename_i hn;rw [bL (by omega)]
  ·rfl
def GF (c:Part)(vs:List Int)(l:List Slot)(i k:Nat):Bool:=match l[k]?,l[i]? with|some a,some b=>GH c vs a b|_,_=>false
theorem CX (c:Part)(vs:List Int)(l:List Slot):AE c vs l=(List.range l.length).any fun i=>(List.range i).any fun k=>GF c vs l i k:=rfl
structure PutOk (t:Types) (r:Rule) (x:Host) (c:Part):Prop where
 cl:c.nodes.length=r.right.graph.nodes.length
 few:x.graph.nodes.length≤2000∧x.graph.edges.length≤2000∧x.values.length≤2000
 spot:∀ s∈r.right.slots,0≤c.nodes[s.node.toNat]?.getD 0∧fI c s<x.values.length∧fI c s<x.graph.nodes.length
 attr:∀ s∈r.right.slots,s.attr<(x.values[fI c s]?.getD []).length∧s.attr<(bI t (x.graph.nodes[fI c s]?.getD 0)).length
theorem IT {l:List Int}(hn:l.Nodup){p:Nat}(hp:p<l.length):∀ n,n≤l.length→iB l n l[p]=if p<n then (p:Int) else -1
 | 0,_=>rfl
 | n+1,h=>by
  rw [vF,IT hn hp n (by omega),aA (by omega),aD]
  by_cases he:n=p
  ·subst he;rw [if_pos rfl,if_pos (by omega)]
  ·rw [if_neg (fun e=>he ((zB hn).1 e))]
   by_cases h2:p<n
   ·rw [if_pos h2,if_pos (by omega)]
   ·rw [if_neg h2,if_neg (by omega)]
theorem qU {l:List Int}(hn:l.Nodup){p:Nat}(hp:p<l.length):iB l l.length l[p]=p:=by rw [IT hn hp _ (aY _),if_pos hp]
theorem uD {l:List Int}{v:Int}(h:v∉l):∀ n,n≤l.length→iB l n v = -1
 | 0,_=>rfl
 | n+1,hl=>by
  rw [vF,uD h n (by omega),aA (by omega),aD,if_neg]
  exact fun e=>h (e ▸ aC _)
theorem IU {l:List Int}(hn:l.Nodup)(v:Int):decide (iB l l.length v<0) = !mem l v:=by
 by_cases h:v∈l
 ·obtain ⟨p,hp,rfl⟩:=aN h
  rw [qU hn hp,(dA _ _).2 h];simp
 ·rw [uD h _ (aY _),bX.2 fun hm=>h ((dA _ _).1 hm)];rfl
theorem Pi {l:List Int}(hn:l.Nodup)(i:Nat):Cy l i=(b6 l i).length:=by
 unfold Cy b6
 rw [bA]
 congr 1
 exact List.filter_congr fun j _=>IU hn j
theorem If {l:List Int}:∀ (n j:Nat),j<n→mem l j=false→(b6 l n)[(b6 l j).length]?=some (j:Int)
 | n+1,j,hj,hm=>by
  rw [uV]
  by_cases h:j=n
  ·subst h
   rw [if_neg (by rw [hm];simp),bE (aY _)];simp
  ·have:=If n j (by omega) hm
   rw [aU (aL.1 this).1];exact this
theorem uG {l:List Int}(h:l.Pairwise (· < ·)):l.Nodup:=h.imp fun h=>by omega
structure StepIn (t:Types) (r:Rule) (h:Host) (m:Mat):Prop where
 hR:RuleV t r
 ho:HostOk t h
 hm:MOk t r.left.graph h.graph m.m
 hc:xZ (xN r.left.graph h.graph m.m) h.graph r.keep m.m=0
section
variable {t:Types} {r:Rule} {h:Host} {m:Mat}
theorem Rl (hR:RuleV t r)(ho:HostOk t h)(hp:Ai t r h m=0):StepIn t r h m:=by
 unfold Ai at hp
 split at hp
 ·cases hp
 ·rename_i h1
  split at hp
  ·exact absurd hp (by assumption)
  ·split at hp
   ·cases hp
   ·exact ⟨hR,ho,Al (CZ (by simpa using h1)).2,hp⟩
theorem StepIn.rest (S:StepIn t r h m):cE r h m=⟨b6 (eL m.m.nodes r.keep.nodes) h.graph.nodes.length,b6 (eL m.m.edges r.keep.edges) h.graph.edges.length⟩:=by unfold cE z8;rw [if_pos S.hc]
theorem StepIn.sub (S:StepIn t r h m):subF h.graph (cE r h m)=0:=Tl S.hc
theorem StepIn.nasc (S:StepIn t r h m):(cE r h m).nodes.Pairwise (· < ·):=by rw [S.rest];exact rS _ _
theorem StepIn.easc (S:StepIn t r h m):(cE r h m).edges.Pairwise (· < ·):=by rw [S.rest];exact rS _ _
theorem StepIn.nin (S:StepIn t r h m):∀ x∈(cE r h m).nodes,0≤x∧x<h.graph.nodes.length:=(rI S.sub).2.2.1
theorem StepIn.ein (S:StepIn t r h m):∀ x∈(cE r h m).edges,0≤x∧x<h.graph.edges.length:=(rI S.sub).2.2.2
theorem StepIn.len (S:StepIn t r h m):(cE r h m).nodes.length≤40∧(cE r h m).edges.length≤80:=by
 have hg:=cC S.ho.gg
 have h1:=Ka S.nasc S.nin
 have h2:=Ka S.easc S.ein
 omega
theorem StepIn.dup (S:StepIn t r h m):vD m.m.nodes r.keep.nodes=[]∧vD m.m.edges r.keep.edges=[]:=⟨(J2 S.hc).2.2.1,(J2 S.hc).2.2.2.1⟩
theorem StepIn.keptN (S:StepIn t r h m){k:Int}(hk:k∈r.keep.nodes):iA m.m.nodes k∈(cE r h m).nodes:=by
 have hK:=S.hR.keep
 have hl:=S.hm.len
 have hr:=hK.2.1 k hk
 have h1:=yS S.dup.1 hr.1 (by omega) hk
 rw [S.rest]
 have h2:=(S.hm.img k.toNat (by omega) (by omega)).1
 have e:iA m.m.nodes k=m.m.nodes[k.toNat]'(by omega):=by unfold iA;rw [aA (by omega)];rfl
 exact i5.2 ⟨by rw [e];exact h2,h1⟩
theorem StepIn.bareN (S:StepIn t r h m):(cD t r h m).graph.nodes=(cE r h m).nodes.map (gN h.graph)++r.freshN.map (gN r.right.graph):=by
 unfold cD z6 bS;rw [if_pos S.sub]
theorem StepIn.bareE (S:StepIn t r h m):(cD t r h m).graph.edges=(cE r h m).edges.map (gEd h.graph (cE r h m))++r.freshE.map (fun k=>freshE (gM r h m) (r.right.graph.edges[k.toNat]?.getD b7)):=by
 unfold cD z6 bS;rw [if_pos S.sub]
theorem Se:(cD t r h m).values=(cE r h m).nodes.map (fun k=>h.values[k.toNat]?.getD [])++r.freshN.map (fun k=>qL t (gN r.right.graph k)):=rfl
theorem StepIn.intoN (S:StepIn t r h m):r.into.nodes.Nodup∧r.into.edges.Nodup:=by
 have:=S.hR.inj
 unfold u0 at this
 simp only [aJ,decide_eq_true_eq] at this
 exact this.2
theorem StepIn.kept_type (S:StepIn t r h m){p:Nat}(hp:p<r.into.nodes.length)(hq:p<r.keep.nodes.length):gN r.right.graph r.into.nodes[p]=gN r.left.graph r.keep.nodes[p]:=by
 have e1:(bS r.left.graph r.keep).nodes.length=r.keep.nodes.length:=by unfold bS;rw [if_pos S.hR.sub];simp
 have hmn:=(NV S.hR.mo (i:=(p:Int)) (by omega) (by omega)).2
 rw [JZ S.hR.sub (by omega) (by omega)] at hmn
 simpa [iA,aA hp,aA hq] using hmn
theorem StepIn.com (S:StepIn t r h m){i:Nat}(hi:i<r.right.graph.nodes.length):∃ n:Nat,(gM r h m).nodes[i]?=some (n:Int)∧∃ hn:n<(cD t r h m).graph.nodes.length,zK t r.right.graph.nodes[i] ((cD t r h m).graph.nodes[n])=true:=by
 obtain ⟨hK1,hK2,hK3,hK4,hK5⟩:=S.hR.keep
 have hml:=S.hm.len
 have hin:=S.intoN.1
 have hcm:(gM r h m).nodes[i]?=some (MA r.keep.nodes r.into.nodes (sU m.m.nodes (dC r h m).nodes) (cE r h m).nodes.length i):=by
  unfold gM Kt;simp [hi]
 rw [hcm]
 have hb:=S.bareN
 have hvt:=lY S.hR.vf
 have hri:=(iV S.hR.gr S.hR.tr).1 _ (aC hi)
 by_cases hm:(i:Int)∈r.into.nodes
 ·obtain ⟨p,hp,he⟩:=aN hm
  have hq:p<r.keep.nodes.length:=by omega
  have hkr:=hK2 _ (aC hq)
  have hkm:r.keep.nodes[p].toNat<m.m.nodes.length:=by omega
  have hD:=S.keptN (aC hq)
  obtain ⟨n,hn,hne⟩:=aN hD
  have hv:=S.nin _ (aC hn)
  have hiA:iA m.m.nodes r.keep.nodes[p]=m.m.nodes[r.keep.nodes[p].toNat]:=by unfold iA;rw [aA hkm];rfl
  have hco:MA r.keep.nodes r.into.nodes (sU m.m.nodes (dC r h m).nodes) (cE r h m).nodes.length i=n:=by
   unfold MA
   rw [← he,qU hin hp,if_pos (by omega)]
   rw [show (p:Int).toNat=p by omega,aA hq,aD]
   unfold sU dC mA
   rw [aM,aA hkm,cZ,aD]
   rw [← hiA,← hne]
   simp only
   rw [n6 _ (by omega),aD,show (((cE r h m).nodes[n].toNat:Nat):Int)=(cE r h m).nodes[n] by omega,qU (uG S.nasc) hn]
  refine ⟨n,by rw [hco],by rw [hb];simp;omega,?_⟩
  have hty:=S.kept_type hp hq
  rw [he] at hty
  have hgr:gN r.right.graph (i:Int)=r.right.graph.nodes[i]:=by simp [gN,aA hi]
  have hkl:r.keep.nodes[p].toNat<r.left.graph.nodes.length:=by omega
  have hgl:gN r.left.graph r.keep.nodes[p]=r.left.graph.nodes[r.keep.nodes[p].toNat]:=by simp [gN,aA hkl]
  rw [hgr,hgl] at hty
  rw [hty]
  have hbel:=(S.hm.img _ hkm hkl).2
  have hx:(cD t r h m).graph.nodes[n]?=some (h.graph.nodes[(m.m.nodes[r.keep.nodes[p].toNat]).toNat]?.getD 0):=by
   rw [hb,aU (by simpa using hn),aM,aA hn,cZ,hne,hiA];rfl
  obtain ⟨_,hx2⟩:=aL.1 hx
  rw [hx2];exact hbel
 ·have hmf:mem r.into.nodes i=false:=bX.2 fun h=>hm ((dA _ _).1 h)
  have hco:MA r.keep.nodes r.into.nodes (sU m.m.nodes (dC r h m).nodes) (cE r h m).nodes.length i=(((cE r h m).nodes.length+(b6 r.into.nodes i).length:Nat):Int):=by
   unfold MA
   rw [if_neg (by rw [uD hm _ (aY _)];omega),Pi hin]
  have hoa:=If r.right.graph.nodes.length i hi hmf
  have hlt:(b6 r.into.nodes i).length<r.freshN.length:=(aL.1 hoa).1
  refine ⟨(cE r h m).nodes.length+(b6 r.into.nodes i).length,by rw [hco],by rw [hb];simp;omega,?_⟩
  have hx:(cD t r h m).graph.nodes[(cE r h m).nodes.length+(b6 r.into.nodes i).length]?=some r.right.graph.nodes[i]:=by
   rw [hb,bE (by simp),bA,Nat.add_sub_cancel_left,aM]
   have:r.freshN[(b6 r.into.nodes i).length]?=some (i:Int):=hoa
   rw [this];simp [gN,aA hi]
  obtain ⟨_,hx2⟩:=aL.1 hx
  rw [hx2]
  unfold zK
  have:=QB hvt (a:=(r.right.graph.nodes[i]).toNat) (by omega)
  rw [show (((r.right.graph.nodes[i]).toNat:Nat):Int)=r.right.graph.nodes[i] by omega] at this
  exact this
theorem StepIn.vlen (S:StepIn t r h m):(cD t r h m).values.length=(cD t r h m).graph.nodes.length:=by rw [S.bareN,Se];simp
theorem RR {k:Int}(hv:(b9 t).2=0)(h0:0≤k)(h1:k<t.nodes.length)(ha:j6 t k.toNat=false):iT t k (qL t k)=0:=by
 unfold iT
 rw [if_neg (by omega),if_neg (by rw [ha];simp),if_neg (by simp [qL])]
 refine jP _ _ fun j _ hj=>?_
 have hj':j<(bI t k).length:=by omega
 unfold Hr qL
 rw [aM,aA hj',cZ,aD,aD,if_neg]
 have:=(BS hv k _ (aC hj')).le
 omega
theorem StepIn.fresh_node (S:StepIn t r h m):∀ k∈r.freshN,(0≤gN r.right.graph k∧gN r.right.graph k<t.nodes.length)∧j6 t (gN r.right.graph k).toNat=false:=fun k hk=>by
 have hr:=mF hk
 have hin:=(iV S.hR.gr S.hR.tr).1 _ (Av hr.1 hr.2)
 refine ⟨hin,?_⟩
 have:=S.hR.mkb
 unfold zX at this
 rw [aJ,cQ,gI] at this
 have h1:=this.1 k hk
 unfold absB at h1
 unfold j6
 rw [aA (show (gN r.right.graph k).toNat<t.nodes.length by omega)] at h1 ⊢
 simpa using h1
theorem StepIn.node (S:StepIn t r h m):∀ (n:Nat) (h1:n<(cD t r h m).graph.nodes.length) (h2:n<(cD t r h m).values.length),iT t (cD t r h m).graph.nodes[n] (cD t r h m).values[n]=0:=fun n h1 h2=>by
 have e1:=S.bareN
 have e2:(cD t r h m).values=_:=Se
 have g1:(cD t r h m).graph.nodes[n]?=some (cD t r h m).graph.nodes[n]:=aA h1
 have g2:(cD t r h m).values[n]?=some (cD t r h m).values[n]:=aA h2
 generalize (cD t r h m).graph.nodes[n]=x at *
 generalize (cD t r h m).values[n]=y at *
 rw [e1] at g1;rw [e2] at g2
 by_cases hn:n<(cE r h m).nodes.length
 ·rw [aU (by simpa using hn),aM,aA hn] at g1 g2
  simp only [cZ,bC] at g1 g2
  have hv:=S.nin _ (aC hn)
  have hl:=S.ho.vl
  have a1:(cE r h m).nodes[n].toNat<h.graph.nodes.length:=by omega
  have a2:(cE r h m).nodes[n].toNat<h.values.length:=by omega
  rw [aA a2] at g2
  unfold gN at g1
  rw [aA a1] at g1
  have:=S.ho.nd _ a1 a2
  rw [← g1,← g2];exact this
 ·have l1:((cE r h m).nodes.map (gN h.graph)).length=(cE r h m).nodes.length:=by simp
  have l2:((cE r h m).nodes.map fun k=>h.values[k.toNat]?.getD []).length=(cE r h m).nodes.length:=by simp
  rw [bE (by omega),l1,aM,bF] at g1
  rw [bE (by omega),l2,aM,bF] at g2
  obtain ⟨k,hk,rfl⟩:=g1
  obtain ⟨k',hk',rfl⟩:=g2
  rw [hk] at hk';cases hk'
  obtain ⟨⟨b1,b2⟩,b3⟩:=S.fresh_node k (aH hk)
  exact RR S.hR.vf b1 b2 b3
theorem StepIn.bin (S:StepIn t r h m):∀ a∈(cD t r h m).graph.nodes,0≤a∧a<t.nodes.length:=fun a ha=>by
 rw [S.bareN,aW,aT,aT] at ha
 rcases ha with ⟨k,hk,rfl⟩|⟨k,hk,rfl⟩
 ·exact DJ S.ho _ (Av (S.nin k hk).1 (S.nin k hk).2)
 ·exact (S.fresh_node k hk).1
theorem StepIn.put (S:StepIn t r h m):PutOk t r (cD t r h m) (gM r h m):=by
 have hl:=S.len
 have hg:=cC S.hR.gr
 have hf1:r.freshN.length≤r.right.graph.nodes.length:=rR _ _
 have hf2:r.freshE.length≤r.right.graph.edges.length:=rR _ _
 have hN:(cD t r h m).graph.nodes.length≤80:=by rw [S.bareN];simp;omega
 have hE:(cD t r h m).graph.edges.length≤160:=by rw [S.bareE];simp;omega
 have hV:=S.vlen
 have key:∀ s∈r.right.slots,∃ n:Nat,(gM r h m).nodes[s.node.toNat]?=some (n:Int)∧∃ hn:n<(cD t r h m).graph.nodes.length,s.attr<(bI t (cD t r h m).graph.nodes[n]).length:=fun s hs=>by
  obtain ⟨⟨a1,a2⟩,a3,a4⟩:=S.hR.slots s hs
  have hi:s.node.toNat<r.right.graph.nodes.length:=by omega
  obtain ⟨n,e1,hn,e2⟩:=S.com hi
  refine ⟨n,e1,hn,?_⟩
  rw [aA hi,aD] at a3
  have hri:=(iV S.hR.gr S.hR.tr).1 _ (aC hi)
  have hno:=(tW (S.node n hn (by omega))).1
  have hn0:=(S.bin _ (aC hn)).1
  rw [p5 S.hR.vf hri.1 hri.2] at a3
  rw [p5 S.hR.vf hn0 hno]
  unfold zK at e2
  obtain ⟨u,hu⟩:=IV (lY S.hR.vf) ((cD t r h m).graph.nodes[n]).toNat (by omega) (r.right.graph.nodes[s.node.toNat]).toNat (by rw [Int.toNat_of_nonneg hri.1];exact e2)
  rw [hu,aI];omega
 refine ⟨by simp [gM,Kt],⟨by omega,by omega,by omega⟩,fun s hs=>?_,fun s hs=>?_⟩
 ·obtain ⟨n,e1,hn,e2⟩:=key s hs
  have:fI (gM r h m) s=n:=by unfold fI;rw [e1];simp
  rw [this,e1]
  exact ⟨by simp,by omega,hn⟩
 ·obtain ⟨n,e1,hn,e2⟩:=key s hs
  have:fI (gM r h m) s=n:=by unfold fI;rw [e1];simp
  have hnv:n<(cD t r h m).values.length:=by omega
  rw [this,aA hnv,aA hn,aD,aD]
  have:=(tW (S.node n hn hnv)).2.2.1
  exact ⟨by omega,e2⟩
end
def tJ:Pattern:=⟨⟨[],[]⟩,[],0,[]⟩
def rJ:Rule:=⟨⟨#[]⟩,tJ,tJ,⟨[],[]⟩,⟨[],[]⟩,false,.mk 0 [] ⟨[],[]⟩ tJ⟩
def rF:Stp26:=⟨rJ,lU,⟨⟨[],[]⟩,[]⟩,⟨⟨[],[]⟩,[]⟩,⟨[],[]⟩,⟨[],[]⟩⟩
def vO (t:Types)(r:Rule)(h:Host)(m:Mat):Stp26:=if HF t r h m=0 then sK t r h m else rF
@[go_sem] theorem Stp26.cl (s:Stp26):D.clL s.c=true:=by
 simp [Stp26.c,AF,Rule.cl,Mat.cl,M2,D.clL,nC]
section
variable {t:Types} {r:Rule} {h:Host} {m:Mat}
theorem StepIn.ex (S:StepIn t r h m)(hh:fR t h=0):ZU t h (cE r h m)=⟨bS h.graph (cE r h m),(cE r h m).nodes.map fun k=>h.values[k.toNat]?.getD []⟩:=by
 unfold ZU;rw [if_pos]
 unfold ZV;rw [if_neg (by omega)];exact S.sub
theorem StepIn.eimg (S:StepIn t r h m):(∀ x∈m.m.nodes,0≤x∧x<h.graph.nodes.length)∧∀ x∈m.m.edges,0≤x∧x<h.graph.edges.length:=by
 refine ⟨fun x hx=>?_,fun x hx=>?_⟩
 ·obtain ⟨i,hi,rfl⟩:=aN hx
  exact (S.hm.img i hi (by have:=S.hm.len;omega)).1
 ·obtain ⟨i,hi,rfl⟩:=aN hx
  exact S.hm.eimg i hi
end
theorem Im {t:Types}{r:Rule}{h:Host}{m:Mat}(S:StepIn t r h m)(hp:Ai t r h m=0):MatOk t r.left h m:=by
 unfold Ai at hp
 split at hp
 ·cases hp
 ·split at hp
  ·exact absurd hp (by assumption)
  ·rename_i h2
   split at hp
   ·cases hp
   ·rename_i h3
    rw [jV] at h2 h3
    obtain ⟨_,_,_,h4⟩:=PV h2
    rw [h4] at h2 h3
    obtain ⟨a1,a2⟩:=EB (V9 S.hR.pl S.ho S.hm) (vs:=[]) (by simp) (by simp) h2
    rw [h3] at a1 a2
    exact ⟨S.hm,a1,a2⟩
theorem rA (a b:List Int):Part.le ⟨a,b⟩↔a.length≤1000000000000000∧b.length≤1000000000000000:=⟨fun h=>⟨h.1,h.2⟩,fun h=>⟨h.1,h.2⟩⟩
theorem Td (t:Types)(p:Pattern)(h1:p.graph.nodes.length≤1000)(h2:p.graph.edges.length≤1000)(x:B4):(Aw t p x).le:=by
 unfold Aw
 split
 ·simp [forbC,trueC,Cond.le,Cond.les,d9,rA];omega
 ·split
  ·split
   ·simp [trueC,Cond.le,Cond.les,rA]
   ·simp [forbC,trueC,Cond.le,Cond.les,d9,rA];omega
  ·simp [trueC,Cond.le,Cond.les,rA]
theorem HX (t:Types)(d:Dr24):(p9 t d).le:=by
 have hL4:=tS t d.left
 have hKl:=CF (dF t d.left).graph d.keep
 have hGl:=vB (dF t d.left).graph (oV (dF t d.left).graph d.keep)
 refine ⟨⟨?_,?_⟩,⟨?_,?_⟩,?_⟩
 ·show (oV (dF t d.left).graph d.keep).nodes.length≤_;omega
 ·show (oV (dF t d.left).graph d.keep).edges.length≤_;omega
 ·show (List.take _ _).length≤_;rw [bH];unfold lN mY;omega
 ·show (List.take _ _).length≤_;rw [bH];unfold lN mY;omega
 ·exact Td t _ (by omega) (by omega) d.forbid
theorem CG (t:Types)(d:Dr24):(lV t d).le:=by
 unfold lV
 split
 ·have h:=HX t d
  exact ⟨h.1,h.2,by simp [Bd,trueC,Cond.le,Cond.les,rA]⟩
 ·exact HX t d
theorem FT {t:Types}(hv:t.valid):∀ c:Nat,c<t.nodes.length→∀ (b:Nat) (a:Int),mem (t.line c) (b:Int)=true→mem (t.line b) a=true→mem (t.line c) a=true:=by
 intro c
 induction c using Nat.strongRecOn with
 | _ c ih =>
 intro hc b a hb ha
 have hpar:=hv.parent c _ (aA hc)
 have hr:=xK t c hc (hv.parentsOK c)
 rw [hr,tP,cG] at hb
 rcases hb with hb|hb
 ·by_cases h0:0≤t.nodes[c].parent
  ·rw [if_pos h0] at hb
   rw [hr,tP,cG,if_pos h0]
   exact .inl (ih _ (by omega) (by omega) b a hb ha)
  ·rw [if_neg h0,pP] at hb;cases hb
 ·have:b=c:=by simp at hb;omega
  subst this;exact ha
theorem QN {t:Types}(hv:(b9 t).2=0){ty a b a' b':Int}(h:j4 t ty a b=true)(ha:zK t a a'=true)(hb:zK t b b'=true)(ra:0≤a'∧a'<t.nodes.length)(rb:0≤b'∧b'<t.nodes.length):j4 t ty a' b'=true:=by
 have hval:=lY hv
 unfold j4 at h ⊢
 simp only [aJ,decide_eq_true_eq] at h ⊢
 obtain ⟨⟨h1,h2⟩,h3,h4⟩:=h
 obtain ⟨_,a0,b0⟩:=oX h1
 unfold zK at ha hb
 rw [show a=((a.toNat:Nat):Int) by omega] at ha
 rw [show b=((b.toNat:Nat):Int) by omega] at hb
 refine ⟨⟨?_,h2⟩,FT hval _ (by omega) a.toNat _ ha h3,FT hval _ (by omega) b.toNat _ hb h4⟩
 simp [given2F,hv,insideF,ra,rb]
section
variable {t:Types} {r:Rule} {h:Host} {m:Mat}
theorem Tb {l l':List Int}{es:List Edge}{g:Graph}{n:Int}(h0:0≤n)(hn:n<l.length)(hg:g.nodes=l++l'):gN g n=l[n.toNat]?.getD 0:=by
 unfold gN;rw [hg,aU (by omega)]
theorem StepIn.edge (S:StepIn t r h m):∀ x∈(cD t r h m).graph.edges,((0≤x.type∧x.type<t.edges.length)∧(0≤x.from_∧x.from_<(cD t r h m).graph.nodes.length)∧(0≤x.to_∧x.to_<(cD t r h m).graph.nodes.length)) ∧
  j4 t x.type (gN (cD t r h m).graph x.from_) (gN (cD t r h m).graph x.to_)=true:=fun x hx=>by
 have hbN:=S.bareN
 have hbin:=S.bin
 rw [S.bareE,aW,aT,aT] at hx
 rcases hx with ⟨k,hk,rfl⟩|⟨k,hk,rfl⟩
 ·have hr:=S.ein k hk
  have hy:=CS hr.1 hr.2
  obtain ⟨e1,e2⟩:=S.ho.ed _ hy
  have hgi:=(dL S.ho.gg).2 _ hy
  obtain ⟨s1,s2⟩:=AT S.sub hk
  obtain ⟨p1,p2,_⟩:=Fx S.nasc s1
  obtain ⟨q1,q2,_⟩:=Fx S.nasc s2
  have key:∀ v:Int,v∈(cE r h m).nodes→oT (cE r h m).nodes v<(cE r h m).nodes.length→iA (cE r h m).nodes (oT (cE r h m).nodes v)=v→gN (cD t r h m).graph (oT (cE r h m).nodes v)=gN h.graph v:=fun v hv hp hi=>by
   rw [Tb (es:=[]) (by omega) (by simpa using hp) hbN,show ((oT (cE r h m).nodes v:Nat):Int).toNat=oT (cE r h m).nodes v by omega,aM]
   unfold iA at hi
   rw [show ((oT (cE r h m).nodes v:Nat):Int).toNat=oT (cE r h m).nodes v by omega,aA hp,aD] at hi
   rw [aA hp,cZ,aD,hi]
  have hl:(cD t r h m).graph.nodes.length=(cE r h m).nodes.length+r.freshN.length:=by rw [hbN];simp
  rw [JX]
  refine ⟨⟨⟨hgi.1.1,e1⟩,⟨by simp only;omega,by simp only;omega⟩,by simp only;omega,by simp only;omega⟩,?_⟩
  simp only
  rw [key _ s1 p1 p2,key _ s2 q1 q2];exact e2
 ·have hr:=mF hk
  have hk2:k.toNat<r.right.graph.edges.length:=by omega
  have hy:=(iV S.hR.gr S.hR.tr).2 _ (aC hk2)
  rw [aA hk2,aD]
  obtain ⟨y,hye⟩:∃ y,y=r.right.graph.edges[k.toNat]:=⟨_,rfl⟩
  rw [← hye] at hy ⊢
  have hf:y.from_.toNat<r.right.graph.nodes.length:=by omega
  have ht:y.to_.toNat<r.right.graph.nodes.length:=by omega
  obtain ⟨n1,c1,l1,b1⟩:=S.com hf
  obtain ⟨n2,c2,l2,b2⟩:=S.com ht
  unfold freshE
  rw [c1,c2]
  simp only [aD]
  have hfit:j4 t y.type r.right.graph.nodes[y.from_.toNat] r.right.graph.nodes[y.to_.toNat]=true:=by
   have:=S.hR.mkb
   unfold zX at this
   rw [aJ,cQ,cQ,gI,gI] at this
   have h1:=this.2 k hk
   unfold unfitB at h1
   rw [aA hk2,aD,← hye] at h1
   unfold gN at h1
   rw [aA hf,aA ht] at h1
   simpa using h1
  have e1:gN (cD t r h m).graph (n1:Int)=(cD t r h m).graph.nodes[n1]:=by simp [gN,aA l1]
  have e2:gN (cD t r h m).graph (n2:Int)=(cD t r h m).graph.nodes[n2]:=by simp [gN,aA l2]
  refine ⟨⟨⟨hy.1.1,hy.1.2⟩,⟨by omega,by omega⟩,by omega,by omega⟩,?_⟩
  rw [e1,e2]
  exact QN S.hR.vf hfit b1 b2 (hbin _ (aC l1)) (hbin _ (aC l2))
theorem Me {x:Host}(hv:(b9 t).2=0)(hn:x.graph.nodes.length≤40)(he:x.graph.edges.length≤80)(hl:x.values.length=x.graph.nodes.length)(hb:∀ a∈x.graph.nodes,0≤a∧a<t.nodes.length)
  (hnd:∀ (n:Nat) (h1:n<x.graph.nodes.length) (h2:n<x.values.length),iT t x.graph.nodes[n] x.values[n]=0)
  (hed:∀ y∈x.graph.edges,((0≤y.type∧y.type<t.edges.length)∧(0≤y.from_∧y.from_<x.graph.nodes.length)∧(0≤y.to_∧y.to_<x.graph.nodes.length))∧j4 t y.type (gN x.graph y.from_) (gN x.graph y.to_)=true):fR t x=0:=by
 have hf:=(lY hv).fewN
 have hf2:=(lY hv).fewE
 have hg:graphF x.graph=0:=n4 hn he (fun a ha=>by have:=hb a ha;omega) fun y hy=>by
  obtain ⟨⟨a1,a2,a3⟩,_⟩:=hed y hy
  exact ⟨by omega,a2,a3⟩
 have h1:(jK (Oe t x) 0 x.graph.nodes.length).2=0:=by
  rw [sA]
  refine jP _ _ fun j _ hj=>?_
  have hj1:j<x.graph.nodes.length:=by omega
  unfold Oe
  rw [aA hj1,aA (show j<x.values.length by omega),aD,aD]
  exact hnd j hj1 (by omega)
 unfold fR vW
 rw [if_neg (by omega),if_neg (by omega),if_neg (by omega),if_neg (by omega),sA]
 refine jP _ _ fun j _ hj=>?_
 have hj1:j<x.graph.edges.length:=by omega
 obtain ⟨a1,a2⟩:=hed _ (aC hj1)
 unfold TP
 rw [aA hj1,aD,if_neg (by omega),if_pos a2]
theorem O7 {g:Graph}{c:Part}{vs:List Int}:∀ (l:List Slot) (vals:List (List Int)),vals.length=g.nodes.length→(∀ (n:Nat) (h1:n<g.nodes.length) (h2:n<vals.length),iT t g.nodes[n] vals[n]=0) →
  (∀ s∈l,FC t g c vs s=false)→(∀ s∈l,0≤s.attr)→∀ (n:Nat) (h1:n<g.nodes.length) (h2:n<(zD c vs l vals).length),iT t g.nodes[n] (zD c vs l vals)[n]=0
 | [],vals,_,hx,_,_=>fun n h1 h2=>hx n h1 h2
 | s :: l,vals,hl,hx,ho,ha=>by
  refine O7 l (vals.set (fI c s) ((vals[fI c s]?.getD []).set s.attr.toNat (c5 s.term vs))) (by rw [dV];exact hl) (fun n h1 h2=>?_) (fun s hs=>ho s (by simp [hs])) (fun s hs=>ha s (by simp [hs]))
  rw [dV] at h2
  have hI:=hx n h1 h2
  rw [rB]
  split
  ·rename_i hs'
   subst hs'
   rw [aA h2,aD]
   obtain ⟨a1,a2,a3,a4⟩:=tW hI
   unfold iT
   rw [if_neg (by omega),if_neg (by rw [a2];simp),if_neg (by rw [dV];omega)]
   refine jP _ _ fun j _ hj=>?_
   have hja:j<(bI t g.nodes[fI c s]).length:=by omega
   unfold Hr
   rw [aA hja,aD]
   by_cases hj2:s.attr.toNat=j
   ·have e:((vals[fI c s]).set s.attr.toNat (c5 s.term vs))[j]?=some (c5 s.term vs):=by rw [← hj2];exact nJ (by omega)
    rw [e,aD,if_neg]
    have hO:=ho s (by simp)
    unfold FC at hO
    rw [aA h1,aD,hj2,aA hja,aD,Bool.or_eq_false_iff,decide_eq_false_iff_not,decide_eq_false_iff_not] at hO
    omega
   ·rw [zN hj2,aA (show j<(vals[fI c s]).length by omega),aD,if_neg]
    have:=a4 j (by omega) hja
    omega
  ·exact hI
theorem StepIn.after (S:StepIn t r h m)(hp:Bb t (cD t r h m).graph (gM r h m) m.vars r.right.slots=0)(hn:(cD t r h m).graph.nodes.length≤40)(he:(cD t r h m).graph.edges.length≤80):fR t (fO t r h m)=0:=by
 have ho:∀ s∈r.right.slots,FC t (cD t r h m).graph (gM r h m) m.vars s=false:=by
  unfold Bb at hp
  split at hp
  ·cases hp
  ·split at hp
   ·cases hp
   ·rename_i h2
    rw [Bool.not_eq_true,gI] at h2
    exact fun s hs=>by simpa using h2 s hs
 exact Me S.hR.vf hn he (by show (zD _ _ _ _).length=_;rw [(qB _ _ _ _).1];exact S.vlen) S.bin (fun n h1 h2=>O7 _ _ S.vlen S.node ho (fun s hs=>(S.hR.slots s hs).2.1.1) n h1 h2) S.edge
end
mutual
def lL:Cond→Bool
 | .mk k l m p=>Bn l&&decide ((p.graph.nodes.length:Int)+p.graph.edges.length≤6)
def Bn:List Cond→Bool
 | []=>true
 | c :: l=>lL c&&Bn l
end
theorem LS (l:List Cond):Bn l=l.all lL:=by
 induction l with
 | nil=>simp [Bn]
 | cons a l ih=>simp [Bn,ih]
theorem Ak (c:Cond):lL c=(c.kids.all lL&&decide ((c.pattern.graph.nodes.length:Int)+c.pattern.graph.edges.length≤6)):=by
 cases c;simp only [lL,LS,Cond.kids,Cond.pattern];try rfl
theorem sW {α:Type}(l:List α)(p:α→Bool){i:Nat}(h:i<l.length):(l.take (i+1)).all p=((l.take i).all p&&p l[i]):=by
 rw [aF h,List.all_append];simp
theorem JC:∀ c:Cond,c.ok→Pure Tryz.prog 128 [.agg c.c] (.bool (lL c)):=by
 refine j7 fun c ih hc=>?_
 obtain ⟨hs,hk⟩:=(sH c).1 hc
 have p1:=hs.p1
 have p2:=hs.p2
 refine Tz.pK ⟨fun _=>false,fun _=>[]⟩ Tryz.func128 rfl (fun Q hQ=>?_)
 have Y:=@Cond.c_eq
 refine wv (h:=bP (fun i e H=>(e 1=.adr c.c∧e 3=dI i)∧(i≤c.kids.length)∧((c.kids.take i).all lL=true)) (fun i=>c.kids.length - i) 0 ⟨wg,wi,(by rfl)⟩ fun I0 hI0 i e H hi0=>?_)
 obtain ⟨E0,hi,ha⟩:=hi0
 have Y:=wa Y E0
 refine wv (h:=?_)
 repeat first|intro _|refine ⟨fF,?_⟩
 refine wq (fun h2=>?_) fun h2=>?_
 ·have Y:=wa Y (wa h2 (aA h2))
  refine wo (h:=aB ((by have:=ih _ (aC h2) (hk _ (aC h2));rwa [Cond.c_eq] at this)) wl ?_)
  refine wv (h:=?_)
  repeat first|intro _|refine ⟨fF,?_⟩
  refine wq (fun h4=>?_) fun h4=>?_
  ·refine wv (h:=?_)
   have hF:lL c=false:=by
    have:c.kids.all lL=false:=by
     rw [bX];intro h;exact absurd (cH.1 h _ (aC h2)) (by simpa using h4)
    rw [Ak,this];rfl
   exact hQ _ _ (by simp [go_sem,hF])
  ·exact wo (h:=wx hI0 (i+1) ⟨wg,wj,(by (rw [sW _ _ h2,ha];simpa using h4))⟩)
 ·have hA:c.kids.all lL=true:=by rw [aP (by omega)] at ha;exact ha
  have hF:lL c=decide ((c.pattern.graph.nodes.length:Int)+c.pattern.graph.edges.length≤6):=by rw [Ak,hA];rfl
  exact wo (h:=hQ _ _ (by simp [go_sem,hF]))
def VZ (p q:Pattern):Int:=((14 ^ (q.graph.nodes.length - p.graph.nodes.length) * 18 ^ (q.graph.edges.length - p.graph.edges.length):Nat):Int)
def Ii (k:Int)(p' p:Pattern):Pattern:=if k=5 then p' else p
mutual
def lB:Cond→Pattern→Bool
 | .mk k l m p',p=>GJ l (Ii k p' p)&&decide (VZ p (Ii k p' p)≤5000)
def GJ:List Cond→Pattern→Bool
 | [],_=>true
 | c :: l,q=>lB c q&&GJ l q
end
theorem OJ (l:List Cond)(q:Pattern):GJ l q=l.all fun c=>lB c q:=by
 induction l with
 | nil=>simp [GJ]
 | cons a l ih=>simp [GJ,ih]
theorem y7 (c:Cond)(p:Pattern):lB c p=((c.kids.all fun k=>lB k (Ii c.kind c.pattern p))&&decide (VZ p (Ii c.kind c.pattern p)≤5000)):=by
 cases c;simp only [lB,OJ,Cond.kids,Cond.pattern,Cond.kind];try rfl
theorem pX {a j:Nat}(ha:1≤a)(hj:j≤6):a ^ j≤a ^ 6∧1≤a ^ j:=⟨Nat.pow_le_pow_right ha hj,by first|exact Nat.one_le_pow _ _ ha|exact Nat.pow_pos ha|exact Nat.pos_pow_of_pos _ ha⟩
theorem Je (q:Pattern):q.c.take 5=q.c:=rfl
theorem Hk:∀ c:Cond,c.ok→lL c=true→∀ p:Pattern,p.graph.nodes.length≤1000000→p.graph.edges.length≤1000000→Pure Tryz.prog 129 [p.d,.agg c.c,dI 14,dI 18] (.bool (lB c p)):=by
 refine j7 fun c ih hc hn p hp1 hp2=>?_
 obtain ⟨hs,hk⟩:=(sH c).1 hc
 have q1:=hs.p1
 have q2:=hs.p2
 rw [Ak] at hn
 simp only [aJ,decide_eq_true_eq,cH] at hn
 obtain ⟨q,hq⟩:∃ q,Ii c.kind c.pattern p=q:=⟨_,rfl⟩
 have hqs:q.graph.nodes.length - p.graph.nodes.length≤6∧q.graph.edges.length - p.graph.edges.length≤6∧q.graph.nodes.length≤1000000∧q.graph.edges.length≤1000000:=by
  rw [← hq];unfold Ii;split<;>omega
 refine Tz.pK ⟨fun t=>t==9,fun _=>[]⟩ Tryz.func129 rfl (fun Q hQ=>?_)
 have Y:=@Cond.c_eq
 refine dO (fun h2=>?_) fun h2=>?_
 ·have hqc:c.pattern=q:=by rw [← hq];exact (if_pos h2).symm
  refine wp (h:=bP (fun i e H=>∃ w:Nat,(e 4=.adr p.c∧e 5=.adr c.c∧e 2=dI 14∧e 3=dI 18∧e 9=.ptr 0 1 0 0∧e 10=dI w∧e 11=dI i)∧(H.get 0=some ⟨53,5,[q.c],false⟩)∧(0<H.next)∧(p.graph.nodes.length≤i)∧(i≤q.graph.nodes.length∨i=p.graph.nodes.length)∧(w=14 ^ (i - p.graph.nodes.length))) (fun i=>q.graph.nodes.length - i) p.graph.nodes.length ⟨1,wg,(by (simp [go_sem,hqc,Je])),wn,wi,wi,(by (simp))⟩ fun I0 hI0 i e H hi0=>?_)
  obtain ⟨w,E0,g0_0,n0_0,hi,hi2,hw⟩:=hi0
  have Y:=wa Y (wa E0 (wa g0_0 (b5 n0_0)))
  refine wv (h:=?_)
  repeat first|intro _|refine ⟨dQ,?_⟩
  refine wq (fun h6=>?_) fun h6=>?_
  ·have hwb:=(pX (a:=14) (j:=i - p.graph.nodes.length) (by omega) (by omega)).1
   rw [← hw] at hwb
   have hwb':w≤7529536:=hwb
   have Y:=wa Y h6
   exact wp (h:=wx hI0 (i+1) ⟨(w * 14),wg,(by (simp [go_sem,Y])),wn,wj,wj,(by (rw [show i+1 - p.graph.nodes.length=(i - p.graph.nodes.length)+1 by omega,Nat.pow_succ,hw]))⟩)
  ·have hw':w=14 ^ (q.graph.nodes.length - p.graph.nodes.length):=by rw [hw];congr 1;omega
   have hwb:=(pX (a:=14) (j:=q.graph.nodes.length - p.graph.nodes.length) (by omega) hqs.1).1
   rw [← hw'] at hwb
   have hwb':w≤7529536:=hwb
   refine wp (h:=bP (fun k e H=>∃ v:Nat,(e 4=.adr p.c∧e 5=.adr c.c∧e 2=dI 14∧e 3=dI 18∧e 9=.ptr 0 1 0 0∧e 10=dI v∧e 12=dI k)∧(H.get 0=some ⟨53,5,[q.c],false⟩)∧(0<H.next)∧(p.graph.edges.length≤k)∧(k≤q.graph.edges.length∨k=p.graph.edges.length)∧(v=w * 18 ^ (k - p.graph.edges.length))) (fun k=>q.graph.edges.length - k) p.graph.edges.length ⟨w,wg,(by (simp [go_sem,Y])),wn,wi,wi,(by (simp))⟩ fun I2 hI2 k e H hi2=>?_)
   obtain ⟨v,E2,g0_2,n0_2,hk1,hk2,hv⟩:=hi2
   have Y:=wa Y (wa E2 (wa g0_2 (b5 n0_2)))
   refine wv (h:=?_)
   repeat first|intro _|refine ⟨dQ,?_⟩
   refine wq (fun h10=>?_) fun h10=>?_
   ·have hvb:=(pX (a:=18) (j:=k - p.graph.edges.length) (by omega) (by omega)).1
    have hvb':v≤7529536 * 34012224:=by rw [hv];exact lG hwb' hvb
    have Y:=wa Y h10
    exact wp (h:=wx hI2 (k+1) ⟨(v * 18),wg,(by (simp [go_sem,Y])),wn,wj,wj,(by (rw [show k+1 - p.graph.edges.length=(k - p.graph.edges.length)+1 by omega,Nat.pow_succ,hv,Nat.mul_assoc]))⟩)
   ·have hv':v=w * 18 ^ (q.graph.edges.length - p.graph.edges.length):=by rw [hv];congr 2;omega
    refine wv (h:=bP (fun j e H=>(e 4=.adr p.c∧e 5=.adr c.c∧e 2=dI 14∧e 3=dI 18∧e 9=.ptr 0 1 0 0∧e 10=dI v∧e 13=dI j)∧(H.get 0=some ⟨53,5,[q.c],false⟩)∧(0<H.next)∧(j≤c.kids.length)∧((c.kids.take j).all (fun x=>lB x q)=true)) (fun j=>c.kids.length - j) 0 ⟨wg,(by (simp [go_sem,Y])),wn,wi,(by rfl)⟩ fun I4 hI4 j e H hi4=>?_)
    obtain ⟨E4,g0_4,n0_4,hj,ha⟩:=hi4
    have Y:=wa Y (wa E4 (wa g0_4 (b5 n0_4)))
    refine wv (h:=?_)
    repeat first|intro _|refine ⟨dQ,?_⟩
    refine wq (fun h14=>?_) fun h14=>?_
    ·have Y:=wa Y (wa h14 (wa (aA h14) @Je))
     refine wp (h:=aQ ((by have hz:=ih _ (aC h14) (hk _ (aC h14)) (hn.1 _ (aC h14)) q hqs.2.2.1 hqs.2.2.2;rwa [Cond.c_eq] at hz)) wl ?_)
     refine wv (h:=?_)
     repeat first|intro _|refine ⟨dQ,?_⟩
     refine wq (fun h16=>?_) fun h16=>?_
     ·refine wv (h:=?_)
      have hF:lB c p=false:=by
       have:(c.kids.all fun x=>lB x q)=false:=by
        rw [bX];intro h;exact absurd (cH.1 h _ (aC h14)) (by simpa using h16)
       rw [y7,hq,this];rfl
      exact hQ _ _ (by simp [go_sem,hF])
     ·exact wp (h:=wx hI4 (j+1) ⟨wg,(by (simp [go_sem,Y])),wn,wj,(by (rw [sW _ _ h14,ha];simpa using h16))⟩)
    ·have hA:(c.kids.all fun x=>lB x q)=true:=by rw [aP (by omega)] at ha;exact ha
     have hF:lB c p=decide ((v:Int)≤5000):=by rw [y7,hq,hA,hv',hw'];rfl
     exact wv (h:=hQ _ _ (by simp [go_sem,hF]))
 ·have hqc:p=q:=by rw [← hq];exact (if_neg h2).symm
  refine wp (h:=bP (fun i e H=>∃ w:Nat,(e 4=.adr p.c∧e 5=.adr c.c∧e 2=dI 14∧e 3=dI 18∧e 9=.ptr 0 1 0 0∧e 10=dI w∧e 11=dI i)∧(H.get 0=some ⟨53,5,[q.c],false⟩)∧(0<H.next)∧(p.graph.nodes.length≤i)∧(i≤q.graph.nodes.length∨i=p.graph.nodes.length)∧(w=14 ^ (i - p.graph.nodes.length))) (fun i=>q.graph.nodes.length - i) p.graph.nodes.length ⟨1,wg,(by (simp [go_sem,hqc,Je])),wn,wi,wi,(by (simp))⟩ fun I0 hI0 i e H hi0=>?_)
  obtain ⟨w,E0,g0_0,n0_0,hi,hi2,hw⟩:=hi0
  have Y:=wa Y (wa E0 (wa g0_0 (b5 n0_0)))
  refine wv (h:=?_)
  repeat first|intro _|refine ⟨dQ,?_⟩
  refine wq (fun h6=>?_) fun h6=>?_
  ·have hwb:=(pX (a:=14) (j:=i - p.graph.nodes.length) (by omega) (by omega)).1
   rw [← hw] at hwb
   have hwb':w≤7529536:=hwb
   have Y:=wa Y h6
   exact wp (h:=wx hI0 (i+1) ⟨(w * 14),wg,(by (simp [go_sem,Y])),wn,wj,wj,(by (rw [show i+1 - p.graph.nodes.length=(i - p.graph.nodes.length)+1 by omega,Nat.pow_succ,hw]))⟩)
  ·have hw':w=14 ^ (q.graph.nodes.length - p.graph.nodes.length):=by rw [hw];congr 1;omega
   have hwb:=(pX (a:=14) (j:=q.graph.nodes.length - p.graph.nodes.length) (by omega) hqs.1).1
   rw [← hw'] at hwb
   have hwb':w≤7529536:=hwb
   refine wp (h:=bP (fun k e H=>∃ v:Nat,(e 4=.adr p.c∧e 5=.adr c.c∧e 2=dI 14∧e 3=dI 18∧e 9=.ptr 0 1 0 0∧e 10=dI v∧e 12=dI k)∧(H.get 0=some ⟨53,5,[q.c],false⟩)∧(0<H.next)∧(p.graph.edges.length≤k)∧(k≤q.graph.edges.length∨k=p.graph.edges.length)∧(v=w * 18 ^ (k - p.graph.edges.length))) (fun k=>q.graph.edges.length - k) p.graph.edges.length ⟨w,wg,(by (simp [go_sem,Y])),wn,wi,wi,(by (simp))⟩ fun I2 hI2 k e H hi2=>?_)
   obtain ⟨v,E2,g0_2,n0_2,hk1,hk2,hv⟩:=hi2
   have Y:=wa Y (wa E2 (wa g0_2 (b5 n0_2)))
   refine wv (h:=?_)
   repeat first|intro _|refine ⟨dQ,?_⟩
   refine wq (fun h10=>?_) fun h10=>?_
   ·have hvb:=(pX (a:=18) (j:=k - p.graph.edges.length) (by omega) (by omega)).1
    have hvb':v≤7529536 * 34012224:=by rw [hv];exact lG hwb' hvb
    have Y:=wa Y h10
    exact wp (h:=wx hI2 (k+1) ⟨(v * 18),wg,(by (simp [go_sem,Y])),wn,wj,wj,(by (rw [show k+1 - p.graph.edges.length=(k - p.graph.edges.length)+1 by omega,Nat.pow_succ,hv,Nat.mul_assoc]))⟩)
   ·have hv':v=w * 18 ^ (q.graph.edges.length - p.graph.edges.length):=by rw [hv];congr 2;omega
    refine wv (h:=bP (fun j e H=>(e 4=.adr p.c∧e 5=.adr c.c∧e 2=dI 14∧e 3=dI 18∧e 9=.ptr 0 1 0 0∧e 10=dI v∧e 13=dI j)∧(H.get 0=some ⟨53,5,[q.c],false⟩)∧(0<H.next)∧(j≤c.kids.length)∧((c.kids.take j).all (fun x=>lB x q)=true)) (fun j=>c.kids.length - j) 0 ⟨wg,(by (simp [go_sem,Y])),wn,wi,(by rfl)⟩ fun I4 hI4 j e H hi4=>?_)
    obtain ⟨E4,g0_4,n0_4,hj,ha⟩:=hi4
    have Y:=wa Y (wa E4 (wa g0_4 (b5 n0_4)))
    refine wv (h:=?_)
    repeat first|intro _|refine ⟨dQ,?_⟩
    refine wq (fun h14=>?_) fun h14=>?_
    ·have Y:=wa Y (wa h14 (wa (aA h14) @Je))
     refine wp (h:=aQ ((by have hz:=ih _ (aC h14) (hk _ (aC h14)) (hn.1 _ (aC h14)) q hqs.2.2.1 hqs.2.2.2;rwa [Cond.c_eq] at hz)) wl ?_)
     refine wv (h:=?_)
     repeat first|intro _|refine ⟨dQ,?_⟩
     refine wq (fun h16=>?_) fun h16=>?_
     ·refine wv (h:=?_)
      have hF:lB c p=false:=by
       have:(c.kids.all fun x=>lB x q)=false:=by
        rw [bX];intro h;exact absurd (cH.1 h _ (aC h14)) (by simpa using h16)
       rw [y7,hq,this];rfl
      exact hQ _ _ (by simp [go_sem,hF])
     ·exact wp (h:=wx hI4 (j+1) ⟨wg,(by (simp [go_sem,Y])),wn,wj,(by (rw [sW _ _ h14,ha];simpa using h16))⟩)
    ·have hA:(c.kids.all fun x=>lB x q)=true:=by rw [aP (by omega)] at ha;exact ha
     have hF:lB c p=decide ((v:Int)≤5000):=by rw [y7,hq,hA,hv',hw'];rfl
     exact wv (h:=hQ _ _ (by simp [go_sem,hF]))
def Ev (t:Types)(p:Pattern)(c:Cond)(h:Host):Bool:=fewC c&&fewP p&&CQ h&&(decide (condF t p c≠0)||(light21 t p h&&lL c&&decide ((h.graph.nodes.length:Int)≤6)&&decide ((h.graph.edges.length:Int)≤8)&&lB c p))
theorem Ln (t:Types)(ht:t.ok)(p:Pattern)(c:Cond)(hc:c.le)(h:Host):Pure Tryz.prog 61 [t.d,p.d,.agg c.c,h.d] (.bool (Ev t p c h)):=by
 refine Tz.pK ⟨fun _=>false,fun _=>[]⟩ Tryz.func61 rfl (fun Q hQ=>?_)
 have Y:=wa @Host.c.eq_1 (wa @Pattern.c.eq_1 @Cond.c_eq)
 refine wo (h:=aB ((by have hz:=H4 c hc;rwa [Cond.c_eq] at hz)) wl ?_)
 refine wo (h:=aO (fun hg=>tH p) (fun hg=>wl) ?_)
 refine wo (h:=aO (fun hg=>H5 h) (fun hg=>wl) ?_)
 refine fJ (fun h1=>?_) fun h1=>?_
 ·have hF:(fewC c&&fewP p&&CQ h)=false:=by cases ha:fewC c<;>cases hb:fewP p<;>cases hd:CQ h<;>simp [ha,hb,hd] at h1<;>rfl
  exact wv (h:=hQ _ _ (by simp [go_sem,Ev,hF]))
 ·have hF:fewC c=true∧fewP p=true∧CQ h=true:=by cases ha:fewC c<;>cases hb:fewP p<;>cases hd:CQ h<;>simp [ha,hb,hd] at h1<;>exact ⟨rfl,rfl,rfl⟩
  have hO:c.ok∧c.size≤1000000:=by
   have h6:=hF.1
   simp [fewC] at h6
   have h7:=FW c 40 (by omega) h6
   exact ⟨h7.1,by omega⟩
  have hO2:p.graph.nodes.length≤1000000∧p.graph.edges.length≤1000000:=by
   have h6:=hF.2.1
   simp [fewP,fewG] at h6
   omega
  refine wo (h:=aB ((by have hz:=Ll t ht p c hO.1 hO.2;rwa [Cond.c_eq] at hz)) wl ?_)
  refine wo (h:=aO (fun hg=>Lp t ht p h) (fun hg=>wl) ?_)
  refine wo (h:=aO (fun hg=>(by have hz:=JC c hO.1;rwa [Cond.c_eq] at hz)) (fun hg=>wl) ?_)
  refine wo (h:=aO (fun hg=>(by have hz:=Hk c hO.1 (by simp at hg;simp_all) p hO2.1 hO2.2;rwa [Cond.c_eq] at hz)) (fun hg=>wl) ?_)
  exact wo (h:=hQ _ _ (by simp [go_sem,Ev,hF.1,hF.2.1,hF.2.2]))
def light26 (t:Types)(r:Rule)(h:Host):Bool:=tY t&&fewR r&&Ev t r.left r.cond h
theorem DA (t:Types)(p:Pattern)(h:Host)(inj:Bool):(fK t p h inj).1.length≤5000:=by
 unfold fK
 split
 ·simp
 ·split
  ·simp
  ·split
   ·simp
   ·exact c6 (List.length_filterMap_le _ _) (MW _ _ _ _)
theorem Rk (l:List Stp26):D.clLL (l.map Stp26.c)=true:=c4 _ Stp26.cl l
attribute [go_sem] Rk
theorem Kf (t:Types)(r:Rule)(h:Host):(n7 t r h).1.length≤5000:=by
 unfold n7
 split
 ·simp
 ·split
  ·simp
  ·exact c6 (e9 _ _) (DA _ _ _ _)
end Go.Abs
end
section
namespace Go.Abs
open Go.ChangeShapes Go.WideShapes Go.RowKit
structure Bulk {H:Type} (bulk:DataW H→Nat):Prop where
 len:∀ e s,e.length≤bulk (.slice e s)
 el:∀ e s,∀ d∈e,bulk d≤bulk (.slice e s)
 part:∀ l,∀ d∈l,bulk d≤bulk (.agg l)
 str:∀ s:List UInt8,s.length≤bulk (.lit (.string s))
abbrev LQ:Nat→Prop:=fun _=>False
section
variable {H:Type} {enc:TypeId × Value→H} {P:Program} {w:World} {base:Nat} {spare:Nat→Bool} {held:Bool} {bulk:DataW H→Nat} {B:Nat}
def Opens (enc:TypeId × Value→H)(P:Program)(w:World)(base:Nat)(spare:Nat→Bool)(held:Bool)(bulk:DataW H→Nat)(B:Nat)(n:Nat)(t:TypeId){α:Type}(C:α→List D)(G:α→Prop):Prop :=
 ∀ (fuel:Nat) (cs:List Value) (x:DataW H × List MemPlace),fuel≤n→DataW.trod enc P w base spare held fuel t cs=some x→bulk x.1≤B →
  ∃ a,G a∧RepL LQ gC o6 w cs (C a)∧∀ u∈cs,u.oneCell'=true
variable {n:Nat} {t:TypeId}
theorem Opens.mono {α:Type}{C:α→List D}{G:α→Prop}{m:Nat}(h:Opens enc P w base spare held bulk B n t C G)(hm:m≤n):Opens enc P w base spare held bulk B m t C G :=
 fun fuel cs x hf hx hb=>h fuel cs x (c6 hf hm) hx hb
theorem Opens.zero {α:Type}{C:α→List D}{G:α→Prop}:Opens enc P w base spare held bulk B 0 t C G:=fun fuel cs x hf hx _=>by
 have:fuel=0:=by omega
 subst this
 simp [DataW.trod] at hx
theorem Opens.map {α β:Type}{C:α→List D}{G:α→Prop}{C':β→List D}{G':β→Prop}(h:Opens enc P w base spare held bulk B n t C G)(f:α→β)(hC:∀ a,C a=C' (f a))(hG:∀ a,G a→G' (f a)):Opens enc P w base spare held bulk B n t C' G' :=
 fun fuel cs x hf hx hb=>by
  obtain ⟨a,h1,h2,h3⟩:=h fuel cs x hf hx hb
  exact ⟨f a,hG a h1,by rw [← hC];exact h2,h3⟩
theorem mT {v:Value}{d:D}(h:RepV LQ gC o6 w v d):RepL LQ gC o6 w [v] [d] :=
 ⟨rfl,fun j u x hu hx=>by
  cases j with
  | zero=>simp at hu hx;subst hu;subst hx;exact h
  | succ j=>simp at hu⟩
theorem Lc {a b:List Value}{c d:List D}(h:RepL LQ gC o6 w a c)(k:RepL LQ gC o6 w b d):RepL LQ gC o6 w (a++b) (c++d):=by
 refine ⟨by simp [h.len,k.len],fun j u x hu hx=>?_⟩
 by_cases hj:j<a.length
 ·rw [aU hj] at hu
  rw [aU (by rw [← h.len];exact hj)] at hx
  exact h.rep j u x hu hx
 ·rw [bE (by omega)] at hu
  rw [bE (by rw [← h.len];omega),← h.len] at hx
  exact k.rep _ u x hu hx
theorem NU (ht:P.underlying t=some .bool):Opens enc P w base spare held bulk B n t (fun b:Bool=>[D.bool b]) (fun _=>True):=fun fuel cs x _ hx _=>by
 obtain ⟨b,rfl,_⟩:=DataW.trod_bool ht hx
 exact ⟨b,trivial,mT (.bool b),by simp [Value.oneCell']⟩
theorem rows {α:Type}{C:α→List D}{G:α→Prop}{ad:Addr}{sz:Nat}:∀ (len:Nat),
  (∀ i,i<len→∃ c a,w.cells? base (ad.add (i * sz)) sz=some c∧G a∧RepL LQ gC o6 w c (C a)∧∀ u∈c,u.oneCell'=true) →
  ∃ (l:List α) (xs:List Value),l.length=len∧(∀ a∈l,G a)∧RepL LQ gC o6 w xs (l.map C).flatten∧(∀ u∈xs,u.oneCell'=true)∧xs.length=len * sz ∧
   (∀ (j:Nat) (u:Value),xs[j]?=some u→w.cell? (ad.add j)=some u)∧∀ c∈l.map C,c.length=sz
 | 0,_=>⟨[],[],rfl,by simp,⟨rfl,fun j u d hu=>by simp at hu⟩,by simp,by simp,by simp,by simp⟩
 | len+1,h=>by
  obtain ⟨l,xs,h1,h2,h3,h4,h5,h6,h7⟩:=rows len fun i hi=>h i (by omega)
  obtain ⟨c,a,hc,hg,hr,h1c⟩:=h len (by omega)
  obtain ⟨_,hcl,hcell⟩:=World.cells?_some hc
  refine ⟨l++[a],xs++c,by simp [h1],fun b hb=>?_,?_,fun u hu=>?_,by rw [aI,h5,hcl,Nat.succ_mul],fun j u hu=>?_,fun b hb=>?_⟩
  ·rcases aW.1 hb with h|h
   ·exact h2 b h
   ·simp at h;subst h;exact hg
  ·rw [List.map_append,jZ]
   refine Lc h3 ?_
   simpa using hr
  ·rcases aW.1 hu with h|h
   ·exact h4 u h
   ·exact h1c u h
  ·by_cases hj:j<xs.length
   ·rw [aU hj] at hu;exact h6 j u hu
   ·rw [bE (by omega)] at hu
    have hlt:j - xs.length<sz:=by rw [← hcl];exact (aL.1 hu).1
    have:=hcell (j - xs.length) hlt
    rw [Addr.add_add,hu] at this
    rwa [show len * sz+(j - xs.length)=j by omega] at this
  ·rw [List.map_append] at hb
   rcases aW.1 hb with h|h
   ·exact h7 b h
   ·simp at h;subst h;rw [← hr.len,hcl]
theorem rT (hB:Bulk bulk){e:TypeId}(ht:P.underlying t=some (.slice e)){α:Type}{C:α→List D}{G:α→Prop}(h:Opens enc P w base spare held bulk B n e C G) :
  Opens enc P w base spare held bulk B (n+1) t (fun l:List α=>[.list (l.map C)]) (fun l=>l.length≤B∧∀ a∈l,G a):=fun fuel cs x hf hx hb=>by
 rcases DataW.trod_slice ht hx with ⟨rfl,rfl⟩|⟨ad,len,cap,elems,rest,m,rfl,rfl,rfl,hbase,hlc,hcap,hlen,hel,_,_⟩
 ·exact ⟨[],⟨d8 _,by simp⟩,mT .listN,by simp [Value.oneCell']⟩
 ·simp only at hb
  have hb1:=hB.len (elems.map (·.1)) (rest.map (·.1))
  rw [bA] at hb1
  obtain ⟨l,xs,h1,h2,h3,h4,h5,h6,h7⟩:=rows (w:=w) (base:=base) (C:=C) (G:=G) (ad:=ad) (sz:=P.cellsOf e) len fun i hi=>by
   have:=hel i hi
   rw [aA (by omega),Option.bind_eq_some_iff] at this
   obtain ⟨c,hc,hd⟩:=this
   obtain ⟨a,g1,g2,g3⟩:=h m c _ (by omega) hd (c6 (hB.el _ (rest.map (·.1)) _ (aT.2 ⟨_,aC (by omega),rfl⟩)) hb)
   exact ⟨c,a,hc,g1,g2,g3⟩
  refine ⟨l,⟨by omega,h2⟩,mT ?_,by simp [Value.oneCell']⟩
  have key:=RepV.list (M:=LQ) (σ:=gC) (N:=o6) (w:=w) ad cap (P.cellsOf e) xs (l.map C) (by rw [bA];omega) hcap h7 h3.len h4 (fun j u hu=>⟨fun h=>h,h6 j u hu⟩) h3.rep
  rw [bA,h1] at key
  exact key
def Tu (enc:TypeId × Value→H)(P:Program)(w:World)(base:Nat)(spare:Nat→Bool)(held:Bool)(bulk:DataW H→Nat)(B n:Nat):List TypeId→List Value→Prop
 | [],cs=>cs=[]
 | t :: ts,cs=>(∃ y,DataW.trod enc P w base spare held n t (cs.take (P.cellsOf t))=some y∧bulk y.1≤B)∧Tu enc P w base spare held bulk B n ts (cs.drop (P.cellsOf t))
def G0 (enc:TypeId × Value→H)(P:Program)(w:World)(base:Nat)(spare:Nat→Bool)(held:Bool)(bulk:DataW H→Nat)(B:Nat)(n:Nat)(ts:List TypeId){α:Type}(C:α→List D)(G:α→Prop):Prop :=
 ∀ (fuel:Nat) (cs:List Value),fuel≤n→Tu enc P w base spare held bulk B fuel ts cs→∃ a,G a∧RepL LQ gC o6 w cs (C a)∧∀ u∈cs,u.oneCell'=true
theorem jW:G0 enc P w base spare held bulk B n [] (fun _:Unit=>[]) (fun _=>True):=fun fuel cs _ h=>by
 have h:cs=[]:=h
 subst h
 exact ⟨(),trivial,⟨rfl,fun j u d hu=>by simp at hu⟩,by simp⟩
theorem bV {ts:List TypeId}{α β:Type}{C:α→List D}{G:α→Prop}{C':β→List D}{G':β→Prop}(h:Opens enc P w base spare held bulk B n t C G)(k:G0 enc P w base spare held bulk B n ts C' G') :
  G0 enc P w base spare held bulk B n (t :: ts) (fun p:α × β=>C p.1++C' p.2) (fun p=>G p.1∧G' p.2):=fun fuel cs hf hs=>by
 obtain ⟨⟨y,hy,hyb⟩,hs⟩:=hs
 obtain ⟨a,a1,a2,a3⟩:=h fuel _ y hf hy hyb
 obtain ⟨b,b1,b2,b3⟩:=k fuel _ hf hs
 refine ⟨(a,b),⟨a1,b1⟩,?_,fun u hu=>?_⟩
 ·have:=Lc a2 b2
  rwa [List.take_append_drop] at this
 ·rw [← List.take_append_drop (P.cellsOf t) cs] at hu
  rcases aW.1 hu with h|h
  ·exact a3 u h
  ·exact b3 u h
def RE (P:Program):Nat→List Field→Option Nat
 | o,[]=>some o
 | o,f :: r=>if f.offset=o then RE P (o+P.cellsOf f.type) r else none
theorem OZ {fuel:Nat}{cs:List Value}:∀ (fs:List Field) (o:Nat),RE P o fs=some cs.length →
  (∀ f∈fs,∃ y,DataW.trod enc P w base spare held fuel f.type ((cs.drop f.offset).take (P.cellsOf f.type))=some y∧bulk y.1≤B)→o≤cs.length∧Tu enc P w base spare held bulk B fuel (fs.map (·.type)) (cs.drop o)
 | [],o,ho,_=>by
  simp only [RE,bC] at ho
  subst ho
  exact ⟨aY _,by show cs.drop cs.length=[];simp⟩
 | f :: fs,o,ho,h=>by
  unfold RE at ho
  split at ho
  ·rename_i hof
   subst hof
   obtain ⟨h1,h2⟩:=OZ fs _ ho fun g hg=>h g (by simp [hg])
   refine ⟨by omega,?_⟩
   refine ⟨h f (by simp),?_⟩
   rw [List.drop_drop]
   exact h2
  ·cases ho
theorem mU (hB:Bulk bulk){fs:Array Field}(ht:P.underlying t=some (.struct fs))(ho:RE P 0 fs.toList=some (P.cellsOf t)){α:Type}{C:α→List D}{G:α→Prop}(h:G0 enc P w base spare held bulk B n (fs.toList.map (·.type)) C G) :
  Opens enc P w base spare held bulk B (n+1) t C G:=fun fuel cs x hf hx hb=>by
 obtain ⟨xs,m,rfl,rfl,hcl,hxl,hfl⟩:=DataW.trod_struct ht hx
 simp only at hb
 have hs:=(OZ (enc:=enc) (P:=P) (w:=w) (base:=base) (spare:=spare) (held:=held) (bulk:=bulk) (B:=B) (fuel:=m) (cs:=cs) fs.toList 0 (by rw [hcl];exact ho) fun f hfm=>by
  obtain ⟨i,hi,rfl⟩:=aN hfm
  have hi':i<fs.size:=by simpa using hi
  have hfi:=hfl i (fs.toList[i]) (by simp [hi'])
  rw [aA (by omega)] at hfi
  exact ⟨_,hfi,c6 (hB.part _ _ (aT.2 ⟨_,aC (by omega),rfl⟩)) hb⟩).2
 rw [List.drop_zero] at hs
 exact h m cs (by omega) hs
theorem AK {r:Reach}{b0:Nat}{fs:Array Field}{v:Value}{d:DataW H}{ps:List MemPlace}{α:Type}{C:α→List D}{G:α→Prop}(ht:P.underlying t=some (.struct fs))(h:∀ n,Opens enc P w base spare held bulk B n t C G)
  (hval:Value.okWide P w r b0 t v) (hd:DataW.Trod enc P w base spare held t v d ps) (hb:bulk d≤B):∃ a,G a∧RepV LQ gC o6 w v (.agg (C a)):=by
 obtain ⟨cs,rfl,_⟩:=okWide_struct ht hval
 obtain ⟨fuel,hf⟩:=hd
 obtain ⟨a,h1,h2,h3⟩:=h fuel fuel _ _ (aY _) hf hb
 have hc:(Value.agg cs).cells.toList=cs.toList:=rfl
 rw [hc] at h2 h3
 have:=RepV.agg (M:=LQ) (σ:=gC) (N:=o6) (w:=w) cs.toList (C a) h2.len h3 h2.rep
 exact ⟨a,h1,by simpa using this⟩
theorem zQ (hl:laidOutB P=true){W W':World}{sp':Nat→Bool}(hb:Below W.heap.size W W'):∀ {ts:List TypeId} {vs:List Value} {ds:List (DataW H)} {ps:List MemPlace},(∀ t∈ts,P.readableRec t=true∧t<P.types.size) →
  DataW.TrodAll enc P W 0 (fun _=>true) true ts vs ds ps→(∀ x∈ps,x.block<W.heap.size)→(∀ x∈ps,sp' x.block=true)→DataW.TrodAll enc P W' 0 sp' true ts vs ds ps
 | [],_,_,_,_,h,_,_=>by
  obtain ⟨rfl,rfl,rfl⟩:=trodAll_nil h
  rfl
 | t :: ts,_,_,_,hr,h,hlt,hs=>by
  obtain ⟨v,vs,d,ds,p,q,rfl,rfl,rfl,h1,h2⟩:=trodAll_cons h
  refine ⟨p,q,WideElems.Trod_stays hl (hr t (by simp)).1 (hr t (by simp)).2 h1 (fun x hx=>hb.same (hlt x (by simp [hx]))) (fun x hx=>hs x (by simp [hx])),zQ hl hb (fun u hu=>hr u (by simp [hu])) h2 (fun x hx=>hlt x (by simp [hx])) (fun x hx=>hs x (by simp [hx])),rfl⟩
theorem sN (hl:laidOutB P=true){f:Func}{s:ChangeSpec}{apart fresh handsOn again:Bool}{W W':World}{args:Array Value}{v:Value}{ds gs:List (DataW H)}{before:List MemPlace}
  (hr:∀ t∈f.params.toList,P.readableRec t=true∧t<P.types.size) (hvars:s.vars=[]) (hW:DataW.Whole enc P f.params.toList s.vars apart W args.toList ds gs before)
  (hres:∀ (b:Nat) (sp:Nat→Bool) (hd:Bool),DataW.TrodAll enc P W' b sp hd f.resultTypes.toList (v.resultList f.resultTypes.size) (s.fn H (ds++gs)).results [])
  (hargs:(s.fn H (ds++gs)).args=ds) (hvs:(s.fn H (ds++gs)).vars=[]) (hb:Below W.heap.size W W')
  (hok:∀ (j:Nat) (t:TypeId) (r:Value),f.resultTypes[j]?=some t→(v.resultList f.resultTypes.size)[j]?=some r→Value.okWide P W' .any 0 t r) :
  s.post enc P f apart fresh handsOn again W args v W':=by
 have hW':=hW
 obtain ⟨p,q,hA,hV,rfl,hz,hn⟩:=hW
 rw [hvars] at hV
 obtain ⟨rfl,rfl⟩:=trodVars_none hV
 rw [iW] at hW' hz hn
 have hlt:∀ x∈p,x.block<W.heap.size:=fun x hx=>by simpa using hW'.lt x hx
 have hTr:∀ sp:Nat→Bool,(∀ x∈p,sp x.block=true)→DataW.TrodAll enc P W' 0 sp true f.params.toList args.toList (s.fn H (ds++[])).args p:=fun sp hs=>by
  rw [hargs];exact zQ hl hb hr hA hlt hs
 have hVr:∀ sp:Nat→Bool,DataW.TrodVars enc P W' sp s.vars (s.fn H (ds++[])).vars []:=fun sp=>by rw [hvars,hvs];rfl
 refine ⟨ds,[],p,[],p,[],hW',hres _ _ _,hTr _ (fun x hx=>by simpa using hlt x hx),hVr _,World.keptBut_mono (fun x hx=>⟨hx,.inr (by simpa using hx)⟩) (hb.frame (·∈p)),fun _=>?_⟩
 refine ⟨hok,_,_,([]++p)++[],⟨[]++p,[],trodAll_append (hTr _ (fun _ _=>rfl)) (hres _ _ _),hVr _,rfl,?_,?_⟩,?_⟩
 ·intro b off hp
  have hp':MemPlace.cell b off∈p:=by simpa using hp
  have:=hz b off hp'
  rw [← this]
  exact hb.frozen (hlt _ hp')
 ·intro ha
  simpa using hn ha
 ·intro x hx _
  simpa using hx
end
end Go.Abs
end
