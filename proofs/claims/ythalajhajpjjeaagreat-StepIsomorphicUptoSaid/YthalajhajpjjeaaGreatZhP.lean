/- Complements and parts: general facts. · Layer 26 of the refe -/
import Derived.Test.YthalajhajpjjeaaGreatZhO
import Derived.Test.YthalajhajpjjeaaGreatZhF
import Derived.Test.YthalajhajpjjeaaGreatZhA
import Derived.Test.YthalajhajpjjeaaGreatZhM
import Derived.Test.YthalajhajpjjeaaGreatZhE
import Derived.Carry
import Derived.ChangeArms
import Derived.WideShapes
import Derived.DataElems
set_option linter.unusedVariables false
set_option linter.unusedSimpArgs false
section
set_option maxRecDepth 100000
set_option maxHeartbeats 4000000
open Go Go.Proofs
namespace Go.Abs
theorem Kx {l:List Int}{v:Int}(h:mem l v=true):0<=idx l v/\(idx l v).toNat<l.length/\l[(idx l v).toNat]?=some v:=by
 obtain ⟨i,e,f⟩:=aK ((cQ l v).1 h)
 have b:0<=idx l v:=by simpa [mem] using h
 unfold idx at b ⊢
 cases a:l.findIdx? (λx=>decide (x=v)) with
 | none=>rw [a] at b;simp at b
 | some k =>
  rw [iS] at a
  obtain ⟨d,c,_⟩:=a
  simp only [decide_eq_true_eq] at c
  exact ⟨by simp,by simpa using d,by simp [d,c]⟩
def f8 (l:List Int)(n:Nat):List Int:=((List.range n).filter λ(i:Nat)=>mem l i).map λ(i:Nat)=>(i:Int)
theorem iJ {f:Nat->Int}:∀ (n k:Nat),(∀ j,k<=j->j<k+n->f j=0)->bT f k n=0
 | 0,k,_=>rfl
 | n+1,k,h=>by
  unfold bT
  rw [if_neg (by rw [h k (bC _) aD];simp)]
  exact iJ n (k+1) λj h1 h2=>h j aD aD
theorem TJ {l:List Int}{n:Int}(d:∀ x∈l,0<=x/\x<n)(c:l.Pairwise (· < ·)):DB l n=0:=by
 refine iJ _ _ λj _ f=>?_
 have a:j<l.length:=aD
 have e:=d _ (aC a)
 unfold Hn
 rw [aA a,Option.getD_some,if_neg aD,if_neg]
 rintro ⟨g,b⟩
 rw [aA (aD:j - 1<l.length),Option.getD_some] at b
 have:=dH.1 c (j - 1) j aD a aD
 omega
theorem TL {l:List Int}(h:l.Pairwise (· < ·))(h0:∀ x∈l,0<=x):∀ i (hi:i<l.length),(i:Int)<=l[i]
 | 0,hi=>by have:=h0 _ (aC hi);omega
 | i+1,hi=>by
  have h1:=TL h h0 i aD
  have h2:=dH.1 h i (i+1) aD hi aD
  omega
theorem B6 {α:Type}{f:α->Int}:∀ {l:List α},(∀ x∈l,f x=0)->fM f l=0
 | [],_=>rfl
 | x :: l,h=>by
  unfold fM
  rw [if_neg (by rw [h x (lN ..)];simp)]
  exact B6 λy hy=>h y (iY _ hy)
def eA (g:Graph)(k:Int):Edge:=g.edges[k.toNat]?.getD b4
def iA (l:List Int)(k:Int):Int:=l[k.toNat]?.getD 0
theorem PW {g:Graph}{p:Part}(i:graphF g=0)(h:∀ x∈p.nodes,0<=x/\x<g.nodes.length)(b:p.nodes.Pairwise (· < ·))(j:∀ x∈p.edges,0<=x/\x<g.edges.length)(c:p.edges.Pairwise (· < ·))
  (a:∀ k∈p.edges,(eA g k).from_∈p.nodes/\(eA g k).to_∈p.nodes):subF g p=0:=by
 unfold subF pZ
 rw [if_neg (by rw [i];simp),if_neg (by rw [TJ h b];simp),if_neg (by rw [TJ j c];simp)]
 refine B6 λk d=>?_
 have f:=(cQ _ _).2 (a k d).1
 have e:=(cQ _ _).2 (a k d).2
 unfold eA at f e
 unfold y3;rw [if_pos (by rw [f,e];rfl)]
theorem F5 (p:Nat->Bool)(n:Nat):(((List.range n).filter p).map λ(b:Nat)=>(b:Int)).Pairwise (· < ·):=by
 rw [qB]
 have h:((List.range n).filter p).Pairwise (· < ·):=List.Pairwise.filter _ List.pairwise_lt_range
 exact h.imp λh=>by omega
theorem vT (p:Nat->Bool)(n:Nat)(x:Int):x∈(((List.range n).filter p).map λ(b:Nat)=>(b:Int))↔(0<=x/\x<n)/\p x.toNat=true:=by
 simp only [aQ,dL,aR]
 constructor
 .rintro ⟨a,⟨h1,h2⟩,rfl⟩;exact ⟨aD,by simpa using h2⟩
 .rintro ⟨⟨h1,h2⟩,h3⟩;exact ⟨x.toNat,⟨aD,h3⟩,aD⟩
theorem fC {l:List Int}{n:Nat}{x:Int}:x∈bF l n↔(0<=x/\x<n)/\x∉l:=by
 unfold bF
 rw [vT]
 constructor
 .rintro ⟨h,a⟩
  refine ⟨h,λb=>?_⟩
  rw [show ((x.toNat:Nat):Int)=x by omega,(cQ l x).2 b] at a;cases a
 .rintro ⟨h,a⟩
  refine ⟨h,?_⟩
  rw [show ((x.toNat:Nat):Int)=x by omega,cG,bN]
  exact λb=>a ((cQ l x).1 b)
theorem lX (l:List Int)(n:Nat):(bF l n).Pairwise (· < ·):=F5 _ n
theorem Fa {l:List Int}{n:Nat}{x:Int}:x∈f8 l n↔(0<=x/\x<n)/\x∈l:=by
 unfold f8
 rw [vT]
 constructor
 .rintro ⟨h,a⟩
  refine ⟨h,?_⟩
  rw [show ((x.toNat:Nat):Int)=x by omega] at a;exact (cQ l x).1 a
 .rintro ⟨h,a⟩
  refine ⟨h,?_⟩
  rw [show ((x.toNat:Nat):Int)=x by omega]
  exact (cQ l x).2 a
theorem IU {a b:Graph}{m:Part}(h:dS a b m=0):(∀ i,i<a.nodes.length->jY a b m i=0)/\∀ k,k<a.edges.length->mapEE a b m k=0:=by
 obtain ⟨e,d,l,j⟩:=lZ h
 have c:dS a b m=(if bT (jY a b m) 0 a.nodes.length≠0 then bT (jY a b m) 0 a.nodes.length else bT (mapEE a b m) 0 a.edges.length):=by
  unfold dS;rw [if_neg (by rw [e];simp),if_neg (by rw [d];simp),if_neg aD]
 rw [c] at h
 split at h
 .rename_i q;exact absurd h q
 .rename_i q
  exact ⟨λi g=>dV a.nodes.length 0 (aD:bT (jY a b m) 0 a.nodes.length=0) i aD aD,λk f=>dV a.edges.length 0 h k aD aD⟩
theorem Gq {a b:Graph}{m:Part}(h:dS a b m=0){i:Int}(d:0<=i)(c:i<a.nodes.length):(0<=iA m.nodes i/\iA m.nodes i<b.nodes.length)/\gN b (iA m.nodes i)=gN a i:=by
 have q:=(IU h).1 i.toNat aD
 unfold jY at q
 split at q
 .cases q
 .rename_i q1
  split at q
  .cases q
  .rename_i q2
   exact ⟨by unfold iA;omega,by unfold gN iA;simpa using q2⟩
theorem A1 {a b:Graph}{m:Part}(h:dS a b m=0){k:Int}(e:0<=k)(d:k<a.edges.length):(0<=iA m.edges k/\iA m.edges k<b.edges.length)/\(eA a k).type=(eA b (iA m.edges k)).type /\
  iA m.nodes (eA a k).from_=(eA b (iA m.edges k)).from_/\iA m.nodes (eA a k).to_=(eA b (iA m.edges k)).to_:=by
 have q:=(IU h).2 k.toNat aD
 unfold mapEE at q
 split at q
 .cases q
 .rename_i q1
  split at q
  .cases q
  .rename_i q2
   split at q
   .cases q
   .rename_i q3
    unfold eA iA
    refine ⟨aD,by simpa using q2,?_,?_⟩<;>exact bA λc=>q3 (by first|exact .inl c|exact .inr c)
theorem tG {g:Graph}(c:graphF g=0){k:Int}(e:0<=k)(d:k<g.edges.length):(0<=(eA g k).from_/\(eA g k).from_<g.nodes.length)/\(0<=(eA g k).to_/\(eA g k).to_<g.nodes.length)/\0<=(eA g k).type/\(eA g k).type<=99:=by
 have a:k.toNat<g.edges.length:=aD
 have b:=(dF c).2 _ (aC a)
 unfold eA
 rw [aA a,Option.getD_some]
 exact ⟨b.2.1,b.2.2,b.1⟩
theorem Nm {a keep:List Int}(h:qH a keep=[]){i k:Nat}(c:i<k)(e:k<a.length):xL a keep i k=false:=by
 rw [bN]
 intro d
 have b:(i,k)∈qH a keep:=by
  unfold qH Ib
  rw [bH]
  refine ⟨i,aR.2 aD,?_⟩
  unfold nA
  rw [aQ]
  exact ⟨k - (i+1),dL.2 ⟨aR.2 aD,by rw [show i+1+(k - (i+1))=k by omega];exact d⟩,by simp;omega⟩
 rw [h] at b;cases b
theorem Nn {a keep:List Int}(h:qH a keep=[]){i k:Nat}(e:i<a.length)(d:k<a.length)(b:i≠k)(c:a[i]?.getD 0=a[k]?.getD 0):mem keep i=true/\mem keep k=true:=by
 rcases Nat.lt_or_gt_of_ne b with hlt|hlt
 .have:=Nm h hlt d
  unfold xL at this;rw [c] at this;simpa using this
 .have:=Nm h hlt e
  unfold xL at this;rw [c] at this;simp at this;exact ⟨this.2,this.1⟩
theorem Cu {l g:Graph}{keep m:Part}(h:tJ l g keep m=0):dS l g m=0/\subF l keep=0/\qH m.nodes keep.nodes=[]/\qH m.edges keep.edges=[]/\Ck g m.edges (j5 m.nodes keep.nodes)=[]:=by
 unfold tJ at h
 split at h
 .rename_i q;exact absurd h q
 .rename_i q
  have a:compG l g keep m=0:=aD
  unfold compG at a
  split at h
  .cases h
  .rename_i q2
   split at h
   .cases h
   .rename_i q3
    have b:dS l g m=0/\subF l keep=0:=by
     split at a
     .rename_i q5;exact absurd a q5
     .rename_i q5;exact ⟨aD,a⟩
    exact ⟨b.1,b.2,bJ aD,bJ aD,bJ aD⟩
theorem u6 {b keep:List Int}(h:qH b keep=[]){j:Int}(l:0<=j)(k:j<b.length)(e:j∈keep):iA b j∉j5 b keep:=by
 intro d
 obtain ⟨i,f,a,g⟩:=rE.1 d
 have c:i≠j.toNat:=by
  rintro rfl
  rw [show ((j.toNat:Nat):Int)=j by omega,(cQ _ _).2 e] at a;cases a
 have:=Nn h f (aD:j.toNat<b.length) c (by rw [g];rfl)
 rw [a] at this;exact absurd this.1 aF
theorem UV {l g:Graph}{keep m:Part}(h:tJ l g keep m=0):subF g (AP l g keep m)=0:=by
 obtain ⟨z,D,r,H,y⟩:=Cu h
 unfold AP;rw [if_pos h]
 obtain ⟨w,A,E,F⟩:=lZ z
 refine PW A (λx s=>nF s) (lX _ _) (λx s=>nF s) (lX _ _) λk G=>?_
 obtain ⟨c,t⟩:=fC.1 G
 have a:=tG A c.1 c.2
 by_cases o:k∈m.edges
 .obtain ⟨i,v,p⟩:=aK o
  have d:(i:Int)∈keep.edges:=by
   refine bA λI=>t (rE.2 ⟨i,v,?_,?_⟩)
   .rw [bN];exact λf=>I ((cQ _ _).1 f)
   .rw [aA v,p]
  have j:=CS D i d
  have q:=tG (k:=(i:Int)) w aD aD
  have b:=A1 (k:=(i:Int)) z aD aD
  have u:iA m.edges i=k:=by unfold iA;simp [v,p]
  rw [u] at b
  have C:=u6 r q.1.1 aD ((cQ _ _).1 j.1)
  have B:=u6 r q.2.1.1 aD ((cQ _ _).1 j.2)
  rw [b.2.2.1] at C
  rw [b.2.2.2] at B
  exact ⟨fC.2 ⟨a.1,C⟩,fC.2 ⟨a.2.1,B⟩⟩
 .have e:Cl g m.edges (j5 m.nodes keep.nodes) k.toNat=false:=by
   rw [bN]
   intro e
   have n:k∈Ck g m.edges (j5 m.nodes keep.nodes):=by
    unfold Ck;rw [vT];exact ⟨c,e⟩
   rw [y] at n;cases n
  unfold Cl at e
  rw [show ((k.toNat:Nat):Int)=k by omega,show mem m.edges k=false by rw [bN];exact λf=>o ((cQ _ _).1 f)] at e
  simp only [Bool.not_false,iT,Bool.or_eq_false_iff] at e
  exact ⟨fC.2 ⟨a.1,λf=>by have:=(cQ _ _).2 f;unfold eA at this;rw [e.1] at this;cases this⟩,fC.2 ⟨a.2.1,λf=>by have:=(cQ _ _).2 f;unfold eA at this;rw [e.2] at this;cases this⟩⟩
theorem o7 {g:Graph}(k:g.nodes.length<=40)(j:g.edges.length<=80)(e:∀ a∈g.nodes,0<=a/\a<=99)
  (f:∀ x∈g.edges,(0<=x.type/\x.type<=99)/\(0<=x.from_/\x.from_<g.nodes.length)/\(0<=x.to_/\x.to_<g.nodes.length)):graphF g=0:=by
 unfold graphF
 rw [if_neg aD,if_neg,if_neg]
 .rw [aZ];rintro ⟨x,d,b⟩
  have i:=f x d
  have c:tE x g.nodes.length=true:=by simp [tE,g6];omega
  rw [c] at b;cases b
 .rw [aZ];rintro ⟨a,h,b⟩
  have i:=e a h
  have c:g6 a 99=true:=by simp [g6];omega
  rw [c] at b;cases b
theorem yX {g:Graph}{n:Int}(h0:0<=n)(h:n<g.nodes.length):gN g n∈g.nodes:=by
 unfold gN;rw [aA (aD:n.toNat<g.nodes.length),Option.getD_some];exact aC _
theorem t7 {g:Graph}{n:Int}(h0:0<=n)(h:n<g.edges.length):eA g n∈g.edges:=by
 unfold eA;rw [aA (aD:n.toNat<g.edges.length),Option.getD_some];exact aC _
theorem fG {l:List Int}{n:Int}(h0:0<=n)(h:n<l.length):iA l n∈l:=by
 unfold iA;rw [aA (aD:n.toNat<l.length),Option.getD_some];exact aC _
theorem KS {l:List Int}{n:Nat}(h:l.Pairwise (· < ·))(a:∀ x∈l,0<=x/\x<n):l.length<=n:=by
 rcases Nat.eq_zero_or_pos l.length with h1|h1
 .omega
 .have h2:=TL h (λx b=>(a x b).1) (l.length - 1) aD
  have c:=a _ (aC (aD:l.length - 1<l.length))
  omega
theorem Oh {g:Graph}{p:Part}(h:subF g p=0):p.edges.Pairwise (· < ·):=by
 unfold subF pZ at h
 split at h
 .rename_i q;exact absurd h q
 .split at h
  .rename_i q;exact absurd h q
  .split at h
   .rename_i q;exact absurd h q
   .rename_i q;exact (Bj (aD:DB p.edges g.edges.length=0)).2
theorem Kn {l:List Int}(f:l.Pairwise (· < ·)){v:Int}(e:v∈l):pY l v<l.length/\iA l (pY l v)=v/\idx l v=pY l v:=by
 have a:=(cQ l v).2 e
 have d:=B8 f a
 obtain ⟨g,c,b⟩:=Kx a
 rw [d] at g c b
 refine ⟨by simpa using c,?_,d⟩
 unfold iA;rw [b];rfl
theorem pT {g:Graph}{p:Part}(h:subF g p=0){k:Int}(a:k∈p.edges):(eA g k).from_∈p.nodes/\(eA g k).to_∈p.nodes:=by
 have:=CS h k a
 exact ⟨(cQ _ _).1 this.1,(cQ _ _).1 this.2⟩
theorem KF (g:Graph)(p:Part)(k:Int):gEd g p k=⟨(eA g k).type,pY p.nodes (eA g k).from_,pY p.nodes (eA g k).to_⟩:=rfl
theorem V6 {α β:Type}(f:α->β)(l:List α)(d:α)(e:β){i:Nat}(h:i<l.length):((l.map f)[i]?).getD e=f ((l[i]?).getD d):=by simp [h]
theorem KI {g:Graph}{p:Part}(h:subF g p=0){i:Int}(b:0<=i)(a:i<p.nodes.length):gN (b5 g p) i=gN g (iA p.nodes i):=by
 unfold b5;rw [if_pos h]
 exact V6 (gN g) p.nodes 0 0 aD
theorem Rd (c:Part)(vs:List Int)(l:List Slot)(s:Slot)(vals:List (List Int)):sL c vs (l++[s]) vals=(sL c vs l vals).set (eE c s) (((sL c vs l vals)[eE c s]?.getD []).set s.attr.toNat (dE s.term vs)):=by unfold sL;rw [jO];rfl
theorem rN (c:Part)(vs:List Int):∀ (l:List Slot) (vals:List (List Int)),(sL c vs l vals).length=vals.length/\∀ n:Nat,((sL c vs l vals)[n]?.getD []).length=(vals[n]?.getD []).length
 | [],vals=>⟨rfl,λ_=>rfl⟩
 | s :: l,vals=>by
  obtain ⟨h1,h2⟩:=rN c vs l (vals.set (eE c s) ((vals[eE c s]?.getD []).set s.attr.toNat (dE s.term vs)))
  have e:sL c vs (s :: l) vals=sL c vs l (vals.set (eE c s) ((vals[eE c s]?.getD []).set s.attr.toNat (dE s.term vs))):=rfl
  rw [e]
  refine ⟨by rw [h1,c7],λn=>?_⟩
  rw [h2 n,cE]
  split
  .rename_i hn
   subst hn
   split
   .simp
   .rename_i hn;rw [bE aD]
  .rfl
def He (c:Part)(vs:List Int)(l:List Slot)(i k:Nat):Bool:=match l[k]?,l[i]? with|some a,some b=>y6 c vs a b|_,_=>false
theorem Dv (c:Part)(vs:List Int)(l:List Slot):t8 c vs l=(List.range l.length).any λi=>(List.range i).any λk=>He c vs l i k:=rfl
structure PutOk (t:Types) (r:Rule) (x:Host) (c:Part):Prop where
 cl:c.nodes.length=r.right.graph.nodes.length
 few:x.graph.nodes.length<=2000/\x.graph.edges.length<=2000/\x.values.length<=2000
 spot:∀ s∈r.right.slots,0<=c.nodes[s.node.toNat]?.getD 0/\eE c s<x.values.length/\eE c s<x.graph.nodes.length
 attr:∀ s∈r.right.slots,s.attr<(x.values[eE c s]?.getD []).length/\s.attr<(bM t (x.graph.nodes[eE c s]?.getD 0)).length
theorem JD {l:List Int}(hn:l.Nodup){p:Nat}(hp:p<l.length):∀ n,n<=l.length->iM l n l[p]=if p<n then (p:Int) else -1
 | 0,_=>rfl
 | n+1,h=>by
  rw [wK,JD hn hp n aD,aA aD,Option.getD_some]
  by_cases he:n=p
  .subst he;rw [if_pos rfl,if_pos aD]
  .rw [if_neg (λe=>he ((sH hn).1 e))]
   by_cases h2:p<n
   .rw [if_pos h2,if_pos aD]
   .rw [if_neg h2,if_neg aD]
theorem oI {l:List Int}(b:l.Nodup){p:Nat}(a:p<l.length):iM l l.length l[p]=p:=by rw [JD b a _ (bC _),if_pos a]
theorem pB {l:List Int}{v:Int}(h:v∉l):∀ n,n<=l.length->iM l n v = -1
 | 0,_=>rfl
 | n+1,hl=>by
  rw [wK,pB h n aD,aA aD,Option.getD_some,if_neg]
  exact λe=>h (e ▸ aC _)
theorem JE {l:List Int}(b:l.Nodup)(v:Int):decide (iM l l.length v<0) = !mem l v:=by
 by_cases h:v∈l
 .obtain ⟨p,a,rfl⟩:=aK h
  rw [oI b a,(cQ _ _).2 h];simp
 .rw [pB h _ (bC _),bN.2 λc=>h ((cQ _ _).1 c)];rfl
theorem Ks {l:List Int}(a:l.Nodup)(i:Nat):Db l i=(bF l i).length:=by
 unfold Db bF
 rw [aS]
 congr 1
 exact xH λj _=>JE a j
theorem C7 {l:List Int}:∀ (n j:Nat),j<n->mem l j=false->(bF l n)[(bF l j).length]?=some (j:Int)
 | n+1,j,hj,hm=>by
  rw [vW]
  by_cases h:j=n
  .subst h
   rw [if_neg (by rw [hm];simp),bB (bC _)];simp
  .have:=C7 n j aD hm
   rw [aT (aL.1 this).1];exact this
theorem nM {l:List Int}(h:l.Pairwise (· < ·)):l.Nodup:=h.imp λh=>by omega
structure StepIn (t:Types) (r:Rule) (h:Host) (m:Mat):Prop where
 hR:RuleV t r
 ho:HostOk t h
 hm:MOk t r.left.graph h.graph m.m
 hc:tJ (nI r.left.graph h.graph m.m) h.graph r.keep m.m=0
section
variable {t:Types} {r:Rule} {h:Host} {m:Mat}
theorem JW (c:RuleV t r)(b:HostOk t h)(a:vV t r h m=0):StepIn t r h m:=by
 unfold vV at a
 split at a
 .cases a
 .rename_i h1
  split at a
  .exact absurd a (by assumption)
  .split at a
   .cases a
   .exact ⟨c,b,vY (Ae (bS h1)).2,a⟩
theorem StepIn.rest (S:StepIn t r h m):bY r h m=⟨bF (j5 m.m.nodes r.keep.nodes) h.graph.nodes.length,bF (j5 m.m.edges r.keep.edges) h.graph.edges.length⟩:=by unfold bY AP;rw [if_pos S.hc]
theorem StepIn.sub (S:StepIn t r h m):subF h.graph (bY r h m)=0:=UV S.hc
theorem StepIn.nasc (S:StepIn t r h m):(bY r h m).nodes.Pairwise (· < ·):=by rw [S.rest];exact lX _ _
theorem StepIn.easc (S:StepIn t r h m):(bY r h m).edges.Pairwise (· < ·):=by rw [S.rest];exact lX _ _
theorem StepIn.nin (S:StepIn t r h m):∀ x∈(bY r h m).nodes,0<=x/\x<h.graph.nodes.length:=(sP S.sub).2.2.1
theorem StepIn.ein (S:StepIn t r h m):∀ x∈(bY r h m).edges,0<=x/\x<h.graph.edges.length:=(sP S.sub).2.2.2
theorem StepIn.len (S:StepIn t r h m):(bY r h m).nodes.length<=40/\(bY r h m).edges.length<=80:=by
 have a:=cJ S.ho.gg
 have c:=KS S.nasc S.nin
 have b:=KS S.easc S.ein
 omega
theorem StepIn.dup (S:StepIn t r h m):qH m.m.nodes r.keep.nodes=[]/\qH m.m.edges r.keep.edges=[]:=⟨(Cu S.hc).2.2.1,(Cu S.hc).2.2.2.1⟩
theorem StepIn.keptN (S:StepIn t r h m){k:Int}(a:k∈r.keep.nodes):iA m.m.nodes k∈(bY r h m).nodes:=by
 have c:=S.hR.keep
 have g:=S.hm.len
 have b:=c.2.1 k a
 have f:=u6 S.dup.1 b.1 aD a
 rw [S.rest]
 have d:=(S.hm.img k.toNat aD aD).1
 have e:iA m.m.nodes k=m.m.nodes[k.toNat]' aD:=by unfold iA;rw [aA aD];rfl
 exact fC.2 ⟨by rw [e];exact d,f⟩
theorem StepIn.bareN (S:StepIn t r h m):(bI t r h m).graph.nodes=(bY r h m).nodes.map (gN h.graph)++r.freshN.map (gN r.right.graph):=by
 unfold bI Ca b5;rw [if_pos S.sub]
theorem StepIn.bareE (S:StepIn t r h m):(bI t r h m).graph.edges=(bY r h m).edges.map (gEd h.graph (bY r h m))++r.freshE.map (λk=>freshE (dO r h m) (r.right.graph.edges[k.toNat]?.getD b4)):=by
 unfold bI Ca b5;rw [if_pos S.sub]
theorem JC:(bI t r h m).values=(bY r h m).nodes.map (λk=>h.values[k.toNat]?.getD [])++r.freshN.map (λk=>oA t (gN r.right.graph k)):=rfl
theorem StepIn.intoN (S:StepIn t r h m):r.into.nodes.Nodup/\r.into.edges.Nodup:=by
 have:=S.hR.inj
 unfold As at this
 simp only [aN,decide_eq_true_eq] at this
 exact this.2
theorem StepIn.kept_type (S:StepIn t r h m){p:Nat}(c:p<r.into.nodes.length)(b:p<r.keep.nodes.length):gN r.right.graph r.into.nodes[p]=gN r.left.graph r.keep.nodes[p]:=by
 have d:(b5 r.left.graph r.keep).nodes.length=r.keep.nodes.length:=by unfold b5;rw [if_pos S.hR.sub];simp
 have a:=(Gq S.hR.mo (i:=(p:Int)) aD aD).2
 rw [KI S.hR.sub aD aD] at a
 simpa [iA,aA c,aA b] using a
theorem StepIn.com (S:StepIn t r h m){i:Nat}(o:i<r.right.graph.nodes.length):∃ n:Nat,(dO r h m).nodes[i]?=some (n:Int)/\∃ hn:n<(bI t r h m).graph.nodes.length,Ay t r.right.graph.nodes[i] ((bI t r h m).graph.nodes[n])=true:=by
 obtain ⟨K,A,J,I,H⟩:=S.hR.keep
 have E:=S.hm.len
 have k:=S.intoN.1
 have z:(dO r h m).nodes[i]?=some (Lg r.keep.nodes r.into.nodes (uE m.m.nodes (dJ r h m).nodes) (bY r h m).nodes.length i):=by
  unfold dO N4;simp [o]
 rw [z]
 have u:=S.bareN
 have w:=mR S.hR.vf
 have D:=(jT S.hR.gr S.hR.tr).1 _ (aC o)
 by_cases hm:(i:Int)∈r.into.nodes
 .obtain ⟨p,B,C⟩:=aK hm
  have s:p<r.keep.nodes.length:=aD
  have G:=A _ (aC s)
  have d:r.keep.nodes[p].toNat<m.m.nodes.length:=aD
  have L:=S.keptN (aC s)
  obtain ⟨n,hn,g⟩:=aK L
  have M:=S.nin _ (aC hn)
  have l:iA m.m.nodes r.keep.nodes[p]=m.m.nodes[r.keep.nodes[p].toNat]:=by unfold iA;rw [aA d];rfl
  have e:Lg r.keep.nodes r.into.nodes (uE m.m.nodes (dJ r h m).nodes) (bY r h m).nodes.length i=n:=by
   unfold Lg
   rw [<- C,oI k B,if_pos aD]
   rw [(aD:(p:Int).toNat=p),aA s,Option.getD_some]
   unfold uE dJ mM
   rw [aH,aA d,c6,Option.getD_some]
   rw [<- l,<- g]
   simp only
   rw [pA _ aD,Option.getD_some,show (((bY r h m).nodes[n].toNat:Nat):Int)=(bY r h m).nodes[n] by omega,oI (nM S.nasc) hn]
  refine ⟨n,by rw [e],by rw [u];simp;omega,?_⟩
  have c:=S.kept_type B s
  rw [C] at c
  have x:gN r.right.graph (i:Int)=r.right.graph.nodes[i]:=by simp [gN,aA o]
  have j:r.keep.nodes[p].toNat<r.left.graph.nodes.length:=aD
  have y:gN r.left.graph r.keep.nodes[p]=r.left.graph.nodes[r.keep.nodes[p].toNat]:=by simp [gN,aA j]
  rw [x,y] at c
  rw [c]
  have q:=(S.hm.img _ d j).2
  have v:(bI t r h m).graph.nodes[n]?=some (h.graph.nodes[(m.m.nodes[r.keep.nodes[p].toNat]).toNat]?.getD 0):=by
   rw [u,aT (bS hn),aH,aA hn,c6,g,l];rfl
  obtain ⟨_,b⟩:=aL.1 v
  rw [b];exact q
 .have hmf:mem r.into.nodes i=false:=bN.2 λh=>hm ((cQ _ _).1 h)
  have e:Lg r.keep.nodes r.into.nodes (uE m.m.nodes (dJ r h m).nodes) (bY r h m).nodes.length i=(((bY r h m).nodes.length+(bF r.into.nodes i).length:Nat):Int):=by
   unfold Lg
   rw [if_neg (by rw [pB hm _ (bC _)];omega),Ks k]
  have f:=C7 r.right.graph.nodes.length i o hmf
  have F:(bF r.into.nodes i).length<r.freshN.length:=(aL.1 f).1
  refine ⟨(bY r h m).nodes.length+(bF r.into.nodes i).length,by rw [e],by rw [u];simp;omega,?_⟩
  have v:(bI t r h m).graph.nodes[(bY r h m).nodes.length+(bF r.into.nodes i).length]?=some r.right.graph.nodes[i]:=by
   rw [u,bB aF,aS,nS,aH]
   have:r.freshN[(bF r.into.nodes i).length]?=some (i:Int):=f
   rw [this];simp [gN,aA o]
  obtain ⟨_,b⟩:=aL.1 v
  rw [b]
  unfold Ay
  have:=RG w (a:=(r.right.graph.nodes[i]).toNat) aD
  rw [show (((r.right.graph.nodes[i]).toNat:Nat):Int)=r.right.graph.nodes[i] by omega] at this
  exact this
theorem StepIn.vlen (S:StepIn t r h m):(bI t r h m).values.length=(bI t r h m).graph.nodes.length:=by rw [S.bareN,JC];simp
theorem Tc {k:Int}(b:(cH t).2=0)(f:0<=k)(e:k<t.nodes.length)(c:k7 t k.toNat=false):jR t k (oA t k)=0:=by
 unfold jR
 rw [if_neg aD,if_neg (by rw [c];simp),if_neg (by simp [oA])]
 refine iJ _ _ λj _ d=>?_
 have a:j<(bM t k).length:=aD
 unfold H5 oA
 rw [aH,aA a,c6,Option.getD_some,Option.getD_some,if_neg]
 have:=(Cy b k _ (aC a)).le
 omega
theorem StepIn.fresh_node (S:StepIn t r h m):∀ k∈r.freshN,(0<=gN r.right.graph k/\gN r.right.graph k<t.nodes.length)/\k7 t (gN r.right.graph k).toNat=false:=λk hk=>by
 have hr:=nF hk
 have hin:=(jT S.hR.gr S.hR.tr).1 _ (yX hr.1 hr.2)
 refine ⟨hin,?_⟩
 have:=S.hR.mkb
 unfold AL at this
 rw [aN,cG,jP] at this
 have h1:=this.1 k hk
 unfold absB at h1
 unfold k7
 rw [aA (aD:(gN r.right.graph k).toNat<t.nodes.length)] at h1 ⊢
 simpa using h1
theorem StepIn.node (S:StepIn t r h m):∀ (n:Nat) (h1:n<(bI t r h m).graph.nodes.length) (h2:n<(bI t r h m).values.length),jR t (bI t r h m).graph.nodes[n] (bI t r h m).values[n]=0:=λn h1 h2=>by
 have e1:=S.bareN
 have e2:(bI t r h m).values=_:=JC
 have g1:(bI t r h m).graph.nodes[n]?=some (bI t r h m).graph.nodes[n]:=aA h1
 have g2:(bI t r h m).values[n]?=some (bI t r h m).values[n]:=aA h2
 generalize (bI t r h m).graph.nodes[n]=x at *
 generalize (bI t r h m).values[n]=y at *
 rw [e1] at g1;rw [e2] at g2
 by_cases hn:n<(bY r h m).nodes.length
 .rw [aT (bS hn),aH,aA hn] at g1 g2
  simp only [c6,bD] at g1 g2
  have hv:=S.nin _ (aC hn)
  have hl:=S.ho.vl
  have a1:(bY r h m).nodes[n].toNat<h.graph.nodes.length:=aD
  have a2:(bY r h m).nodes[n].toNat<h.values.length:=aD
  rw [aA a2] at g2
  unfold gN at g1
  rw [aA a1] at g1
  have:=S.ho.nd _ a1 a2
  rw [<- g1,<- g2];exact this
 .have l1:((bY r h m).nodes.map (gN h.graph)).length=(bY r h m).nodes.length:=aF
  have l2:((bY r h m).nodes.map λk=>h.values[k.toNat]?.getD []).length=(bY r h m).nodes.length:=aF
  rw [bB aD,l1,aH,bL] at g1
  rw [bB aD,l2,aH,bL] at g2
  obtain ⟨k,hk,rfl⟩:=g1
  obtain ⟨k',hk',rfl⟩:=g2
  rw [hk] at hk';cases hk'
  obtain ⟨⟨b1,b2⟩,b3⟩:=S.fresh_node k (aI hk)
  exact Tc S.hR.vf b1 b2 b3
theorem StepIn.bin (S:StepIn t r h m):∀ a∈(bI t r h m).graph.nodes,0<=a/\a<t.nodes.length:=λa ha=>by
 rw [S.bareN,aV,aQ,aQ] at ha
 rcases ha with ⟨k,hk,rfl⟩|⟨k,hk,rfl⟩
 .exact tD S.ho _ (yX (S.nin k hk).1 (S.nin k hk).2)
 .exact (S.fresh_node k hk).1
theorem StepIn.put (S:StepIn t r h m):PutOk t r (bI t r h m) (dO r h m):=by
 have v:=S.len
 have w:=cJ S.hR.gr
 have q:r.freshN.length<=r.right.graph.nodes.length:=s5 _ _
 have p:r.freshE.length<=r.right.graph.edges.length:=s5 _ _
 have y:(bI t r h m).graph.nodes.length<=80:=by rw [S.bareN];simp;omega
 have z:(bI t r h m).graph.edges.length<=160:=by rw [S.bareE];simp;omega
 have x:=S.vlen
 have d:∀ s∈r.right.slots,∃ n:Nat,(dO r h m).nodes[s.node.toNat]?=some (n:Int)/\∃ a:n<(bI t r h m).graph.nodes.length,s.attr<(bM t (bI t r h m).graph.nodes[n]).length:=λs e=>by
  obtain ⟨⟨C,B⟩,l,A⟩:=S.hR.slots s e
  have k:s.node.toNat<r.right.graph.nodes.length:=aD
  obtain ⟨n,c,a,g⟩:=S.com k
  refine ⟨n,c,a,?_⟩
  rw [aA k,Option.getD_some] at l
  have b:=(jT S.hR.gr S.hR.tr).1 _ (aC k)
  have i:=(rX (S.node n a aD)).1
  have j:=(S.bin _ (aC a)).1
  rw [rI S.hR.vf b.1 b.2] at l
  rw [rI S.hR.vf j i]
  unfold Ay at g
  obtain ⟨u,o⟩:=JF (mR S.hR.vf) ((bI t r h m).graph.nodes[n]).toNat aD (r.right.graph.nodes[s.node.toNat]).toNat (by rw [Int.toNat_of_nonneg b.1];exact g)
  rw [o,aJ];omega
 refine ⟨by simp [dO,N4],⟨aD,aD,aD⟩,λs e=>?_,λs e=>?_⟩
 .obtain ⟨n,c,a,g⟩:=d s e
  have:eE (dO r h m) s=n:=by unfold eE;rw [c];simp
  rw [this,c]
  exact ⟨by simp,aD,a⟩
 .obtain ⟨n,c,a,g⟩:=d s e
  have:eE (dO r h m) s=n:=by unfold eE;rw [c];simp
  have f:n<(bI t r h m).values.length:=aD
  rw [this,aA f,aA a,Option.getD_some,Option.getD_some]
  have:=(rX (S.node n a f)).2.2.1
  exact ⟨aD,g⟩
end
def uR:Pattern:=⟨⟨[],[]⟩,[],0,[]⟩
def sQ:Rule:=⟨⟨#[]⟩,uR,uR,⟨[],[]⟩,⟨[],[]⟩,false,.mk 0 [] ⟨[],[]⟩ uR⟩
def sK:Stp26:=⟨sQ,mO,⟨⟨[],[]⟩,[]⟩,⟨⟨[],[]⟩,[]⟩,⟨[],[]⟩,⟨[],[]⟩⟩
def pU (t:Types)(r:Rule)(h:Host)(m:Mat):Stp26:=if wN t r h m=0 then b9 t r h m else sK
@[go_sem] theorem Stp26.cl (s:Stp26):D.clL s.c=true:=by
 simp [Stp26.c,Bf,Rule.cl,Mat.cl,NW,D.clL,oF]
section
variable {t:Types} {r:Rule} {h:Host} {m:Mat}
theorem StepIn.ex (S:StepIn t r h m)(hh:fA t h=0):exH t h (bY r h m)=⟨b5 h.graph (bY r h m),(bY r h m).nodes.map λk=>h.values[k.toNat]?.getD []⟩:=by
 unfold exH;rw [if_pos]
 unfold exE;rw [if_neg aD];exact S.sub
theorem StepIn.eimg (S:StepIn t r h m):(∀ x∈m.m.nodes,0<=x/\x<h.graph.nodes.length)/\∀ x∈m.m.edges,0<=x/\x<h.graph.edges.length:=by
 refine ⟨λx a=>?_,λx a=>?_⟩
 .obtain ⟨i,b,rfl⟩:=aK a
  exact (S.hm.img i b (by have:=S.hm.len;omega)).1
 .obtain ⟨i,b,rfl⟩:=aK a
  exact S.hm.eimg i b
end
theorem Rt {t:Types}{r:Rule}{h:Host}{m:Mat}(S:StepIn t r h m)(a:vV t r h m=0):MatOk t r.left h m:=by
 unfold vV at a
 split at a
 .cases a
 .split at a
  .exact absurd a (by assumption)
  .rename_i h2
   split at a
   .cases a
   .rename_i h3
    rw [iD] at h2 h3
    obtain ⟨_,_,_,d⟩:=QU h2
    rw [d] at h2 h3
    obtain ⟨c,b⟩:=Fh (W4 S.hR.pl S.ho S.hm) (vs:=[]) aF aF h2
    rw [h3] at c b
    exact ⟨S.hm,c,b⟩
theorem sG (a b:List Int):Part.le ⟨a,b⟩↔a.length<=1000000000000000/\b.length<=1000000000000000:=⟨λh=>⟨h.1,h.2⟩,λh=>⟨h.1,h.2⟩⟩
theorem UL (t:Types)(p:Pattern)(b:p.graph.nodes.length<=1000)(a:p.graph.edges.length<=1000)(x:B4):(yZ t p x).le:=by
 unfold yZ
 split
 .simp [forbC,trueC,Cond.le,Cond.les,gM,sG];omega
 .split
  .split
   .simp [trueC,Cond.le,Cond.les,sG]
   .simp [forbC,trueC,Cond.le,Cond.les,gM,sG];omega
  .simp [trueC,Cond.le,Cond.les,sG]
theorem Iy (t:Types)(d:Dr24):(AW t d).le:=by
 have a:=uY t d.left
 have b:=I5 (eF t d.left).graph d.keep
 have c:=Cg (eF t d.left).graph (wZ (eF t d.left).graph d.keep)
 refine ⟨⟨?_,?_⟩,⟨?_,?_⟩,?_⟩
 .show (wZ (eF t d.left).graph d.keep).nodes.length<=_;omega
 .show (wZ (eF t d.left).graph d.keep).edges.length<=_;omega
 .show (List.take _ _).length<=_;rw [bQ];unfold mU qF;omega
 .show (List.take _ _).length<=_;rw [bQ];unfold mU qF;omega
 .exact UL t _ aD aD d.forbid
theorem RA (t:Types)(d:Dr24):(v6 t d).le:=by
 unfold v6
 split
 .have h:=Iy t d
  exact ⟨h.1,h.2,by simp [BQ,trueC,Cond.le,Cond.les,sG]⟩
 .exact Iy t d
theorem GA {t:Types}(d:t.valid):∀ c:Nat,c<t.nodes.length->∀ (b:Nat) (a:Int),mem (t.line c) (b:Int)=true->mem (t.line b) a=true->mem (t.line c) a=true:=by
 intro c
 induction c using Nat.strongRecOn with
 | _ c ih =>
 intro g b a hb h
 have f:=d.parent c _ (aA g)
 have e:=yP t c g (d.parentsOK c)
 rw [e,uW,cO] at hb
 rcases hb with hb|hb
 .by_cases h0:0<=t.nodes[c].parent
  .rw [if_pos h0] at hb
   rw [e,uW,cO,if_pos h0]
   exact .inl (ih _ aD aD b a hb h)
  .rw [if_neg h0,zS] at hb;cases hb
 .have:b=c:=by simp at hb;omega
  subst this;exact h
theorem RT {t:Types}(i:(cH t).2=0){ty a b e d:Int}(h:kS t ty a b=true)(g:Ay t a e=true)(f:Ay t b d=true)(k:0<=e/\e<t.nodes.length)(j:0<=d/\d<t.nodes.length):kS t ty e d=true:=by
 have c:=mR i
 unfold kS at h ⊢
 simp only [aN,decide_eq_true_eq] at h ⊢
 obtain ⟨⟨o,n⟩,m,l⟩:=h
 obtain ⟨_,q,p⟩:=p7 o
 unfold Ay at g f
 rw [show a=((a.toNat:Nat):Int) by omega] at g
 rw [show b=((b.toNat:Nat):Int) by omega] at f
 refine ⟨⟨?_,n⟩,GA c _ aD a.toNat _ g m,GA c _ aD b.toNat _ f l⟩
 simp [given2F,i,insideF,k,j]
section
variable {t:Types} {r:Rule} {h:Host} {m:Mat}
theorem UJ {l a:List Int}{es:List Edge}{g:Graph}{n:Int}(d:0<=n)(c:n<l.length)(b:g.nodes=l++a):gN g n=l[n.toNat]?.getD 0:=by
 unfold gN;rw [b,aT aD]
theorem StepIn.edge (S:StepIn t r h m):∀ x∈(bI t r h m).graph.edges,((0<=x.type/\x.type<t.edges.length)/\(0<=x.from_/\x.from_<(bI t r h m).graph.nodes.length)/\(0<=x.to_/\x.to_<(bI t r h m).graph.nodes.length)) /\
  kS t x.type (gN (bI t r h m).graph x.from_) (gN (bI t r h m).graph x.to_)=true:=λx hx=>by
 have hbN:=S.bareN
 have hbin:=S.bin
 rw [S.bareE,aV,aQ,aQ] at hx
 rcases hx with ⟨k,hk,rfl⟩|⟨k,hk,rfl⟩
 .have hr:=S.ein k hk
  have hy:=t7 hr.1 hr.2
  obtain ⟨e1,e2⟩:=S.ho.ed _ hy
  have hgi:=(dF S.ho.gg).2 _ hy
  obtain ⟨s1,s2⟩:=pT S.sub hk
  obtain ⟨p1,p2,_⟩:=Kn S.nasc s1
  obtain ⟨q1,q2,_⟩:=Kn S.nasc s2
  have key:∀ v:Int,v∈(bY r h m).nodes->pY (bY r h m).nodes v<(bY r h m).nodes.length->iA (bY r h m).nodes (pY (bY r h m).nodes v)=v->gN (bI t r h m).graph (pY (bY r h m).nodes v)=gN h.graph v:=λv hv hp hi=>by
   rw [UJ (es:=[]) aD (bS hp) hbN,show ((pY (bY r h m).nodes v:Nat):Int).toNat=pY (bY r h m).nodes v by omega,aH]
   unfold iA at hi
   rw [show ((pY (bY r h m).nodes v:Nat):Int).toNat=pY (bY r h m).nodes v by omega,aA hp,Option.getD_some] at hi
   rw [aA hp,c6,Option.getD_some,hi]
  have hl:(bI t r h m).graph.nodes.length=(bY r h m).nodes.length+r.freshN.length:=by rw [hbN];simp
  rw [KF]
  refine ⟨⟨⟨hgi.1.1,e1⟩,⟨by simp only;omega,by simp only;omega⟩,by simp only;omega,by simp only;omega⟩,?_⟩
  simp only
  rw [key _ s1 p1 p2,key _ s2 q1 q2];exact e2
 .have hr:=nF hk
  have hk2:k.toNat<r.right.graph.edges.length:=aD
  have hy:=(jT S.hR.gr S.hR.tr).2 _ (aC hk2)
  rw [aA hk2,Option.getD_some]
  obtain ⟨y,hye⟩:=cC (r.right.graph.edges[k.toNat])
  rw [<- hye] at hy ⊢
  have hf:y.from_.toNat<r.right.graph.nodes.length:=aD
  have ht:y.to_.toNat<r.right.graph.nodes.length:=aD
  obtain ⟨n1,c1,l1,b1⟩:=S.com hf
  obtain ⟨n2,c2,l2,b2⟩:=S.com ht
  unfold freshE
  rw [c1,c2]
  simp only [Option.getD_some]
  have hfit:kS t y.type r.right.graph.nodes[y.from_.toNat] r.right.graph.nodes[y.to_.toNat]=true:=by
   have:=S.hR.mkb
   unfold AL at this
   rw [aN,cG,cG,jP,jP] at this
   have h1:=this.2 k hk
   unfold unfitB at h1
   rw [aA hk2,Option.getD_some,<- hye] at h1
   unfold gN at h1
   rw [aA hf,aA ht] at h1
   simpa using h1
  have e1:gN (bI t r h m).graph (n1:Int)=(bI t r h m).graph.nodes[n1]:=by simp [gN,aA l1]
  have e2:gN (bI t r h m).graph (n2:Int)=(bI t r h m).graph.nodes[n2]:=by simp [gN,aA l2]
  refine ⟨⟨⟨hy.1.1,hy.1.2⟩,⟨aD,aD⟩,aD,aD⟩,?_⟩
  rw [e1,e2]
  exact RT S.hR.vf hfit b1 b2 (hbin _ (aC l1)) (hbin _ (aC l2))
theorem GM {x:Host}(f:(cH t).2=0)(h:x.graph.nodes.length<=40)(l:x.graph.edges.length<=80)(s:x.values.length=x.graph.nodes.length)(m:∀ a∈x.graph.nodes,0<=a/\a<t.nodes.length)
  (d:∀ (n:Nat) (p:n<x.graph.nodes.length) (w:n<x.values.length),jR t x.graph.nodes[n] x.values[n]=0)
  (c:∀ y∈x.graph.edges,((0<=y.type/\y.type<t.edges.length)/\(0<=y.from_/\y.from_<x.graph.nodes.length)/\(0<=y.to_/\y.to_<x.graph.nodes.length))/\kS t y.type (gN x.graph y.from_) (gN x.graph y.to_)=true):fA t x=0:=by
 have v:=(mR f).fewN
 have k:=(mR f).fewE
 have u:graphF x.graph=0:=o7 h l (λa o=>by have:=m a o;omega) λy g=>by
  obtain ⟨⟨r,e,q⟩,_⟩:=c y g
  exact ⟨aD,e,q⟩
 have p:(kH (Pf t x) 0 x.graph.nodes.length).2=0:=by
  rw [tF]
  refine iJ _ _ λj _ i=>?_
  have b:j<x.graph.nodes.length:=aD
  unfold Pf
  rw [aA b,aA (aD:j<x.values.length),Option.getD_some,Option.getD_some]
  exact d j b aD
 unfold fA yT
 rw [if_neg aD,if_neg aD,if_neg aD,if_neg aD,tF]
 refine iJ _ _ λj _ i=>?_
 have b:j<x.graph.edges.length:=aD
 obtain ⟨r,e⟩:=c _ (aC b)
 unfold Vs
 rw [aA b,Option.getD_some,if_neg aD,if_pos e]
theorem P8 {g:Graph}{c:Part}{vs:List Int}:∀ (l:List Slot) (vals:List (List Int)),vals.length=g.nodes.length->(∀ (n:Nat) (h1:n<g.nodes.length) (h2:n<vals.length),jR t g.nodes[n] vals[n]=0) ->
  (∀ s∈l,Ao t g c vs s=false)->(∀ s∈l,0<=s.attr)->∀ (n:Nat) (h1:n<g.nodes.length) (h2:n<(sL c vs l vals).length),jR t g.nodes[n] (sL c vs l vals)[n]=0
 | [],vals,_,hx,_,_=>λn h1 h2=>hx n h1 h2
 | s :: l,vals,hl,hx,ho,ha=>by
  refine P8 l (vals.set (eE c s) ((vals[eE c s]?.getD []).set s.attr.toNat (dE s.term vs))) (by rw [c7];exact hl) (λn h1 h2=>?_) (λs hs=>ho s (by simp [hs])) (λs hs=>ha s (by simp [hs]))
  rw [c7] at h2
  have hI:=hx n h1 h2
  rw [Al]
  split
  .rename_i hs'
   subst hs'
   rw [aA h2,Option.getD_some]
   obtain ⟨a1,a2,a3,a4⟩:=rX hI
   unfold jR
   rw [if_neg aD,if_neg (by rw [a2];simp),if_neg (by rw [c7];omega)]
   refine iJ _ _ λj _ hj=>?_
   have hja:j<(bM t g.nodes[eE c s]).length:=aD
   unfold H5
   rw [aA hja,Option.getD_some]
   by_cases hj2:s.attr.toNat=j
   .have e:((vals[eE c s]).set s.attr.toNat (dE s.term vs))[j]?=some (dE s.term vs):=by rw [<- hj2];exact fK aD
    rw [e,Option.getD_some,if_neg]
    have hO:=ho s aF
    unfold Ao at hO
    rw [aA h1,Option.getD_some,hj2,aA hja,Option.getD_some,Bool.or_eq_false_iff,decide_eq_false_iff_not,decide_eq_false_iff_not] at hO
    omega
   .rw [iZ hj2,aA (aD:j<(vals[eE c s]).length),Option.getD_some,if_neg]
    have:=a4 j aD hja
    omega
  .exact hI
theorem StepIn.after (S:StepIn t r h m)(a:xJ t (bI t r h m).graph (dO r h m) m.vars r.right.slots=0)(e:(bI t r h m).graph.nodes.length<=40)(f:(bI t r h m).graph.edges.length<=80):fA t (dR t r h m)=0:=by
 have d:∀ s∈r.right.slots,Ao t (bI t r h m).graph (dO r h m) m.vars s=false:=by
  unfold xJ at a
  split at a
  .cases a
  .split at a
   .cases a
   .rename_i b
    rw [Bool.not_eq_true,jP] at b
    exact λs c=>by simpa using b s c
 exact GM S.hR.vf e f (by show (sL _ _ _ _).length=_;rw [(rN _ _ _ _).1];exact S.vlen) S.bin (λn g b=>P8 _ _ S.vlen S.node d (λs c=>(S.hR.slots s c).2.1.1) n g b) S.edge
end
mutual
def mI:Cond→Bool
 | .mk k l m p=>BX l&&decide ((p.graph.nodes.length:Int)+p.graph.edges.length≤6)
def BX:List Cond→Bool
 | []=>true
 | c :: l=>mI c&&BX l
end
theorem MG (l:List Cond):BX l=l.all mI:=by
 induction l with
 | nil=>simp [BX]
 | cons a l ih=>simp [BX,ih]
theorem A0 (c:Cond):mI c=(c.kids.all mI&&decide ((c.pattern.graph.nodes.length:Int)+c.pattern.graph.edges.length<=6)):=by
 cases c;simp only [mI,MG,Cond.kids,Cond.pattern];try rfl
theorem uB {α:Type}(l:List α)(p:α->Bool){i:Nat}(h:i<l.length):(l.take (i+1)).all p=((l.take i).all p&&p l[i]):=by
 rw [List.take_succ_eq_append_getElem h,List.all_append];simp
theorem Kj:∀ c:Cond,c.ok->Pure Tryz.prog 133 [.agg c.c] (.bool (mI c)):=by
 refine k8 λc m o=>?_
 obtain ⟨k,n⟩:=(tO c).1 o
 have p1:=k.p1
 have p2:=k.p2
 refine Tz.pK ⟨λ_=>false,λ_=>[]⟩ Tryz.func133 rfl (λQ l=>?_)
 have Y:=@Cond.c_eq
 refine wv (h:=bV (λi e H=>(e 1=.adr c.c/\e 3=dI i)/\(i<=c.kids.length)/\((c.kids.take i).all mI=true)) (λi=>c.kids.length - i) 0 ⟨wg,wi,(by rfl)⟩ λr f i e H b=>?_)
 obtain ⟨p,q,d⟩:=b
 have Y:=wa Y p
 refine wv (h:=?_)
 repeat first|intro _|refine ⟨gL,?_⟩
 refine wq (λa=>?_) λa=>?_
 .have Y:=wa Y (wa a (aA a))
  refine wo (h:=aB ((by have:=m _ (aC a) (n _ (aC a));rwa [Cond.c_eq] at this)) wl ?_)
  refine wv (h:=?_)
  repeat first|intro _|refine ⟨gL,?_⟩
  refine wq (λj=>?_) λj=>?_
  .refine wv (h:=?_)
   have g:mI c=false:=by
    have:c.kids.all mI=false:=by
     rw [bN];intro h;exact absurd (cD.1 h _ (aC a)) (bS j)
    rw [A0,this];rfl
   exact l _ _ (by simp [go_sem,g])
  .exact wo (h:=wx f (i+1) ⟨wg,wj,(by rw [uB _ _ a,d];simpa using j)⟩)
 .have hA:c.kids.all mI=true:=by rw [aY aD] at d;exact d
  have g:mI c=decide ((c.pattern.graph.nodes.length:Int)+c.pattern.graph.edges.length<=6):=by rw [A0,hA];rfl
  exact wo (h:=l _ _ (by simp [go_sem,g]))
def XJ (p q:Pattern):Int:=((14 ^ (q.graph.nodes.length - p.graph.nodes.length) * 18 ^ (q.graph.edges.length - p.graph.edges.length):Nat):Int)
def IS (k:Int)(p' p:Pattern):Pattern:=if k=5 then p' else p
mutual
def l9:Cond→Pattern→Bool
 | .mk k l m p',p=>Hh l (IS k p' p)&&decide (XJ p (IS k p' p)≤5000)
def Hh:List Cond→Pattern→Bool
 | [],_=>true
 | c :: l,q=>l9 c q&&Hh l q
end
theorem PI (l:List Cond)(q:Pattern):Hh l q=l.all λc=>l9 c q:=by
 induction l with
 | nil=>simp [Hh]
 | cons a l ih=>simp [Hh,ih]
theorem Ag (c:Cond)(p:Pattern):l9 c p=((c.kids.all λk=>l9 k (IS c.kind c.pattern p))&&decide (XJ p (IS c.kind c.pattern p)<=5000)):=by
 cases c;simp only [l9,PI,Cond.kids,Cond.pattern,Cond.kind];try rfl
theorem rC {a j:Nat}(ha:1<=a)(hj:j<=6):a ^ j<=a ^ 6/\1<=a ^ j:=⟨Nat.pow_le_pow_right ha hj,by first|exact Nat.one_le_pow _ _ ha|exact Nat.pow_pos ha|exact Nat.pos_pow_of_pos _ ha⟩
theorem JS (q:Pattern):q.c.take 5=q.c:=rfl
theorem HR:∀ c:Cond,c.ok->mI c=true->∀ p:Pattern,p.graph.nodes.length<=1000000->p.graph.edges.length<=1000000->Pure Tryz.prog 134 [p.d,.agg c.c,dI 14,dI 18] (.bool (l9 c p)):=by
 refine k8 λc Z hc O p a1 a0=>?_
 obtain ⟨hs,hk⟩:=(tO c).1 hc
 have q1:=hs.p1
 have q2:=hs.p2
 rw [A0] at O
 simp only [aN,decide_eq_true_eq,cD] at O
 obtain ⟨q,D⟩:=eX (IS c.kind c.pattern p)
 have m:q.graph.nodes.length - p.graph.nodes.length<=6/\q.graph.edges.length - p.graph.edges.length<=6/\q.graph.nodes.length<=1000000/\q.graph.edges.length<=1000000:=by
  rw [<- D];unfold IS;split<;>omega
 refine Tz.pK ⟨λt=>t==9,λ_=>[]⟩ Tryz.func134 rfl (λQ P=>?_)
 have Y:=@Cond.c_eq
 refine d7 (λU=>?_) λU=>?_
 .have hqc:c.pattern=q:=by rw [<- D];exact (if_pos U).symm
  refine wp (h:=bV (λi e H=>∃ w:Nat,(e 4=.adr p.c/\e 5=.adr c.c/\e 2=dI 14/\e 3=dI 18/\e 9=.ptr 0 1 0 0/\e 10=dI w/\e 11=dI i)/\(H.get 0=some ⟨33,5,[q.c],false⟩)/\(0<H.next)/\(p.graph.nodes.length<=i)/\(i<=q.graph.nodes.length\/i=p.graph.nodes.length)/\(w=14 ^ (i - p.graph.nodes.length))) (λi=>q.graph.nodes.length - i) p.graph.nodes.length ⟨1,wg,(by simp [go_sem,hqc,JS]),wn,wi,wi,(by simp)⟩ λI0 K i e H F=>?_)
  obtain ⟨w,X,A,r,hi,s,B⟩:=F
  have Y:=wa Y (wa X (wa A (b8 r)))
  refine wv (h:=?_)
  repeat first|intro _|refine ⟨eK,?_⟩
  refine wq (λN=>?_) λN=>?_
  .have f:=(rC (a:=14) (j:=i - p.graph.nodes.length) aD aD).1
   rw [<- B] at f
   have g:w<=7529536:=f
   have Y:=wa Y N
   exact wp (h:=wx K (i+1) ⟨(w * 14),wg,(by simp [go_sem,Y]),wn,wj,wj,(by rw [(aD:i+1 - p.graph.nodes.length=(i - p.graph.nodes.length)+1),Nat.pow_succ,B])⟩)
  .have hw':w=14 ^ (q.graph.nodes.length - p.graph.nodes.length):=by rw [B];congr 1;omega
   have f:=(rC (a:=14) (j:=q.graph.nodes.length - p.graph.nodes.length) aD m.1).1
   rw [<- hw'] at f
   have g:w<=7529536:=f
   refine wp (h:=bV (λk e H=>∃ v:Nat,(e 4=.adr p.c/\e 5=.adr c.c/\e 2=dI 14/\e 3=dI 18/\e 9=.ptr 0 1 0 0/\e 10=dI v/\e 12=dI k)/\(H.get 0=some ⟨33,5,[q.c],false⟩)/\(0<H.next)/\(p.graph.edges.length<=k)/\(k<=q.graph.edges.length\/k=p.graph.edges.length)/\(v=w * 18 ^ (k - p.graph.edges.length))) (λk=>q.graph.edges.length - k) p.graph.edges.length ⟨w,wg,(by simp [go_sem,Y]),wn,wi,wi,(by simp)⟩ λI2 J k e H s=>?_)
   obtain ⟨v,W,z,o,T,S,C⟩:=s
   have Y:=wa Y (wa W (wa z (b8 o)))
   refine wv (h:=?_)
   repeat first|intro _|refine ⟨eK,?_⟩
   refine wq (λu=>?_) λu=>?_
   .have hvb:=(rC (a:=18) (j:=k - p.graph.edges.length) aD aD).1
    have M:v<=7529536 * 34012224:=by rw [C];exact mE g hvb
    have Y:=wa Y u
    exact wp (h:=wx J (k+1) ⟨(v * 18),wg,(by simp [go_sem,Y]),wn,wj,wj,(by rw [(aD:k+1 - p.graph.edges.length=(k - p.graph.edges.length)+1),Nat.pow_succ,C,Nat.mul_assoc])⟩)
   .have hv':v=w * 18 ^ (q.graph.edges.length - p.graph.edges.length):=by rw [C];congr 2;omega
    refine wv (h:=bV (λj e H=>(e 4=.adr p.c/\e 5=.adr c.c/\e 2=dI 14/\e 3=dI 18/\e 9=.ptr 0 1 0 0/\e 10=dI v/\e 13=dI j)/\(H.get 0=some ⟨33,5,[q.c],false⟩)/\(0<H.next)/\(j<=c.kids.length)/\((c.kids.take j).all (λx=>l9 x q)=true)) (λj=>c.kids.length - j) 0 ⟨wg,(by simp [go_sem,Y]),wn,wi,(by rfl)⟩ λI4 I j e H E=>?_)
    obtain ⟨V,y,n,hj,G⟩:=E
    have Y:=wa Y (wa V (wa y (b8 n)))
    refine wv (h:=?_)
    repeat first|intro _|refine ⟨eK,?_⟩
    refine wq (λb=>?_) λb=>?_
    .have Y:=wa Y (wa b (wa (aA b) @JS))
     refine wp (h:=aM ((by have R:=Z _ (aC b) (hk _ (aC b)) (O.1 _ (aC b)) q m.2.2.1 m.2.2.2;rwa [Cond.c_eq] at R)) wl ?_)
     refine wv (h:=?_)
     repeat first|intro _|refine ⟨eK,?_⟩
     refine wq (λl=>?_) λl=>?_
     .refine wv (h:=?_)
      have L:l9 c p=false:=by
       have:(c.kids.all λx=>l9 x q)=false:=by
        rw [bN];intro h;exact absurd (cD.1 h _ (aC b)) (bS l)
       rw [Ag,D,this];rfl
      exact P _ _ (by simp [go_sem,L])
     .exact wp (h:=wx I (j+1) ⟨wg,(by simp [go_sem,Y]),wn,wj,(by rw [uB _ _ b,G];simpa using l)⟩)
    .have hA:(c.kids.all λx=>l9 x q)=true:=by rw [aY aD] at G;exact G
     have L:l9 c p=decide ((v:Int)<=5000):=by rw [Ag,D,hA,hv',hw'];rfl
     exact wv (h:=P _ _ (by simp [go_sem,L]))
 .have hqc:p=q:=by rw [<- D];exact (if_neg U).symm
  refine wp (h:=bV (λi e H=>∃ w:Nat,(e 4=.adr p.c/\e 5=.adr c.c/\e 2=dI 14/\e 3=dI 18/\e 9=.ptr 0 1 0 0/\e 10=dI w/\e 11=dI i)/\(H.get 0=some ⟨33,5,[q.c],false⟩)/\(0<H.next)/\(p.graph.nodes.length<=i)/\(i<=q.graph.nodes.length\/i=p.graph.nodes.length)/\(w=14 ^ (i - p.graph.nodes.length))) (λi=>q.graph.nodes.length - i) p.graph.nodes.length ⟨1,wg,(by simp [go_sem,hqc,JS]),wn,wi,wi,(by simp)⟩ λI0 K i e H F=>?_)
  obtain ⟨w,X,A,r,hi,s,B⟩:=F
  have Y:=wa Y (wa X (wa A (b8 r)))
  refine wv (h:=?_)
  repeat first|intro _|refine ⟨eK,?_⟩
  refine wq (λN=>?_) λN=>?_
  .have f:=(rC (a:=14) (j:=i - p.graph.nodes.length) aD aD).1
   rw [<- B] at f
   have g:w<=7529536:=f
   have Y:=wa Y N
   exact wp (h:=wx K (i+1) ⟨(w * 14),wg,(by simp [go_sem,Y]),wn,wj,wj,(by rw [(aD:i+1 - p.graph.nodes.length=(i - p.graph.nodes.length)+1),Nat.pow_succ,B])⟩)
  .have hw':w=14 ^ (q.graph.nodes.length - p.graph.nodes.length):=by rw [B];congr 1;omega
   have f:=(rC (a:=14) (j:=q.graph.nodes.length - p.graph.nodes.length) aD m.1).1
   rw [<- hw'] at f
   have g:w<=7529536:=f
   refine wp (h:=bV (λk e H=>∃ v:Nat,(e 4=.adr p.c/\e 5=.adr c.c/\e 2=dI 14/\e 3=dI 18/\e 9=.ptr 0 1 0 0/\e 10=dI v/\e 12=dI k)/\(H.get 0=some ⟨33,5,[q.c],false⟩)/\(0<H.next)/\(p.graph.edges.length<=k)/\(k<=q.graph.edges.length\/k=p.graph.edges.length)/\(v=w * 18 ^ (k - p.graph.edges.length))) (λk=>q.graph.edges.length - k) p.graph.edges.length ⟨w,wg,(by simp [go_sem,Y]),wn,wi,wi,(by simp)⟩ λI2 J k e H s=>?_)
   obtain ⟨v,W,z,o,T,S,C⟩:=s
   have Y:=wa Y (wa W (wa z (b8 o)))
   refine wv (h:=?_)
   repeat first|intro _|refine ⟨eK,?_⟩
   refine wq (λu=>?_) λu=>?_
   .have hvb:=(rC (a:=18) (j:=k - p.graph.edges.length) aD aD).1
    have M:v<=7529536 * 34012224:=by rw [C];exact mE g hvb
    have Y:=wa Y u
    exact wp (h:=wx J (k+1) ⟨(v * 18),wg,(by simp [go_sem,Y]),wn,wj,wj,(by rw [(aD:k+1 - p.graph.edges.length=(k - p.graph.edges.length)+1),Nat.pow_succ,C,Nat.mul_assoc])⟩)
   .have hv':v=w * 18 ^ (q.graph.edges.length - p.graph.edges.length):=by rw [C];congr 2;omega
    refine wv (h:=bV (λj e H=>(e 4=.adr p.c/\e 5=.adr c.c/\e 2=dI 14/\e 3=dI 18/\e 9=.ptr 0 1 0 0/\e 10=dI v/\e 13=dI j)/\(H.get 0=some ⟨33,5,[q.c],false⟩)/\(0<H.next)/\(j<=c.kids.length)/\((c.kids.take j).all (λx=>l9 x q)=true)) (λj=>c.kids.length - j) 0 ⟨wg,(by simp [go_sem,Y]),wn,wi,(by rfl)⟩ λI4 I j e H E=>?_)
    obtain ⟨V,y,n,hj,G⟩:=E
    have Y:=wa Y (wa V (wa y (b8 n)))
    refine wv (h:=?_)
    repeat first|intro _|refine ⟨eK,?_⟩
    refine wq (λb=>?_) λb=>?_
    .have Y:=wa Y (wa b (wa (aA b) @JS))
     refine wp (h:=aM ((by have R:=Z _ (aC b) (hk _ (aC b)) (O.1 _ (aC b)) q m.2.2.1 m.2.2.2;rwa [Cond.c_eq] at R)) wl ?_)
     refine wv (h:=?_)
     repeat first|intro _|refine ⟨eK,?_⟩
     refine wq (λl=>?_) λl=>?_
     .refine wv (h:=?_)
      have L:l9 c p=false:=by
       have:(c.kids.all λx=>l9 x q)=false:=by
        rw [bN];intro h;exact absurd (cD.1 h _ (aC b)) (bS l)
       rw [Ag,D,this];rfl
      exact P _ _ (by simp [go_sem,L])
     .exact wp (h:=wx I (j+1) ⟨wg,(by simp [go_sem,Y]),wn,wj,(by rw [uB _ _ b,G];simpa using l)⟩)
    .have hA:(c.kids.all λx=>l9 x q)=true:=by rw [aY aD] at G;exact G
     have L:l9 c p=decide ((v:Int)<=5000):=by rw [Ag,D,hA,hv',hw'];rfl
     exact wv (h:=P _ _ (by simp [go_sem,L]))
def E7 (t:Types)(p:Pattern)(c:Cond)(h:Host):Bool:=fewC c&&fewP p&&Dp h&&(decide (condF t p c≠0)||(light21 t p h&&mI c&&decide ((h.graph.nodes.length:Int)<=6)&&decide ((h.graph.edges.length:Int)<=8)&&l9 c p))
theorem L9 (t:Types)(m:t.ok)(p:Pattern)(c:Cond)(o:c.le)(h:Host):Pure Tryz.prog 55 [t.d,p.d,.agg c.c,h.d] (.bool (E7 t p c h)):=by
 refine Tz.pK ⟨λ_=>false,λ_=>[]⟩ Tryz.func55 rfl (λQ n=>?_)
 have Y:=wa @Host.c.eq_1 (wa @Pattern.c.eq_1 @Cond.c_eq)
 refine wo (h:=aB ((by have b:=IC c o;rwa [Cond.c_eq] at b)) wl ?_)
 refine wo (h:=aO (λa=>uP p) (λa=>wl) ?_)
 refine wo (h:=aO (λa=>ID h) (λa=>wl) ?_)
 refine f9 (λl=>?_) λl=>?_
 .have hF:(fewC c&&fewP p&&Dp h)=false:=by cases k:fewC c<;>cases j:fewP p<;>cases i:Dp h<;>simp [k,j,i] at l<;>rfl
  exact wv (h:=n _ _ (by simp [go_sem,E7,hF]))
 .have hF:fewC c=true/\fewP p=true/\Dp h=true:=by cases k:fewC c<;>cases j:fewP p<;>cases i:Dp h<;>simp [k,j,i] at l<;>exact ⟨rfl,rfl,rfl⟩
  have f:c.ok/\c.size<=1000000:=by
   have g:=hF.1
   simp [fewC] at g
   have q:=GD c 40 aD g
   exact ⟨q.1,aD⟩
  have e:p.graph.nodes.length<=1000000/\p.graph.edges.length<=1000000:=by
   have g:=hF.2.1
   simp [fewP,fewG] at g
   omega
  refine wo (h:=aB ((by have b:=L7 t m p c f.1 f.2;rwa [Cond.c_eq] at b)) wl ?_)
  refine wo (h:=aO (λa=>Ma t m p h) (λa=>wl) ?_)
  refine wo (h:=aO (λa=>(by have b:=Kj c f.1;rwa [Cond.c_eq] at b)) (λa=>wl) ?_)
  refine wo (h:=aO (λa=>(by have b:=HR c f.1 (by simp at a;simp_all) p e.1 e.2;rwa [Cond.c_eq] at b)) (λa=>wl) ?_)
  exact wo (h:=n _ _ (by simp [go_sem,E7,hF.1,hF.2.1,hF.2.2]))
def light26 (t:Types)(r:Rule)(h:Host):Bool:=u7 t&&fewR r&&E7 t r.left r.cond h
theorem D5 (t:Types)(p:Pattern)(h:Host)(a:Bool):(f6 t p h a).1.length<=5000:=by
 unfold f6
 split
 .simp
 .split
  .simp
  .split
   .simp
   .exact c9 (List.length_filterMap_le _ _) (NS _ _ _ _)
theorem Sy (l:List Stp26):D.clLL (l.map Stp26.c)=true:=c8 _ Stp26.cl l
attribute [go_sem] Sy
theorem U4 (t:Types)(r:Rule)(h:Host):(sM t r h).1.length<=5000:=by
 unfold sM
 split
 .simp
 .split
  .simp
  .exact c9 (iB _ _) (D5 _ _ _ _)
end Go.Abs
end
section
namespace Go.Abs
open Go.ChangeShapes Go.WideShapes Go.RowKit
structure Bulk {H:Type} (bulk:DataW H->Nat):Prop where
 len:∀ e s,e.length<=bulk (.slice e s)
 el:∀ e s,∀ d∈e,bulk d<=bulk (.slice e s)
 part:∀ l,∀ d∈l,bulk d<=bulk (.agg l)
 str:∀ s:List UInt8,s.length<=bulk (.lit (.string s))
abbrev N3:Nat->Prop:=λ_=>False
section
variable {H:Type} {enc:TypeId × Value→H} {P:Program} {w:World} {base:Nat} {spare:Nat→Bool} {held:Bool} {bulk:DataW H→Nat} {B:Nat}
def Opens (enc:TypeId × Value->H)(P:Program)(w:World)(base:Nat)(spare:Nat->Bool)(held:Bool)(bulk:DataW H->Nat)(B:Nat)(n:Nat)(t:TypeId){α:Type}(C:α->List D)(G:α->Prop):Prop :=
 ∀ (fuel:Nat) (cs:List Value) (x:DataW H × List MemPlace),fuel<=n->DataW.trod enc P w base spare held fuel t cs=some x->bulk x.1<=B ->
  ∃ a,G a/\RepL N3 gQ p5 w cs (C a)/\∀ u∈cs,u.oneCell'=true
variable {n:Nat} {t:TypeId}
theorem Opens.mono {α:Type}{C:α->List D}{G:α->Prop}{m:Nat}(h:Opens enc P w base spare held bulk B n t C G)(hm:m<=n):Opens enc P w base spare held bulk B m t C G :=
 λfuel cs x hf hx hb=>h fuel cs x (c9 hf hm) hx hb
theorem Opens.zero {α:Type}{C:α->List D}{G:α->Prop}:Opens enc P w base spare held bulk B 0 t C G:=λfuel cs x hf hx _=>by
 have:fuel=0:=aD
 subst this
 simp [DataW.trod] at hx
theorem Opens.map {α β:Type}{C:α->List D}{G:α->Prop}{C':β->List D}{G':β->Prop}(h:Opens enc P w base spare held bulk B n t C G)(f:α->β)(hC:∀ a,C a=C' (f a))(hG:∀ a,G a->G' (f a)):Opens enc P w base spare held bulk B n t C' G' :=
 λfuel cs x hf hx hb=>by
  obtain ⟨a,h1,h2,h3⟩:=h fuel cs x hf hx hb
  exact ⟨f a,hG a h1,by rw [<- hC];exact h2,h3⟩
theorem pV {v:Value}{d:D}(h:RepV N3 gQ p5 w v d):RepL N3 gQ p5 w [v] [d] :=
 ⟨rfl,λj u x hu hx=>by
  cases j with
  | zero=>simp at hu hx;subst hu;subst hx;exact h
  | succ j=>simp at hu⟩
theorem FR {a b:List Value}{c d:List D}(h:RepL N3 gQ p5 w a c)(k:RepL N3 gQ p5 w b d):RepL N3 gQ p5 w (a++b) (c++d):=by
 refine ⟨by simp [h.len,k.len],λj u x f e=>?_⟩
 by_cases g:j<a.length
 .rw [aT g] at f
  rw [aT (by rw [<- h.len];exact g)] at e
  exact h.rep j u x f e
 .rw [bB aD] at f
  rw [bB (by rw [<- h.len];omega),<- h.len] at e
  exact k.rep _ u x f e
theorem OU (ht:P.underlying t=some .bool):Opens enc P w base spare held bulk B n t (λb:Bool=>[D.bool b]) (λ_=>True):=λfuel cs x _ hx _=>by
 obtain ⟨b,rfl,_⟩:=DataW.trod_bool ht hx
 exact ⟨b,trivial,pV (.bool b),by simp [Value.oneCell']⟩
theorem rows {α:Type}{C:α->List D}{G:α->Prop}{ad:Addr}{sz:Nat}:∀ (len:Nat),
  (∀ i,i<len->∃ c a,w.cells? base (ad.add (i * sz)) sz=some c/\G a/\RepL N3 gQ p5 w c (C a)/\∀ u∈c,u.oneCell'=true) ->
  ∃ (l:List α) (xs:List Value),l.length=len/\(∀ a∈l,G a)/\RepL N3 gQ p5 w xs (l.map C).flatten/\(∀ u∈xs,u.oneCell'=true)/\xs.length=len * sz /\
   (∀ (j:Nat) (u:Value),xs[j]?=some u->w.cell? (ad.add j)=some u)/\∀ c∈l.map C,c.length=sz
 | 0,_=>⟨[],[],rfl,by simp,⟨rfl,λj u d hu=>by simp at hu⟩,by simp,by simp,by simp,by simp⟩
 | len+1,h=>by
  obtain ⟨l,xs,h1,h2,h3,h4,h5,h6,h7⟩:=rows len λi hi=>h i aD
  obtain ⟨c,a,hc,hg,hr,h1c⟩:=h len aD
  obtain ⟨_,hcl,hcell⟩:=World.cells?_some hc
  refine ⟨l++[a],xs++c,by simp [h1],λb hb=>?_,?_,λu hu=>?_,by rw [aJ,h5,hcl,Nat.succ_mul],λj u hu=>?_,λb hb=>?_⟩
  .rcases aV.1 hb with h|h
   .exact h2 b h
   .simp at h;subst h;exact hg
  .rw [List.map_append,kZ]
   refine FR h3 ?_
   simpa using hr
  .rcases aV.1 hu with h|h
   .exact h4 u h
   .exact h1c u h
  .by_cases hj:j<xs.length
   .rw [aT hj] at hu;exact h6 j u hu
   .rw [bB aD] at hu
    have hlt:j - xs.length<sz:=by rw [<- hcl];exact (aL.1 hu).1
    have:=hcell (j - xs.length) hlt
    rw [Addr.add_add,hu] at this
    rwa [(aD:len * sz+(j - xs.length)=j)] at this
  .rw [List.map_append] at hb
   rcases aV.1 hb with h|h
   .exact h7 b h
   .simp at h;subst h;rw [<- hr.len,hcl]
theorem s6 (hB:Bulk bulk){e:TypeId}(ht:P.underlying t=some (.slice e)){α:Type}{C:α->List D}{G:α->Prop}(h:Opens enc P w base spare held bulk B n e C G) :
  Opens enc P w base spare held bulk B (n+1) t (λl:List α=>[.list (l.map C)]) (λl=>l.length<=B/\∀ a∈l,G a):=λfuel cs x hf hx hb=>by
 rcases DataW.trod_slice ht hx with ⟨rfl,rfl⟩|⟨ad,len,cap,elems,rest,m,rfl,rfl,rfl,hbase,hlc,hcap,hlen,hel,_,_⟩
 .exact ⟨[],⟨eJ _,by simp⟩,pV .listN,by simp [Value.oneCell']⟩
 .simp only at hb
  have hb1:=hB.len (elems.map (·.1)) (rest.map (·.1))
  rw [aS] at hb1
  obtain ⟨l,xs,h1,h2,h3,h4,h5,h6,h7⟩:=rows (w:=w) (base:=base) (C:=C) (G:=G) (ad:=ad) (sz:=P.cellsOf e) len λi hi=>by
   have:=hel i hi
   rw [aA aD,Option.bind_eq_some_iff] at this
   obtain ⟨c,hc,hd⟩:=this
   obtain ⟨a,g1,g2,g3⟩:=h m c _ aD hd (c9 (hB.el _ (rest.map (·.1)) _ (aQ.2 ⟨_,aC aD,rfl⟩)) hb)
   exact ⟨c,a,hc,g1,g2,g3⟩
  refine ⟨l,⟨aD,h2⟩,pV ?_,by simp [Value.oneCell']⟩
  have key:=RepV.list (M:=N3) (σ:=gQ) (N:=p5) (w:=w) ad cap (P.cellsOf e) xs (l.map C) (by rw [aS];omega) hcap h7 h3.len h4 (λj u hu=>⟨λh=>h,h6 j u hu⟩) h3.rep
  rw [aS,h1] at key
  exact key
def U5 (enc:TypeId × Value->H)(P:Program)(w:World)(base:Nat)(spare:Nat->Bool)(held:Bool)(bulk:DataW H->Nat)(B n:Nat):List TypeId->List Value->Prop
 | [],cs=>cs=[]
 | t :: ts,cs=>(∃ y,DataW.trod enc P w base spare held n t (cs.take (P.cellsOf t))=some y/\bulk y.1<=B)/\U5 enc P w base spare held bulk B n ts (cs.drop (P.cellsOf t))
def Hx (enc:TypeId × Value->H)(P:Program)(w:World)(base:Nat)(spare:Nat->Bool)(held:Bool)(bulk:DataW H->Nat)(B:Nat)(n:Nat)(ts:List TypeId){α:Type}(C:α->List D)(G:α->Prop):Prop :=
 ∀ (fuel:Nat) (cs:List Value),fuel<=n->U5 enc P w base spare held bulk B fuel ts cs->∃ a,G a/\RepL N3 gQ p5 w cs (C a)/\∀ u∈cs,u.oneCell'=true
theorem kV:Hx enc P w base spare held bulk B n [] (λ_:Unit=>[]) (λ_=>True):=λfuel cs _ h=>by
 have h:cs=[]:=h
 subst h
 exact ⟨(),trivial,⟨rfl,λj u d hu=>by simp at hu⟩,by simp⟩
theorem b6 {ts:List TypeId}{α β:Type}{C:α->List D}{G:α->Prop}{C':β->List D}{G':β->Prop}(h:Opens enc P w base spare held bulk B n t C G)(k:Hx enc P w base spare held bulk B n ts C' G') :
  Hx enc P w base spare held bulk B n (t :: ts) (λp:α × β=>C p.1++C' p.2) (λp=>G p.1/\G' p.2):=λfuel cs hf hs=>by
 obtain ⟨⟨y,hy,hyb⟩,hs⟩:=hs
 obtain ⟨a,a1,a2,a3⟩:=h fuel _ y hf hy hyb
 obtain ⟨b,b1,b2,b3⟩:=k fuel _ hf hs
 refine ⟨(a,b),⟨a1,b1⟩,?_,λu hu=>?_⟩
 .have:=FR a2 b2
  rwa [List.take_append_drop] at this
 .rw [<- List.take_append_drop (P.cellsOf t) cs] at hu
  rcases aV.1 hu with h|h
  .exact a3 u h
  .exact b3 u h
def SX (P:Program):Nat->List Field->Option Nat
 | o,[]=>some o
 | o,f :: r=>if f.offset=o then SX P (o+P.cellsOf f.type) r else none
theorem P0 {fuel:Nat}{cs:List Value}:∀ (fs:List Field) (o:Nat),SX P o fs=some cs.length ->
  (∀ f∈fs,∃ y,DataW.trod enc P w base spare held fuel f.type ((cs.drop f.offset).take (P.cellsOf f.type))=some y/\bulk y.1<=B)->o<=cs.length/\U5 enc P w base spare held bulk B fuel (fs.map (·.type)) (cs.drop o)
 | [],o,ho,_=>by
  simp only [SX,bD] at ho
  subst ho
  exact ⟨bC _,by show cs.drop cs.length=[];simp⟩
 | f :: fs,o,ho,h=>by
  unfold SX at ho
  split at ho
  .rename_i hof
   subst hof
   obtain ⟨h1,h2⟩:=P0 fs _ ho λg hg=>h g (by simp [hg])
   refine ⟨aD,?_⟩
   refine ⟨h f aF,?_⟩
   rw [List.drop_drop]
   exact h2
  .cases ho
theorem n7 (hB:Bulk bulk){fs:Array Field}(ht:P.underlying t=some (.struct fs))(ho:SX P 0 fs.toList=some (P.cellsOf t)){α:Type}{C:α->List D}{G:α->Prop}(h:Hx enc P w base spare held bulk B n (fs.toList.map (·.type)) C G) :
  Opens enc P w base spare held bulk B (n+1) t C G:=λfuel cs x hf hx hb=>by
 obtain ⟨xs,m,rfl,rfl,hcl,hxl,hfl⟩:=DataW.trod_struct ht hx
 simp only at hb
 have hs:=(P0 (enc:=enc) (P:=P) (w:=w) (base:=base) (spare:=spare) (held:=held) (bulk:=bulk) (B:=B) (fuel:=m) (cs:=cs) fs.toList 0 (by rw [hcl];exact ho) λf hfm=>by
  obtain ⟨i,hi,rfl⟩:=aK hfm
  have hi':i<fs.size:=by simpa using hi
  have hfi:=hfl i (fs.toList[i]) (by simp [hi'])
  rw [aA aD] at hfi
  exact ⟨_,hfi,c9 (hB.part _ _ (aQ.2 ⟨_,aC aD,rfl⟩)) hb⟩).2
 rw [List.drop_zero] at hs
 exact h m cs aD hs
theorem PP {r:Reach}{s:Nat}{q:Array Field}{v:Value}{d:DataW H}{i:List MemPlace}{α:Type}{C:α->List D}{G:α->Prop}(j:P.underlying t=some (.struct q))(h:∀ n,Opens enc P w base spare held bulk B n t C G)
  (c:Value.okWide P w r s t v) (l:DataW.Trod enc P w base spare held t v d i) (o:bulk d<=B):∃ a,G a/\RepV N3 gQ p5 w v (.agg (C a)):=by
 obtain ⟨f,rfl,_⟩:=okWide_struct j c
 obtain ⟨b,k⟩:=l
 obtain ⟨a,p,e,g⟩:=h b b _ _ (bC _) k o
 have m:(Value.agg f).cells.toList=f.toList:=rfl
 rw [m] at e g
 have:=RepV.agg (M:=N3) (σ:=gQ) (N:=p5) (w:=w) f.toList (C a) e.len g e.rep
 exact ⟨a,p,by simpa using this⟩
theorem R7 {r:Reach}{s:Nat}{e:TypeId}{v:Value}{d:DataW H}{g:List MemPlace}{α:Type}{c:α->D}{G:α->Prop}(j:P.underlying t=some (.slice e))(h:∀ n,Opens enc P w base spare held bulk B n t (λa=>[c a]) G)
  (f:Value.okWide P w r s t v) (l:DataW.Trod enc P w base spare held t v d g) (m:bulk d<=B):∃ a,G a/\RepV N3 gQ p5 w v (c a):=by
 obtain ⟨x,i,q,rfl⟩:=okWide_slice j f
 obtain ⟨b,k⟩:=l
 obtain ⟨a,p,o,u⟩:=h b b _ _ (bC _) k m
 exact ⟨a,p,o.rep 0 _ _ rfl rfl⟩
theorem AD (hl:laidOutB P=true){W W':World}{sp':Nat->Bool}(hb:Below W.heap.size W W'):∀ {ts:List TypeId} {vs:List Value} {ds:List (DataW H)} {ps:List MemPlace},(∀ t∈ts,P.readableRec t=true/\t<P.types.size) ->
  DataW.TrodAll enc P W 0 (λ_=>true) true ts vs ds ps->(∀ x∈ps,x.block<W.heap.size)->(∀ x∈ps,sp' x.block=true)->DataW.TrodAll enc P W' 0 sp' true ts vs ds ps
 | [],_,_,_,_,h,_,_=>by
  obtain ⟨rfl,rfl,rfl⟩:=trodAll_nil h
  rfl
 | t :: ts,_,_,_,hr,h,hlt,hs=>by
  obtain ⟨v,vs,d,ds,p,q,rfl,rfl,rfl,h1,h2⟩:=trodAll_cons h
  refine ⟨p,q,WideElems.Trod_stays hl (hr t aF).1 (hr t aF).2 h1 (λx hx=>hb.same (hlt x (by simp [hx]))) (λx hx=>hs x (by simp [hx])),AD hl hb (λu hu=>hr u (by simp [hu])) h2 (λx hx=>hlt x (by simp [hx])) (λx hx=>hs x (by simp [hx])),rfl⟩
theorem HX (L:laidOutB P=true){f:Func}{s:ChangeSpec}{d n c o:Bool}{W u:World}{args:Array Value}{v:Value}{ds A:List (DataW H)}{e:List MemPlace}
  (K:∀ t∈f.params.toList,P.readableRec t=true/\t<P.types.size) (a:s.vars=[]) (G:DataW.Whole enc P f.params.toList s.vars d W args.toList ds A e)
  (i:∀ (b:Nat) (g:Nat->Bool) (M:Bool),DataW.TrodAll enc P u b g M f.resultTypes.toList (v.resultList f.resultTypes.size) (s.fn H (ds++A)).results [])
  (l:(s.fn H (ds++A)).args=ds) (B:(s.fn H (ds++A)).vars=[]) (D:Below W.heap.size W u)
  (C:∀ (j:Nat) (t:TypeId) (r:Value),f.resultTypes[j]?=some t->(v.resultList f.resultTypes.size)[j]?=some r->Value.okWide P u .any 0 t r) :
  s.post enc P f d n c o W args v u:=by
 have m:=G
 obtain ⟨p,q,N,I,rfl,E,F⟩:=G
 rw [a] at I
 obtain ⟨rfl,rfl⟩:=trodVars_none I
 rw [jV] at m E F
 have k:∀ x∈p,x.block<W.heap.size:=λx h=>by simpa using m.lt x h
 have z:∀ g:Nat->Bool,(∀ x∈p,g x.block=true)->DataW.TrodAll enc P u 0 g true f.params.toList args.toList (s.fn H (ds++[])).args p:=λg J=>by
  rw [l];exact AD L D K N k J
 have y:∀ g:Nat->Bool,DataW.TrodVars enc P u g s.vars (s.fn H (ds++[])).vars []:=λg=>by rw [a,B];rfl
 refine ⟨ds,[],p,[],p,[],m,i _ _ _,z _ (λx h=>by simpa using k x h),y _,World.keptBut_mono (λx h=>⟨h,.inr (bS h)⟩) (D.frame (·∈p)),λ_=>?_⟩
 refine ⟨C,_,_,([]++p)++[],⟨[]++p,[],trodAll_append (z _ (λ_ _=>rfl)) (i _ _ _),y _,rfl,?_,?_⟩,?_⟩
 .intro b off hp
  have w:MemPlace.cell b off∈p:=by simpa using hp
  have:=E b off w
  rw [<- this]
  exact D.frozen (k _ w)
 .intro ha
  simpa using F ha
 .intro x h _
  simpa using h
end
end Go.Abs
end
