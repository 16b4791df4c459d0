/- Layers 6 (the reference) and 7: morphisms, parts. · Layer 22 -/
import Derived.Test.YthalajhajpjjeaaGreatZhF
import Derived.Test.YthalajhajpjjeaaGreatZhI
import Derived.Test.YthalajhajpjjeaaGreatZhA
set_option linter.unusedVariables false
set_option linter.unusedSimpArgs false
section
set_option maxRecDepth 100000
set_option maxHeartbeats 4000000
open Go Go.Proofs
namespace Go.Abs
theorem DW (a b:Graph)(m:Part):Pure Tryz.prog 188 [a.d,b.d,m.d] (dI (dS a b m)):=by
 refine Tz.pK ⟨λt=>t==11||t==12,λr=>match r with|21=>[(0,14),(1,14),(3,14),(4,14),(5,14),(6,14),(7,14),(8,14),(10,14),(11,14),(12,14),(13,14),(0,15),(1,15),(3,15),(4,15),(5,15),(6,15),(7,15),(8,15),(10,15),(11,15),(12,15),(13,15),(14,15),(5,16),(6,16),(7,16),(8,16),(10,16),(11,16),(12,16),(13,16)]|_=>[]⟩ Tryz.func188 rfl (λQ n=>?_)
 have Y:=trivial
 refine wv (h:=?_)
 refine aB (lU a) wl ?_
 refine wv (h:=?_)
 refine wq (λq=>?_) λq=>?_
 .refine wv (h:=?_)
  exact n _ _ (.inl (by simp [go_sem,dS,q]))
 .refine wv (h:=?_)
  refine aB (lU b) wl ?_
  refine wv (h:=?_)
  refine wq (λw=>?_) λw=>?_
  .refine wv (h:=?_)
   exact n _ _ (.inl (by simp [go_sem,dS,q,w]))
  .refine wv (h:=?_)
   repeat first|intro _|refine ⟨gL,?_⟩
   refine wq (λK=>?_) λK=>?_
   .refine wv (h:=?_)
    exact n _ _ (.inl (by simp [go_sem,dS,q,w,(aD:m.nodes.length≠a.nodes.length\/m.edges.length≠a.edges.length)]))
   .have hM:dS a b m=(if bT (jY a b m) 0 a.nodes.length≠0 then bT (jY a b m) 0 a.nodes.length else bT (mapEE a b m) 0 a.edges.length):=by
     unfold dS;rw [if_neg (by simp [q]),if_neg (by simp [w]),if_neg aD]
    have J:=cJ q
    have I:=cJ w
    have x:=(dF q).2
    refine wv (h:=?_)
    refine bV (λi e H=>(e 3=.adr a.c/\e 4=.adr b.c/\e 5=.adr m.c/\e 9=dI i)/\(i<=a.nodes.length)/\(bT (jY a b m) i (a.nodes.length - i)=bT (jY a b m) 0 a.nodes.length)) (λi=>a.nodes.length - i) 0 ⟨wg,wi,(by rfl)⟩ λS B i e H z=>?_
    obtain ⟨M,P,F⟩:=z
    have Y:=wa Y M
    refine wv (h:=?_)
    repeat first|intro _|refine ⟨gL,?_⟩
    refine wq (λo=>?_) λo=>?_
    .have hn:i<m.nodes.length:=aD
     have f:=gF (jY a b m) o
     rw [F] at f
     have j:jY a b m i=(if m.nodes[i]<0\/(b.nodes.length:Int)<=m.nodes[i] then 6 else if b.nodes[m.nodes[i].toNat]?.getD 0≠a.nodes[i] then 13 else 0):=by simp only [jY,aA o,aA hn,Option.getD_some]
     have Y:=wa Y (wa o hn)
     refine wv (h:=?_)
     repeat first|intro _|refine ⟨gL,?_⟩
     refine wq (λE=>?_) λE=>?_
     .rw [if_pos aD] at j
      rw [j,if_pos aD] at f
      refine wv (h:=?_)
      exact n _ _ (.inl (by simp [go_sem,hM,f]))
     .have hkb:m.nodes[i].toNat<b.nodes.length:=aD
      rw [if_neg aD,aA hkb,Option.getD_some] at j
      have Y:=wa Y (aA hkb)
      refine wv (h:=?_)
      repeat first|intro _|refine ⟨gL,?_⟩
      refine wq (λs=>?_) λs=>?_
      .rw [if_pos s] at j
       rw [j,if_pos aD] at f
       refine wv (h:=?_)
       exact n _ _ (.inl (by simp [go_sem,hM,f]))
      .rw [if_neg (bS s)] at j
       rw [j,if_neg aD] at f
       refine wv (h:=?_)
       repeat first|intro _|refine ⟨gL,?_⟩
       exact wx B (i+1) ⟨wg,wj,(by exact f.symm)⟩
    .have hN0:bT (jY a b m) 0 a.nodes.length=0:=by rw [<- F,(aD:a.nodes.length - i=0)];rfl
     rw [hN0,if_neg aD] at hM
     refine wv (h:=?_)
     refine bV (λk e H=>(e 3=.adr a.c/\e 4=.adr b.c/\e 5=.adr m.c/\e 10=dI k)/\(k<=a.edges.length)/\(bT (mapEE a b m) k (a.edges.length - k)=dS a b m)) (λk=>a.edges.length - k) 0 ⟨wg,wi,(by exact hM.symm)⟩ λR A k e H y=>?_
     obtain ⟨L,O,G⟩:=y
     have Y:=wa Y L
     refine wv (h:=?_)
     repeat first|intro _|refine ⟨gL,?_⟩
     refine wq (λl=>?_) λl=>?_
     .have hn:k<m.edges.length:=aD
      have f:=gF (mapEE a b m) l
      rw [G] at f
      have N:=x _ (aC l)
      have v:a.edges[k].from_.toNat<m.nodes.length:=aD
      have u:a.edges[k].to_.toNat<m.nodes.length:=aD
      have g:mapEE a b m k=(if m.edges[k]<0\/(b.edges.length:Int)<=m.edges[k] then 6 else if a.edges[k].type≠(b.edges[m.edges[k].toNat]?.getD b4).type then 13 else if m.nodes[a.edges[k].from_.toNat]≠(b.edges[m.edges[k].toNat]?.getD b4).from_\/m.nodes[a.edges[k].to_.toNat]≠(b.edges[m.edges[k].toNat]?.getD b4).to_ then 11 else 0):=by
       simp only [mapEE,aA l,aA hn,Option.getD_some,aA v,aA u]
      have Y:=wa Y (wa l (wa hn (wa (aA v) (aA u))))
      refine wv (h:=?_)
      repeat first|intro _|refine ⟨gL,?_⟩
      refine wq (λD=>?_) λD=>?_
      .rw [if_pos aD] at g
       rw [g,if_pos aD] at f
       refine wv (h:=?_)
       exact n _ _ (.inl (by simp [go_sem,<- f]))
      .have hkb:m.edges[k].toNat<b.edges.length:=aD
       rw [if_neg aD,aA hkb,Option.getD_some] at g
       have Y:=wa Y (aA hkb)
       refine wv (h:=?_)
       repeat first|intro _|refine ⟨gL,?_⟩
       refine wq (λp=>?_) λp=>?_
       .rw [if_pos p] at g
        rw [g,if_pos aD] at f
        refine wv (h:=?_)
        exact n _ _ (.inl (by simp [go_sem,<- f]))
       .rw [if_neg (bS p)] at g
        refine wv (h:=?_)
        repeat first|intro _|refine ⟨gL,?_⟩
        refine wq (λC=>?_) λC=>?_
        .rw [if_pos aD] at g
         rw [g,if_pos aD] at f
         refine wv (h:=?_)
         exact n _ _ (.inl (by simp [go_sem,<- f]))
        .rw [if_neg aD] at g
         rw [g,if_neg aD] at f
         refine wv (h:=?_)
         repeat first|intro _|refine ⟨gL,?_⟩
         exact wx A (k+1) ⟨wg,wj,(by exact f.symm)⟩
     .refine wv (h:=?_)
      exact n _ _ (.inl (by rw [<- G,(aD:a.edges.length - k=0)];rfl))
theorem yE (l:List Int):Pure Tryz.prog 185 [dLI l] (.bool (decide l.Nodup)):=by
 refine Tz.pK ⟨λ_=>false,λ_=>[]⟩ Tryz.func185 rfl (λQ s=>?_)
 have Y:=trivial
 refine wv (h:=bV (λi e H=>(e 0=dLI l/\e 3=dI i)/\(i<=l.length)/\(∀ (a b:Nat) (d:b<l.length),b<i->(c:a<b)->l[a]≠l[b])) (λi=>l.length - i) 0 ⟨wg,wi,(by intro a b d h;omega)⟩ λB o i e H j=>?_)
 obtain ⟨w,y,r⟩:=j
 have Y:=wa Y w
 refine wv (h:=?_)
 repeat first|intro _|refine ⟨gL,?_⟩
 refine wq (λu=>?_) λu=>?_
 .have Y:=wa Y u
  refine wv (h:=bV (λk e H=>(e 0=dLI l/\e 3=dI i/\e 4=dI k)/\(k<=i)/\(∀ a,a<k->l[a]?≠some l[i])) (λk=>i - k) 0 ⟨wg,wi,(by intro a h;omega)⟩ λA n k e H g=>?_)
  obtain ⟨v,x,q⟩:=g
  have Y:=wa Y v
  refine d7 (λt=>?_) λt=>?_
  .have hkl:k<l.length:=aD
   have Y:=wa Y (wa t hkl)
   refine wv (h:=?_)
   repeat first|intro _|refine ⟨gL,?_⟩
   refine wq (λp=>?_) λp=>?_
   .refine wv (h:=?_)
    have f:¬ l.Nodup:=λh=>by
     have:=(sH h).1 p
     omega
    exact s _ _ (by simp [go_sem,f])
   .exact wo (h:=wx n (k+1) ⟨wg,wj,(by exact mB q (by rw [aA hkl];simpa using λm=>p m.symm))⟩)
  .have hd':∀ (a b:Nat) (d:b<l.length),b<i+1->(c:a<b)->l[a]≠l[b]:=λa b d h c=>by
    rcases bX b i with h'|h'
    .exact r a b d h' c
    .have:b=i:=aD
     subst this;exact λm=>q a aD (by rw [aA aD,m])
   exact wo (h:=wx o (i+1) ⟨wg,wj,(by exact hd')⟩)
 .refine wv (h:=?_)
  have f:l.Nodup:=by
   rw [cY,dH]
   exact λa b z d c=>r a b d aD c
  exact s _ _ (by simp [go_sem,f])
def Hn (l:List Int)(n:Int)(i:Nat):Int :=
 if l[i]?.getD 0<0\/n<=l[i]?.getD 0 then 6 else if 0<i/\l[i]?.getD 0<=l[i - 1]?.getD 0 then 12 else 0
def DB (l:List Int)(n:Int):Int:=bT (Hn l n) 0 l.length
theorem dV {f:Nat->Int}:∀ (n k:Nat),bT f k n=0->∀ j,k<=j->j<k+n->f j=0
 | 0,k,_=>λj h1 h2=>by omega
 | n+1,k,h=>λj h1 h2=>by
  unfold bT at h
  split at h
  .rename_i hne;exact absurd h hne
  .rename_i hz
   rcases Nat.eq_or_lt_of_le h1 with h3|h3
   .subst h3;exact bA λhne=>hz hne
   .exact dV n (k+1) h j h3 aD
theorem Bj {l:List Int}{n:Int}(h:DB l n=0):(∀ x∈l,0<=x/\x<n)/\l.Pairwise (· < ·):=by
 have d:=dV _ _ h
 have c:∀ i (a:i<l.length),(0<=l[i]/\l[i]<n)/\(∀ k:0<i,l[i - 1]<l[i]):=λi a=>by
  have:=d i aD aD
  unfold Hn at this
  rw [aA a,Option.getD_some] at this
  split at this
  .cases this
  .rename_i b
   split at this
   .cases this
   .rename_i h3
    refine ⟨aD,λk=>?_⟩
    rw [aA (aD:i - 1<l.length),Option.getD_some] at h3
    omega
 refine ⟨λx e=>?_,dH.2 λi j a f g=>?_⟩
 .obtain ⟨i,a,rfl⟩:=aK e;exact (c i a).1
 .induction j with
  | zero=>omega
  | succ j ih =>
   have b:=(c (j+1) f).2 aD
   simp only [Nat.add_sub_cancel] at b
   rcases bX i j with h3|h3
   .have:=ih aD h3;omega
   .have:i=j:=aD
    subst this;exact b
theorem AE (l:List Int)(n:Int):Pure Tryz.prog 437 [dLI l,dI n] (dI (DB l n)):=by
 refine Tz.pK ⟨λ_=>false,λ_=>[]⟩ Tryz.func437 rfl (λQ g=>?_)
 have Y:=trivial
 refine wv (h:=?_)
 repeat first|intro _|refine ⟨gL,?_⟩
 refine bV (λi e H=>(e 0=dLI l/\e 1=dI n/\e 7=dLI l/\e 8=dI l.length/\e 9=dI i)/\(i<=l.length)/\(bT (Hn l n) i (l.length - i)=DB l n)) (λi=>l.length - i) 0 ⟨wg,wi,(by rfl)⟩ λr j i e H f=>?_
 obtain ⟨p,q,k⟩:=f
 have Y:=wa Y p
 refine wv (h:=?_)
 refine wq (λc=>?_) λc=>?_
 .have hst:=gF (Hn l n) c
  rw [k] at hst
  have a:Hn l n i=(if l[i]<0\/n<=l[i] then 6 else if 0<i/\l[i]<=l[i - 1]?.getD 0 then 12 else 0):=by simp only [Hn,aA c,Option.getD_some]
  have b:i - 1<l.length:=aD
  rw [aA b,Option.getD_some] at a
  have d:((i:Int) - 1).toNat=i - 1:=aD
  have Y:=wa Y (wa c (wa d (aA b)))
  refine wv (h:=?_)
  repeat first|intro _|refine ⟨gL,?_⟩
  refine wq (λo=>?_) λo=>?_
  .rw [if_pos aD] at a
   rw [a,if_pos aD] at hst
   refine wv (h:=?_)
   exact g _ _ (.inl (by simp [go_sem,hst]))
  .rw [if_neg aD] at a
   refine wv (h:=?_)
   repeat first|intro _|refine ⟨gL,?_⟩
   refine wq (λm=>?_) λm=>?_
   .rw [if_pos aD] at a
    rw [a,if_pos aD] at hst
    refine wv (h:=?_)
    exact g _ _ (.inl (by simp [go_sem,hst]))
   .rw [if_neg aD] at a
    rw [a,if_neg aD] at hst
    refine wv (h:=?_)
    repeat first|intro _|refine ⟨gL,?_⟩
    exact wx j (i+1) ⟨wg,wj,(by exact hst.symm)⟩
 .refine wv (h:=?_)
  exact g _ _ (.inl (by rw [<- k,(aD:l.length - i=0)];rfl))
theorem wV (l:List Int)(n:Int):Pure Tryz.prog 396 [dLI l,dI n] (dI (DB l n)):=by
 refine Tz.pK ⟨λ_=>false,λ_=>[]⟩ Tryz.func396 rfl (λQ g=>?_)
 have Y:=trivial
 refine wv (h:=?_)
 refine bV (λi e H=>(e 0=dLI l/\e 1=dI n/\e 5=dI i)/\(i<=l.length)/\(bT (Hn l n) i (l.length - i)=DB l n)) (λi=>l.length - i) 0 ⟨wg,wi,(by rfl)⟩ λr j i e H f=>?_
 obtain ⟨p,q,k⟩:=f
 have Y:=wa Y p
 refine wv (h:=?_)
 repeat first|intro _|refine ⟨gL,?_⟩
 refine wq (λc=>?_) λc=>?_
 .have hst:=gF (Hn l n) c
  rw [k] at hst
  have a:Hn l n i=(if l[i]<0\/n<=l[i] then 6 else if 0<i/\l[i]<=l[i - 1]?.getD 0 then 12 else 0):=by simp only [Hn,aA c,Option.getD_some]
  have b:i - 1<l.length:=aD
  rw [aA b,Option.getD_some] at a
  have d:((i:Int) - 1).toNat=i - 1:=aD
  have Y:=wa Y (wa c (wa d (aA b)))
  refine wv (h:=?_)
  repeat first|intro _|refine ⟨gL,?_⟩
  refine wq (λo=>?_) λo=>?_
  .rw [if_pos aD] at a
   rw [a,if_pos aD] at hst
   refine wv (h:=?_)
   exact g _ _ (.inl (by simp [go_sem,hst]))
  .rw [if_neg aD] at a
   refine wv (h:=?_)
   repeat first|intro _|refine ⟨gL,?_⟩
   refine wq (λm=>?_) λm=>?_
   .rw [if_pos aD] at a
    rw [a,if_pos aD] at hst
    refine wv (h:=?_)
    exact g _ _ (.inl (by simp [go_sem,hst]))
   .rw [if_neg aD] at a
    rw [a,if_neg aD] at hst
    refine wv (h:=?_)
    repeat first|intro _|refine ⟨gL,?_⟩
    exact wx j (i+1) ⟨wg,wj,(by exact hst.symm)⟩
 .refine wv (h:=?_)
  exact g _ _ (.inl (by rw [<- k,(aD:l.length - i=0)];rfl))
theorem IE (l:List Int)(v:Int):Pure Tryz.prog 397 [dLI l,dI v] (.bool (mem l v)):=by
 refine Tz.pK ⟨λ_=>false,λ_=>[]⟩ Tryz.func397 rfl (λQ m=>?_)
 have Y:=trivial
 refine wv (h:=bV (λi e H=>(e 0=dLI l/\e 1=dI v/\e 5=dI i)/\(i<=l.length)/\(∀ j,j<i->l[j]?≠some v)) (λi=>l.length - i) 0 ⟨wg,wi,(by intro j k;omega)⟩ λq f i e H d=>?_)
 obtain ⟨o,p,a⟩:=d
 have Y:=wa Y o
 refine wv (h:=?_)
 repeat first|intro _|refine ⟨gL,?_⟩
 refine wq (λb=>?_) λb=>?_
 .have Y:=wa Y b
  refine wv (h:=?_)
  repeat first|intro _|refine ⟨gL,?_⟩
  refine wq (λg=>?_) λg=>?_
  .refine wv (h:=?_)
   have c:mem l v=true:=(cQ l v).2 (g ▸ aC b)
   exact m _ _ (by simp [go_sem,c])
  .exact wo (h:=wx f (i+1) ⟨wg,wj,(by exact mB a (by rw [aA b];simpa using g))⟩)
 .refine wv (h:=?_)
  have c:mem l v=false:=by rw [bN];intro h;obtain ⟨j,k,n⟩:=aK ((cQ l v).1 h);exact a j aD (by rw [aA k,n])
  exact m _ _ (by simp [go_sem,c])
theorem DV (l:List Int)(v:Int):Pure Tryz.prog 264 [dLI l,dI v] (dI (idx l v)):=by
 refine Tz.pK ⟨λ_=>false,λ_=>[]⟩ Tryz.func264 rfl (λQ g=>?_)
 have Y:=trivial
 refine wv (h:=bV (λi e H=>(e 0=dLI l/\e 1=dI v/\e 5=dI i)/\(i<=l.length)/\(∀ j,j<i->l[j]?≠some v)) (λi=>l.length - i) 0 ⟨wg,wi,(by intro j k;omega)⟩ λo d i e H c=>?_)
 obtain ⟨m,n,a⟩:=c
 have Y:=wa Y m
 refine wv (h:=?_)
 repeat first|intro _|refine ⟨gL,?_⟩
 refine wq (λb=>?_) λb=>?_
 .have Y:=wa Y b
  refine wv (h:=?_)
  repeat first|intro _|refine ⟨gL,?_⟩
  refine wq (λf=>?_) λf=>?_
  .exact wv (h:=g _ _ (by rw [u3 a (by rw [aA b,f])];simp [go_sem]))
  .exact wo (h:=wx d (i+1) ⟨wg,wj,(by exact mB a (by rw [aA b];simpa using f))⟩)
 .exact wv (h:=g _ _ (by rw [B9 λj k=>a j aD];simp [go_sem]))
mutual
theorem k8 {p:Cond→Prop}(h:∀ c:Cond,(∀ k∈c.kids,p k)→p c):∀ c:Cond,p c
 | .mk k l m q=>h _ (JM h l)
theorem JM {p:Cond→Prop}(h:∀ c:Cond,(∀ k∈c.kids,p k)→p c):∀ l:List Cond,∀ k∈l,p k
 | []=>fun k hk=>absurd hk (by simp)
 | c :: l=>fun k hk=>by
  rcases bP.1 hk with h1|h1
  ·rw [h1];exact k8 h c
  ·exact JM h l k h1
end
def bareB (c:Cond):Bool:=decide ((c.map.nodes.length:Int)+c.map.edges.length+c.pattern.graph.nodes.length+c.pattern.graph.edges.length+c.pattern.slots.length+c.pattern.tests.length=0)&&decide (c.pattern.vars=0)
structure Cond.short (c:Cond):Prop where
 m1:c.map.nodes.length<=1000000
 m2:c.map.edges.length<=1000000
 p1:c.pattern.graph.nodes.length<=1000000
 p2:c.pattern.graph.edges.length<=1000000
 p3:c.pattern.slots.length<=1000000
 p4:c.pattern.tests.length<=1000000
theorem G6 (c:Cond)(a:c.short):Pure Tryz.prog 430 [.agg c.c] (.bool (bareB c)):=by
 obtain ⟨j,i,g,f,e,d⟩:=a
 refine Tz.pK ⟨λt=>t==3,λ_=>[]⟩ Tryz.func430 rfl (λQ b=>?_)
 have Y:=@Cond.c_eq
 have Y:=wa Y @bareB.eq_1
 exact wo (h:=b _ _ wy)
theorem GJ (xs:List Cond)(g:FuncId)(a:List D)(p:Cond->Bool)(t:D.clL a=true)(s:∀ x∈xs,Pure Tryz.prog g (.agg x.c :: a) (.bool (p x))) :
  Pure Tryz.prog 455 [.list (xs.map Cond.c),.fn g a] (dI (Dk xs p)):=by
 refine aU (aG (cfg:=⟨λ_=>false,λ_=>[]⟩) Tz.mixed Tryz.func455 rfl rfl (aE rfl) (by kernel_rfl) ?_)
 simp [go_sem,seval,dI,dLI]
 intro o
 refine fD (ι:=Nat) (λi e H=>H=.emp/\i<=xs.length/\e 0=.list (xs.map Cond.c)/\e 1=.fn g a/\e 7=dI xs.length/\e 8=dI i/\(∀ j x,j<i->xs[j]?=some x->p x=false)) (λi=>xs.length - i) 0 (by simp [go_sem,seval,dI,dLI]) ?_
 intro i e H ⟨u,v,l,k,f,d,n⟩
 subst u
 simp [go_sem,seval,l,k,f,d,dI,dLI]
 refine fL (λb=>?_) (λr=>?_)
 .have hgx:=s xs[i] (aC b)
  simp [go_sem,seval,l,k,f,d,dI,dLI,b,Cond.c_eq] at hgx ⊢
  refine aB hgx (by simp [go_sem,t]) ?_
  simp [go_sem,seval,l,k,f,d,dI,dLI]
  refine aP (λh=>?_) (λh=>?_)
  .simp [go_sem,seval,l,k,f,d,dI,dLI]
   rw [o5 n b h]
  .simp [go_sem,seval,l,k,f,d,dI,dLI]
   refine ⟨cZ aD aD,i+1,aD,aD,aD,λj x q m=>?_⟩
   rcases bX j i with hj'|hj'
   .exact n j x hj' m
   .have:j=i:=aD
    subst this
    rw [aA b] at m
    cases m;exact h
 .simp [go_sem,seval,l,k,f,d,dI,dLI]
  rw [o6 λj x q=>n j x aD]
theorem Cp (xs:List Cond)(g:FuncId)(a:List D)(p:Cond->Bool)(b:D.clL a=true)(d:D.cl (.list (xs.map Cond.c))=true)(e:∀ x∈xs,Pure Tryz.prog g (.agg x.c :: a) (.bool (p x))) :
  Pure Tryz.prog 431 [.list (xs.map Cond.c),.fn g a] (.bool (xs.any p)):=by
 refine aU (aG (cfg:=⟨λ_=>false,λ_=>[]⟩) Tz.mixed Tryz.func431 rfl rfl (aE rfl) (by kernel_rfl) ?_)
 simp [go_sem,seval]
 refine aB (GJ xs g a p b e) (by simp only [D.clL,d,iT];simp [D.cl,b]) ?_
 simp [go_sem,seval,dI,rW]
def qQ (c:Cond):Bool :=
 if c.kind=1 then decide ((c.kids.length:Int)=0)&&bareB c
 else if c.kind=2 then decide ((c.kids.length:Int)=1)&&bareB c
 else if c.kind=3\/c.kind=4 then decide (1<=(c.kids.length:Int))&&bareB c
 else decide (c.kind=5)&&decide ((c.kids.length:Int)=1)
mutual
def Lj:Cond→Bool
 | .mk k l m p=>qQ (.mk k l m p)&&T9 l
def T9:List Cond→Bool
 | []=>true
 | c :: l=>Lj c&&T9 l
end
theorem T8 (l:List Cond):T9 l=l.all Lj:=by
 induction l with
 | nil=>rfl
 | cons a l ih=>simp [T9,ih]
theorem tP (c:Cond):Lj c=(qQ c&&c.kids.all Lj):=by cases c;simp [Lj,T8,Cond.kids]
mutual
def Cond.ok:Cond→Prop
 | .mk k l m p=>(Cond.mk k l m p).short∧Cond.oks l
def Cond.oks:List Cond→Prop
 | []=>True
 | c :: l=>c.ok∧Cond.oks l
end
theorem La (l:List Cond):Cond.oks l↔∀ c∈l,c.ok:=by
 induction l with
 | nil=>simp [Cond.oks]
 | cons a l ih=>simp [Cond.oks,ih]
theorem tO (c:Cond):c.ok↔c.short/\∀ k∈c.kids,k.ok:=by cases c;simp [Cond.ok,La,Cond.kids]
theorem wf1 (c:Cond)(h:Pure Tryz.prog 377 [.agg c.c] (.bool (Lj c))):Pure Tryz.prog 432 [.agg c.c] (.bool (!Lj c)):=by
 refine Tz.pK ⟨λ_=>false,λ_=>[]⟩ Tryz.func432 rfl (λQ a=>?_)
 have Y:=@Cond.c_eq
 refine wo (h:=aB ((by simpa [Cond.c_eq,go_sem] using h)) wl ?_)
 exact wo (h:=a _ _ wy)
theorem y5:∀ c:Cond,c.ok->Pure Tryz.prog 377 [.agg c.c] (.bool (Lj c)):=by
 refine k8 λc q t=>?_
 obtain ⟨r,s⟩:=(tO c).1 t
 have a:=Cp c.kids 432 [] (λk=>!Lj k) rfl (by simp [go_sem]) (λk p=>wf1 k (q k p (s k p)))
 have e:∀ i:Int,i=c.kind->Pure Tryz.prog 430 [.agg [dI i,.list (c.kids.map Cond.c),dLI c.map.nodes,dLI c.map.edges,dLI c.pattern.graph.nodes,.list (c.pattern.graph.edges.map Edge.c),.list (c.pattern.slots.map Slot.c),dI c.pattern.vars,.list (c.pattern.tests.map Test.c)]] (.bool (bareB c)):=by
  intro i j
  have:=G6 c r
  rwa [Cond.c_eq,<- j] at this
 have b:(!(c.kids.any λk=>!Lj k))=c.kids.all Lj:=by simp [List.not_any_eq_all_not]
 refine Tz.pK ⟨λ_=>false,λ_=>[]⟩ Tryz.func377 rfl (λQ g=>?_)
 have Y:=@Cond.c_eq
 refine f9 (λo=>?_) λo=>?_
 .have Y:=wa Y o
  refine wo (h:=aO (λd=>(e _ aD)) (λd=>wl) ?_)
  refine wo (h:=aO (λd=>a) (λd=>wl) ?_)
  exact wo (h:=g _ _ (by simp [go_sem,tP,<- b,qQ,Y]))
 .have Y:=wa Y o
  refine d7 (λn=>?_) λn=>?_
  .have Y:=wa Y n
   refine wo (h:=aO (λd=>(e _ aD)) (λd=>wl) ?_)
   refine wo (h:=aO (λd=>a) (λd=>wl) ?_)
   exact wo (h:=g _ _ (by simp [go_sem,tP,<- b,qQ,Y]))
  .have Y:=wa Y n
   refine d7 (λm=>?_) λm=>?_
   .have Y:=wa Y m
    refine wo (h:=aO (λd=>(e _ aD)) (λd=>wl) ?_)
    refine wo (h:=aO (λd=>a) (λd=>wl) ?_)
    exact wo (h:=g _ _ (by simp [go_sem,tP,<- b,qQ,Y]))
   .have Y:=wa Y m
    refine d7 (λl=>?_) λl=>?_
    .have Y:=wa Y l
     refine wo (h:=aO (λd=>(e _ aD)) (λd=>wl) ?_)
     refine wo (h:=aO (λd=>a) (λd=>wl) ?_)
     exact wo (h:=g _ _ (by simp [go_sem,tP,<- b,qQ,Y]))
    .have Y:=wa Y l
     refine d7 (λf=>?_) λf=>?_
     .have Y:=wa Y f
      refine wo (h:=aO (λd=>a) (λd=>wl) ?_)
      exact wo (h:=g _ _ (by simp [go_sem,tP,<- b,qQ,Y]))
     .have Y:=wa Y f
      refine wo (h:=aO (λd=>a) (λd=>wl) ?_)
      exact wo (h:=g _ _ (by simp [go_sem,tP,<- b,qQ,Y]))
mutual
def Cond.size:Cond→Nat
 | .mk _ l _ _=>1+Cond.sizes l
def Cond.sizes:List Cond→Nat
 | []=>0
 | c :: l=>c.size+Cond.sizes l
end
mutual
def Cond.dep:Cond→Nat
 | .mk k l _ _=>Cond.deps l+(if k=5 then 1 else 0)
def Cond.deps:List Cond→Nat
 | []=>0
 | c :: l=>max c.dep (Cond.deps l)
end
theorem FE (l:List Cond)(c:Cond):Cond.sizes (l++[c])=Cond.sizes l+c.size:=by
 induction l with
 | nil=>simp [Cond.sizes]
 | cons a l ih=>simp [Cond.sizes,ih];omega
theorem Ju (l:List Cond)(c:Cond):Cond.deps (l++[c])=max (Cond.deps l) c.dep:=by
 induction l with
 | nil=>simp [Cond.deps]
 | cons a l ih=>simp only [gU,Cond.deps,ih];omega
theorem zK (c:Cond):c.size=1+Cond.sizes c.kids:=by cases c;simp [Cond.size,Cond.kids]
theorem Tq (c:Cond):c.dep=Cond.deps c.kids+(if c.kind=5 then 1 else 0):=by cases c;rw [Cond.dep];rfl
@[go_sem] theorem WW:Cond.sizes []=0:=by simp [Cond.sizes]
@[go_sem] theorem YT:Cond.deps []=0:=by simp [Cond.deps]
theorem By {l:List Cond}{c:Cond}(h:c∈l):c.size<=Cond.sizes l:=by
 induction l with
 | nil=>cases h
 | cons a l ih =>
  rcases bP.1 h with h1|h1
  .subst h1;simp only [Cond.sizes];omega
  .have:=ih h1;simp only [Cond.sizes];omega
theorem FD (l:List Cond)(i:Nat):Cond.sizes (l.take i)<=Cond.sizes l:=by
 induction l generalizing i with
 | nil=>simp
 | cons a l ih=>cases i with
  | zero=>simp [Cond.sizes]
  | succ i=>have:=ih i;simp only [sI,Cond.sizes];omega
mutual
theorem Pq:∀ c:Cond,c.dep≤c.size
 | .mk k l m p=>by have:=Ab l;simp only [Cond.dep,Cond.size];split<;>omega
theorem Ab:∀ l:List Cond,Cond.deps l≤Cond.sizes l
 | []=>by simp [Cond.deps]
 | c :: l=>by have:=Pq c;have:=Ab l;simp only [Cond.deps,Cond.sizes];omega
end
theorem HZ (a b:Nat):(if (a:Int)<(b:Int) then (b:Int) else (a:Int))=((max a b:Nat):Int):=by split<;>omega
theorem Cs:∀ c:Cond,c.size<=1000000->Pure Tryz.prog 378 [.agg c.c] (.tup [dI c.size,dI c.dep]):=by
 refine k8 λc y G=>?_
 have f:=zK c
 have g:=Tq c
 have B:=Ab c.kids
 refine Tz.pK ⟨λt=>t==7,λ_=>[]⟩ Tryz.func378 rfl (λQ x=>?_)
 try simp [go_sem,seval,Cond.c_eq]
 repeat first|intro _|refine ⟨gL,?_⟩
 obtain ⟨w,m⟩:∃ w:Nat->dA->AHeap->Prop,∀ (i:Nat) (e:dA) (H:AHeap),w i e H↔((e 1=.adr c.c)/\(e 11=.list (c.kids.map Cond.c))/\(e 12=dI c.kids.length)/\(e 4=dI ((1+Cond.sizes (c.kids.take i):Nat):Int))/\(e 5=dI (Cond.deps (c.kids.take i):Nat))/\(e 13=dI i)/\(i<=c.kids.length)):=⟨λi e H=>_,λ_ _ _=>Iff.rfl⟩
 refine oR w (λi=>c.kids.length - i) (0) ((m _ _ _).2 ⟨?_,?_,?_,?_,?_,?_,(by first|assumption|omega|(simp [go_sem,Cond.c_eq];done)|(simp_all;done))⟩) ?_
 iterate 6 (first|omega|(simp [go_sem,seval,Cond.c_eq]<;>omega))
 intro i e H s
 obtain ⟨o,l,k,b,a,j,F⟩:=(m _ _ _).1 s
 have h:=And.intro o (And.intro l (And.intro k j))
 try simp [go_sem,seval,Cond.c_eq,h,b,a]
 refine aP (λd=>?_) (λd=>?_)
 .try simp [go_sem] at d
  have A:=By (aC d)
  have D:=Pq c.kids[i]
  have p:=List.take_succ_eq_append_getElem d
  have u:=FE (c.kids.take i) c.kids[i]
  have v:=Ju (c.kids.take i) c.kids[i]
  have z:=FD c.kids (i+1)
  have q:Cond.sizes (c.kids.take (i+1))=Cond.sizes (c.kids.take i)+c.kids[i].size:=by rw [p,u]
  have r:Cond.deps (c.kids.take (i+1))=max (Cond.deps (c.kids.take i)) c.kids[i].dep:=by rw [p,v]
  have C:=Ab (c.kids.take i)
  try simp [go_sem,seval,Cond.c_eq,h,b,a,d,q,r,HZ]
  repeat first|intro _|refine ⟨gL,?_⟩
  refine aB ((by have:=y _ (aC d) aD;rwa [Cond.c_eq] at this)) ((by first|rfl|(simp [go_sem,<- List.map_take,<- List.map_drop,Cond.c_eq,h,b,a,d,q,r,HZ];done))) ?_
  try simp [go_sem,seval,Cond.c_eq,h,b,a,d,q,r,HZ]
  repeat first|intro _|refine ⟨gL,?_⟩
  refine dN (i+1) aD ((m _ _ _).2 ⟨?_,?_,?_,?_,?_,?_,(by first|assumption|omega|(simp [go_sem,Cond.c_eq,h,b,a,d,q,r,HZ];done)|(simp_all<;>omega))⟩)<;>first|omega|(simp [go_sem,seval,Cond.c_eq,h,b,a,d,q,r,HZ]<;>omega)
 .try simp [go_sem] at d
  have E:c.kids.take i=c.kids:=aY d
  rw [E] at b a
  try simp [go_sem,seval,Cond.c_eq,h,b,a]
  refine aP (λn=>?_) (λn=>?_)
  .try simp [go_sem] at n
   try simp [go_sem,seval,Cond.c_eq,h,b,a]
   repeat first|intro _|refine ⟨gL,?_⟩
   exact x _ _ (by first|(left;(simp [go_sem,f,g,n]);done)|(right;(simp [go_sem,f,g,n]);done))
  .try simp [go_sem] at n
   try simp [go_sem,seval,Cond.c_eq,h,b,a]
   exact x _ _ (by first|(left;(simp [go_sem,f,g,n]);done)|(right;(simp [go_sem,f,g,n]);done))
def qC (c:Cond):Int:=if Lj c=false then 1 else if 12<c.size\/3<c.dep then 3 else 0
theorem EN (c:Cond)(e:c.ok)(d:c.size<=1000000):Pure Tryz.prog 317 [.agg c.c] (dI (qC c)):=by
 refine Tz.pK ⟨λ_=>false,λ_=>[]⟩ Tryz.func317 rfl (λQ b=>?_)
 have Y:=@Cond.c_eq
 refine wo (h:=aB ((by have:=y5 c e;rwa [Cond.c_eq] at this)) wl ?_)
 refine f9 (λa=>?_) λa=>?_
 .exact wv (h:=b _ _ (by simp [go_sem,qC,a]))
 .refine wv (h:=aB ((by have:=Cs c d;rwa [Cond.c_eq] at this)) wl ?_)
  refine f9 (λf=>?_) λf=>?_
  .exact wv (h:=b _ _ (by simp [go_sem,qC,a];omega))
  .exact wv (h:=b _ _ (by simp [go_sem,qC,a];omega))
def l6 (t:Types)(q:Pattern)(outer:Int):Int :=
 if bR t q≠9 then bR t q
 else if ((List.range q.vars.toNat).all λ(v:Nat)=>decide ((v:Int)<outer)||iI q v)=true then 0 else 9
theorem yS {t:Types}{q:Pattern}{a:Int}(h:bR t q=9)(e:0<=a)(d:∀ v:Int,a<=v->v<q.vars->iI q v=true):l6 t q a=0:=by
 unfold l6
 rw [if_neg aD,if_pos]
 rw [cD]
 intro v c
 simp at c ⊢
 by_cases b:(v:Int)<a
 .exact .inl b
 .exact .inr (d v aD aD)
theorem Ed {t:Types}{q:Pattern}{a:Int}(h:bR t q=9)(f:0<=a){v:Int}(e:a<=v)(d:v<q.vars)(c:iI q v=false):l6 t q a=9:=by
 unfold l6
 rw [if_neg aD,if_neg]
 intro b
 rw [cD] at b
 have:=b v.toNat (by simp;omega)
 simp at this
 rw [(aD:max v 0=v),c] at this
 simp at this;omega
theorem Jo {f:Nat->Int}{m:Int}(h0:(0:Int)≠m)(h:∀ j,f j≠m):∀ n k,bT f k n≠m
 | 0,k=>h0
 | n+1,k=>by unfold bT;split;exact h k;exact Jo h0 h n (k+1)
theorem Ba {f:Nat->Int}{nm:Nat->ByteArray}{last:ByteArray × Int}{m:Int}(h0:last.2≠m)(h:∀ j,f j≠m):∀ n k,(dY f nm last k n).2≠m
 | 0,k=>h0
 | n+1,k=>by unfold dY;split;exact h k;exact Ba h0 h n (k+1)
theorem IT:∀ (r l:List ByteArray),mN l r≠9
 | [],l=>by simp [mN]
 | s :: r,l=>by
  unfold mN
  split
  .decide
  .split
   .decide
   .exact IT r _
theorem Rs (l:List ByteArray):lY l≠9:=by unfold lY;split;decide;exact IT l []
theorem Ih (x:Attr)(l:List Attr):dB x l≠9:=by
 have:=Rs x.names
 unfold dB
 repeat' split
 all_goals first|assumption|decide
theorem S4 (t:Types)(i:Nat):gP t i≠9:=by
 unfold gP
 split
 .decide
 .repeat' split
  all_goals first|decide|skip
  refine Jo (by decide) (λj=>?_) _ _
  split
  .exact Ih _ _
  .decide
theorem Tp (t:Types)(i:Nat):jL t i≠9:=by
 unfold jL
 split
 .decide
 .repeat' split
  all_goals decide
theorem Ip (t:Types):(cH t).2≠9:=by
 unfold cH
 split
 .decide
 .split
  .decide
  .exact Ba (Ba (by decide) (Tp t) _ _) (S4 t) _ _
theorem Bd (s:Slot)(v:Int):Pure Tryz.prog 433 [.agg s.c,.adr [dI v]] (.bool (decide (s.term.var=v))):=by
 refine Tz.pK ⟨λ_=>false,λ_=>[]⟩ Tryz.func433 rfl (λQ a=>?_)
 have Y:=trivial
 exact wv (h:=a _ _ wy)
theorem GG (xs:List Slot)(g:FuncId)(a:List D)(p:Slot->Bool)(t:D.clL a=true)(s:∀ x∈xs,Pure Tryz.prog g (.agg x.c :: a) (.bool (p x))) :
  Pure Tryz.prog 429 [.list (xs.map Slot.c),.fn g a] (dI (Dk xs p)):=by
 refine aU (aG (cfg:=⟨λ_=>false,λ_=>[]⟩) Tz.mixed Tryz.func429 rfl rfl (aE rfl) (by kernel_rfl) ?_)
 simp [go_sem,seval,dI,dLI]
 intro o
 refine fD (ι:=Nat) (λi e H=>H=.emp/\i<=xs.length/\e 0=.list (xs.map Slot.c)/\e 1=.fn g a/\e 7=dI xs.length/\e 8=dI i/\(∀ j x,j<i->xs[j]?=some x->p x=false)) (λi=>xs.length - i) 0 (by simp [go_sem,seval,dI,dLI]) ?_
 intro i e H ⟨u,v,l,k,f,d,n⟩
 subst u
 simp [go_sem,seval,l,k,f,d,dI,dLI]
 refine fL (λb=>?_) (λr=>?_)
 .have hgx:=s xs[i] (aC b)
  simp [go_sem,seval,l,k,f,d,dI,dLI,b,Slot.c] at hgx ⊢
  refine aB hgx (by simp [go_sem,t]) ?_
  simp [go_sem,seval,l,k,f,d,dI,dLI]
  refine aP (λh=>?_) (λh=>?_)
  .simp [go_sem,seval,l,k,f,d,dI,dLI]
   rw [o5 n b h]
  .simp [go_sem,seval,l,k,f,d,dI,dLI]
   refine ⟨cZ aD aD,i+1,aD,aD,aD,λj x q m=>?_⟩
   rcases bX j i with hj'|hj'
   .exact n j x hj' m
   .have:j=i:=aD
    subst this
    rw [aA b] at m
    cases m;exact h
 .simp [go_sem,seval,l,k,f,d,dI,dLI]
  rw [o6 λj x q=>n j x aD]
theorem tI (xs:List Slot)(g:FuncId)(a:List D)(p:Slot->Bool)(b:D.clL a=true)(d:D.cl (.list (xs.map Slot.c))=true)(e:∀ x∈xs,Pure Tryz.prog g (.agg x.c :: a) (.bool (p x))) :
  Pure Tryz.prog 374 [.list (xs.map Slot.c),.fn g a] (.bool (xs.any p)):=by
 refine aU (aG (cfg:=⟨λ_=>false,λ_=>[]⟩) Tz.mixed Tryz.func374 rfl rfl (aE rfl) (by kernel_rfl) ?_)
 simp [go_sem,seval]
 refine aB (GG xs g a p b e) (by simp only [D.clL,d,iT];simp [D.cl,b]) ?_
 simp [go_sem,seval,dI,rW]
theorem j8 {t : Types} {q : Pattern} (h : bR t q = 9 ∨ bR t q = 0) : 0 ≤ q.vars ∧ q.vars ≤ 12 := by
  have hne := Ip t
  unfold bR at h
  by_cases h1 : (cH t).2 = 0
  · rw [if_neg (by omega)] at h
    by_cases h2 : graphF q.graph = 0
    · rw [if_neg (by omega)] at h
      split at h
      · omega
      · split at h
        · omega
        · rename_i h3; simp [inF] at h3; omega
    · rw [if_pos h2] at h
      have h3 : graphF q.graph ≠ 9 := by unfold graphF; repeat' split
                                         all_goals decide
      omega
  · rw [if_pos h1] at h
    omega
theorem Cr (t:Types)(w:t.ok)(q:Pattern)(a:Int)(r:0<=a):Pure Tryz.prog 379 [t.d,q.d,dI a] (dI (l6 t q a)):=by
 refine Tz.pK ⟨λt=>t==8,λ_=>[]⟩ Tryz.func379 rfl (λQ l=>?_)
 have Y:=trivial
 refine wv (h:=aB (mW t w q) wl ?_)
 refine d7 (λg=>?_) λg=>?_
 .exact wv (h:=l _ _ (by simp [go_sem,l6,g]))
 .have j:=j8 (.inl g)
  refine wv (h:=bV (λv e H=>∃ id:Nat,(e 4=.adr q.c/\e 7=dI 9/\e 8=.ptr id 1 0 0)/\(H.get id=some ⟨3,1,[[dI (a+v)]],false⟩)/\(id<H.next)/\(∀ u:Int,a<=u->u<a+v->iI q u=true)) (λv=>(q.vars - a).toNat - v) 0 ⟨0,wg,wn,wn,(by intro u i j;omega)⟩ λz m v e H k=>?_)
  obtain ⟨id,y,f,b,p⟩:=k
  have Y:=wa Y (wa y (wa f (b8 b)))
  refine d7 (λo=>?_) λo=>?_
  .have hOv:(q.slots.any λs=>decide (s.term.var=a+v))=iI q (a+v):=rfl
   have Y:=wa Y (wa o hOv)
   refine wo (h:=tK ((tI q.slots 433 [.adr [dI (a+v)]] (λs=>decide (s.term.var=a+v)) (by simp [go_sem]) (by simp [go_sem]) (λs _=>Bd s (a+v)))) wr wl rfl ?_)
   refine f9 (λn=>?_) λn=>?_
   .exact wv (h:=l _ _ (by rw [Ed g r (v:=a+v) aD o (bS n)];simp [go_sem]))
   .have ho':∀ u:Int,a<=u->u<a+((v+1:Nat):Int)->iI q u=true:=λu i j=>by
     by_cases x:u<a+v
     .exact p u i x
     .rw [(aD:u=a+v)];simpa using n
    exact wo (h:=wx m (v+1) ⟨H.next,wg,wn,wn,(by exact ho')⟩)
  .exact wv (h:=l _ _ (by rw [yS g r λu i j=>p u i aD];simp [go_sem]))
def iK (t:Types)(p:Pattern)(m:Part)(q:Pattern):Int :=
 if q.vars<p.vars then 20
 else if l6 t q p.vars≠0 then l6 t q p.vars
 else if dS p.graph q.graph m≠0 then dS p.graph q.graph m
 else if As p.graph q.graph m=false then 1 else 0
mutual
def nX (t:Types):Pattern→Cond→Int
 | p,.mk k l m q=>if (if k=5 then iK t p m q else 0)≠0 then (if k=5 then iK t p m q else 0) else M3 t (if k=5 then q else p) l
def M3 (t:Types):Pattern→List Cond→Int
 | _,[]=>0
 | p,c :: l=>if nX t p c≠0 then nX t p c else M3 t p l
end
theorem UC (t:Types)(p:Pattern)(l:List Cond):M3 t p l=fM (nX t p) l:=by
 induction l with
 | nil=>simp [M3,fM]
 | cons a l ih=>simp only [M3,fM,ih]
theorem E9 (t:Types)(p:Pattern)(c:Cond):nX t p c=if (if c.kind=5 then iK t p c.map c.pattern else 0)≠0 then (if c.kind=5 then iK t p c.map c.pattern else 0) else fM (nX t (if c.kind=5 then c.pattern else p)) c.kids:=by
 cases c;simp only [nX,UC];rfl
theorem Ec {t:Types}{q:Pattern}{o:Int}(h:l6 t q o=0):0<=q.vars/\q.vars<=12:=by
 unfold l6 at h
 split at h
 .exact j8 (.inr h)
 .rename_i h1;exact j8 (t:=t) (.inl aD)
theorem Dt (t:Types)(F:t.ok):∀ (c:Cond) (p:Pattern),0<=p.vars->p.vars<=12->Pure Tryz.prog 318 [t.d,p.d,.agg c.c] (dI (nX t p c)):=by
 refine k8 λc C p v A=>?_
 have j:=E9 t p c
 refine Tz.pK ⟨λt=>t==4||t==7||t==11,λ_=>[]⟩ Tryz.func318 rfl (λQ k=>?_)
 have Y:=@Cond.c_eq
 refine d7 (λz=>?_) λz=>?_
 .rw [if_pos z,if_pos z] at j
  refine d7 (λE=>?_) λE=>?_
  .exact wv (h:=k _ _ (by simp [go_sem,j,iK,E]))
  .refine wv (h:=aB (Cr t F c.pattern p.vars v) wl ?_)
   refine d7 (λu=>?_) λu=>?_
   .exact wv (h:=k _ _ (by simp [go_sem,j,iK,u];omega))
   .refine wv (h:=aB (n9 p.graph c.pattern.graph c.map) wl ?_)
    refine d7 (λy=>?_) λy=>?_
    .exact wv (h:=k _ _ (by simp [go_sem,j,iK,u,y];omega))
    .have hm:=lZ y
     have I:=cJ hm.1
     refine wv (h:=?_)
     repeat first|intro _|refine ⟨gL,?_⟩
     refine aB (rP p.graph c.pattern.graph c.map aD aD) wl ?_
     refine wv (h:=?_)
     repeat first|intro _|refine ⟨gL,?_⟩
     refine wq (λs=>?_) λs=>?_
     .exact wv (h:=k _ _ (by simp [go_sem,j,iK,u,y,s];omega))
     .have hE0:iK t p c.map c.pattern=0:=by simp [iK,u,y,s];omega
      rw [hE0,if_neg aD] at j
      obtain ⟨w,g⟩:=cC (c.pattern)
      have D:=Ec u
      have m:0<=w.vars:=by rw [g];exact D.1
      have l:w.vars<=12:=by rw [g];exact D.2
      have q:nX t p c=fM (nX t w) c.kids:=by rw [j,g]
      refine wv (h:=?_)
      repeat first|intro _|refine ⟨gL,?_⟩
      refine bV (λi e H=>(e 3=.adr t.c/\e 5=.adr c.c/\e 51=.list (c.kids.map Cond.c)/\e 52=dI c.kids.length/\e 4=.ptr 0 1 0 0/\e 53=dI i)/\(H.get 0=some ⟨33,5,[w.c],false⟩)/\(0<H.next)/\(i<=c.kids.length)/\(fM (nX t w) (c.kids.drop i)=nX t p c)) (λi=>c.kids.length - i) 0 ⟨wg,(by simp [go_sem,g]),wn,wi,(by exact q.symm)⟩ λJ o i e H n=>?_
      obtain ⟨B,f,b,G,x⟩:=n
      have Y:=wa Y (wa B (wa f (b8 b)))
      refine d7 (λa=>?_) λa=>?_
      .have hst:=x
       rw [j9 _ a] at hst
       have Y:=wa Y a
       refine wv (h:=?_)
       repeat first|intro _|refine ⟨gL,?_⟩
       refine aB ((by have:=C _ (aC a) w m l;rwa [Cond.c_eq] at this)) wl ?_
       refine wv (h:=?_)
       repeat first|intro _|refine ⟨gL,?_⟩
       refine wq (λr=>?_) λr=>?_
       .rw [if_pos aD] at hst
        exact wv (h:=k _ _ (by simp [go_sem,hst]))
       .rw [if_neg aD] at hst
        refine wv (h:=?_)
        repeat first|intro _|refine ⟨gL,?_⟩
        exact wx o (i+1) ⟨wg,(by simp [go_sem,Y]),wn,wj,(by exact hst)⟩
      .exact wv (h:=k _ _ (by rw [<- x,lB _ aD];simp [go_sem]))
 .rw [if_neg z,if_neg aD,if_neg z] at j
  obtain ⟨w,g⟩:=cC (p)
  have m:0<=w.vars:=by rw [g];exact v
  have l:w.vars<=12:=by rw [g];exact A
  have q:nX t p c=fM (nX t w) c.kids:=by rw [j,g]
  refine wv (h:=?_)
  repeat first|intro _|refine ⟨gL,?_⟩
  refine bV (λi e H=>(e 3=.adr t.c/\e 5=.adr c.c/\e 51=.list (c.kids.map Cond.c)/\e 52=dI c.kids.length/\e 4=.ptr 0 1 0 0/\e 53=dI i)/\(H.get 0=some ⟨33,5,[w.c],false⟩)/\(0<H.next)/\(i<=c.kids.length)/\(fM (nX t w) (c.kids.drop i)=nX t p c)) (λi=>c.kids.length - i) 0 ⟨wg,(by simp [go_sem,g]),wn,wi,(by exact q.symm)⟩ λJ o i e H n=>?_
  obtain ⟨B,f,b,G,x⟩:=n
  have Y:=wa Y (wa B (wa f (b8 b)))
  refine d7 (λa=>?_) λa=>?_
  .have hst:=x
   rw [j9 _ a] at hst
   have Y:=wa Y a
   refine wv (h:=?_)
   repeat first|intro _|refine ⟨gL,?_⟩
   refine aB ((by have:=C _ (aC a) w m l;rwa [Cond.c_eq] at this)) wl ?_
   refine wv (h:=?_)
   repeat first|intro _|refine ⟨gL,?_⟩
   refine wq (λr=>?_) λr=>?_
   .rw [if_pos aD] at hst
    exact wv (h:=k _ _ (by simp [go_sem,hst]))
   .rw [if_neg aD] at hst
    refine wv (h:=?_)
    repeat first|intro _|refine ⟨gL,?_⟩
    exact wx o (i+1) ⟨wg,(by simp [go_sem,Y]),wn,wj,(by exact hst)⟩
  .exact wv (h:=k _ _ (by rw [<- x,lB _ aD];simp [go_sem]))
def condF (t:Types)(p:Pattern)(c:Cond):Int :=
 if bR t p≠0 then bR t p else if qC c≠0 then qC c else nX t p c
theorem w8 (t:Types)(f:t.ok)(p:Pattern)(c:Cond)(i:c.ok)(g:c.size<=1000000):Pure Tryz.prog 226 [t.d,p.d,.agg c.c] (dI (condF t p c)):=by
 refine Tz.pK ⟨λ_=>false,λ_=>[]⟩ Tryz.func226 rfl (λQ b=>?_)
 have Y:=@Cond.c_eq
 refine wv (h:=aB (mW t f p) wl ?_)
 refine d7 (λa=>?_) λa=>?_
 .have Y:=wa Y (wa a @condF.eq_1)
  exact wv (h:=b _ _ wy)
 .have hv:=j8 (.inr a)
  refine wv (h:=aB ((by have:=EN c i g;rwa [Cond.c_eq] at this)) wl ?_)
  refine d7 (λe=>?_) λe=>?_
  .have Y:=wa Y (wa a (wa e @condF.eq_1))
   exact wv (h:=b _ _ wy)
  .refine wv (h:=aB ((by have:=Dt t f c p hv.1 hv.2;rwa [Cond.c_eq] at this)) wl ?_)
   have Y:=wa Y (wa a (wa e @condF.eq_1))
   exact wv (h:=b _ _ wy)
theorem EE (a b:Graph)(m:Part):Pure Tryz.prog 97 [a.d,b.d,m.d] (.bool (As a b m)):=by
 refine Tz.pK ⟨λ_=>false,λ_=>[]⟩ Tryz.func97 rfl (λQ e=>?_)
 have Y:=trivial
 refine wo (h:=aB (DW a b m) wl ?_)
 refine wo (h:=aO (λc=>yE m.nodes) (λc=>wl) ?_)
 refine wo (h:=aO (λc=>yE m.edges) (λc=>wl) ?_)
 exact wo (h:=e _ _ (by simp [go_sem,As,Ew]))
theorem Kh (c:Cond)(a:c.short):Pure Tryz.prog 418 [.agg c.c] (.bool (bareB c)):=by
 obtain ⟨j,i,g,f,e,d⟩:=a
 refine Tz.pK ⟨λ_=>false,λ_=>[]⟩ Tryz.func418 rfl (λQ b=>?_)
 have Y:=@Cond.c_eq
 exact wo (h:=b _ _ (by simp [go_sem,bareB];rw [aX];simp;omega))
theorem L5 (c:Cond)(m:c.short):Pure Tryz.prog 361 [.agg c.c] (.bool (qQ c)):=by
 have a:∀ e:Int,e=c.kind->Pure Tryz.prog 418 [.agg [dI e,.list (c.kids.map Cond.c),dLI c.map.nodes,dLI c.map.edges,dLI c.pattern.graph.nodes,.list (c.pattern.graph.edges.map Edge.c),.list (c.pattern.slots.map Slot.c),dI c.pattern.vars,.list (c.pattern.tests.map Test.c)]] (.bool (bareB c)):=by
  intro e f
  have:=Kh c m
  rwa [Cond.c_eq,<- f] at this
 refine Tz.pK ⟨λ_=>false,λ_=>[]⟩ Tryz.func361 rfl (λQ d=>?_)
 have Y:=@Cond.c_eq
 refine d7 (λl=>?_) λl=>?_
 .have Y:=wa Y l
  refine wo (h:=aO (λb=>(a _ aD)) (λb=>wl) ?_)
  exact wo (h:=d _ _ (by simp [go_sem,qQ,Y]))
 .have Y:=wa Y l
  refine d7 (λk=>?_) λk=>?_
  .have Y:=wa Y k
   refine wo (h:=aO (λb=>(a _ aD)) (λb=>wl) ?_)
   exact wo (h:=d _ _ (by simp [go_sem,qQ,Y]))
  .have Y:=wa Y k
   refine d7 (λj=>?_) λj=>?_
   .have Y:=wa Y j
    refine wo (h:=aO (λb=>(a _ aD)) (λb=>wl) ?_)
    exact wo (h:=d _ _ (by simp [go_sem,qQ,Y];rw [aX];simp;omega))
   .have Y:=wa Y j
    refine d7 (λi=>?_) λi=>?_
    .have Y:=wa Y i
     refine wo (h:=aO (λb=>(a _ aD)) (λb=>wl) ?_)
     exact wo (h:=d _ _ (by simp [go_sem,qQ,Y];rw [aX];simp;omega))
    .have Y:=wa Y i
     refine d7 (λg=>?_) λg=>?_
     .have Y:=wa Y g
      exact wo (h:=d _ _ (by simp [go_sem,qQ,Y];rw [aX];simp))
     .have Y:=wa Y g
      exact wv (h:=d _ _ (by simp [go_sem,qQ,Y]))
theorem FW:∀ c:Cond,c.ok->Pure Tryz.prog 293 [.agg c.c] (.bool (Lj c)):=by
 refine k8 λc p s=>?_
 obtain ⟨q,r⟩:=(tO c).1 s
 have g:=tP c
 refine Tz.pK ⟨λ_=>false,λ_=>[]⟩ Tryz.func293 rfl (λQ j=>?_)
 have Y:=@Cond.c_eq
 refine wo (h:=aB ((by have:=L5 c q;rwa [Cond.c_eq] at this)) wl ?_)
 refine wv (h:=?_)
 repeat first|intro _|refine ⟨gL,?_⟩
 refine wq (λd=>?_) λd=>?_
 .exact wv (h:=j _ _ (.inl (by simp [go_sem,g,d])))
 .refine wv (h:=bV (λi e H=>(e 1=.adr c.c/\e 3=dI i)/\(i<=c.kids.length)/\(((c.kids.take i).any λk=>!Lj k)=false)) (λi=>c.kids.length - i) 0 ⟨wg,wi,(by rfl)⟩ λv l i e H f=>?_)
  obtain ⟨t,u,o⟩:=f
  have Y:=wa Y t
  refine wv (h:=?_)
  repeat first|intro _|refine ⟨gL,?_⟩
  refine wq (λb=>?_) λb=>?_
  .have Y:=wa Y b
   refine wo (h:=aB ((by have:=p _ (aC b) (r _ (aC b));rwa [Cond.c_eq] at this)) wl ?_)
   refine wv (h:=?_)
   repeat first|intro _|refine ⟨gL,?_⟩
   refine wq (λm=>?_) λm=>?_
   .refine wv (h:=?_)
    have a:c.kids.all Lj=false:=by rw [bN];intro h;rw [cD] at h;have:=h _ (aC b);rw [m] at this;cases this
    exact j _ _ (.inl (by simp only [go_sem,g,d,a,Bool.and_false]))
   .exact wo (h:=wx l (i+1) ⟨wg,wj,(by rw [dX _ _ _ b,o];simp [m])⟩)
  .refine wv (h:=?_)
   have n:=pO o b
   have a:c.kids.all Lj=true:=by simp at n ⊢;exact n
   exact j _ _ (.inl (by simp only [go_sem,g,d,a,Bool.and_true]))
theorem HQ:∀ c:Cond,c.size<=1000000->Pure Tryz.prog 294 [.agg c.c] (.tup [dI c.size,dI c.dep]):=by
 refine k8 λc v D=>?_
 have f:=zK c
 have g:=Tq c
 have y:=Ab c.kids
 refine Tz.pK ⟨λ_=>false,λ_=>[]⟩ Tryz.func294 rfl (λQ u=>?_)
 try simp [go_sem,seval,Cond.c_eq]
 obtain ⟨t,j⟩:∃ t:Nat->dA->AHeap->Prop,∀ (i:Nat) (e:dA) (H:AHeap),t i e H↔((e 1=.adr c.c)/\(e 4=dI ((1+Cond.sizes (c.kids.take i):Nat):Int))/\(e 5=dI (Cond.deps (c.kids.take i):Nat))/\(e 6=dI i)/\(i<=c.kids.length)):=⟨λi e H=>_,λ_ _ _=>Iff.rfl⟩
 refine oR t (λi=>c.kids.length - i) (0) ((j _ _ _).2 ⟨?_,?_,?_,?_,(by first|assumption|omega|(simp [go_sem,Cond.c_eq];done)|(simp_all;done))⟩) ?_
 iterate 4 (first|omega|(simp [go_sem,seval,Cond.c_eq]<;>omega))
 intro i e H q
 obtain ⟨m,b,a,l,C⟩:=(j _ _ _).1 q
 have h:=And.intro m l
 try simp [go_sem,seval,Cond.c_eq,h,b,a]
 repeat first|intro _|refine ⟨gL,?_⟩
 refine aP (λd=>?_) (λd=>?_)
 .try simp [go_sem] at d
  have x:=By (aC d)
  have A:=Pq c.kids[i]
  have n:=List.take_succ_eq_append_getElem d
  have r:=FE (c.kids.take i) c.kids[i]
  have s:=Ju (c.kids.take i) c.kids[i]
  have w:=FD c.kids (i+1)
  have o:Cond.sizes (c.kids.take (i+1))=Cond.sizes (c.kids.take i)+c.kids[i].size:=by rw [n,r]
  have p:Cond.deps (c.kids.take (i+1))=max (Cond.deps (c.kids.take i)) c.kids[i].dep:=by rw [n,s]
  have z:=Ab (c.kids.take i)
  try simp [go_sem,seval,Cond.c_eq,h,b,a,d,o,p,HZ]
  repeat first|intro _|refine ⟨gL,?_⟩
  refine aB ((by have:=v _ (aC d) aD;rwa [Cond.c_eq] at this)) ((by first|rfl|(simp [go_sem,<- List.map_take,<- List.map_drop,Cond.c_eq,h,b,a,d,o,p,HZ];done))) ?_
  try simp [go_sem,seval,Cond.c_eq,h,b,a,d,o,p,HZ]
  repeat first|intro _|refine ⟨gL,?_⟩
  refine dN (i+1) aD ((j _ _ _).2 ⟨?_,?_,?_,?_,(by first|assumption|omega|(simp [go_sem,Cond.c_eq,h,b,a,d,o,p,HZ];done)|(simp_all<;>omega))⟩)<;>first|omega|(simp [go_sem,seval,Cond.c_eq,h,b,a,d,o,p,HZ]<;>omega)
 .try simp [go_sem] at d
  have B:c.kids.take i=c.kids:=aY d
  rw [B] at b a
  try simp [go_sem,seval,Cond.c_eq,h,b,a]
  refine aP (λk=>?_) (λk=>?_)
  .try simp [go_sem] at k
   try simp [go_sem,seval,Cond.c_eq,h,b,a]
   repeat first|intro _|refine ⟨gL,?_⟩
   exact u _ _ (by first|(left;(simp [go_sem,f,g,k]);done)|(right;(simp [go_sem,f,g,k]);done))
  .try simp [go_sem] at k
   try simp [go_sem,seval,Cond.c_eq,h,b,a]
   exact u _ _ (by first|(left;(simp [go_sem,f,g,k]);done)|(right;(simp [go_sem,f,g,k]);done))
theorem L8 (c:Cond)(e:c.ok)(d:c.size<=1000000):Pure Tryz.prog 216 [.agg c.c] (dI (qC c)):=by
 refine Tz.pK ⟨λ_=>false,λ_=>[]⟩ Tryz.func216 rfl (λQ b=>?_)
 have Y:=@Cond.c_eq
 refine wo (h:=aB ((by have:=FW c e;rwa [Cond.c_eq] at this)) wl ?_)
 refine f9 (λa=>?_) λa=>?_
 .exact wv (h:=b _ _ (by simp [go_sem,qC,a]))
 .refine wv (h:=aB ((by have:=HQ c d;rwa [Cond.c_eq] at this)) wl ?_)
  refine f9 (λf=>?_) λf=>?_
  .exact wv (h:=b _ _ (by simp [go_sem,qC,a];omega))
  .exact wv (h:=b _ _ (by simp [go_sem,qC,a];omega))
theorem Ki (p:Pattern)(v:Int):Pure Tryz.prog 362 [p.d,dI v] (.bool (iI p v)):=by
 refine Tz.pK ⟨λ_=>false,λ_=>[]⟩ Tryz.func362 rfl (λQ l=>?_)
 have Y:=trivial
 refine wv (h:=bV (λi e H=>(e 2=.adr p.c/\e 1=dI v/\e 5=dI i)/\(i<=p.slots.length)/\(((p.slots.take i).any λs=>decide (s.term.var=v))=false)) (λi=>p.slots.length - i) 0 ⟨wg,wi,(by rfl)⟩ λo g i e H b=>?_)
 obtain ⟨m,n,k⟩:=b
 have Y:=wa Y m
 refine wv (h:=?_)
 repeat first|intro _|refine ⟨gL,?_⟩
 refine wq (λa=>?_) λa=>?_
 .have Y:=wa Y a
  refine wv (h:=?_)
  repeat first|intro _|refine ⟨gL,?_⟩
  refine wq (λj=>?_) λj=>?_
  .refine wv (h:=?_)
   have f:iI p v=true:=aZ.2 ⟨_,aC a,by simpa using j⟩
   exact l _ _ (.inl (by simp only [go_sem,f]))
  .exact wo (h:=wx g (i+1) ⟨wg,wj,(by rw [dX _ _ _ a,k];simpa using j)⟩)
 .refine wv (h:=?_)
  have f:iI p v=false:=pO k a
  exact l _ _ (.inl (by simp only [go_sem,f]))
def tC (t:Types)(o:Int)(q:Pattern):Int:=if q.vars<o then 20 else l6 t q o
theorem L6 (t:Types)(s:t.ok)(o:Int)(r:0<=o)(q:Pattern):Pure Tryz.prog 295 [t.d,dI o,q.d] (dI (tC t o q)):=by
 refine Tz.pK ⟨λ_=>false,λ_=>[]⟩ Tryz.func295 rfl (λQ f=>?_)
 have Y:=trivial
 refine d7 (λp=>?_) λp=>?_
 .exact wv (h:=f _ _ (by simp [go_sem,tC,p]))
 .refine wv (h:=aB (DT t s q) wl ?_)
  refine d7 (λa=>?_) λa=>?_
  .exact wv (h:=f _ _ (by simp [go_sem,tC,l6,a];omega))
  .have g:=j8 (.inl a)
   have n:tC t o q=l6 t q o:=by unfold tC;rw [if_neg aD]
   refine wv (h:=bV (λv e H=>(e 5=.adr q.c/\e 7=dI 9/\e 8=dI (o+v))/\(∀ u:Int,o<=u->u<o+v->iI q u=true)) (λv=>(q.vars - o).toNat - v) 0 ⟨wg,(by intro u b g;omega)⟩ λy j v e H i=>?_)
   obtain ⟨x,m⟩:=i
   have Y:=wa Y x
   refine d7 (λl=>?_) λl=>?_
   .have Y:=wa Y l
    refine wo (h:=aB (Ki q _) wl ?_)
    refine f9 (λk=>?_) λk=>?_
    .exact wv (h:=f _ _ (by rw [n,Ed a r (v:=o+v) aD l (bS k)];simp [go_sem]))
    .have ho':∀ u:Int,o<=u->u<o+((v+1:Nat):Int)->iI q u=true:=λu b g=>by
      by_cases w:u<o+v
      .exact m u b w
      .rw [(aD:u=o+v)];simpa using k
     exact wo (h:=wx j (v+1) ⟨wg,(by exact ho')⟩)
   .exact wv (h:=f _ _ (by rw [n,yS a r λu b g=>m u b aD];simp [go_sem]))
theorem OF (t:Types)(G:t.ok):∀ (c:Cond) (p:Pattern),0<=p.vars->p.vars<=12->Pure Tryz.prog 217 [t.d,p.d,.agg c.c] (dI (nX t p c)):=by
 refine k8 λc D p u A=>?_
 have j:=E9 t p c
 refine Tz.pK ⟨λt=>t==7,λ_=>[]⟩ Tryz.func217 rfl (λQ n=>?_)
 have Y:=@Cond.c_eq
 refine d7 (λx=>?_) λx=>?_
 .rw [if_pos x,if_pos x] at j
  refine wv (h:=aB (L6 t G p.vars u c.pattern) wl ?_)
  refine d7 (λr=>?_) λr=>?_
  .have hE:iK t p c.map c.pattern=tC t p.vars c.pattern:=by
    unfold iK;unfold tC at r ⊢
    split
    .rfl
    .rename_i h';rw [if_neg h'] at r;rw [if_pos r]
   exact wv (h:=n _ _ (by rw [j,hE,if_pos aD];simp [go_sem]))
  .have hv0:¬ c.pattern.vars<p.vars/\l6 t c.pattern p.vars=0:=by
    unfold tC at r
    split at r
    .omega
    .exact ⟨by assumption,r⟩
   have F:=hv0.1
   have z:=hv0.2
   refine wv (h:=aB (DW p.graph c.pattern.graph c.map) wl ?_)
   refine d7 (λy=>?_) λy=>?_
   .exact wv (h:=n _ _ (by simp [go_sem,j,iK,z,y];omega))
   .refine wo (h:=aB (EE p.graph c.pattern.graph c.map) wl ?_)
    refine wv (h:=?_)
    repeat first|intro _|refine ⟨gL,?_⟩
    refine wq (λB=>?_) λB=>?_
    .exact wv (h:=n _ _ (by simp [go_sem,j,iK,z,y,B];omega))
    .have hE0:iK t p c.map c.pattern=0:=by simp [iK,z,y,B];omega
     rw [hE0,if_neg aD] at j
     obtain ⟨w,g⟩:=cC (c.pattern)
     have E:=Ec z
     have l:0<=w.vars:=by rw [g];exact E.1
     have k:w.vars<=12:=by rw [g];exact E.2
     have q:nX t p c=fM (nX t w) c.kids:=by rw [j,g]
     refine wv (h:=bV (λi e H=>(e 3=.adr t.c/\e 5=.adr c.c/\e 7=.ptr 0 1 0 0/\e 10=dI i)/\(H.get 0=some ⟨33,5,[w.c],false⟩)/\(0<H.next)/\(i<=c.kids.length)/\(fM (nX t w) (c.kids.drop i)=nX t p c)) (λi=>c.kids.length - i) 0 ⟨wg,(by simp [go_sem,g]),wn,wi,(by exact q.symm)⟩ λJ o i e H m=>?_)
     obtain ⟨C,f,b,I,v⟩:=m
     have Y:=wa Y (wa C (wa f (b8 b)))
     refine wv (h:=?_)
     repeat first|intro _|refine ⟨gL,?_⟩
     refine wq (λa=>?_) λa=>?_
     .have hst:=v
      rw [j9 _ a] at hst
      have Y:=wa Y a
      refine wo (h:=aM ((by have:=D _ (aC a) w l k;rwa [Cond.c_eq] at this)) wl ?_)
      refine wv (h:=?_)
      repeat first|intro _|refine ⟨gL,?_⟩
      refine wq (λs=>?_) λs=>?_
      .rw [if_pos aD] at hst
       exact wv (h:=n _ _ (by simp [go_sem,hst]))
      .rw [if_neg aD] at hst
       exact wo (h:=wx o (i+1) ⟨wg,(by simp [go_sem,Y]),wn,wj,(by exact hst)⟩)
     .exact wv (h:=n _ _ (by rw [<- v,lB _ aD];simp [go_sem]))
 .rw [if_neg x,if_neg aD,if_neg x] at j
  obtain ⟨w,g⟩:=cC (p)
  have l:0<=w.vars:=by rw [g];exact u
  have k:w.vars<=12:=by rw [g];exact A
  have q:nX t p c=fM (nX t w) c.kids:=by rw [j,g]
  refine wv (h:=bV (λi e H=>(e 3=.adr t.c/\e 5=.adr c.c/\e 7=.ptr 0 1 0 0/\e 10=dI i)/\(H.get 0=some ⟨33,5,[w.c],false⟩)/\(0<H.next)/\(i<=c.kids.length)/\(fM (nX t w) (c.kids.drop i)=nX t p c)) (λi=>c.kids.length - i) 0 ⟨wg,(by simp [go_sem,g]),wn,wi,(by exact q.symm)⟩ λJ o i e H m=>?_)
  obtain ⟨C,f,b,I,v⟩:=m
  have Y:=wa Y (wa C (wa f (b8 b)))
  refine wv (h:=?_)
  repeat first|intro _|refine ⟨gL,?_⟩
  refine wq (λa=>?_) λa=>?_
  .have hst:=v
   rw [j9 _ a] at hst
   have Y:=wa Y a
   refine wo (h:=aM ((by have:=D _ (aC a) w l k;rwa [Cond.c_eq] at this)) wl ?_)
   refine wv (h:=?_)
   repeat first|intro _|refine ⟨gL,?_⟩
   refine wq (λs=>?_) λs=>?_
   .rw [if_pos aD] at hst
    exact wv (h:=n _ _ (by simp [go_sem,hst]))
   .rw [if_neg aD] at hst
    exact wo (h:=wx o (i+1) ⟨wg,(by simp [go_sem,Y]),wn,wj,(by exact hst)⟩)
  .exact wv (h:=n _ _ (by rw [<- v,lB _ aD];simp [go_sem]))
theorem L7 (t:Types)(f:t.ok)(p:Pattern)(c:Cond)(i:c.ok)(g:c.size<=1000000):Pure Tryz.prog 131 [t.d,p.d,.agg c.c] (dI (condF t p c)):=by
 refine Tz.pK ⟨λ_=>false,λ_=>[]⟩ Tryz.func131 rfl (λQ b=>?_)
 have Y:=@Cond.c_eq
 refine wv (h:=aB (DT t f p) wl ?_)
 refine d7 (λa=>?_) λa=>?_
 .have Y:=wa Y (wa a @condF.eq_1)
  exact wv (h:=b _ _ wy)
 .have hv:=j8 (.inr a)
  refine wv (h:=aB ((by have:=L8 c i g;rwa [Cond.c_eq] at this)) wl ?_)
  refine d7 (λe=>?_) λe=>?_
  .have Y:=wa Y (wa a (wa e @condF.eq_1))
   exact wv (h:=b _ _ wy)
  .refine wv (h:=aB ((by have:=OF t f c p hv.1 hv.2;rwa [Cond.c_eq] at this)) wl ?_)
   have Y:=wa Y (wa a (wa e @condF.eq_1))
   exact wv (h:=b _ _ wy)
theorem qT (a:Int):Pure Tryz.prog 334 [dI a] (.bool false):=by
 refine Tz.pK ⟨λ_=>false,λ_=>[]⟩ Tryz.func334 rfl (λQ b=>?_)
 have Y:=trivial
 exact wv (h:=b _ _ wy)
theorem Ad (a:Int):Pure Tryz.prog 389 [dI a] (.bool false):=by
 refine Tz.pK ⟨λ_=>false,λ_=>[]⟩ Tryz.func389 rfl (λQ b=>?_)
 have Y:=trivial
 exact wv (h:=b _ _ wy)
theorem Tw (a b:Int):Pure Tryz.prog 333 [dI a,dI b] (.bool (decide (a<b))):=by
 refine Tz.pK ⟨λ_=>false,λ_=>[]⟩ Tryz.func333 rfl (λQ d=>?_)
 have Y:=trivial
 refine wo (h:=aB (Ad a) wl ?_)
 refine wo (h:=aO (λc=>Ad b) (λc=>wl) ?_)
 exact wo (h:=d _ _ wy)
def pY (l:List Int)(v:Int):Nat:=(l.takeWhile λy=>decide (y<v)).length
theorem Qb {l:List Int}{v:Int}{n:Nat}(h1:∀ j (hj:j<l.length),j<n->l[j]<v)(h2:n<=l.length)(h3:∀ hn:n<l.length,¬ l[n]<v):pY l v=n :=
 tQ _ l n (λj x hj hx=>by
  obtain ⟨hjl,rfl⟩:=aL.1 hx
  simpa using h1 j hjl hj) h2 λx hx=>by
  obtain ⟨hjl,rfl⟩:=aL.1 hx
  simpa using h3 hjl
theorem YM (a b:Nat):((a:Int)+(b:Int)).fdiv 2=(((a+b) / 2:Nat):Int):=by
 rw [Int.fdiv_eq_ediv_of_nonneg _ aD];omega
theorem tL (l:List Int)(v:Int)(B:l.Pairwise (· < ·))(J:l.length<=1000000):Pure Tryz.prog 241 [dLI l,dI v] (.tup [dI (pY l v),.bool (mem l v)]):=by
 have f:=dH.1 B
 refine Tz.pK ⟨λ_=>false,λ_=>[]⟩ Tryz.func241 rfl (λQ A=>?_)
 have Y:=@YM
 refine wo (h:=bV (λm e H=>∃ i:Nat,∃ j:Nat,(e 0=dLI l/\e 1=dI v/\e 6=dI l.length/\e 7=dI i/\e 8=dI j)/\(i<=j)/\(j<=l.length)/\(j - i<=m)/\(∀ a (h:a<l.length),a<i->l[a]<v)/\(∀ a (h:a<l.length),j<=a->¬ l[a]<v)) (λm=>m) l.length ⟨0,l.length,wg,aD,aD,aD,(by intro a h d;omega),(by intro a h d;omega)⟩ λL p m e H t=>?_)
 obtain ⟨i,j,G,K,D,C,x,w⟩:=t
 have Y:=wa Y G
 refine d7 (λq=>?_) λq=>?_
 .have hk:(i+j) / 2<l.length:=aD
  have r:(((i:Int)+(j:Int)) / 2).toNat=(i+j) / 2:=aD
  have I:=Qm (aD:0<=(i:Int)+(j:Int)) (aD:(i:Int)+(j:Int)<=18446744073709551615)
  have Y:=wa Y (wa q (wa r (aA hk)))
  refine wo (h:=aB (Tw _ _) wl ?_)
  refine f9 (λh5=>?_) λh5=>?_
  .obtain ⟨c,u⟩:∃ c:Nat,c=(i+j) / 2+1:=⟨_,rfl⟩
   obtain ⟨b,s⟩:∃ b:Nat,b=j:=⟨_,rfl⟩
   have o:∀ a (h:a<l.length),a<c->l[a]<v:=λa h d=>by
    rcases bX a ((i+j) / 2) with h1|h1
    .have:=f a _ h hk h1;omega
    .have:a=(i+j) / 2:=aD
     subst this;exact h5
   have n:∀ a (h:a<l.length),b<=a->¬ l[a]<v:=λa h d=>w a h aD
   exact wo (h:=wx p (m - 1) ⟨c,b,wg,aD,aD,aD,(by exact o),(by exact n)⟩)
  .obtain ⟨c,u⟩:∃ c:Nat,c=i:=⟨_,rfl⟩
   obtain ⟨b,s⟩:∃ b:Nat,b=(i+j) / 2:=⟨_,rfl⟩
   have o:∀ a (h:a<l.length),a<c->l[a]<v:=λa h d=>x a h aD
   have n:∀ a (h:a<l.length),b<=a->¬ l[a]<v:=λa h d=>by
    rcases bX ((i+j) / 2) a with h1|h1
    .have:=f _ a hk h h1;omega
    .have:a=(i+j) / 2:=aD
     subst this;omega
   exact wv (h:=wx p (m - 1) ⟨c,b,wg,aD,aD,aD,(by exact o),(by exact n)⟩)
 .have hij:j=i:=aD
  have y:pY l v=i:=Qb (λa h d=>x a h d) aD (λh=>w i h aD)
  have z:mem l v=(decide (i<l.length)&&(l[i]?.getD 0==v)):=by
   rw [aX,cQ]
   constructor
   .intro h
    obtain ⟨a,h1,F⟩:=aK h
    have q:i<=a:=Nat.le_of_not_lt λd=>by have:=x a h1 d;omega
    have E:a=i:=by
     rcases Nat.eq_or_lt_of_le q with h5|h5
     .exact h5.symm
     .have:=f i a aD h1 h5
      exact absurd aD (w i aD aD)
    subst E
    simp [h1,F]
   .intro h
    simp only [aN,decide_eq_true_eq,beq_iff_eq] at h
    rw [aA h.1,Option.getD_some] at h
    rw [<- h.2];exact aC h.1
  by_cases g:i<l.length
  .have Y:=wa Y (wa (aA g) g)
   refine wo (h:=aO (λk=>qT _) (λk=>wl) ?_)
   refine wo (h:=aO (λk=>qT _) (λk=>wl) ?_)
   exact wo (h:=A _ _ (by rw [y,z];simp [go_sem,Y];rw [aX];simp))
  .have Y:=wa Y g
   refine wo (h:=aO (λk=>qT _) (λk=>wl) ?_)
   refine wo (h:=aO (λk=>qT _) (λk=>wl) ?_)
   exact wo (h:=A _ _ (by rw [y,z];simp [go_sem,Y]))
theorem Bs (l:List Int)(v:Int)(a:l.Pairwise (· < ·))(b:l.length<=1000000):Pure Tryz.prog 438 [dLI l,dI v] (.bool (mem l v)):=by
 refine Tz.pK ⟨λ_=>false,λ_=>[]⟩ Tryz.func438 rfl (λQ c=>?_)
 have Y:=trivial
 refine wv (h:=aB (tL l v a b) wl ?_)
 exact wv (h:=c _ _ wy)
def y3 (g:Graph)(p:Part)(k:Int):Int:=if (mem p.nodes (g.edges[k.toNat]?.getD b4).from_&&mem p.nodes (g.edges[k.toNat]?.getD b4).to_)=true then 0 else 14
def pZ (g:Graph)(p:Part):Int :=
 if DB p.nodes g.nodes.length≠0 then DB p.nodes g.nodes.length
 else if DB p.edges g.edges.length≠0 then DB p.edges g.edges.length
 else fM (y3 g p) p.edges
def subF (g:Graph)(p:Part):Int:=if graphF g≠0 then graphF g else pZ g p
theorem HE (g:Graph)(p:Part)(r:p.nodes.length<=1000000):Pure Tryz.prog 387 [g.d,p.d] (dI (pZ g p)):=by
 refine Tz.pK ⟨λ_=>false,λ_=>[]⟩ Tryz.func387 rfl (λQ f=>?_)
 have Y:=trivial
 refine wv (h:=?_)
 repeat first|intro _|refine ⟨gL,?_⟩
 refine aB (AE p.nodes _) wl ?_
 refine wv (h:=?_)
 repeat first|intro _|refine ⟨gL,?_⟩
 refine wq (λb=>?_) λb=>?_
 .exact wv (h:=f _ _ (by simp [go_sem,pZ,b]))
 .refine wv (h:=?_)
  repeat first|intro _|refine ⟨gL,?_⟩
  refine aB (AE p.edges _) wl ?_
  refine wv (h:=?_)
  repeat first|intro _|refine ⟨gL,?_⟩
  refine wq (λl=>?_) λl=>?_
  .exact wv (h:=f _ _ (by simp [go_sem,pZ,b,l]))
  .have hP:pZ g p=fM (y3 g p) p.edges:=by unfold pZ;rw [if_neg (by simp [b]),if_neg (by simp [l])]
   have q:=(Bj b).2
   have m:=(Bj l).1
   refine wv (h:=?_)
   repeat first|intro _|refine ⟨gL,?_⟩
   refine bV (λi e H=>(e 2=.adr g.c/\e 3=.adr p.c/\e 28=dLI p.edges/\e 29=dI p.edges.length/\e 30=dI i)/\(i<=p.edges.length)/\(fM (y3 g p) (p.edges.drop i)=pZ g p)) (λi=>p.edges.length - i) 0 ⟨wg,wi,(by exact hP.symm)⟩ λy o i e H n=>?_
   obtain ⟨w,x,u⟩:=n
   have Y:=wa Y w
   refine d7 (λk=>?_) λk=>?_
   .have hst:=u
    rw [j9 _ k] at hst
    have t:=m _ (aC k)
    have s:p.edges[i].toNat<g.edges.length:=aD
    have j:y3 g p p.edges[i]=if (mem p.nodes g.edges[p.edges[i].toNat].from_&&mem p.nodes g.edges[p.edges[i].toNat].to_)=true then 0 else 14:=by simp only [y3,aA s,Option.getD_some]
    have Y:=wa Y (wa k (aA s))
    refine wv (h:=?_)
    repeat first|intro _|refine ⟨gL,?_⟩
    refine aM (Bs p.nodes _ q r) wl ?_
    refine wv (h:=?_)
    repeat first|intro _|refine ⟨gL,?_⟩
    refine eP (λv=>Bs p.nodes _ q r) (λv=>wl) ?_
    refine wv (h:=?_)
    repeat first|intro _|refine ⟨gL,?_⟩
    refine wq (λa=>?_) λa=>?_
    .rw [if_neg (by rcases a with h|h<;>simp [h])] at j
     rw [j,if_pos aD] at hst
     exact wv (h:=f _ _ (by simp [go_sem,<- hst]))
    .rw [if_pos (by simp [a])] at j
     rw [j,if_neg aD] at hst
     refine wv (h:=?_)
     repeat first|intro _|refine ⟨gL,?_⟩
     exact wx o (i+1) ⟨wg,wj,(by exact hst)⟩
   .exact wv (h:=f _ _ (by rw [<- u,lB _ aD];simp [go_sem]))
theorem xZ (g:Graph)(p:Part)(c:p.nodes.length<=1000000):Pure Tryz.prog 328 [g.d,p.d] (dI (subF g p)):=by
 refine Tz.pK ⟨λ_=>false,λ_=>[]⟩ Tryz.func328 rfl (λQ b=>?_)
 have Y:=trivial
 refine wv (h:=aB (l7 g) wl ?_)
 refine d7 (λa=>?_) λa=>?_
 .have Y:=wa Y (wa a @subF.eq_1)
  exact wv (h:=b _ _ wy)
 .refine wv (h:=aB (HE g p c) wl ?_)
  have Y:=wa Y (wa a @subF.eq_1)
  exact wv (h:=b _ _ wy)
theorem Me (g:Graph)(p:Part):Pure Tryz.prog 345 [g.d,p.d] (dI (pZ g p)):=by
 refine Tz.pK ⟨λt=>t==8,λr=>match r with|10=>[(0,9),(1,9),(2,9),(3,9),(5,9),(6,9),(7,9),(8,9)]|_=>[]⟩ Tryz.func345 rfl (λQ b=>?_)
 have Y:=trivial
 refine wo (h:=aB (wV p.nodes _) wl ?_)
 refine wv (h:=?_)
 repeat first|intro _|refine ⟨gL,?_⟩
 refine wq (λl=>?_) λl=>?_
 .exact wv (h:=b _ _ (by simp [go_sem,pZ,l]))
 .refine wo (h:=aB (wV p.edges _) wl ?_)
  refine wv (h:=?_)
  repeat first|intro _|refine ⟨gL,?_⟩
  refine wq (λk=>?_) λk=>?_
  .exact wv (h:=b _ _ (by simp [go_sem,pZ,l,k]))
  .have hP:pZ g p=fM (y3 g p) p.edges:=by unfold pZ;rw [if_neg (by simp [l]),if_neg (by simp [k])]
   have m:=(Bj k).1
   refine wv (h:=bV (λi e H=>(e 2=.adr g.c/\e 3=.adr p.c/\e 7=dI i)/\(i<=p.edges.length)/\(fM (y3 g p) (p.edges.drop i)=pZ g p)) (λi=>p.edges.length - i) 0 ⟨wg,wi,(by exact hP.symm)⟩ λy o i e H n=>?_)
   obtain ⟨w,x,u⟩:=n
   have Y:=wa Y w
   refine wv (h:=?_)
   repeat first|intro _|refine ⟨gL,?_⟩
   refine wq (λj=>?_) λj=>?_
   .have hst:=u
    rw [j9 _ j] at hst
    have s:=m _ (aC j)
    have q:p.edges[i].toNat<g.edges.length:=aD
    have f:y3 g p p.edges[i]=if (mem p.nodes g.edges[p.edges[i].toNat].from_&&mem p.nodes g.edges[p.edges[i].toNat].to_)=true then 0 else 14:=by simp only [y3,aA q,Option.getD_some]
    have Y:=wa Y (wa j (aA q))
    refine wo (h:=aB (IE p.nodes _) wl ?_)
    refine wo (h:=aO (λv=>IE p.nodes _) (λv=>wl) ?_)
    refine wv (h:=?_)
    repeat first|intro _|refine ⟨gL,?_⟩
    refine wq (λa=>?_) λa=>?_
    .rw [if_neg (by rcases a with h|h<;>simp [h])] at f
     rw [f,if_pos aD] at hst
     exact wv (h:=b _ _ (by simp [go_sem,<- hst]))
    .rw [if_pos (by simp [a])] at f
     rw [f,if_neg aD] at hst
     exact wo (h:=wx o (i+1) ⟨wg,wj,(by exact hst)⟩)
   .exact wv (h:=b _ _ (by rw [<- u,lB _ aD];simp [go_sem]))
theorem Md (g:Graph)(p:Part):Pure Tryz.prog 263 [g.d,p.d] (dI (subF g p)):=by
 refine Tz.pK ⟨λ_=>false,λ_=>[]⟩ Tryz.func263 rfl (λQ b=>?_)
 have Y:=trivial
 refine wv (h:=aB (lU g) wl ?_)
 refine d7 (λa=>?_) λa=>?_
 .have Y:=wa Y (wa a @subF.eq_1)
  exact wv (h:=b _ _ wy)
 .refine wv (h:=aB (Me g p) wl ?_)
  have Y:=wa Y (wa a @subF.eq_1)
  exact wv (h:=b _ _ wy)
def gN (g:Graph)(n:Int):Int:=g.nodes[n.toNat]?.getD 0
def gEd (g:Graph)(p:Part)(k:Int):Edge:=⟨(g.edges[k.toNat]?.getD b4).type,pY p.nodes (g.edges[k.toNat]?.getD b4).from_,pY p.nodes (g.edges[k.toNat]?.getD b4).to_⟩
def b5 (g:Graph)(p:Part):Graph:=if subF g p=0 then ⟨p.nodes.map (gN g),p.edges.map (gEd g p)⟩ else ⟨[],[]⟩
def D1 (g:Graph)(p:Part):Part:=if subF g p=0 then p else ⟨[],[]⟩
theorem sP {g:Graph}{p:Part}(h:subF g p=0):graphF g=0/\p.nodes.Pairwise (· < ·)/\(∀ n∈p.nodes,0<=n/\n<g.nodes.length)/\∀ k∈p.edges,0<=k/\k<g.edges.length:=by
 unfold subF pZ at h
 split at h
 .rename_i h1;exact absurd h h1
 .rename_i h1
  split at h
  .rename_i h2;exact absurd h h2
  .rename_i h2
   split at h
   .rename_i h3;exact absurd h h3
   .rename_i h3
    have a:DB p.nodes g.nodes.length=0:=aD
    have b:DB p.edges g.edges.length=0:=aD
    exact ⟨aD,(Bj a).2,(Bj a).1,(Bj b).1⟩
theorem lA {α β:Type}(f:α->β){l:List α}{i:Nat}(h:i<l.length):(l.take (i+1)).map f=(l.take i).map f++[f l[i]]:=by
 rw [List.take_succ_eq_append_getElem h,List.map_append];rfl
theorem mJ {α β:Type}(f:α->β){l:List α}{i:Nat}(h:l.length<=i):(l.take i).map f=l.map f:=by
 rw [aY h]
theorem CR (g:Graph)(p:Part)(G:p.nodes.length<=1000000)(M:p.edges.length<=1000000):Pure Tryz.prog 314 [g.d,p.d] (.tup [(b5 g p).d,(D1 g p).d,dI (subF g p)]):=by
 refine Tz.pK ⟨λt=>t==4||t==5||t==8||t==13,λr=>match r with|8=>[(0,7),(1,7)]|_=>[]⟩ Tryz.func314 rfl (λQ hQ=>?_)
 have Y:=trivial
 refine wv (h:=aB (xZ g p G) wl ?_)
 refine d7 (λJ=>?_) λJ=>?_
 .exact wv (h:=hQ _ _ (by simp [go_sem,b5,D1,J]))
 .obtain ⟨hg,hs,O,P⟩:=sP J
  refine wo (h:=tX (Ghosts.step (Ghosts.refl _) 2 0 0 3 1 _ _ (rfl) rfl rfl rfl) (λi e H=>∃ a:List Int,(e 2=.adr g.c/\e 3=.adr p.c/\e 4=.ptr 0 1 0 0/\e 5=.ptr 1 1 0 0/\e 8=.ptr 2 1 0 0/\e 23=dLI p.nodes/\e 24=dI p.nodes.length/\e 25=dI i)/\(H.get 0=some ⟨29,2,[[.nil,.nil]],false⟩)/\(0<H.next)/\(H.get 1=some ⟨36,2,[[.nil,.nil]],false⟩)/\(1<H.next)/\(H.get 2=some ⟨29,2,[[.own 3 a.length,.nil]],false⟩)/\(2<H.next)/\(H.get 3=some ⟨3,1,a.map cI,false⟩)/\(3<H.next)/\(i<=p.nodes.length)/\(a=(p.nodes.take i).map (gN g))) (λi=>p.nodes.length - i) 0 ⟨([]),wg,wn,wn,wn,wn,wn,wn,wn,wn,wi,(by rfl)⟩ λI0 U i e H S=>?_)
  obtain ⟨a,E0,F,x,D,v,f,s,A,o,hi,L⟩:=S
  have Y:=wa Y (wa E0 (wa F (wa (b8 x) (wa D (wa (b8 v) (wa f (wa (b8 s) (wa A (b8 o)))))))))
  refine d7 (λI=>?_) λI=>?_
  .have hin':=O _ (aC I)
   have hk:p.nodes[i].toNat<g.nodes.length:=aD
   have a1:a.length=i:=by rw [L];simp;omega
   have Y:=wa Y (wa I (wa (aA hk) @gN.eq_1))
   exact wo (h:=wx U (i+1) ⟨(a++[gN g p.nodes[i]]),wg,wn,wn,wn,wn,wn,wn,wn,wn,wj,(by rw [lA _ I,<- L])⟩)
  .have hX:a=p.nodes.map (gN g):=by rw [L,mJ _ aD]
   refine wo (h:=tX (Ghosts.step (Ghosts.refl _) 2 0 1 122 3 _ _ (f) rfl rfl rfl) (λk e H=>∃ j:Nat,∃ l:List Edge,(e 2=.adr g.c/\e 3=.adr p.c/\e 4=.ptr 0 1 0 0/\e 5=.ptr 1 1 0 0/\e 8=.ptr 2 1 0 0/\e 41=dLI p.edges/\e 42=dI p.edges.length/\e 43=dI k)/\(H.get 0=some ⟨29,2,[[.nil,.nil]],false⟩)/\(0<H.next)/\(H.get 1=some ⟨36,2,[[.nil,.nil]],false⟩)/\(1<H.next)/\(H.get 2=some ⟨29,2,[[.own 3 a.length,.own j l.length]],false⟩)/\(2<H.next)/\(H.get 3=some ⟨3,1,a.map cI,false⟩)/\(3<H.next)/\(H.get j=some ⟨122,3,l.map Edge.c,false⟩)/\(j<H.next)/\(k<=p.edges.length)/\(l=(p.edges.take k).map (gEd g p))/\(j≠0)/\(j≠1)/\(j≠2)/\(j≠3)) (λk=>p.edges.length - k) 0 ⟨H.next,([]),wg,wn,wn,wn,wn,wn,wn,wn,wn,wn,wn,wi,(by rfl),aD,aD,aD,aD⟩ λI2 T k e H R=>?_)
   obtain ⟨j,l,E2,E,w,C,u,B,q,z,n,y,m,hk,K,Z,X,W,V⟩:=R
   have Y:=wa Y (wa E2 (wa E (wa (b8 w) (wa C (wa (b8 u) (wa B (wa (b8 q) (wa z (wa (b8 n) (wa y (wa (b8 m) (wa Z (wa X (wa W (wa V (wa Z.symm (wa X.symm (wa W.symm V.symm))))))))))))))))))
   refine d7 (λb=>?_) λb=>?_
   .have hie':=P _ (aC b)
    have N:p.edges[k].toNat<g.edges.length:=aD
    have a0:l.length=k:=by rw [K];simp;omega
    have Y:=wa Y (wa b (wa (aA N) @gEd.eq_1))
    refine wo (h:=aB (tL p.nodes _ hs G) wl ?_)
    refine wo (h:=aB (tL p.nodes _ hs G) wl ?_)
    exact wo (h:=wx T (k+1) ⟨j,(l++[gEd g p p.edges[k]]),wg,wn,wn,wn,wn,wn,wn,wn,wn,wn,wn,wj,(by rw [lA _ b,<- K]),wj,wj,wj,wj⟩)
   .have hY:l=p.edges.map (gEd g p):=by rw [K,mJ _ aD]
    refine wv (h:=aM ((kK p.nodes G).pure) wl ?_)
    refine wv (h:=aM ((kK p.edges M).pure) wl ?_)
    exact wv (h:=hQ _ _ (by simp [go_sem,Y,b5,D1,J,hX,hY]))
end Go.Abs
end
