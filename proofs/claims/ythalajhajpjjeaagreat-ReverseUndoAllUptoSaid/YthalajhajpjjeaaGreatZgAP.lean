/- Layer 26 of the reference: rules, places, the match, what re -/
import Derived.Test.YthalajhajpjjeaaGreatZgAF
import Derived.Test.YthalajhajpjjeaaGreatZgAA
import Derived.Test.YthalajhajpjjeaaGreatZgAO
import Derived.Test.YthalajhajpjjeaaGreatZgAN
set_option linter.unusedVariables false
set_option linter.unusedSimpArgs false
section
set_option maxRecDepth 100000
set_option maxHeartbeats 4000000
open Go Go.Proofs
namespace Go.Abs
structure RuleV (t:Types) (r:Rule):Prop where
 vf:(b9 t).2=0
 pl:PatOk t r.left
 gr:graphF r.right.graph=0
 tr:iB t r.right.graph=true
 sub:subF r.left.graph r.keep=0
 mo:eV (cY r.left.graph r.keep) r.right.graph r.into=0
 inj:Gy (cY r.left.graph r.keep) r.right.graph r.into=true
 mkb:yU t r.right.graph r.freshN r.freshE=true
 vars:r.right.vars=r.left.vars
 few:r.right.slots.length<=10
 slot:∀ s∈r.right.slots,gJ t r.right s=0
 cond:CondV t r.left r.cond
 kl:r.keep.nodes.length<=1000000/\r.keep.edges.length<=1000000
theorem Pz {t:Types}{r:Rule}(a:r.ok)(h:ruleF t r=0):RuleV t r:=by
 unfold ruleF at h
 split at h
 .rename_i h1;exact absurd h h1
 .rename_i h1
  split at h
  .cases h
  .split at h
   .rename_i h3;exact absurd h h3
   .rename_i h3
    split at h
    .rename_i h4;exact absurd h h4
    .rename_i h4
     split at h
     .rename_i h5;exact absurd h h5
     .rename_i h5
      split at h
      .cases h
      .rename_i h6
       rw [jU] at h1 h3 h4 h5
       have c:=C3 h4
       unfold iV at h4
       rw [if_neg aD,if_neg (by simp [c.2])] at h4
       split at h4
       .cases h4
       .rename_i h7
        split at h4
        .cases h4
        .rename_i h8
         have b:subF r.left.graph r.keep=0/\eV (cY r.left.graph r.keep) r.right.graph r.into=0/\Gy (cY r.left.graph r.keep) r.right.graph r.into=true:=by
          unfold keptF at h5
          split at h5
          .rename_i q;exact absurd h5 q
          .rename_i q
           split at h5
           .rename_i q2;exact absurd h5 q2
           .rename_i q2
            split at h5
            .cases h5
            .rename_i q3;exact ⟨aD,aD,by simpa using q3⟩
         unfold condF at h
         rw [if_neg aD] at h
         split at h
         .rename_i q;exact absurd h q
         .rename_i h9
          refine ⟨h1,Ms (.inr h3),c.1,c.2,b.1,b.2.1,b.2.2,by simpa using h6,aD,aD,λs d=>?_,⟨?_,h,a.size⟩,a.k1,a.k2⟩
          .obtain ⟨i,e,rfl⟩:=aO d
           have:=eP _ _ h4 i (dY _) aD
           rw [CZ e] at this
           split at this
           .cases this
           .rename_i q;exact jU.1 q
          .rw [jU] at h9
           unfold sA at h9
           split at h9
           .cases h9
           .rename_i q;simpa using q
theorem RuleV.keep {t:Types}{r:Rule}(h:RuleV t r):(r.keep.nodes.length=r.into.nodes.length/\r.keep.edges.length=r.into.edges.length)/\(∀ x∈r.keep.nodes,0<=x/\x<r.left.graph.nodes.length)/\(∀ x∈r.keep.edges,0<=x/\x<r.left.graph.edges.length) /\
  (∀ x∈r.into.nodes,0<=x/\x<r.right.graph.nodes.length)/\∀ x∈r.into.edges,0<=x/\x<r.right.graph.edges.length:=by
 obtain ⟨i,g,d,c⟩:=zQ h.sub
 obtain ⟨_,_,f,e⟩:=n4 h.mo
 obtain ⟨b,a⟩:=zW h.mo
 have k:(cY r.left.graph r.keep).nodes.length=r.keep.nodes.length:=by unfold cY;rw [if_pos h.sub];simp
 have j:(cY r.left.graph r.keep).edges.length=r.keep.edges.length:=by unfold cY;rw [if_pos h.sub];simp
 exact ⟨⟨aD,aD⟩,d,c,b,a⟩
theorem RuleV.slots {t:Types}{r:Rule}(h:RuleV t r):∀ s∈r.right.slots,(0<=s.node/\s.node<r.right.graph.nodes.length)/\(0<=s.attr/\s.attr<(bM t (r.right.graph.nodes[s.node.toNat]?.getD 0)).length)/\pL s.term r.left.vars.toNat:=λs hs=>by
 have:=h.slot s hs
 have hv:=h.pl.vars
 have he:=h.vars
 unfold gJ at this
 split at this
 .rename_i h1
  simp only [aQ,lV,decide_eq_true_eq,inF,Pattern.kind] at h1
  exact ⟨h1.1.1.1,⟨h1.1.1.2.1,of_decide_eq_true h1.1.1.2.2⟩,⟨aD,aD⟩,aD,aD⟩
 .cases this
theorem LV (t:Types)(b:t.ok)(r:Rule)(f:r.ok)(h:Host):Pure Tryz.prog 59 [t.d,r.d,h.d] (dI (iJ t r h)):=by
 refine Tz.pK ⟨λ_=>false,λ_=>[]⟩ Tryz.func59 rfl (λQ e=>?_)
 have Y:=wa @Host.d.eq_1 @Host.c.eq_1
 refine wv (h:=aB (LY t b r f) wl ?_)
 refine dP (λa=>?_) λa=>?_
 .exact wv (h:=e _ _ (by simp [go_sem,iJ,a]))
 .refine wv (h:=aB (yM t b h) wl ?_)
  exact wv (h:=e _ _ (by simp [go_sem,iJ,a,iG]))
theorem p8 (l:List Int)(k:Nat)(v:Int):gA l (k+1) v=if l[k]?.getD (-1)=v then (k:Int) else gA l k v:=by unfold gA;rw [eD]
theorem CD (l:List Int)(v:Int):∀ n,-1<=gA l n v/\gA l n v<n
 | 0=>by simp [gA]
 | n+1=>by
  have:=CD l v n
  rw [p8];split<;>omega
theorem Hd (l:List Int)(v:Nat):lM l (v+1)=lM l v++[gA l l.length v]:=by simp [lM,c7]
theorem lL (l:List Int)(v:Nat):(lM l v).length=v:=by simp [lM]
theorem oH (l:List Int){n i:Nat}(h:i<n):(lM l n)[i]?=some (gA l l.length i):=by simp [lM,h]
theorem F7 (l:List Int)(n:Nat)(E:n<=1000000):Pure Tryz.prog 155 [dLI l,dI n] (dLI (lM l n)):=by
 refine Tz.pK ⟨λt=>t==5,λ_=>[]⟩ Tryz.func155 rfl (λQ x=>?_)
 have Y:=trivial
 refine wv (h:=bD (λv e H=>(e 0=dLI l/\e 1=dI n/\e 5=.own 0 v/\e 6=dI v)/\(H.get 0=some ⟨3,1,(lM l v).map cI,false⟩)/\(0<H.next)/\(v<=n)) (λv=>n - v) 0 ⟨wg,(by simp [go_sem,lM]),wn,wi⟩ λI r v e H q=>?_)
 obtain ⟨C,m,f,D⟩:=q
 have Y:=wa Y (wa C (wa m (b8 f)))
 refine dP (λu=>?_) λu=>?_
 .have hbl:=lL l v
  have Y:=wa Y u
  refine wp (h:=bD (λk e H=>∃ B:List Int,(e 0=dLI l/\e 1=dI n/\e 5=.own 0 (v+1)/\e 6=dI v/\e 7=dI k)/\(H.get 0=some ⟨3,1,B.map cI,false⟩)/\(0<H.next)/\(k<=l.length)/\(B=lM l v++[gA l k v])/\(B.length=v+1)) (λk=>l.length - k) 0 ⟨(lM l v++[-1]),wg,(by simp [go_sem,Y,cI]),wn,wi,(by rfl),(by simp [hbl])⟩ λG g k e H p=>?_)
  obtain ⟨B,A,j,d,F,s,b⟩:=p
  have Y:=wa Y (wa A (wa j (wa (b8 d) b)))
  refine wv (h:=?_)
  repeat first|intro _|refine ⟨eL,?_⟩
  refine wq (λi=>?_) λi=>?_
  .have hvB:v<B.length:=aD
   have Y:=wa Y (wa i (wa (aA i) (aA hvB)))
   refine wv (h:=?_)
   repeat first|intro _|refine ⟨eL,?_⟩
   refine wq (λz=>?_) λz=>?_
   .obtain ⟨o,a⟩:∃ y,y=B.set v (k:Int):=⟨_,rfl⟩
    have w:o.map cI=(B.map cI).set v (cI k):=by rw [a,bY]
    have c:B.set v (k:Int)=lM l v++[gA l (k+1) v]:=by
     rw [p8,aA i,Option.getD_some,if_pos aD,s,mG _ _ aD,hbl,xO];rfl
    have Y:=wa Y (wa w @cI.eq_1)
    exact wp (h:=wx g (k+1) ⟨o,wg,(by simp [go_sem,Y]),wn,wj,(by rw [a];exact c),(by rw [a];simp [b])⟩)
   .obtain ⟨o,a⟩:∃ y,y=B:=⟨_,rfl⟩
    have c:B=lM l v++[gA l (k+1) v]:=by
     rw [p8,aA i,Option.getD_some,if_neg aD];exact s
    have Y:=wa Y a
    exact wp (h:=wx g (k+1) ⟨o,wg,(by simp [go_sem,Y]),wn,wj,(by rw [a];exact c),(by rw [a];simp [b])⟩)
  .have hBe:B.map cI=(lM l v).map cI++[cI (gA l l.length v)]:=by rw [s,(aD:k=l.length)];simp
   exact wp (h:=wx r (v+1) ⟨wg,(by simp [go_sem,Y,Hd,hBe]),wn,wj⟩)
 .have hve:v=n:=aD
  exact wv (h:=x _ _ (by simp [go_sem,Y,hve,dLI,lL]))
theorem BR (l:List Int)(n:Nat)(a:n<=1000000):Pure Tryz.prog 154 [dI n,dLI l] (dLI (lM l n)):=by
 refine Tz.pK ⟨λ_=>false,λ_=>[]⟩ Tryz.func154 rfl (λQ b=>?_)
 have Y:=trivial
 refine wv (h:=aB (F7 l n a) wl ?_)
 exact wv (h:=b _ _ wy)
theorem HM (t:Types)(b:t.ok)(h:Host)(p:Part)(f:p.nodes.length<=1000000)(a:p.edges.length<=1000000)(e:h.graph.nodes.length<=1000000)(g:h.graph.edges.length<=1000000) :
  Pure Tryz.prog 61 [t.d,h.d,p.d] (.tup [(Tc t h p).d,Part.d ⟨lM p.nodes h.graph.nodes.length,lM p.edges h.graph.edges.length⟩]):=by
 refine Tz.pK ⟨λt=>t==6||t==7||t==8,λ_=>[]⟩ Tryz.func61 rfl (λQ i=>?_)
 have Y:=wa @Host.d.eq_1 (wa @Host.c.eq_1 (wa @Part.d.eq_1 @Part.c.eq_1))
 refine wv (h:=aB (HR t b h p f a) wl ?_)
 refine wp (h:=aI (BR p.nodes h.graph.nodes.length e) wl ?_)
 refine wp (h:=aI (BR p.edges h.graph.edges.length g) wl ?_)
 exact wp (h:=i _ _ wy)
theorem AD (l:List Int)(n:Int):Pure Tryz.prog 156 [dLI l,dI n] (.bool (!mem l n)):=by
 refine Tz.pK ⟨λ_=>false,λ_=>[]⟩ Tryz.func156 rfl (λQ m=>?_)
 have Y:=trivial
 refine wv (h:=bD (λi e H=>(e 0=dLI l/\e 1=dI n/\e 5=dI i)/\(i<=l.length)/\(∀ j,j<i->∀ b:j<l.length,l[j]≠n)) (λi=>l.length - i) 0 ⟨wg,wi,(by intro j b;omega)⟩ λs g i e H f=>?_)
 obtain ⟨q,r,o⟩:=f
 have Y:=wa Y q
 refine wv (h:=?_)
 repeat first|intro _|refine ⟨eO,?_⟩
 refine wq (λc=>?_) λc=>?_
 .have Y:=wa Y (wa c (aA c))
  refine wv (h:=?_)
  repeat first|intro _|refine ⟨eO,?_⟩
  refine wq (λk=>?_) λk=>?_
  .have a:mem l n=true:=(mem_iff _ _).2 (k ▸ aC c)
   exact wv (h:=m _ _ (by simp [go_sem,a]))
  .exact wo (h:=wx g (i+1) ⟨wg,wj,(by intro j b d;rcases b6 j i with hji|hji;exact o j hji d;(obtain rfl:j=i:=aD;exact k))⟩)
 .have a:mem l n=false:=by
   rw [bH];intro a
   obtain ⟨j,b,p⟩:=aO ((mem_iff _ _).1 a)
   exact o j aD b p
  exact wv (h:=m _ _ (by simp [go_sem,a]))
theorem yH (a b:List Int)(s:a.length<=1000000)(p:∀ x∈a,0<=x/\x<b.length):Pure Tryz.prog 62 [dLI a,dLI b] (dLI (oQ a b)):=by
 refine Tz.pK ⟨λt=>t==5,λ_=>[]⟩ Tryz.func62 rfl (λQ q=>?_)
 have Y:=trivial
 refine wv (h:=bD (λi e H=>(e 0=dLI a/\e 1=dLI b/\e 5=.own 0 i/\e 6=dI i)/\(H.get 0=some ⟨3,1,(oQ (a.take i) b).map cI,false⟩)/\(0<H.next)/\(i<=a.length)) (λi=>a.length - i) 0 ⟨wg,(by simp [go_sem,oQ]),wn,wi⟩ λu m i e H k=>?_)
 obtain ⟨r,c,f,o⟩:=k
 have Y:=wa Y (wa r (wa c (b8 f)))
 refine rT (λg=>?_) λg=>?_
 .have hx:=p _ (aC g)
  have n:a[i].toNat<b.length:=aD
  have l:oQ (a.take (i+1)) b=oQ (a.take i) b++[b[a[i].toNat]]:=by unfold oQ;rw [aE g,List.map_append];simp [aA n]
  have d:(oQ (a.take i) b).length=i:=by simp [oQ];omega
  have Y:=wa Y (wa g (wa (aA g) (wa (aA n) d)))
  exact wp (h:=wx m (i+1) ⟨wg,(by simp [go_sem,Y,l,cI]),wn,wj⟩)
 .rw [aG aD] at c
  have j:i=a.length:=aD
  have d:(oQ a b).length=a.length:=by simp [oQ]
  exact wv (h:=q _ _ (by simp [go_sem,Y,j,d,dLI]))
theorem IX (a:List Int)(i:Nat):A1 a (i+1)=A1 a i+if gA a a.length i<0 then 1 else 0:=by
 unfold A1;rw [c7,k6,aL]
 congr 1
 simp only [List.filter_cons,List.filter_nil]
 split<;>simp_all
theorem IW (into:List Int):A1 into 0=0:=rfl
theorem PS (a:List Int)(i:Nat):A1 a i<=i:=by
 unfold A1;exact fC (mH _ _) bW
theorem Nl (keep b c:List Int)(i a:Nat):CQ keep b c (i+1) a=CQ keep b c i a++[G2 keep b c a i]:=by simp [CQ,c7]
theorem AE (keep a d:List Int)(b c:Nat)(C:a.length<=keep.length)(v:∀ x∈keep,0<=x/\x<d.length)(u:b<=1000000)(B:c<=1000000) :
  Pure Tryz.prog 63 [dLI keep,dLI a,dI b,dLI d,dI c] (dLI (CQ keep a d b c)):=by
 refine Tz.pK ⟨λt=>t==12,λ_=>[]⟩ Tryz.func63 rfl (λQ y=>?_)
 have Y:=@IW
 refine wv (h:=aB (F7 a b u) wl ?_)
 refine wv (h:=bD (λi e H=>(e 0=dLI keep/\e 1=dLI a/\e 2=dI b/\e 3=dLI d/\e 4=dI ((c+A1 a i:Nat):Int)/\e 11=dLI (lM a b)/\e 12=.own 0 i/\e 13=dI i)/\(H.get 0=some ⟨3,1,(CQ keep a d i c).map cI,false⟩)/\(0<H.next)/\(i<=b)) (λi=>b - i) 0 ⟨wg,(by simp [go_sem,CQ]),wn,wi⟩ λG j i e H l=>?_)
 obtain ⟨A,k,g,E⟩:=l
 have Y:=wa Y (wa A (wa k (b8 g)))
 refine dP (λs=>?_) λs=>?_
 .have hg:=oH a (n:=b) (i:=i) aD
  have F:=CD a i a.length
  have p:=lL a b
  have f:=IX a i
  have w:=PS a i
  have o:(CQ keep a d i c).length=i:=by simp [CQ]
  have m:(lM a b)[i]' aD=gA a a.length i:=by simp [lM]
  have Y:=wa Y (wa s (wa hg (wa m (wa p o))))
  refine rT (λz=>?_) λz=>?_
  .have hb2:(gA a a.length i).toNat<keep.length:=aD
   have D:=v _ (aC hb2)
   have r:keep[(gA a a.length i).toNat].toNat<d.length:=aD
   have q:G2 keep a d c i=d[keep[(gA a a.length i).toNat].toNat]:=by unfold G2;rw [if_pos aD,aA hb2,Option.getD_some,aA r];rfl
   rw [if_neg aD] at f
   have Y:=wa Y (wa (aA hb2) (wa (aA r) f))
   exact wp (h:=wx j (i+1) ⟨wg,(by simp [go_sem,Y,Nl,q,cI]),wn,wj⟩)
  .have q:G2 keep a d c i=((c+A1 a i:Nat):Int):=by unfold G2;rw [if_neg aD]
   rw [if_pos aD] at f
   have Y:=wa Y f
   exact wp (h:=wx j (i+1) ⟨wg,(by simp [go_sem,Y,Nl,q,cI]),wn,wj⟩)
 .have hie:i=b:=aD
  exact wv (h:=y _ _ (by simp [go_sem,Y,hie,dLI];simp [CQ]))
theorem sD (a b:List Int):Pure Tryz.prog 96 [dLI a,dLI b] (.bool (decide (a=b))):=by
 refine Tz.pK ⟨λ_=>false,λ_=>[]⟩ Tryz.func96 rfl (λQ g=>?_)
 have Y:=trivial
 refine wv (h:=?_)
 repeat first|intro _|refine ⟨eO,?_⟩
 refine wq (λm=>?_) λm=>?_
 .refine wv (h:=?_)
  have c:a≠b:=by intro h;subst h;omega
  exact g _ _ (by simp [go_sem,c])
 .refine wv (h:=bD (λi e H=>(e 0=dLI a/\e 1=dLI b/\e 5=dI i)/\(i<=a.length)/\(a.take i=b.take i)) (λi=>a.length - i) 0 ⟨wg,wi,(by rfl)⟩ λp j i e H d=>?_)
  obtain ⟨n,o,f⟩:=d
  have Y:=wa Y n
  refine wv (h:=?_)
  repeat first|intro _|refine ⟨eO,?_⟩
  refine wq (λl=>?_) λl=>?_
  .have hib:i<b.length:=aD
   have Y:=wa Y (wa l hib)
   refine wv (h:=?_)
   repeat first|intro _|refine ⟨eO,?_⟩
   refine wq (λk=>?_) λk=>?_
   .refine wv (h:=?_)
    have c:a≠b:=by intro h;subst h;exact k rfl
    exact g _ _ (by simp [go_sem,c])
   .exact wo (h:=wx j (i+1) ⟨wg,wj,(by rw [aE l,aE hib,f,k])⟩)
  .rw [aG aD,aG aD] at f
   exact wv (h:=g _ _ (by simp [go_sem,f]))
def u9 (t:Types)(r:Rule)(h:Host)(m:Mat):Part:=if q6 t r h m=0 then bV r h m else ⟨[],[]⟩
theorem Pe {t:Types}{p g:Graph}{m:Part}{a:Bool}(h:fM t p g m a=0):fM t p g m false=0:=by
 unfold fM at h ⊢
 split at h
 .exact absurd h (by assumption)
 .rename_i h1
  rw [if_neg h1]
  unfold iX at h ⊢
  split at h
  .cases h
  .rename_i h2
   rw [if_neg h2]
   split at h
   .exact absurd h (by assumption)
   .rename_i h3
    rw [if_neg h3]
    split at h
    .exact absurd h (by assumption)
    .rename_i h4
     rw [if_neg h4,if_neg bW]
theorem Iy {t:Types}{p:Pattern}{h:Host}{m:Part}(a:(d9 t p h m).2=0):PatOk t p/\HostOk t h/\fM t p.graph h.graph m false=0/\d9 t p h m=fB p h m []:=by
 unfold d9 at a ⊢
 split at a
 .exact absurd a (by assumption)
 .rename_i h1
  split at a
  .exact absurd a (by assumption)
  .rename_i h2
   split at a
   .exact absurd a (by assumption)
   .rename_i h3
    rw [jU] at h1 h2 h3
    rw [if_neg aD,if_neg aD,if_neg aD]
    exact ⟨Ms (.inr h1),sM h2,h3,rfl⟩
theorem FS (t:Types)(q:t.ok)(r:Rule)(l:RuleV t r)(h:Host)(u:HostOk t h)(m:Mat) :
  Pure Tryz.prog 60 [t.d,r.d,h.d,m.d] (.tup [(u9 t r h m).d,dI (lQ t r h m)]):=by
 refine Tz.pK ⟨λt=>t==8||t==12||t==13,λ_=>[]⟩ Tryz.func60 rfl (λQ n=>?_)
 have Y:=wa @Host.d.eq_1 (wa @Host.c.eq_1 (wa @Mat.d.eq_1 @Mat.c.eq_1))
 refine wv (h:=aB (yL t q r.left.graph h.graph m.m r.inj) wl ?_)
 refine dP (λy=>?_) λy=>?_
 .have i:q6 t r h m=1:=by unfold q6;rw [if_pos (bX y)]
  have k:lQ t r h m=1:=by unfold lQ;rw [if_pos aD,i]
  have b:u9 t r h m=⟨[],[]⟩:=by unfold u9;rw [if_neg aD]
  exact wv (h:=n _ _ (by simp [go_sem,k,b,Part.d,Part.c,dLI]))
 .have hc:fM t r.left.graph h.graph m.m r.inj=0:=by simpa using y
  refine wv (h:=aB (L8 t q r.left h m.m) wl ?_)
  refine dP (λs=>?_) λs=>?_
  .have i:q6 t r h m=(d9 t r.left h m.m).2:=by unfold q6;rw [if_neg aD,if_pos s]
   have k:lQ t r h m=(d9 t r.left h m.m).2:=by unfold lQ;rw [if_pos aD,i]
   have b:u9 t r h m=⟨[],[]⟩:=by unfold u9;rw [if_neg aD]
   exact wv (h:=n _ _ (by simp [go_sem,k,b,Part.d,Part.c,dLI]))
  .obtain ⟨A,z,g,f⟩:=Iy (bX s)
   have e:=sI (r4 hc).2
   refine wp (h:=aB (sD (d9 t r.left h m.m).1 m.vars) wl ?_)
   refine rT (λw=>?_) λw=>?_
   .have h6':(d9 t r.left h m.m).1≠m.vars:=by simpa using w
    have i:q6 t r h m=11:=by unfold q6;rw [if_neg aD,if_neg aD,if_pos h6']
    have k:lQ t r h m=11:=by unfold lQ;rw [if_pos aD,i]
    have b:u9 t r h m=⟨[],[]⟩:=by unfold u9;rw [if_neg aD]
    exact wv (h:=n _ _ (by simp [go_sem,k,b,Part.d,Part.c,dLI]))
   .have h6':(d9 t r.left h m.m).1=m.vars:=by simpa using w
    have v:Al t r.left.graph h.graph m.m=l4 r.left.graph h.graph m.m:=by unfold Al;rw [if_pos g]
    have i:q6 t r h m=rG (l4 r.left.graph h.graph m.m) h.graph r.keep m.m:=by unfold q6;rw [if_neg aD,if_neg aD,if_neg (by rw [h6'];simp)]
    have J:=l.keep
    have H:=bS l.pl.gg
    have I:=bS u.gg
    have E:=e.len
    have F:=e.elen
    have G:=l.kl.1
    have p:MatOk t r.left h m:=by
     rw [f] at h6'
     have o:(fB r.left h m.m []).2=0:=by rw [<- f];simpa using s
     obtain ⟨C,B⟩:=AR (US l.pl u e) (vs:=[]) bW bW o
     rw [h6'] at C B
     exact ⟨e,C,B⟩
    have Y:=wa Y (wa v g)
    refine wv (h:=aB (FY t q r.left.graph h.graph m.m) wl ?_)
    refine wv (h:=aB (R2 (l4 r.left.graph h.graph m.m) h.graph r.keep m.m aD aD aD aD aD) wl ?_)
    refine dP (λx=>?_) λx=>?_
    .have k:lQ t r h m=rG (l4 r.left.graph h.graph m.m) h.graph r.keep m.m:=by unfold lQ;rw [if_pos aD,i]
     have b:u9 t r h m=⟨[],[]⟩:=by unfold u9;rw [if_neg aD]
     exact wv (h:=n _ _ (by simp [go_sem,k,b,Part.d,Part.c,dLI]))
    .have b:u9 t r h m=bV r h m:=by unfold u9;rw [if_pos aD]
     have j:lQ t r h m=if (nS t h r.inj r.cond m).2≠0 then (nS t h r.inj r.cond m).2 else if (nS t h r.inj r.cond m).1=false then 16 else 0:=by unfold lQ;rw [if_neg aD]
     refine wv (h:=aB ((by have D:=L6 t q h u r.inj r.cond r.left l.cond l.pl m p;rwa [Cond.c_eq] at D)) wl ?_)
     refine rT (λa=>?_) λa=>?_
     .rw [if_neg (by rw [a.1];simp),if_pos a.2] at j
      exact wv (h:=n _ _ (by simp [go_sem,Y,j,b,bV]))
     .have hE2:lQ t r h m=(nS t h r.inj r.cond m).2:=by
       rw [j];split
       .rfl
       .rename_i o;rw [jU] at o;simp [o] at a;simp [o,a]
      exact wv (h:=n _ _ (by simp [go_sem,Y,hE2,b,bV]))
theorem o7 (l:List Int)(i:Nat):bJ l (i+1)=bJ l i++if mem l i=true then [] else [(i:Int)]:=by
 unfold bJ;rw [c7,k6,List.map_append]
 congr 1
 simp only [List.filter_cons,List.filter_nil]
 split<;>simp_all
def Fa (t:Types)(r:Rule)(x:Host)(i:Nat):Host :=
 ⟨⟨x.graph.nodes++(bJ r.into.nodes i).map (gN r.right.graph),x.graph.edges⟩,x.values++(bJ r.into.nodes i).map (λk=>l9 t (gN r.right.graph k))⟩
def OT (t:Types)(r:Rule)(c:Part)(x:Host)(i:Nat):Host:=⟨⟨x.graph.nodes,x.graph.edges++(bJ r.into.edges i).map (λk=>freshE c (r.right.graph.edges[k.toNat]?.getD cF))⟩,x.values⟩
theorem DQ (t:Types)(ht:t.ok)(r:Rule)(hR:RuleV t r)(U:Host)(c:Part)(hc:c.nodes.length=r.right.graph.nodes.length)(hs:U.graph.nodes.length<=1000/\U.graph.edges.length<=1000/\U.values.length<=1000)
  (G:AHeap) (lo a b V:Nat) (u:List Nat) (P:HH G lo a b V u U) (Q:D->AHeap->Prop)
  (hQ:∀ ns H',(∀ j∈ns,G.next<=j)->HH H' lo a b V (u++ns) (jQ t r c U)->(∀ j,j<G.next->j∉a :: b :: V :: u->H'.get j=G.get j)->G.next<=H'.next->Q (.agg [.own a (jQ t r c U).graph.nodes.length,.own b (jQ t r c U).graph.edges.length,.own V (jQ t r c U).values.length]) H') :
  ACalls Tryz.prog 64 [t.d,r.d,.agg [.own a U.graph.nodes.length,.own b U.graph.edges.length,.own V U.values.length],c.d] G Q:=by
 have j7:=bS hR.gr
 have j0:=eK hR.gr
 have k0:=P.rng a P.a_in
 have j8:=P.rng b P.b_in
 have k4:=P.rng V P.V_in
 have j9:=P.ab
 have a0:∀ j,j∉a :: b :: V :: u->j≠a/\j≠b/\j≠V:=λj hj=>by simp only [aU,not_or] at hj;exact ⟨hj.1,hj.2.1,hj.2.2.1⟩
 refine (aJ (cfg:=⟨λt=>t==6||t==8||t==9||t==13||t==16||t==1000001,λr=>match r with|6=>[(0,8),(1,8),(2,8)]|19=>[(0,18),(1,18),(2,18)]|_=>[]⟩) Tz.mixed Tryz.func64 rfl rfl (aF rfl) (by kernel_rfl) ?_)
 try simp [go_sem,seval,Part.d,Part.c]
 obtain ⟨I0,b9⟩:∃ I0:Nat->dJ->AHeap->Prop,∀ (i:Nat) (e:dJ) (H:AHeap),I0 i e H↔(∃ X:Nat,∃ R:Nat,∃ Y:Nat,∃ x:Host,∃ ns:List Nat,(e 4=.adr t.c)/\(e 5=.adr r.c)/\(e 7=.adr c.c)/\(e 6=.ptr X 1 0 0)/\(e 8=.ptr R 1 0 0)/\(e 9=.ptr Y 1 0 0)/\(e 10=dI i)/\(H.get X=some ⟨44,3,[[.own a x.graph.nodes.length,.own b x.graph.edges.length,.own V x.values.length]],false⟩)/\(X<H.next)/\(H.get R=some ⟨44,3,[[.nil,.nil,.nil]],false⟩)/\(R<H.next)/\(H.get Y=some ⟨29,2,[[dLI r.right.graph.nodes,.list (r.right.graph.edges.map Edge.c)]],false⟩)/\(Y<H.next)/\(i<=r.right.graph.nodes.length)/\(HH H lo a b V (u++ns) x)/\(x=Fa t r U i)/\(∀ j∈a :: b :: V :: (u++ns),j≠X/\j≠R/\j≠Y)/\(∀ j∈ns,G.next<=j)/\(G.next<=X/\X<R/\R<Y)/\(∀ j,j<G.next->j∉a :: b :: V :: u->H.get j=G.get j)/\(G.next<=H.next)):=⟨λi e H=>_,λ_ _ _=>Iff.rfl⟩
 refine oD I0 (λi=>r.right.graph.nodes.length - i) (0) ((b9 _ _ _).2 ⟨(G.next),(G.next+1),(G.next+2),(U),([]),?_,?_,?_,?_,?_,?_,?_,?_,?_,?_,?_,?_,?_,(by first|assumption|omega|(simp [go_sem,Part.d,Part.c];done)|(simp_all;done)),(by rw [dE];refine P.same (by simp [go_sem];omega) (λj hj=>by have:=(P.rng j hj).2;simp [go_sem,b8 this])),(by simp [Fa,bJ]),(by intro j hj;rw [dE] at hj;have:=(P.rng j hj).2;omega),(by intro j hj;cases hj),aD,(by intro j hj _;simp [go_sem,b8 hj]),(by simp [go_sem];omega)⟩) ?_
 iterate 13 (first|omega|(simp [go_sem,seval,Part.d,Part.c]<;>omega))
 intro i e H i8
 obtain ⟨X,R,Y,x,ns,f0,e7,e1,e4,d8,d4,c7,h6,f6,h9,g0,h1,f3,hi,hh,hx,a3,a7,g7,hG,c8⟩:=(b9 _ _ _).1 i8
 have xX:=b8 f6
 have xR:=b8 g0
 have xY:=b8 f3
 have F0:=And.intro f0 (And.intro e7 (And.intro e1 (And.intro e4 (And.intro d8 (And.intro d4 (And.intro c7 (And.intro h6 (And.intro h9 (And.intro h1 (And.intro xX (And.intro xR xY)))))))))))
 have f:=And.intro (dF (aD:Y≠R)) (And.intro (dF (aD:Y≠X)) (And.intro (dF (aD:Y≠V)) (And.intro (dF (aD:Y≠b)) (And.intro (dF (aD:Y≠a)) (And.intro (dF (aD:R≠X)) (And.intro (dF (aD:R≠V)) (And.intro (dF (aD:R≠b)) (And.intro (dF (aD:R≠a)) (And.intro (dF (aD:X≠V)) (And.intro (dF (aD:X≠b)) (And.intro (dF (aD:X≠a)) (And.intro (dF (aD:V≠b)) (And.intro (dF (aD:V≠a)) (dF (aD:b≠a)))))))))))))))
 try simp [go_sem,seval,Part.d,Part.c,F0,f]
 repeat first|intro _|refine ⟨eL,?_⟩
 refine aP (λl=>?_) (λl=>?_)
 .try simp [go_sem] at l
  have Z:=o7 r.into.nodes i
  obtain ⟨nd,m⟩:∃ y,y=r.right.graph.nodes[i]:=⟨_,rfl⟩
  have i9:gN r.right.graph (i:Int)=nd:=by rw [m];simp [gN,aA l]
  have i5:=lS r.into.nodes i
  have i2:x.graph.nodes.length<=2000/\x.values.length<=2000/\x.graph.edges.length<=2000:=by rw [hx];simp [Fa];omega
  try simp [go_sem,seval,Part.d,Part.c,F0,f,l,aA l,<- m]
  repeat first|intro _|refine ⟨eL,?_⟩
  refine aB (AD r.into.nodes i) ((by first|rfl|(simp [go_sem,<- List.map_take,<- List.map_drop,Part.d,Part.c,F0,f,l,aA l,<- m];done))) ?_
  try simp [go_sem,seval,Part.d,Part.c,F0,f,l,aA l,<- m]
  repeat first|intro _|refine ⟨eL,?_⟩
  refine aP (λM=>?_) (λM=>?_)
  .try simp [go_sem] at M
   have hm:mem r.into.nodes i=true:=by simpa using M
   rw [if_pos hm,dE] at Z
   obtain ⟨T,s⟩:∃ y,y=x:=⟨_,rfl⟩
   obtain ⟨a4,F⟩:∃ y,y=ns:=⟨_,rfl⟩
   have a5:T=Fa t r U (i+1):=by rw [s,hx];unfold Fa;rw [Z]
   have b0:HH H lo a b V (u++a4) T:=by rw [s,F];exact hh
   have b3:∀ j∈a :: b :: V :: (u++a4),j≠X/\j≠R/\j≠Y:=by rw [F];exact a3
   have b4:=hG
   try simp [go_sem,seval,Part.d,Part.c,F0,f,l,aA l,<- m,s]
   repeat first|intro _|refine ⟨eL,?_⟩
   refine d7 (i+1) aD ((b9 _ _ _).2 ⟨(X),(R),(Y),(T),(a4),?_,?_,?_,?_,?_,?_,?_,?_,?_,?_,?_,?_,?_,(by first|assumption|omega|(simp [go_sem,Part.d,Part.c,F0,f,l,aA l,<- m,s,M];done)|(simp_all<;>omega)),(by first|exact b0|(rw [F,<- List.append_assoc,s];exact a1.rowAdd (by first|(simp [go_sem];done)|(simp [go_sem];omega)) aD b6 (by first|(simp [go_sem];done)|(simp [go_sem];omega)) (by simp [go_sem,Part.d,Part.c,F0,f,l,aA l,<- m,s,K]) (by simp [go_sem,Part.d,Part.c,F0,f,l,aA l,<- m,s,K]) (λj hj=>by obtain ⟨k1,k2⟩:=b2 j hj;simp [go_sem,k1,k2]))),(by exact a5),(by exact b3),(by rw [F];first|exact a7|(intro j hj;rw [aW,bL] at hj;rcases hj with hj|rfl;exact a7 j hj;exact c1.2)),(by exact g7),(by first|exact b4|(intro j hj v;obtain ⟨ja,jb,jV⟩:=a0 j v;simp [go_sem,jV,(aD:j≠X)];exact d1 j hj v)),(by first|exact c8|(simp [go_sem];omega))⟩)<;>first|omega|(simp [go_sem,seval,Part.d,Part.c,F0,f,l,aA l,<- m,s]<;>omega)
  .try simp [go_sem] at M
   have hm:¬ mem r.into.nodes i=true:=by simpa using M
   rw [if_neg hm] at Z
   have o:=hh.ga
   have p:=hh.gV
   have A:=jF hh.len
   have j3:=hh.rng a hh.a_in
   have j4:=hh.rng V hh.V_in
   have i4:=hh.rng b hh.b_in
   have j1:(bM t nd).length<=8:=qB hR.vf nd
   have B:=And.intro (b8 (aD:a<H.next)) (And.intro (b8 (aD:b<H.next)) (b8 (aD:V<H.next)))
   have g4:∀ j∈b :: V :: (u++ns),j≠a/\j≠X/\j<H.next:=λj hj=>by
    have a9:j∈a :: b :: V :: (u++ns):=dC _ hj
    refine ⟨?_,(a3 j a9).1,(hh.rng j a9).2⟩
    rintro rfl
    have:=hh.nd;rw [g5] at this;exact this.1 hj
   try simp [go_sem,seval,Part.d,Part.c,F0,f,l,aA l,<- m,M,o,p,A,B]
   repeat first|intro _|refine ⟨eL,?_⟩
   refine aI (oA t ht nd) ((by first|rfl|(simp [go_sem,<- List.map_take,<- List.map_drop,Part.d,Part.c,F0,f,l,aA l,<- m,M,o,p,A,B];done))) ?_
   try simp [go_sem,seval,Part.d,Part.c,F0,f,l,aA l,<- m,M,o,p,A,B]
   repeat first|intro _|refine ⟨eL,?_⟩
   obtain ⟨I2,d0⟩:∃ I2:Nat->dJ->AHeap->Prop,∀ (k:Nat) (e:dJ) (H:AHeap),I2 k e H↔(∃ W:Nat,(e 4=.adr t.c)/\(e 5=.adr r.c)/\(e 7=.adr c.c)/\(e 6=.ptr X 1 0 0)/\(e 8=.ptr R 1 0 0)/\(e 9=.ptr Y 1 0 0)/\(e 10=dI i)/\(e 11=.list ((bM t nd).map Attr.c))/\(e 13=.own W k)/\(e 14=dI k)/\(H.get X=some ⟨44,3,[[.own a (x.graph.nodes.length+1),.own b x.graph.edges.length,.own V x.values.length]],false⟩)/\(X<H.next)/\(H.get R=some ⟨44,3,[[.nil,.nil,.nil]],false⟩)/\(R<H.next)/\(H.get Y=some ⟨29,2,[[dLI r.right.graph.nodes,.list (r.right.graph.edges.map Edge.c)]],false⟩)/\(Y<H.next)/\(H.get W=some ⟨3,1,(((bM t nd).take k).map λa=>a.low).map cI,false⟩)/\(W<H.next)/\(k<=(bM t nd).length)/\(HH H lo a b V (u++ns) ⟨⟨x.graph.nodes++[nd],x.graph.edges⟩,x.values⟩)/\(∀ j∈a :: b :: V :: (u++ns),j≠W)/\((lo<=W/\Y<W)/\G.next<=W)/\(∀ j,j<G.next->j∉a :: b :: V :: u->H.get j=G.get j)/\(G.next<=H.next)):=⟨λk e H=>_,λ_ _ _=>Iff.rfl⟩
   refine oD I2 (λk=>(bM t nd).length - k) (0) ((d0 _ _ _).2 ⟨(H.next+13+12),?_,?_,?_,?_,?_,?_,?_,?_,?_,?_,?_,?_,?_,?_,?_,?_,(by simp [go_sem]),?_,(by first|assumption|omega|(simp [go_sem,Part.d,Part.c,F0,f,l,aA l,<- m,M,o,p,A,B];done)|(simp_all;done)),(by exact hh.nodes (by first|(simp [go_sem];done)|(simp [go_sem];omega)) (by simp [go_sem,Part.d,Part.c,F0,f,l,aA l,<- m,M,o,p,A,B,cI]) (λj hj=>by obtain ⟨k1,k2,k3⟩:=g4 j hj;simp [go_sem,k1,k2,b8 k3])),(by intro j hj;have:=(hh.rng j hj).2;omega),(by omega),(by intro j hj v;obtain ⟨ja,jb,jV⟩:=a0 j v;simp [go_sem,ja,(aD:j≠X),b8 (aD:j<H.next)];exact hG j hj v),(by simp [go_sem];omega)⟩) ?_
   iterate 17 (first|omega|(simp [go_sem,seval,Part.d,Part.c,F0,f,l,aA l,<- m,M,o,p,A,B]<;>omega))
   intro k e H i7
   obtain ⟨W,e9,e6,e0,e3,d6,d3,c6,c5,c4,c3,h4,f5,h8,f9,h0,f2,q,f7,hk,a1,b6,c1,d1,j6⟩:=(d0 _ _ _).1 i7
   have xX:=b8 f5
   have xR:=b8 f9
   have xY:=b8 f2
   have xW:=b8 f7
   have F2:=And.intro e9 (And.intro e6 (And.intro e0 (And.intro e3 (And.intro d6 (And.intro d3 (And.intro c6 (And.intro c5 (And.intro c4 (And.intro c3 (And.intro h4 (And.intro h8 (And.intro h0 (And.intro xX (And.intro xR (And.intro xY xW)))))))))))))))
   have S:=And.intro (dF (aD:W≠Y)) (And.intro (dF (aD:W≠R)) (And.intro (dF (aD:W≠X)) (And.intro (dF (aD:W≠V)) (And.intro (dF (aD:W≠b)) (And.intro (dF (aD:W≠a)) (And.intro (dF (aD:Y≠R)) (And.intro (dF (aD:Y≠X)) (And.intro (dF (aD:Y≠V)) (And.intro (dF (aD:Y≠b)) (And.intro (dF (aD:Y≠a)) (And.intro (dF (aD:R≠X)) (And.intro (dF (aD:R≠V)) (And.intro (dF (aD:R≠b)) (And.intro (dF (aD:R≠a)) (And.intro (dF (aD:X≠V)) (And.intro (dF (aD:X≠b)) (And.intro (dF (aD:X≠a)) (And.intro (dF (aD:V≠b)) (And.intro (dF (aD:V≠a)) (dF (aD:b≠a)))))))))))))))))))))
   try simp [go_sem,seval,Part.d,Part.c,f,l,aA l,<- m,M,o,p,A,B,F2,q,S]
   repeat first|intro _|refine ⟨eL,?_⟩
   refine aP (λC=>?_) (λC=>?_)
   .try simp [go_sem] at C
    have i3:((bM t nd).take (k+1)).map (λa=>a.low)=((bM t nd).take k).map (λa=>a.low)++[(bM t nd)[k].low]:=by rw [aE C,List.map_append];rfl
    try simp [go_sem,seval,Part.d,Part.c,f,l,aA l,<- m,M,o,p,A,B,F2,q,S,C,aA C,Attr.c]
    repeat first|intro _|refine ⟨eL,?_⟩
    refine d7 (k+1) aD ((d0 _ _ _).2 ⟨(W),?_,?_,?_,?_,?_,?_,?_,?_,?_,?_,?_,?_,?_,?_,?_,?_,(by simp [go_sem,Part.d,Part.c,f,l,aA l,<- m,M,o,p,A,B,F2,q,S,C,aA C,Attr.c,i3,cI]),?_,(by first|assumption|omega|(simp [go_sem,Part.d,Part.c,f,l,aA l,<- m,M,o,p,A,B,F2,q,S,C,aA C,Attr.c];done)|(simp_all<;>omega)),(by exact a1.same (by simp [go_sem]) (λj hj=>by have:=b6 j hj;simp [go_sem,this])),(by exact b6),aD,(by intro j hj v;simp [go_sem,(aD:j≠W)];exact d1 j hj v),(by simp [go_sem];omega)⟩)<;>first|omega|(simp [go_sem,seval,Part.d,Part.c,f,l,aA l,<- m,M,o,p,A,B,F2,q,S,C,aA C,Attr.c]<;>omega)
   .try simp [go_sem] at C
    have a8:k=(bM t nd).length:=aD
    have a2:=a1.gV
    rw [aG aD] at q
    obtain ⟨T,s⟩:∃ y:Host,y=⟨⟨x.graph.nodes++[nd],x.graph.edges⟩,x.values++[l9 t nd]⟩:=⟨_,rfl⟩
    obtain ⟨a4,F⟩:∃ y,y=ns++[W]:=⟨_,rfl⟩
    have a5:T=Fa t r U (i+1):=by rw [s,hx];unfold Fa;rw [Z];simp [i9]
    have b3:∀ j∈a :: b :: V :: (u++a4),j≠X/\j≠R/\j≠Y:=λj hj=>by
     have e:a :: b :: V :: (u++a4)=(a :: b :: V :: (u++ns))++[W]:=by rw [F];simp
     rw [e,aW,bL] at hj
     rcases hj with hj|rfl
     .exact a3 j hj
     .omega
    have N:T.graph.nodes.length=x.graph.nodes.length+1/\T.graph.edges.length=x.graph.edges.length/\T.values.length=x.values.length+1:=by rw [s];simp
    have b2:∀ j∈a :: b :: (u++ns),j≠V/\j≠X:=λj hj=>by
     simp only [aU] at hj
     rcases hj with rfl|rfl|hj
     .exact ⟨aD,(a3 _ a1.a_in).1⟩
     .exact ⟨aD,(a3 _ a1.b_in).1⟩
     .exact ⟨(a1.qn hj).2.2,(a3 _ (a1.q_in hj)).1⟩
    have K:l9 t nd=(bM t nd).map λa=>a.low:=rfl
    try simp [go_sem,seval,Part.d,Part.c,f,l,aA l,<- m,M,o,p,A,B,F2,q,S,a2,N,q,a8]
    repeat first|intro _|refine ⟨eL,?_⟩
    refine d7 (i+1) aD ((b9 _ _ _).2 ⟨(X),(R),(Y),(T),(a4),?_,?_,?_,?_,?_,?_,?_,?_,?_,?_,?_,?_,?_,(by first|assumption|omega|(simp [go_sem,Part.d,Part.c,f,l,aA l,<- m,M,o,p,A,B,F2,q,S,a2,N,q,a8,C];done)|(simp_all<;>omega)),(by first|exact b0|(rw [F,<- List.append_assoc,s];exact a1.rowAdd (by first|(simp [go_sem];done)|(simp [go_sem];omega)) aD b6 (by first|(simp [go_sem];done)|(simp [go_sem];omega)) (by simp [go_sem,Part.d,Part.c,f,l,aA l,<- m,M,o,p,A,B,F2,q,S,a2,N,q,a8,K]) (by simp [go_sem,Part.d,Part.c,f,l,aA l,<- m,M,o,p,A,B,F2,q,S,a2,N,q,a8,K]) (λj hj=>by obtain ⟨k1,k2⟩:=b2 j hj;simp [go_sem,k1,k2]))),(by exact a5),(by exact b3),(by rw [F];first|exact a7|(intro j hj;rw [aW,bL] at hj;rcases hj with hj|rfl;exact a7 j hj;exact c1.2)),(by exact g7),(by first|exact b4|(intro j hj v;obtain ⟨ja,jb,jV⟩:=a0 j v;simp [go_sem,jV,(aD:j≠X)];exact d1 j hj v)),(by first|exact c8|(simp [go_sem];omega))⟩)<;>first|omega|(simp [go_sem,seval,Part.d,Part.c,f,l,aA l,<- m,M,o,p,A,B,F2,q,S,a2,N,q,a8]<;>omega)
 .try simp [go_sem] at l
  have i6:i=r.right.graph.nodes.length:=aD
  have n:=hh.gb
  have i5:=lS r.into.nodes i
  have i2:x.graph.edges.length<=1000:=by rw [hx];exact hs.2.1
  try simp [go_sem,seval,Part.d,Part.c,F0,f,n]
  obtain ⟨I4,b7⟩:∃ I4:Nat->dJ->AHeap->Prop,∀ (i:Nat) (e:dJ) (H:AHeap),I4 i e H↔(∃ x:Host,(e 4=.adr t.c)/\(e 5=.adr r.c)/\(e 7=.adr c.c)/\(e 6=.ptr X 1 0 0)/\(e 8=.ptr R 1 0 0)/\(e 9=.ptr Y 1 0 0)/\(e 15=dI i)/\(H.get X=some ⟨44,3,[[.own a x.graph.nodes.length,.own b x.graph.edges.length,.own V x.values.length]],false⟩)/\(X<H.next)/\(H.get R=some ⟨44,3,[[.nil,.nil,.nil]],false⟩)/\(R<H.next)/\(H.get Y=some ⟨29,2,[[dLI r.right.graph.nodes,.list (r.right.graph.edges.map Edge.c)]],false⟩)/\(Y<H.next)/\(i<=r.right.graph.edges.length)/\(HH H lo a b V (u++ns) x)/\(x=OT t r c (Fa t r U r.right.graph.nodes.length) i)/\(∀ j,j<G.next->j∉a :: b :: V :: u->H.get j=G.get j)/\(G.next<=H.next)):=⟨λi e H=>_,λ_ _ _=>Iff.rfl⟩
  refine oD I4 (λi=>r.right.graph.edges.length - i) (0) ((b7 _ _ _).2 ⟨(x),?_,?_,?_,?_,?_,?_,?_,?_,?_,?_,?_,?_,?_,(by first|assumption|omega|(simp [go_sem,Part.d,Part.c,F0,f,n];done)|(simp_all;done)),(by exact hh),(by rw [hx,i6];simp [OT,bJ]),(by exact hG),(by exact c8)⟩) ?_
  iterate 13 (first|omega|(simp [go_sem,seval,Part.d,Part.c,F0,f,n]<;>omega))
  intro i e H g3
  obtain ⟨x,e8,e5,d9,e2,d5,d2,c2,h2,f4,h7,f8,g9,f1,g3,O,b5,c0,c9⟩:=(b7 _ _ _).1 g3
  have xX:=b8 f4
  have xR:=b8 f8
  have xY:=b8 f1
  have F4:=And.intro e8 (And.intro e5 (And.intro d9 (And.intro e2 (And.intro d5 (And.intro d2 (And.intro c2 (And.intro h2 (And.intro h7 (And.intro g9 (And.intro xX (And.intro xR xY)))))))))))
  have E:=And.intro (dF (aD:Y≠R)) (And.intro (dF (aD:Y≠X)) (And.intro (dF (aD:Y≠V)) (And.intro (dF (aD:Y≠b)) (And.intro (dF (aD:Y≠a)) (And.intro (dF (aD:R≠X)) (And.intro (dF (aD:R≠V)) (And.intro (dF (aD:R≠b)) (And.intro (dF (aD:R≠a)) (And.intro (dF (aD:X≠V)) (And.intro (dF (aD:X≠b)) (And.intro (dF (aD:X≠a)) (And.intro (dF (aD:V≠b)) (And.intro (dF (aD:V≠a)) (dF (aD:b≠a)))))))))))))))
  try simp [go_sem,seval,Part.d,Part.c,f,n,F4,E]
  repeat first|intro _|refine ⟨eL,?_⟩
  refine aP (λg=>?_) (λg=>?_)
  .try simp [go_sem] at g
   have Z:=o7 r.into.edges i
   obtain ⟨y,hy⟩:=cW (r.right.graph.edges[i])
   have i1:r.right.graph.edges[(i:Int).toNat]?.getD cF=y:=by rw [hy];simp [aA g]
   have g1:r.right.graph.edges[i]?.getD cF=y:=by rw [hy,aA g];rfl
   have i0:=(j0.2 _ (aC g)).2
   rw [<- hy] at i0
   have J:y.from_.toNat<c.nodes.length:=aD
   have I:y.to_.toNat<c.nodes.length:=aD
   have j5:=lS r.into.edges i
   have j2:x.graph.edges.length<=2000:=by rw [b5];simp [OT,Fa];omega
   have w:=O.gb
   have i4:=O.rng b O.b_in
   have L:=b8 (aD:b<H.next)
   try simp [go_sem,seval,Part.d,Part.c,f,n,F4,E,g,aA g,<- hy,aA J,aA I,w,Edge.c,L]
   refine aB (AD r.into.edges i) ((by first|rfl|(simp [go_sem,<- List.map_take,<- List.map_drop,Part.d,Part.c,f,n,F4,E,g,aA g,<- hy,aA J,aA I,w,Edge.c,L];done))) ?_
   try simp [go_sem,seval,Part.d,Part.c,f,n,F4,E,g,aA g,<- hy,aA J,aA I,w,Edge.c,L]
   refine aP (λa6=>?_) (λa6=>?_)
   .try simp [go_sem] at a6
    have hm:¬ mem r.into.edges i=true:=by simpa using a6
    rw [if_neg hm] at Z
    have g6:freshE c y=⟨y.type,c.nodes[y.from_.toNat],c.nodes[y.to_.toNat]⟩:=by unfold freshE;rw [aA J,aA I];rfl
    obtain ⟨T,s⟩:∃ z:Host,z=⟨⟨x.graph.nodes,x.graph.edges++[freshE c y]⟩,x.values⟩:=⟨_,rfl⟩
    have a5:T=OT t r c (Fa t r U r.right.graph.nodes.length) (i+1):=by rw [s,b5];unfold OT;rw [Z];simp [i1,g1]
    have N:T.graph.nodes.length=x.graph.nodes.length/\T.graph.edges.length=x.graph.edges.length+1/\T.values.length=x.values.length:=by rw [s];simp
    have b1:∀ j∈a :: V :: (u++ns),j≠b/\j≠X/\j<H.next:=λj hj=>by
     have a9:j∈a :: b :: V :: (u++ns):=by simp only [aU] at hj ⊢;rcases hj with h|h|h<;>simp [h]
     refine ⟨?_,(a3 j a9).1,(O.rng j a9).2⟩
     rintro rfl
     have:=O.nd;simp only [g5,aU,not_or] at this
     simp only [aU] at hj
     rcases hj with h|h|h
     .exact this.1.1 h.symm
     .exact this.2.1.1 h
     .exact this.2.1.2 h
    try simp [go_sem,seval,Part.d,Part.c,f,n,F4,E,g,aA g,<- hy,aA J,aA I,w,Edge.c,L,N]
    repeat first|intro _|refine ⟨eL,?_⟩
    refine d7 (i+1) aD ((b7 _ _ _).2 ⟨(T),?_,?_,?_,?_,?_,?_,?_,?_,?_,?_,?_,?_,?_,(by first|assumption|omega|(simp [go_sem,Part.d,Part.c,f,n,F4,E,g,aA g,<- hy,aA J,aA I,w,Edge.c,L,N,l,a6];done)|(simp_all<;>omega)),(by first|exact b0|(rw [s];exact O.edges (by first|(simp [go_sem];done)|(simp [go_sem];omega)) (by simp [go_sem,Part.d,Part.c,f,n,F4,E,g,aA g,<- hy,aA J,aA I,w,Edge.c,L,N,g6,Edge.c]) (λj hj=>by obtain ⟨k1,k2,k3⟩:=b1 j hj;simp [go_sem,k1,k2,b8 k3]))),(by exact a5),(by first|exact b4|(intro j hj v;obtain ⟨ja,jb,jV⟩:=a0 j v;simp [go_sem,jb,(aD:j≠X),b8 (aD:j<H.next)];exact c0 j hj v)),(by first|exact c9|(simp [go_sem];omega))⟩)<;>first|omega|(simp [go_sem,seval,Part.d,Part.c,f,n,F4,E,g,aA g,<- hy,aA J,aA I,w,Edge.c,L,N]<;>omega)
   .try simp [go_sem] at a6
    have hm:mem r.into.edges i=true:=by simpa using a6
    rw [if_pos hm,dE] at Z
    obtain ⟨T,s⟩:∃ z,z=x:=⟨_,rfl⟩
    have a5:T=OT t r c (Fa t r U r.right.graph.nodes.length) (i+1):=by rw [s,b5];unfold OT;rw [Z]
    have b0:HH H lo a b V (u++ns) T:=by rw [s];exact O
    have b4:=c0
    try simp [go_sem,seval,Part.d,Part.c,f,n,F4,E,g,aA g,<- hy,aA J,aA I,w,Edge.c,L,s]
    repeat first|intro _|refine ⟨eL,?_⟩
    refine d7 (i+1) aD ((b7 _ _ _).2 ⟨(T),?_,?_,?_,?_,?_,?_,?_,?_,?_,?_,?_,?_,?_,(by first|assumption|omega|(simp [go_sem,Part.d,Part.c,f,n,F4,E,g,aA g,<- hy,aA J,aA I,w,Edge.c,L,s,l,a6];done)|(simp_all<;>omega)),(by first|exact b0|(rw [s];exact O.edges (by first|(simp [go_sem];done)|(simp [go_sem];omega)) (by simp [go_sem,Part.d,Part.c,f,n,F4,E,g,aA g,<- hy,aA J,aA I,w,Edge.c,L,s,g6,Edge.c]) (λj hj=>by obtain ⟨k1,k2,k3⟩:=b1 j hj;simp [go_sem,k1,k2,b8 k3]))),(by exact a5),(by first|exact b4|(intro j hj v;obtain ⟨ja,jb,jV⟩:=a0 j v;simp [go_sem,jb,(aD:j≠X),b8 (aD:j<H.next)];exact c0 j hj v)),(by first|exact c9|(simp [go_sem];omega))⟩)<;>first|omega|(simp [go_sem,seval,Part.d,Part.c,f,n,F4,E,g,aA g,<- hy,aA J,aA I,w,Edge.c,L,s]<;>omega)
  .try simp [go_sem] at g
   have g2:i=r.right.graph.edges.length:=aD
   have g8:x=jQ t r c U:=by rw [b5,g2];rfl
   rw [g8] at O
   try simp [go_sem,seval,Part.d,Part.c,f,n,F4,E,g8]
   exact hQ ns _ a7 (O.same (by simp [go_sem]) (λj hj=>by simp [go_sem,(a3 j hj).2.1])) (λj hj v=>by simp [go_sem,(aD:j≠R)];exact c0 j hj v) (by simp [go_sem];exact c9)
def OS (t:Types)(r:Rule)(c:Part)(x0:Host)(a b V:Nat)(qs ns:List Nat):List (Nat × Blk) :=
 [(a,⟨3,1,(jQ t r c x0).graph.nodes.map cI,false⟩),(b,⟨122,3,(jQ t r c x0).graph.edges.map Edge.c,false⟩),(V,⟨26,1,k9 (qs++ns) (jQ t r c x0).values,false⟩)]
def Sw (t:Types)(r:Rule)(ns:List Nat):List (Nat × Blk):=QA ns (r.freshN.map λk=>l9 t (gN r.right.graph k))
theorem P0 {H H':AHeap}{t:Types}{r:Rule}{c:Part}{m:Host}{I a b V:Nat}{f ns:List Nat}(o:HH H I a b V f m)(F:∀ j∈a :: b :: V :: f,H'.get j=H.get j)(G:ns.length=r.freshN.length)(x:(a :: b :: V :: (f++ns)).Nodup)
  (C:∀ j∈a :: b :: V :: (f++ns),j<H'.next):HH ((H'.puts (OS t r c m a b V f ns)).pushs (Sw t r ns)) 0 a b V (f++ns) (jQ t r c m)/\((H'.puts (OS t r c m a b V f ns)).pushs (Sw t r ns)).next=H'.next /\
   (∀ j,j∉a :: b :: V :: (f++ns)->((H'.puts (OS t r c m a b V f ns)).pushs (Sw t r ns)).get j=H'.get j)/\(∀ j,((H'.puts (OS t r c m a b V f ns)).pushs (Sw t r ns)).al j↔H'.al j\/j∈ns):=by
 have l:(Sw t r ns).map (·.1)=ns:=FL (bX G)
 have z:=o.ab
 have n:∀ j∈ns,j≠a/\j≠b/\j≠V/\j∉f:=λj g=>by
  have h:=x
  simp only [g5,aU,aW,not_or,nM] at h
  exact ⟨λe=>h.1.2.2.2 (e ▸ g),λe=>h.2.1.2.2 (e ▸ g),λe=>h.2.2.1.2 (e ▸ g),λA=>h.2.2.2.2.2 j A j g rfl⟩
 have J:((Sw t r ns).map (·.1)).Nodup:=by
  rw [l];have h:=x
  simp only [g5,nM] at h
  exact h.2.2.2.2.1
 have d:∀ j,j∉ns->((H'.puts (OS t r c m a b V f ns)).pushs (Sw t r ns)).get j=(H'.puts (OS t r c m a b V f ns)).get j:=λj g=>oB _ _ _ (by rw [l];exact g)
 have B:((H'.puts (OS t r c m a b V f ns)).pushs (Sw t r ns)).next=H'.next:=by
  rw [pU _ _ λp w=>?_,u6]
  rw [u6]
  refine C p.1 ?_
  have:p.1∈ns:=by rw [<- l];exact oL w
  simp [this]
 have s:(jQ t r c m).values=m.values++r.freshN.map (λk=>l9 t (gN r.right.graph k)):=rfl
 refine ⟨⟨?_,?_,?_,?_,λi q v D E=>?_,x,λj g=>⟨dY _,by rw [B];exact C j g⟩⟩,B,λj g=>?_,λj=>?_⟩
 .rw [d a λy=>(n a y).1 rfl]
  simp [AHeap.puts,AHeap.put,OS,z.1,z.2.1]
 .rw [d b λy=>(n b y).2.1 rfl]
  simp [AHeap.puts,AHeap.put,OS,z.2.2]
 .rw [d V λy=>(n V y).2.2.1 rfl]
  simp [AHeap.puts,AHeap.put,OS]
 .rw [s,aL,aL,aV,o.len,G]
 .by_cases hi:i<f.length
  .rw [aS hi] at D
   rw [s,aS (by rw [<- o.len];exact hi)] at E
   have A:=aK D
   have u:=o.qn A
   rw [d q λy=>(n q y).2.2.2 A,wI _ _ _ (λp w=>?_),F q (o.q_in A)]
   .exact o.gq i q v D E
   .simp only [OS,aU,fS,or_false] at w
    rcases w with rfl|rfl|rfl
    .exact Ne.symm u.1
    .exact Ne.symm u.2.1
    .exact Ne.symm u.2.2
  .rw [aZ aD] at D
   rw [s,aZ (by rw [<- o.len];omega),<- o.len] at E
   exact u7 _ _ J (LN D E)
 .simp only [aU,aW,not_or] at g
  rw [d j g.2.2.2.2,wI _ _ _ λp w=>?_]
  simp only [OS,aU,fS,or_false] at w
  rcases w with rfl|rfl|rfl
  .exact Ne.symm g.1
  .exact Ne.symm g.2.1
  .exact Ne.symm g.2.2.1
 .rw [sF,l,Kr]
theorem ACalls.wf {P:Program}{f:FuncId}{args:List D}{H:AHeap}{Q:D->AHeap->Prop}(he:UH P f)(h:(∀ j,H.al j->j<H.next)->(∀ j,¬ H.al j->H.get j=none)->ACalls P f args H Q):ACalls P f args H Q :=
 ⟨he,λM0 σ w vals hR ha=>(h hR.nxt λj hj=>(hR.top j hj).2).2 M0 σ w vals hR ha⟩
theorem Nf {md:Nat->Bool}{ops:Array Oper}{R:List (Nat × Nat)}{P i:Nat}{B:List Oper}{G:List (Nat × List Nat)}{e:dJ}{F:Option Tmp}{K:dJ->AHeap->Prop}{H:AHeap}
  (t:Types) (ht:t.ok) (r:Rule) (hR:RuleV t r) (f:Host) (c:Part) (hc:c.nodes.length=r.right.graph.nodes.length) (hs:f.graph.nodes.length<=1000/\f.graph.edges.length<=1000/\f.values.length<=1000)
  (lo a b V:Nat) (m ns:List Nat) (g:HH H lo a b V m f) (Y:ns.length=r.freshN.length) (J:(a :: b :: V :: (m++ns)).Nodup) (W:P<=H.next) (L:∀ j∈ns,j<P/\¬ H.al j)
  (X:De md F=true) (a2:chk R i (a :: b :: V :: (m++ns)) G)
  (hK:∀ E,HH E 0 a b V (m++ns) (jQ t r c f)->(∀ j,j∉a :: b :: V :: (m++ns)->E.get j=H.get j)->(∀ j,E.al j↔H.al j\/j∈ns)->E.next=H.next ->
   jZ Tryz.prog md ops R P (i+1) B ((i,a :: b :: V :: (m++ns)) :: G) (oP e F (.agg [.own a (jQ t r c f).graph.nodes.length,.own b (jQ t r c f).graph.edges.length,.own V (jQ t r c f).values.length])) E K) :
  p6 Tryz.prog md ops R P i B G e F K 64 [t.d,r.d,.agg [.own a f.graph.nodes.length,.own b f.graph.edges.length,.own V f.values.length],c.d] H:=by
 have s:(Sw t r ns).map (·.1)=ns:=FL (bX Y)
 have N:=(DQ t ht r hR f c hc hs H lo a b V m g (λ_ _=>True) (λ_ _ _ _ _ _=>trivial)).1
 unfold p6
 refine Or.inr ⟨X,.agg [.own a (jQ t r c f).graph.nodes.length,.own b (jQ t r c f).graph.edges.length,.own V (jQ t r c f).values.length],a :: b :: V :: m,OS t r c f a b V m ns,Sw t r ns,λp x=>?_,λp x=>L p.1 (by rw [<- s];exact oL x),λy u z=>?_,?_,?_⟩
 .simp only [OS,aU,fS,or_false] at x
  rcases x with rfl|rfl|rfl<;>simp
 .refine ACalls.wf N λo C=>?_
  have M:∀ j∈ns,j<y.next/\¬ y.al j:=λj n=>by
   rw [<- s,bB] at n
   obtain ⟨p,x,rfl⟩:=n
   exact z p x
  have a1:∀ j∈a :: b :: V :: m,∃ k,H.get j=some k:=λj n=>by
   simp only [aU] at n
   rcases n with rfl|rfl|rfl|hq
   .exact ⟨_,g.ga⟩
   .exact ⟨_,g.gb⟩
   .exact ⟨_,g.gV⟩
   .obtain ⟨p,x,rfl⟩:=aO hq
    exact ⟨_,g.gq p _ _ (aA x) (aA (by rw [<- g.len];exact x))⟩
  have A:∀ j∈a :: b :: V :: m,y.al j:=λj n=>bA λhn=>by
   obtain ⟨k,hk⟩:=a1 j n
   have:=u j n
   rw [hk,C j hn] at this;cases this
  have a0:HH y 0 a b V m f:=⟨(u a g.a_in).trans g.ga,(u b g.b_in).trans g.gb,(u V g.V_in).trans g.gV,g.len,λi q v h1 h2=>(u q (g.q_in (aK h1))).trans (g.gq i q v h1 h2),g.nd,λj n=>⟨dY _,o j (A j n)⟩⟩
  have D:∀ j∈a :: b :: V :: (m++ns),j<y.next:=λj n=>by
   simp only [aU,aW] at n
   rcases n with h|h|h|h|h
   .exact o j (A j (by simp [h]))
   .exact o j (A j (by simp [h]))
   .exact o j (A j (by simp [h]))
   .exact o j (A j (by simp [h]))
   .exact (M j h).1
  obtain ⟨g1,g2,g3,g4⟩:=P0 (t:=t) (r:=r) (c:=c) g u Y J D
  refine ACalls.exact (E:=(y.puts (OS t r c f a b V m ns)).pushs (Sw t r ns)) (DQ t ht r hR f c hc hs y 0 a b V m a0 (λd Q=>∃ w,(∀ j∈w,y.next<=j)/\HH Q 0 a b V (m++w) (jQ t r c f)/\(∀ j,j<y.next->j∉a :: b :: V :: m->Q.get j=y.get j)/\d=.agg [.own a (jQ t r c f).graph.nodes.length,.own b (jQ t r c f).graph.edges.length,.own V (jQ t r c f).values.length]) (λw Q U T S _=>⟨w,U,T,S,rfl⟩)) ?_
  rintro _ _ d Q ⟨w,U,T,S,rfl⟩
  refine HH.exact g1 T o C (by rw [g2];exact bC _) (λj=>?_) (λj n Z=>S j (o j n) λhm=>Z (by simp only [aU,aW] at hm ⊢;rcases hm with h|h|h|h<;>simp [h])) g3 (λp j j1 O I=>?_)
  .rw [g4]
   constructor
   .rintro (h|h)
    .exact .inl h
    .exact .inr (by simp [h])
   .rintro (h|h)
    .exact .inl h
    .simp only [aU,aW] at h
     rcases h with h|h|h|h|h
     .exact .inl (A j (by simp [h]))
     .exact .inl (A j (by simp [h]))
     .exact .inl (A j (by simp [h]))
     .exact .inl (A j (by simp [h]))
     .exact .inr h
  .have ea:∀ l:List Nat,a :: b :: V :: (m++l)=(a :: b :: V :: m)++l:=λl=>rfl
   rw [ea] at O I
   by_cases x:p<(a :: b :: V :: m).length
   .rw [aS x] at O I
    rw [O] at I;cases I
    exact ⟨λ_=>rfl,λh=>h⟩
   .rw [aZ aD] at O I
    have m1:=M j (aK O)
    have m2:=U j1 (aK I)
    exact ⟨λh=>absurd h m1.2,λ_ h=>by have:=o j1 h;omega⟩
 .rw [s];exact a2
 .rw [s]
  have D:∀ j∈a :: b :: V :: (m++ns),j<H.next:=λj n=>by
   simp only [aU,aW] at n
   rcases n with h|h|h|h|h
   .exact (g.rng j (by simp [h])).2
   .exact (g.rng j (by simp [h])).2
   .exact (g.rng j (by simp [h])).2
   .exact (g.rng j (by simp [h])).2
   .exact cC (L j h).1 W
  obtain ⟨g1,g2,g3,g4⟩:=P0 (t:=t) (r:=r) (c:=c) g (λ_ _=>rfl) Y J D
  exact hK _ g1 g3 g4 g2
theorem Dh {l:List Int}{v:Int}(h:mem l v=true):0<=idx l v/\(idx l v).toNat<l.length/\l[(idx l v).toNat]?=some v:=by
 obtain ⟨i,e,f⟩:=aO ((mem_iff l v).1 h)
 have b:0<=idx l v:=by simpa [mem] using h
 unfold idx at b ⊢
 cases a:l.findIdx? (λx=>decide (x=v)) with
 | none=>rw [a] at b;simp at b
 | some k =>
  rw [i4] at a
  obtain ⟨d,c,_⟩:=a
  simp only [decide_eq_true_eq] at c
  exact ⟨by simp,by simpa using d,by simp [d,c]⟩
def fW (l:List Int)(n:Nat):List Int:=((List.range n).filter λ(i:Nat)=>mem l i).map λ(i:Nat)=>(i:Int)
theorem p5 {f:Nat->Int}:∀ (n k:Nat),(∀ j,k<=j->j<k+n->f j=0)->bQ f k n=0
 | 0,k,_=>rfl
 | n+1,k,h=>by
  unfold bQ
  rw [if_neg (by rw [h k (bC _) aD];simp)]
  exact p5 n (k+1) λj h1 h2=>h j aD aD
theorem SW {l:List Int}{n:Int}(d:∀ x∈l,0<=x/\x<n)(c:l.Pairwise (· < ·)):EO l n=0:=by
 refine p5 _ _ λj _ f=>?_
 have a:j<l.length:=aD
 have e:=d _ (aC a)
 unfold Hf
 rw [aA a,Option.getD_some,if_neg aD,if_neg]
 rintro ⟨g,b⟩
 rw [aA (aD:j - 1<l.length),Option.getD_some] at b
 have:=dH.1 c (j - 1) j aD a aD
 omega
theorem SY {l:List Int}(h:l.Pairwise (· < ·))(h0:∀ x∈l,0<=x):∀ i (hi:i<l.length),(i:Int)<=l[i]
 | 0,hi=>by have:=h0 _ (aC hi);omega
 | i+1,hi=>by
  have h1:=SY h h0 i aD
  have h2:=dH.1 h i (i+1) aD hi aD
  omega
theorem MM {α:Type}{f:α->Int}:∀ {l:List α},(∀ x∈l,f x=0)->gK f l=0
 | [],_=>rfl
 | x :: l,h=>by
  unfold gK
  rw [if_neg (by rw [h x (fN ..)];simp)]
  exact MM λy hy=>h y (dC _ hy)
def eA (g:Graph)(k:Int):Edge:=g.edges[k.toNat]?.getD cF
def iA (l:List Int)(k:Int):Int:=l[k.toNat]?.getD 0
theorem Tq {g:Graph}{p:Part}(i:graphF g=0)(h:∀ x∈p.nodes,0<=x/\x<g.nodes.length)(b:p.nodes.Pairwise (· < ·))(j:∀ x∈p.edges,0<=x/\x<g.edges.length)(c:p.edges.Pairwise (· < ·))
  (a:∀ k∈p.edges,(eA g k).from_∈p.nodes/\(eA g k).to_∈p.nodes):subF g p=0:=by
 unfold subF rC
 rw [if_neg (by rw [i];simp),if_neg (by rw [SW h b];simp),if_neg (by rw [SW j c];simp)]
 refine MM λk d=>?_
 have f:=(mem_iff _ _).2 (a k d).1
 have e:=(mem_iff _ _).2 (a k d).2
 unfold eA at f e
 unfold zF;rw [if_pos (by rw [f,e];rfl)]
theorem Gb (p:Nat->Bool)(n:Nat):(((List.range n).filter p).map λ(b:Nat)=>(b:Int)).Pairwise (· < ·):=by
 rw [List.pairwise_map]
 have h:((List.range n).filter p).Pairwise (· < ·):=List.Pairwise.filter _ List.pairwise_lt_range
 exact h.imp λh=>by omega
theorem A0 (p:Nat->Bool)(n:Nat)(x:Int):x∈(((List.range n).filter p).map λ(b:Nat)=>(b:Int))↔(0<=x/\x<n)/\p x.toNat=true:=by
 simp only [bB,g6,bK]
 constructor
 .rintro ⟨a,⟨h1,h2⟩,rfl⟩;exact ⟨aD,by simpa using h2⟩
 .rintro ⟨⟨h1,h2⟩,h3⟩;exact ⟨x.toNat,⟨aD,h3⟩,aD⟩
theorem gW {l:List Int}{n:Nat}{x:Int}:x∈bJ l n↔(0<=x/\x<n)/\x∉l:=by
 unfold bJ
 rw [A0]
 constructor
 .rintro ⟨h,a⟩
  refine ⟨h,λb=>?_⟩
  rw [show ((x.toNat:Nat):Int)=x by omega,(mem_iff l x).2 b] at a;cases a
 .rintro ⟨h,a⟩
  refine ⟨h,?_⟩
  rw [show ((x.toNat:Nat):Int)=x by omega,c9,bH]
  exact λb=>a ((mem_iff l x).1 b)
theorem oC (l:List Int)(n:Nat):(bJ l n).Pairwise (· < ·):=Gb _ n
theorem tU {l:List Int}{n:Nat}{x:Int}:x∈fW l n↔(0<=x/\x<n)/\x∈l:=by
 unfold fW
 rw [A0]
 constructor
 .rintro ⟨h,a⟩
  refine ⟨h,?_⟩
  rw [show ((x.toNat:Nat):Int)=x by omega] at a;exact (mem_iff l x).1 a
 .rintro ⟨h,a⟩
  refine ⟨h,?_⟩
  rw [show ((x.toNat:Nat):Int)=x by omega]
  exact (mem_iff l x).2 a
theorem TO (l:List Int)(n:Nat):(fW l n).Pairwise (· < ·):=Gb _ n
theorem Qh:∀ {l m:List Int},l.Pairwise (· < ·)->m.Pairwise (· < ·)->(∀ x,x∈l↔x∈m)->l=m
 | [],[],_,_,_=>rfl
 | [],b :: m,_,_,h=>by have:=(h b).2 (fN ..);cases this
 | a :: l,[],_,_,h=>by have:=(h a).1 (fN ..);cases this
 | a :: l,b :: m,hl,hm,h=>by
  obtain ⟨h1,h2⟩:=List.pairwise_cons.1 hl
  obtain ⟨h3,h4⟩:=List.pairwise_cons.1 hm
  have hab:a=b:=by
   have q1:=(h a).1 (fN ..)
   have q2:=(h b).2 (fN ..)
   rw [aU] at q1 q2
   rcases q1 with q1|q1
   .exact q1
   .rcases q2 with q2|q2
    .exact q2.symm
    .have h5:=h1 b q2
     have h6:=h3 a q1
     omega
  subst hab
  congr 1
  refine Qh h2 h4 λx=>⟨λhx=>?_,λhx=>?_⟩
  .rcases aU.1 ((h x).1 (dC _ hx)) with rfl|h'
   .have:=h1 x hx;omega
   .exact h'
  .rcases aU.1 ((h x).2 (dC _ hx)) with rfl|h'
   .have:=h3 x hx;omega
   .exact h'
theorem IZ {a b:Graph}{m:Part}(h:eV a b m=0):(∀ i,i<a.nodes.length->lJ a b m i=0)/\∀ k,k<a.edges.length->iP a b m k=0:=by
 obtain ⟨e,d,l,j⟩:=n4 h
 have c:eV a b m=(if bQ (lJ a b m) 0 a.nodes.length≠0 then bQ (lJ a b m) 0 a.nodes.length else bQ (iP a b m) 0 a.edges.length):=by
  unfold eV;rw [if_neg (by rw [e];simp),if_neg (by rw [d];simp),if_neg aD]
 rw [c] at h
 split at h
 .rename_i q;exact absurd h q
 .rename_i q
  exact ⟨λi g=>eP a.nodes.length 0 (aD:bQ (lJ a b m) 0 a.nodes.length=0) i aD aD,λk f=>eP a.edges.length 0 h k aD aD⟩
theorem OF {a b:Graph}{m:Part}(h:eV a b m=0){i:Int}(d:0<=i)(c:i<a.nodes.length):(0<=iA m.nodes i/\iA m.nodes i<b.nodes.length)/\gN b (iA m.nodes i)=gN a i:=by
 have q:=(IZ h).1 i.toNat aD
 unfold lJ at q
 split at q
 .cases q
 .rename_i q1
  split at q
  .cases q
  .rename_i q2
   exact ⟨by unfold iA;omega,by unfold gN iA;simpa using q2⟩
theorem Gm {a b:Graph}{m:Part}(h:eV a b m=0){k:Int}(e:0<=k)(d:k<a.edges.length):(0<=iA m.edges k/\iA m.edges k<b.edges.length)/\(eA a k).type=(eA b (iA m.edges k)).type /\
  iA m.nodes (eA a k).from_=(eA b (iA m.edges k)).from_/\iA m.nodes (eA a k).to_=(eA b (iA m.edges k)).to_:=by
 have q:=(IZ h).2 k.toNat aD
 unfold iP at q
 split at q
 .cases q
 .rename_i q1
  split at q
  .cases q
  .rename_i q2
   split at q
   .cases q
   .rename_i q3
    unfold eA iA
    refine ⟨aD,by simpa using q2,?_,?_⟩<;>exact bA λc=>q3 (by first|exact .inl c|exact .inr c)
theorem Fb {g:Graph}(c:graphF g=0){k:Int}(e:0<=k)(d:k<g.edges.length):(0<=(eA g k).from_/\(eA g k).from_<g.nodes.length)/\(0<=(eA g k).to_/\(eA g k).to_<g.nodes.length)/\0<=(eA g k).type/\(eA g k).type<=99:=by
 have a:k.toNat<g.edges.length:=aD
 have b:=(eK c).2 _ (aC a)
 unfold eA
 rw [aA a,Option.getD_some]
 exact ⟨b.2.1,b.2.2,b.1⟩
theorem Na {a keep:List Int}(h:rP a keep=[]){i k:Nat}(c:i<k)(e:k<a.length):uL a keep i k=false:=by
 rw [bH]
 intro d
 have b:(i,k)∈rP a keep:=by
  unfold rP GV
  rw [bT]
  refine ⟨i,bK.2 aD,?_⟩
  unfold mB
  rw [bB]
  exact ⟨k - (i+1),g6.2 ⟨bK.2 aD,by rw [show i+1+(k - (i+1))=k by omega];exact d⟩,by simp;omega⟩
 rw [h] at b;cases b
theorem Nb {a keep:List Int}(h:rP a keep=[]){i k:Nat}(e:i<a.length)(d:k<a.length)(b:i≠k)(c:a[i]?.getD 0=a[k]?.getD 0):mem keep i=true/\mem keep k=true:=by
 rcases Nat.lt_or_gt_of_ne b with hlt|hlt
 .have:=Na h hlt d
  unfold uL at this;rw [c] at this;simpa using this
 .have:=Na h hlt e
  unfold uL at this;rw [c] at this;simp at this;exact ⟨this.2,this.1⟩
theorem Fc {l g:Graph}{keep m:Part}(h:rG l g keep m=0):eV l g m=0/\subF l keep=0/\rP m.nodes keep.nodes=[]/\rP m.edges keep.edges=[]/\AN g m.edges (jX m.nodes keep.nodes)=[]:=by
 unfold rG at h
 split at h
 .rename_i q;exact absurd h q
 .rename_i q
  have a:compG l g keep m=0:=aD
  unfold compG at a
  split at h
  .cases h
  .rename_i q2
   split at h
   .cases h
   .rename_i q3
    have b:eV l g m=0/\subF l keep=0:=by
     split at a
     .rename_i q5;exact absurd a q5
     .rename_i q5;exact ⟨aD,a⟩
    exact ⟨b.1,b.2,bP aD,bP aD,bP aD⟩
theorem vH {b keep:List Int}(h:rP b keep=[]){j:Int}(l:0<=j)(k:j<b.length)(e:j∈keep):iA b j∉jX b keep:=by
 intro d
 obtain ⟨i,f,a,g⟩:=vI.1 d
 have c:i≠j.toNat:=by
  rintro rfl
  rw [show ((j.toNat:Nat):Int)=j by omega,(mem_iff _ _).2 e] at a;cases a
 have:=Nb h f (aD:j.toNat<b.length) c (by rw [g];rfl)
 rw [a] at this;exact absurd this.1 bW
theorem TZ {l g:Graph}{keep m:Part}(h:rG l g keep m=0):subF g (sP l g keep m)=0:=by
 obtain ⟨z,D,r,H,y⟩:=Fc h
 unfold sP;rw [if_pos h]
 obtain ⟨w,A,E,F⟩:=n4 z
 refine Tq A (λx s=>lR s) (oC _ _) (λx s=>lR s) (oC _ _) λk G=>?_
 obtain ⟨c,t⟩:=gW.1 G
 have a:=Fb A c.1 c.2
 by_cases o:k∈m.edges
 .obtain ⟨i,v,p⟩:=aO o
  have d:(i:Int)∈keep.edges:=by
   refine bA λI=>t (vI.2 ⟨i,v,?_,?_⟩)
   .rw [bH];exact λf=>I ((mem_iff _ _).1 f)
   .rw [aA v,p]
  have j:=CX D i d
  have q:=Fb (k:=(i:Int)) w aD aD
  have b:=Gm (k:=(i:Int)) z aD aD
  have u:iA m.edges i=k:=by unfold iA;simp [v,p]
  rw [u] at b
  have C:=vH r q.1.1 aD ((mem_iff _ _).1 j.1)
  have B:=vH r q.2.1.1 aD ((mem_iff _ _).1 j.2)
  rw [b.2.2.1] at C
  rw [b.2.2.2] at B
  exact ⟨gW.2 ⟨a.1,C⟩,gW.2 ⟨a.2.1,B⟩⟩
 .have e:zG g m.edges (jX m.nodes keep.nodes) k.toNat=false:=by
   rw [bH]
   intro e
   have n:k∈AN g m.edges (jX m.nodes keep.nodes):=by
    unfold AN;rw [A0];exact ⟨c,e⟩
   rw [y] at n;cases n
  unfold zG at e
  rw [show ((k.toNat:Nat):Int)=k by omega,show mem m.edges k=false by rw [bH];exact λf=>o ((mem_iff _ _).1 f)] at e
  simp only [Bool.not_false,gM,Bool.or_eq_false_iff] at e
  exact ⟨gW.2 ⟨a.1,λf=>by have:=(mem_iff _ _).2 f;unfold eA at this;rw [e.1] at this;cases this⟩,gW.2 ⟨a.2.1,λf=>by have:=(mem_iff _ _).2 f;unfold eA at this;rw [e.2] at this;cases this⟩⟩
theorem Rj {g:Graph}(k:g.nodes.length<=40)(j:g.edges.length<=80)(e:∀ a∈g.nodes,0<=a/\a<=99)
  (f:∀ x∈g.edges,(0<=x.type/\x.type<=99)/\(0<=x.from_/\x.from_<g.nodes.length)/\(0<=x.to_/\x.to_<g.nodes.length)):graphF g=0:=by
 unfold graphF
 rw [if_neg aD,if_neg,if_neg]
 .rw [aX];rintro ⟨x,d,b⟩
  have i:=f x d
  have c:tV x g.nodes.length=true:=by simp [tV,iH];omega
  rw [c] at b;cases b
 .rw [aX];rintro ⟨a,h,b⟩
  have i:=e a h
  have c:iH a 99=true:=by simp [iH];omega
  rw [c] at b;cases b
theorem Sy {g:Graph}{n:Int}(h0:0<=n)(h:n<g.nodes.length):gN g n∈g.nodes:=by
 unfold gN;rw [aA (aD:n.toNat<g.nodes.length),Option.getD_some];exact aC _
theorem VC {g:Graph}{n:Int}(h0:0<=n)(h:n<g.edges.length):eA g n∈g.edges:=by
 unfold eA;rw [aA (aD:n.toNat<g.edges.length),Option.getD_some];exact aC _
theorem mN {l:List Int}{n:Int}(h0:0<=n)(h:n<l.length):iA l n∈l:=by
 unfold iA;rw [aA (aD:n.toNat<l.length),Option.getD_some];exact aC _
theorem SX {l:List Int}{n:Nat}(h:l.Pairwise (· < ·))(a:∀ x∈l,0<=x/\x<n):l.length<=n:=by
 rcases Nat.eq_zero_or_pos l.length with h1|h1
 .omega
 .have h2:=SY h (λx b=>(a x b).1) (l.length - 1) aD
  have c:=a _ (aC (aD:l.length - 1<l.length))
  omega
theorem R5 {l:List Int}(f:l.Pairwise (· < ·)){v:Int}(e:v∈l):uG l v<l.length/\iA l (uG l v)=v/\idx l v=uG l v:=by
 have a:=(mem_iff l v).2 e
 have d:=Ci f a
 obtain ⟨g,c,b⟩:=Dh a
 rw [d] at g c b
 refine ⟨by simpa using c,?_,d⟩
 unfold iA;rw [b];rfl
theorem x9 {g:Graph}{p:Part}(h:subF g p=0){k:Int}(a:k∈p.edges):(eA g k).from_∈p.nodes/\(eA g k).to_∈p.nodes:=by
 have:=CX h k a
 exact ⟨(mem_iff _ _).1 this.1,(mem_iff _ _).1 this.2⟩
theorem Sz (g:Graph)(p:Part)(k:Int):gEd g p k=⟨(eA g k).type,uG p.nodes (eA g k).from_,uG p.nodes (eA g k).to_⟩:=rfl
theorem U8 {α β:Type}(f:α->β)(l:List α)(d:α)(e:β){i:Nat}(h:i<l.length):((l.map f)[i]?).getD e=f ((l[i]?).getD d):=by simp [h]
theorem KQ {g:Graph}{p:Part}(h:subF g p=0){i:Int}(b:0<=i)(a:i<p.nodes.length):gN (cY g p) i=gN g (iA p.nodes i):=by
 unfold cY;rw [if_pos h]
 exact U8 (gN g) p.nodes 0 0 aD
end Go.Abs
end
