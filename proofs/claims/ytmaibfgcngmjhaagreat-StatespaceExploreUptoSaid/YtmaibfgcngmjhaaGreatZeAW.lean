/- The step of the program: assigned (a map). · The step of the -/
import Derived.Test.YtmaibfgcngmjhaaGreatZeAA
import Derived.Test.YtmaibfgcngmjhaaGreatZeAV
import Derived.Test.YtmaibfgcngmjhaaGreatZeAG
import Derived.Test.YtmaibfgcngmjhaaGreatZeAU
import Derived.Test.YtmaibfgcngmjhaaGreatZeAT
import Derived.Test.YtmaibfgcngmjhaaGreatZeAL
set_option linter.unusedVariables false
set_option linter.unusedSimpArgs false
section
set_option maxRecDepth 100000
set_option maxHeartbeats 4000000
open Go Go.Proofs Tryz
namespace Go.Abs
@[go_sem] theorem abL:rZ (Value.map none)=.junk:=rfl
@[go_sem] theorem aeX:kF (.const (Value.map none))=false:=rfl
theorem WL:MapT prog 317 321 3 :=
 YD underlying317 underlying3 underlying321 ⟨rfl,rfl,rfl⟩ ⟨rfl,rfl,rfl⟩ en en en ⟨prog.types.size - 1,by have:0<prog.types.size:=of_decide_eq_true en;omega⟩
  (Maps.Keyed.of_law (deep_law_laid (m:=2) en bL (of_decide_eq_true en) en en)) (λw=>by kernel_rfl)
def ai5 (co:Part)(vs:Xa0)(l:List Slot)(G:AHeap)(d:D)(H':AHeap)(g:MS):Prop :=
 (∀ j,j<G.next->H'.get j=G.get j)/\G.next<=H'.next /\
  ((z8 co vs l=true/\∃ q,d=.tup [q,dI 11])\/(z8 co vs l=false/\∃ b k,d=.tup [.cst (.map (some b)),dI 0]/\g=.mp b k (FA co vs l)))
theorem Kk (t:Types)(r:Rule)(hR:RuleV t r)(m:Mat)(h:Host)(x0:Host)(tr p:Part)(hP:PutOk t r x0 p)(O:m.vars.length=r.left.vars.toNat)(N:Sm m.vars)(a b0 V na nb nV:Nat)(G:AHeap) :
  GCalls prog 321 3 264 [.agg (stpC r m h (.own a na) (.own b0 nb) (.own V nV) tr p)] G (ai5 p m.vars r.right.q G):=by
 obtain ⟨l,hl⟩:=cY (r.right.q);have Q:=hR.q;have W:=hR.bi;have f:=hP.spot;have u:=hP.Q;have a6:=hP.U;have a8:=hP.bi;rw [<- hl] at Q W f u ⊢;refine Bo func264 rfl rfl (by exact aG rfl) ?_;refine dX λK0 k0=>?_;refine iH (c:=⟨λt=>t==6||t==9,λr=>match r with|8=>[(0,10),(1,10),(2,10),(3,10),(4,10),(5,10),(6,10),(7,10),(8,10)]|_=>[]⟩) Tz.mixed en ?_;simp [go_sem,seval,stpC];repeat first|intro _|refine ⟨fY,?_⟩
 refine k0 _ _ _ ?_;clear k0 K0;refine dX λE q=>?_;refine WpG.region (OpsG.make WL rfl rfl rfl λb=>?_);refine OpsG.all (md:=λ_=>false) rfl λR n=>?_;simp [go_sem,seval];refine n _ _ (q _ _ _ ?_);clear n R q E;refine dX λK3 k3=>?_;refine dX λz d=>?_;refine iH (c:=⟨λt=>t==6||t==9,λr=>match r with|8=>[(0,10),(1,10),(2,10),(3,10),(4,10),(5,10),(6,10),(7,10),(8,10)]|_=>[]⟩) Tz.mixed en ?_;simp [go_sem,seval];repeat first|intro _|refine ⟨fY,?_⟩
 refine d _ _ _ ?_;clear d z;refine WpG.block ?_;obtain ⟨I,hI⟩:∃ I:Nat->MS->dO->AHeap->Prop,∀ i g e H,I i g e H↔(e 1=.adr (stpC r m h (.own a na) (.own b0 nb) (.own V nV) tr p)/\e 4=.cst (.map (some b))/\e 16=.list (l.map Slot.c)/\e 17=dI l.length/\e 18=dI i/\i<=l.length/\(∃ k,k<=i/\g=.mp b k (FA p m.vars (l.take i)))/\EqK p m.vars (l.take i)/\(∀ j,j<G.next->H.get j=G.get j)/\G.next<=H.next):=⟨_,λ_ _ _ _=>Iff.rfl⟩;refine WpG.loop I (λi=>l.length - i) 0 ((hI _ _ _ _).2 ⟨by simp [go_sem,stpC,dLI],by simp [go_sem],by simp [go_sem,hl],by simp [go_sem,hl],by simp [go_sem],bL,⟨0,bL,by simp [FA]⟩,by intro s hs;simp at hs,by intro j hj;simp [go_sem],by simp [go_sem]⟩) λi g e H a3=>?_;obtain ⟨q1,q4,K,J,B,hi,⟨k,hk,rfl⟩,hE,hG,a0⟩:=(hI _ _ _ _).1 a3;refine dX λE q=>?_;refine iH (c:=⟨λt=>t==6||t==9,λr=>match r with|8=>[(0,10),(1,10),(2,10),(3,10),(4,10),(5,10),(6,10),(7,10),(8,10)]|_=>[]⟩) Tz.mixed en ?_;simp [go_sem,seval,J,B];repeat first|intro _|refine ⟨fY,?_⟩
 refine q _ _ _ ?_;clear q E;refine dX λE q=>?_;refine WpG.cond (t:=decide (i<l.length)) eh (λh3=>?_) (λh3=>?_)
 .refine WpG.skip ?_;simp only [go_sem];refine q _ _ _ ?_;clear q E;have w:i<l.length:=of_decide_eq_true h3;obtain ⟨x,F⟩:=cY (l[i]);have C:x∈l:=F ▸ aC w;obtain ⟨⟨n1,n2⟩,⟨a1,a2⟩,hT⟩:=Q x C;obtain ⟨s1,s2,s3⟩:=f x C;obtain ⟨t1,t2⟩:=u x C;have S:x.node.toNat<p.i.length:=bL;have U:nQ p x=p.i[x.node.toNat]:=by unfold nQ;rw [aA S];rfl
  have a7:=HT (vs:=m.vars) (by rw [O];exact hT) N;have Y:EJ (nQ p x):=by rw [qQ] at s2;exact ⟨by unfold nQ;omega,by unfold nQ at *;omega⟩
  have X:EJ x.Q:=⟨bL,by have:=vG hR.vf (x0.o.i[f9 p x]?.getD 0);omega⟩;have a4:EJ (dJ x.E m.vars):=⟨bL,bL⟩;obtain ⟨v,P⟩:=cY (dJ x.E m.vars);refine dX λE q=>?_;refine WpG.block ?_;refine dX λz d=>?_;refine iH (c:=⟨λt=>t==6||t==9,λr=>match r with|8=>[(0,10),(1,10),(2,10),(3,10),(4,10),(5,10),(6,10),(7,10),(8,10)]|_=>[]⟩) Tz.mixed en ?_;simp [go_sem,seval,K,B,aA w,<- F,Slot.c];repeat first|intro _|refine ⟨fY,?_⟩
  refine d _ _ _ ?_;clear d z;refine dX λz d=>?_;refine iH (c:=⟨λt=>t==6||t==9,λr=>match r with|8=>[(0,10),(1,10),(2,10),(3,10),(4,10),(5,10),(6,10),(7,10),(8,10)]|_=>[]⟩) Tz.mixed en ?_;simp [go_sem,seval,q1,stpC,Slot.c];repeat first|intro _|refine ⟨fY,?_⟩
  refine aB (by have hq:=oL x.E m.vars (by rw [O];exact hT) N;rw [<- P] at hq;unfold Term.c dLI at hq;exact hq) em ?_;simp [go_sem,seval];repeat first|intro _|refine ⟨fY,?_⟩
  refine d _ _ _ ?_;clear d z;refine dX λz d=>?_;refine dX λZ A=>?_;refine iH (c:=⟨λt=>t==6||t==9,λr=>match r with|8=>[(0,10),(1,10),(2,10),(3,10),(4,10),(5,10),(6,10),(7,10),(8,10)]|_=>[]⟩) Tz.mixed en ?_;simp [go_sem,seval];refine A _ _ _ ?_;clear A Z;refine WpG.cond (t:=false) eh (λh=>by cases h) (λ_=>WpG.skip ?_);simp only [go_sem];refine d _ _ _ ?_;clear d z;refine dX λz d=>?_;refine iH (c:=⟨λt=>t==6||t==9,λr=>match r with|8=>[(0,10),(1,10),(2,10),(3,10),(4,10),(5,10),(6,10),(7,10),(8,10)]|_=>[]⟩) Tz.mixed en ?_;simp [go_sem,seval,q1,stpC,Slot.c,aA S,<- U];repeat first|intro _|refine ⟨fY,?_⟩
  refine d _ _ _ ?_;clear d z;refine dX λz d=>?_;refine dX λZ A=>?_;refine WpG.region ?_;refine OpsG.take (md:=λt=>t==6||t==9) 2 rfl λR n=>?_;simp [go_sem,seval,q4];repeat first|intro _|refine ⟨fY,?_⟩
  refine n _ _ ?_;clear n R;refine OpsG.look (T:=317) WL rfl rfl rfl rfl eh eh Y X ?_;refine OpsG.all (md:=λt=>t==6||t==9) rfl λR n=>?_;simp [go_sem,seval];repeat first|intro _|refine ⟨fY,?_⟩
  refine n _ _ (A _ _ _ ?_);clear n R A Z;obtain ⟨o,ho⟩:=cY (FA p m.vars (l.take i) (nQ p x) x.Q);refine dX λZ A=>?_;refine iH (c:=⟨λt=>t==6||t==9,λr=>match r with|8=>[(0,10),(1,10),(2,10),(3,10),(4,10),(5,10),(6,10),(7,10),(8,10)]|_=>[]⟩) Tz.mixed en ?_;simp [go_sem,seval,<- ho];repeat first|intro _|refine ⟨fY,?_⟩
  refine A _ _ _ ?_;clear A Z;refine WpG.cond (t:=o.isSome&&o.getD 0 != v) eh (λD=>?_) (λD=>?_)
  .refine dX λK5 L=>?_;refine iH (c:=⟨λt=>t==6||t==9,λr=>match r with|8=>[(0,10),(1,10),(2,10),(3,10),(4,10),(5,10),(6,10),(7,10),(8,10)]|_=>[]⟩) Tz.mixed en ?_;simp [go_sem,seval];refine L _ _ _ ?_;clear L K5;refine WpG.ret ?_;simp [go_sem,UE];refine ⟨λj hj=>?_,?_,.inl ⟨?_,_,rfl⟩⟩
   .have fr1:=bU (bL:j<H.next);simp [go_sem,fr1];exact hG j hj
   .simp [go_sem];omega
   .rw [aR] at D;obtain ⟨y,M⟩:=l8.1 D.1;refine Xu w (x:=y) (by rw [<- F,<- ho,M]) (λe=>?_);have h2:=D.2;rw [M,<- F,<- P] at *;simp [e] at h2
  .refine WpG.skip ?_;simp only [go_sem];refine d _ _ _ ?_;clear d z;refine WpG.region ?_;refine OpsG.take (md:=λt=>t==6||t==9) 3 rfl λR n=>?_;simp [go_sem,seval,q4];repeat first|intro _|refine ⟨fY,?_⟩
   refine n _ _ ?_;clear n R;refine OpsG.store (T:=317) (c:=v) WL rfl rfl rfl rfl eh eh eh Y X (P ▸ a4) bL ?_;refine OpsG.all (md:=λt=>t==6||t==9) rfl λR n=>?_;simp [go_sem,seval];refine n _ _ ?_;clear n R;simp only [go_sem];refine q _ _ _ ?_;clear q E;refine iH (c:=⟨λt=>t==6||t==9,λr=>match r with|8=>[(0,10),(1,10),(2,10),(3,10),(4,10),(5,10),(6,10),(7,10),(8,10)]|_=>[]⟩) Tz.mixed en ?_;simp [go_sem,seval,B];repeat first|intro _|refine ⟨fY,?_⟩
   refine ⟨i+1,bL,(hI _ _ _ _).2 ⟨by simp [go_sem,q1],by simp [go_sem,q4],by simp [go_sem,K],by simp [go_sem,J],by simp [go_sem],bL,⟨k+1,bL,by rw [aD w,Uh,<- F,P]⟩,?_,λj hj=>?_,by simp [go_sem];omega⟩⟩
   .rw [aD w,<- F];refine XQ hE λy M=>?_;rw [<- ho] at M;rw [M] at D;simp at D;rw [D,P]
   .have fr1:=bU (bL:j<H.next);simp [go_sem,fr1];exact hG j hj
 .refine WpG.exit ?_;simp [go_sem];refine k3 _ _ _ ?_;have a5:i=l.length:=by have:=of_decide_eq_false h3;omega
  rw [aH bL] at hE ⊢;refine dX λK5 L=>?_;refine iH (c:=⟨λt=>t==6||t==9,λr=>match r with|8=>[(0,10),(1,10),(2,10),(3,10),(4,10),(5,10),(6,10),(7,10),(8,10)]|_=>[]⟩) Tz.mixed en ?_;simp [go_sem,seval,q4];refine L _ _ _ ?_;clear L K5;refine WpG.ret ?_;simp [go_sem,UE];refine ⟨hG,a0,.inr ⟨SS (λs hs=>(f s hs).1) hE,b,k,by simp [go_sem],rfl⟩⟩
theorem Xc {c:Part}{vs:Xa0}{l:List Slot}(h:z8 c vs l=false):EqK c vs l:=by
 rw [y8] at h;have a:∀ (p q:Nat) (d:p<q) (b:q<l.length),nQ c l[p]=nQ c l[q]->l[p].Q=l[q].Q->dJ l[p].E vs=dJ l[q].E vs:=λp q d b f e=>by
  refine bE λn=>?_;have:((List.range l.length).any λi=>(List.range i).any λk=>xL c vs l i k)=true:=by
   rw [aZ];refine ⟨q,by simpa using b,?_⟩;rw [aZ];refine ⟨p,by simpa using d,?_⟩;unfold xL FG;simp only [aA (bL:p<l.length),aA b,qQ,f,e];simp [n]
  rw [h] at this;cases this
 intro s j o g f e;obtain ⟨p,m,rfl⟩:=aM j;obtain ⟨q,b,rfl⟩:=aM g;rcases Nat.lt_trichotomy p q with h1|h1|h1
 .exact a p q h1 b f e
 .subst h1;rfl
 .exact (a q p h1 m f.symm e.symm).symm
theorem Us (t:Types)(ht:t.ok)(r:Rule)(hR:RuleV t r)(m:Mat)(h o:Host)(tr p:Part)(hP:PutOk t r o p)(d2:m.vars.length=r.left.vars.toNat)(d0:Sm m.vars)(G:AHeap)(s a b0 V:Nat)(O:List Nat)
  (hs:G.get s=some ⟨136,38,[stpC r m h (.own a o.o.i.length) (.own b0 o.o.j.length) (.own V o.values.length) tr p],false⟩) (c4:HH G 0 a b0 V O o) (d6:∀ j∈a :: b0 :: V :: O,j≠s) (d7:s<G.next) (Q:D->AHeap->Prop)
  (a1:∀ H',xF t o.o p m.vars r.right.q≠0->(∀ j,j<G.next->j∉a :: b0 :: V :: O->H'.get j=G.get j)->G.next<=H'.next->Q (dI (xF t o.o p m.vars r.right.q)) H')
  (hQ:∀ H',xF t o.o p m.vars r.right.q=0->HH H' 0 a b0 V O ⟨o.o,xE p m.vars r.right.q o.values⟩->(∀ j,j<G.next->j∉a :: b0 :: V :: O->H'.get j=G.get j)->G.next<=H'.next->Q (dI 0) H') :
  ACalls prog 197 [t.d,.ptr s 1 0 0] G Q:=by
 obtain ⟨l,hl⟩:=cY (r.right.q);have hA:=Kk t r hR m h o tr p hP d2 d0 a b0 V o.o.i.length o.o.j.length o.values.length G;have a2:=hR.q;have z:=hP.spot;have J:=hP.Q;have g3:=hP.bi;rw [<- hl] at a2 z J a1 hQ hA;refine Le (P:=prog) (K:=321) (E:=3) (Q:=λd H' _=>Q d H') ?_ (λ_ _ _ h=>h);refine Bo func197 rfl rfl (by exact aG rfl) ?_;refine dX λN A=>?_;refine iH (c:=⟨λt=>t==7,λ_=>[]⟩) Tz.mixed en ?_;simp [go_sem,seval];refine A _ _ _ ?_;clear A N;refine dX λN A=>?_;refine WpG.region ?_;refine OpsG.take (md:=λt=>t==7) 3 rfl λR C=>?_;simp [go_sem,seval,hs,stpC];repeat first|intro _|refine ⟨fY,?_⟩
 refine C _ _ ?_;clear C R;refine OpsG.call (f:=264) (args:=[.agg (stpC r m h (.own a o.o.i.length) (.own b0 o.o.j.length) (.own V o.values.length) tr p)]) (by simp [go_sem,iQ,stpC]) rfl rfl hA λd H1 g1 hq=>?_;obtain ⟨b4,a8,b1⟩:=hq;rcases b1 with ⟨Z,q,rfl⟩|⟨Z,b,k,rfl,rfl⟩
 .refine OpsG.all (md:=λt=>t==7) rfl λR C=>?_;simp [go_sem,seval];repeat first|intro _|refine ⟨fY,?_⟩
  refine C _ _ (A _ _ _ ?_);clear C R A N;refine dX λK2 k2=>?_;refine dX λK4 S=>?_;refine iH (c:=⟨λt=>t==7,λ_=>[]⟩) Tz.mixed en ?_;simp [go_sem,seval];refine S _ _ _ ?_;clear S K4;refine WpG.cond (t:=true) eh (λ_=>?_) (λhc=>by cases hc);refine dX λK5 k5=>?_;refine iH (c:=⟨λt=>t==7,λ_=>[]⟩) Tz.mixed en ?_;simp [go_sem,seval];refine k5 _ _ _ ?_;clear k5 K5;refine WpG.ret ?_;simp [go_sem,UE];have hE:xF t o.o p m.vars l=11:=by unfold xF;rw [if_pos Z]
  rw [hE] at a1;exact a1 _ (by decide) (λj Y _=>b4 j Y) a8
 .refine OpsG.all (md:=λt=>t==7) rfl λR C=>?_;simp [go_sem,seval];repeat first|intro _|refine ⟨fY,?_⟩
  refine C _ _ (A _ _ _ ?_);clear C R A N;refine dX λK2 k2=>?_;refine dX λK4 S=>?_;refine iH (c:=⟨λt=>t==7,λ_=>[]⟩) Tz.mixed en ?_;simp [go_sem,seval];refine S _ _ _ ?_;clear S K4;refine WpG.cond (t:=false) eh (λhc=>by cases hc) (λ_=>WpG.skip ?_);simp only [go_sem];refine k2 _ _ _ ?_;clear k2 K2;have a4:xF t o.o p m.vars l=if l.any (Ba t o.o p m.vars)=true then 6 else 0:=by unfold xF;rw [if_neg (by rw [Z];simp)]
  refine dX λK3 k3=>?_;refine dX λK4 S=>?_;refine WpG.region ?_;refine OpsG.take (md:=λt=>t==7) 1 rfl λR C=>?_;simp [go_sem,seval];refine C _ _ ?_;clear C R;refine OpsG.range (T:=317) WL rfl rfl rfl rfl eh λrr xK=>?_;refine OpsG.nil (S _ _ _ ?_);clear S K4;have M:∀ x∈l,EJ (nQ p x)/\EJ x.Q:=λx L=>by
   obtain ⟨s1,s2,s3⟩:=z x L;obtain ⟨t1,t2⟩:=J x L;have:=vG hR.vf (o.o.i[f9 p x]?.getD 0);have h0:=(a2 x L).2.1.1;rw [qQ] at s2;exact ⟨⟨by unfold nQ;omega,by unfold nQ at *;omega⟩,bL,bL⟩
  refine WpG.block ?_;obtain ⟨F,hF⟩:=cY (FA p m.vars l);rw [<- hF];obtain ⟨I,hI⟩:∃ I:Nat->MS->dO->AHeap->Prop,∀ i g e H,I i g e H↔(∃ left c9,g=.rg b rr F left i c9/\e 1=.ptr s 1 0 0/\e 2=.adr t.c/\e 22=.cst (Gt rr) /\
   HH H 0 a b0 V O ⟨o.o,A8 F (λu v=>(F u v).isSome&&!left u v) o.values⟩/\(∀ x∈l,left (nQ p x) x.Q=false->Ba t o.o p m.vars x=false)/\(∀ j,j<G.next->j∉a :: b0 :: V :: O->H.get j=G.get j)/\G.next<=H.next):=⟨_,λ_ _ _ _=>Iff.rfl⟩
  refine WpG.loop I (λi=>i) xK ((hI _ _ _ _).2 ⟨_,_,rfl,by simp [go_sem],by simp [go_sem],by simp [go_sem],?_,?_,λj Y _=>b4 j Y,a8⟩) λi g e H e6=>?_
  .rw [UZ]
   .exact c4.same a8 (λj Y=>b4 j (c4.W j Y).2)
   .intro n v _ _;cases F n v<;>rfl
  .intro x L hf;have:=XN (c:=p) (vs:=m.vars) (l:=l) (s:=x) (Xc Z) L;rw [<- hF] at this;rw [this] at hf;cases hf
  obtain ⟨left,c9,rfl,q1,q2,a5,hh,hO,hG,d9⟩:=(hI _ _ _ _).1 e6;refine dX λN A=>?_;refine WpG.region ?_;refine OpsG.next WL rfl rfl rfl (eD a5) (λhd=>?_) (λu v c i' hu hv f7 b5 e4=>?_)
  .refine OpsG.all (md:=λt=>t==7) rfl λR C=>?_;simp [go_sem,seval];refine C _ _ (A _ _ _ ?_);clear C R A N;refine dX λN A=>?_;refine WpG.cond (t:=false) eh (λhc=>by cases hc) (λ_=>WpG.exit ?_);simp [go_sem];refine k3 _ _ _ ?_;refine dX λK5 k5=>?_;refine iH (c:=⟨λt=>t==7,λ_=>[]⟩) Tz.mixed en ?_;simp [go_sem,seval];refine k5 _ _ _ ?_;clear k5 K5;refine WpG.ret ?_;simp [go_sem,UE];have c7:l.any (Ba t o.o p m.vars)=false:=by
    rw [bP];intro hT;obtain ⟨x,L,hT⟩:=aZ.1 hT;rw [hO x L (hd _ _ (M x L).1 (M x L).2)] at hT;cases hT
   rw [if_neg (by rw [c7];simp)] at a4;have hV:=UY (c:=p) (vs:=m.vars) (vals:=o.values) (l:=l) (λx L=>⟨(z x L).1,(z x L).2.1,(a2 x L).2.1.1,(J x L).1⟩) (dn:=λu v=>(F u v).isSome&&!left u v) (λn v _ _=>by
    rw [<- hF];cases f1:F n v with
    | none=>rfl
    | some y =>
     obtain ⟨x,L,e1,e2,_⟩:=HF (c:=p) (vs:=m.vars) (l:=l) (by rw [<- hF];exact f1);have:=hd _ _ (M x L).1 (M x L).2;rw [e1,e2] at this;simp [this])
   rw [<- hF] at hV;rw [hV] at hh;exact hQ _ a4 hh hG d9
  .refine OpsG.all (md:=λt=>t==7) rfl λR C=>?_;simp [go_sem,seval];refine C _ _ (A _ _ _ ?_);clear C R A N;refine dX λN A=>?_;refine WpG.cond (t:=true) eh (λ_=>WpG.skip ?_) (λhc=>by cases hc);simp only [go_sem];refine A _ _ _ ?_;clear A N;refine WpG.block ?_;refine dX λN A=>?_;refine WpG.region ?_;refine OpsG.entry rfl rfl rfl (eD a5) ?_;refine OpsG.all (md:=λt=>t==7) rfl λR C=>?_;simp [go_sem,seval];repeat first|intro _|refine ⟨fY,?_⟩
   refine C _ _ (A _ _ _ ?_);clear C R A N;obtain ⟨x,U,e1,e2,e3⟩:=HF (c:=p) (vs:=m.vars) (l:=l) (by rw [<- hF];exact b5);obtain ⟨s1,s2,s3⟩:=z x U;obtain ⟨t1,t2⟩:=J x U;have a0:=(a2 x U).2.1.1;obtain ⟨n,hn⟩:=cY (f9 p x);rw [<- hn] at s2 s3 t1 t2;have d3:u=(n:Int):=by rw [<- e1,hn,qQ];unfold nQ at *;omega
   subst d3;obtain ⟨w,hw⟩:∃ w:Nat,v=(w:Int):=⟨v.toNat,bL⟩;subst hw;have b9:H.get s=some ⟨136,38,[stpC r m h (.own a o.o.i.length) (.own b0 o.o.j.length) (.own V o.values.length) tr p],false⟩:=by rw [hG s d7 (λhm=>d6 s hm rfl)];exact hs
   have e7:=hh.ga;have c6:=hh.gV;have f5:=hh.W a hh.a6;have f6:=hh.W V hh.ba;obtain ⟨nd,c1⟩:∃ y,y=o.o.i[n]:=⟨_,rfl⟩;have X:o.o.i[n]?.getD 0=nd:=by rw [c1,aA s3];rfl
   rw [X] at t2;have b3:w<(bZ t nd).length:=bL;have b6:=xa1 (bU (bL:s<H.next)) (bU (bL:a<H.next)) (bU (bL:V<H.next));have g0:=r8 ht nd;refine dX λN A=>?_;refine iH (c:=⟨λt=>t==7,λ_=>[]⟩) Tz.mixed en ?_;simp [go_sem,seval,q1,q2,b9,e7,stpC,b6,aA s3,<- c1];repeat first|intro _|refine ⟨fY,?_⟩
   refine aJ (sJ t ht nd) em ?_;simp [go_sem,seval];repeat first|intro _|refine ⟨fY,?_⟩
   refine A _ _ _ ?_;clear A N;refine dX λK2 k2=>?_;refine dX λK4 S=>?_;refine iH (c:=⟨λt=>t==7,λ_=>[]⟩) Tz.mixed en ?_;simp [go_sem,seval,b6,aA b3,Attr.c];repeat first|intro _|refine ⟨fY,?_⟩
   refine S _ _ _ ?_;clear S K4;have B:=hh;obtain ⟨dn,a9⟩:=cY (λu v=>(F u v).isSome&&!left u v);rw [<- a9] at B;have b8:(A8 F dn o.values).length=o.values.length:=uR ..;have c3:n<(A8 F dn o.values).length:=bL;have e0:n<O.length:=by rw [B.len];exact c3
   obtain ⟨q,hq⟩:=cY (O[n]);obtain ⟨vr,d1⟩:∃ v,v=(A8 F dn o.values)[n]:=⟨_,rfl⟩;have g1:O[n]?=some q:=by rw [aA e0,hq]
   have g2:(A8 F dn o.values)[n]?=some vr:=by rw [aA c3,d1]
   have c0:=t6 g1 g2;have c5:=B.gq _ _ _ g1 g2;have b7:vr.length=(o.values[n]?.getD []).length:=by rw [<- sQ F dn o.values n,g2];rfl
   have a7:w<vr.length:=bL;have W:q∈O:=aK g1;have f3:=B.W q (B.ay W);have d8:=kI B.len;rw [<- a9] at c6;have f2:=bU (bL:q<H.next);have f0:Ba t o.o p m.vars x=(decide (c<(bZ t nd)[w].am)||decide ((bZ t nd)[w].aw<c)):=by
    unfold Ba;rw [<- hn,X,(bL:x.Q.toNat=w),aA b3,e3];rfl
   refine WpG.cond (t:=decide (c<(bZ t nd)[w].am)||decide ((bZ t nd)[w].aw<c)) eh (λe8=>?_) (λe9=>WpG.skip ?_)
   .refine dX λK5 k5=>?_;refine iH (c:=⟨λt=>t==7,λ_=>[]⟩) Tz.mixed en ?_;simp [go_sem,seval];refine k5 _ _ _ ?_;clear k5 K5;refine WpG.ret ?_;simp [go_sem,UE];have hT:l.any (Ba t o.o p m.vars)=true:=aZ.2 ⟨_,U,by rw [f0];exact e8⟩;rw [if_pos hT] at a4;rw [a4] at a1;refine a1 _ (by decide) (λj Y a3=>?_) ei;simp [go_sem,(bL:j≠H.next)];exact hG j Y a3
   .simp only [go_sem];refine k2 _ _ _ ?_;clear k2 K2;refine iH (c:=⟨λt=>t==7,λ_=>[]⟩) Tz.mixed en ?_;have c2:n<o.values.length:=bL;have f4:=B.qn W;simp [go_sem,seval,q1,b9,c6,stpC,b6,f2,c0,c5,d8,b8];refine ⟨c2,a7,?_⟩;simp [go_sem,aA a7,cI];repeat first|intro _|refine ⟨fY,?_⟩
    refine ⟨i',e4,(hI _ _ _ _).2 ⟨_,_,rfl,by simp [go_sem,q1],by simp [go_sem,q2],by simp [go_sem,a5],?_,?_,?_,by first|(simp [go_sem];done)|(simp [go_sem];omega)⟩⟩
    .have hst:=UX F o.values (dn:=dn) (dn':=λu v=>(F u v).isSome&&!(left u v&&(!decide (u=(n:Int))||!decide (v=(w:Int))))) c2 (by rw [<- b7];exact a7) b5 (λn2 b2 _ _=>by
      rw [a9];by_cases e1:n2=n
      .by_cases e2:b2=w
       .subst e1;subst e2;simp [b5]
       .have e3':¬ ((b2:Int)=w):=bL;subst e1;simp [e2,e3']
      .have e3':¬ ((n2:Int)=n):=bL;simp [e1,e3'])
     rw [g2] at hst;rw [<- hst];exact B.cn ei g1 g2 bS (by simp [go_sem,c5,c8,cI]) (λj Y e5=>by
      have f8:=(B.W j Y).2;simp [go_sem,e5,(bL:j≠H.next)])
    .intro y hy hyf;cases hL:left (nQ p y) y.Q with
     | false=>exact hO y hy hL
     | true =>
      have a6:nQ p y=(n:Int)/\y.Q=(w:Int):=by rw [hL] at hyf;simpa using hyf
      have d5:f9 p y=n:=by rw [qQ,a6.1];rfl
      have d4:dJ y.E m.vars=c:=by rw [<- e3];exact Xc Z y hy x U (by rw [a6.1,e1]) (by rw [a6.2,e2])
      unfold Ba;rw [d5,X,(bL:y.Q.toNat=w),aA b3,d4];exact e9
    .intro j Y a3;simp [go_sem,(bL:j≠H.next),show j≠q from λe=>a3 (e ▸ B.ay W)];exact hG j Y a3
theorem Y6 {d:Xa0}(c:d.Pairwise (· < ·)){n:Nat}{x:Int}(f:0<=x)(e:x<n)(b:x∈d):∃ p:Nat,p<d.length/\(mG d n)[x.toNat]?=some (p:Int):=by
 obtain ⟨p,a,rfl⟩:=aM b;refine ⟨p,a,?_⟩;rw [B6 _ bL,show ((d[p].toNat:Nat):Int)=d[p] by omega,By (FS c) a]
theorem Xz {a d:Xa0}{n:Nat}(i:d.Pairwise (· < ·)){k:Int}(l:0<=k)(j:k<a.length)(c:0<=iA a k/\iA a k<n)(g:iA a k∈d):∃ p:Nat,p<d.length/\(rH a (uK d n))[k.toNat]?.getD 0=p:=by
 obtain ⟨p,f,h⟩:=Y6 i c.1 c.2 g;have b:k.toNat<a.length:=bL;have e:iA a k=a[k.toNat]:=by unfold iA;rw [aA b];rfl
 refine ⟨p,f,?_⟩;unfold rH uK;rw [aW,aA b,fS,aF,<- e,h];rfl
theorem Ms {keep a at_:Xa0}{b:Nat}(d:a.Nodup)(o:keep.length=a.length)(l:∀ k∈keep,∃ p:Nat,p<b/\at_[k.toNat]?.getD 0=p)(i:Nat) :
  Mt keep a at_ b i=((b+(dC a i).length:Nat):Int)↔mem a i=false:=by
 have f:=MH d (i:Int);have j:=Et a i a.length;unfold Mt;cases g:mem a i with
 | true =>
  rw [g] at f;have m:¬ jG a a.length i<0:=by simpa using f
  have c:(jG a a.length i).toNat<keep.length:=bL;obtain ⟨p,n,h⟩:=l _ (aC c);rw [if_pos bL,aA c,aF,h];constructor
  .intro e;omega
  .intro e;cases e
 | false =>
  rw [g] at f;have m:jG a a.length i<0:=by simpa using f
  rw [if_neg bL,TF d];simp
theorem T7 {keep a at_:Xa0}{right b i:Nat}(h:i<right):(Hd keep a at_ right b)[i]?.getD 0=Mt keep a at_ b i:=by
 unfold Hd;simp [h]
section
variable {t:Types} {r:Rule} {h:Host} {m:Mat}
theorem StepIn.cy (S:StepIn t r h m){k:Int}(a:k∈r.G.j):iA m.m.j k∈(dB r h m).j:=by
 have c:=S.hR.G;have g:=S.hm.bO;have b:=c.2.2.1 k a;have f:=BT S.dv.2 b.1 bL a;rw [S.rest];have d:=S.hm.cE k.toNat bL;have e:iA m.m.j k=m.m.j[k.toNat]' bL:=by unfold iA;rw [aA bL];rfl
 exact oE.2 ⟨by rw [e];exact d,f⟩
theorem StepIn.kN (S:StepIn t r h m):∀ k∈r.G.i,(0<=k/\k<m.m.i.length)/\(0<=iA m.m.i k/\iA m.m.i k<h.o.i.length)/\∃ p:Nat,p<(dB r h m).i.length/\(rH m.m.i (pP r h m).i)[k.toNat]?.getD 0=p:=λk hk=>by
 have hr:=S.hR.G.2.1 k hk;have hl:=S.hm.len;have hi:=S.b3 _ (S.ch hk);exact ⟨bL,hi,Xz S.bs hr.1 bL hi (S.ch hk)⟩
theorem StepIn.kE (S:StepIn t r h m):∀ k∈r.G.j,(0<=k/\k<m.m.j.length)/\(0<=iA m.m.j k/\iA m.m.j k<h.o.j.length)/\∃ p:Nat,p<(dB r h m).j.length/\(rH m.m.j (pP r h m).j)[k.toNat]?.getD 0=p:=λk hk=>by
 have hr:=S.hR.G.2.2.1 k hk;have hl:=S.hm.bO;have hi:=S.c4 _ (S.cy hk);exact ⟨bL,hi,Xz S.cM hr.1 bL hi (S.cy hk)⟩
theorem StepIn.d8 (S:StepIn t r h m):∀ i,i<r.right.o.i.length->((r4 r h m).i[i]?.getD 0=(((dB r h m).i.length+(dC r.O.i i).length:Nat):Int)↔mem r.O.i i=false):=λi hi=>by
 have:=Ms S.ci.1 S.hR.G.1.1 (λk hk=>(S.kN k hk).2.2) i;unfold r4;simp only;rw [T7 hi];exact this
theorem StepIn.d9 (S:StepIn t r h m):∀ i,i<r.right.o.j.length->((r4 r h m).j[i]?.getD 0=(((dB r h m).j.length+(dC r.O.j i).length:Nat):Int)↔mem r.O.j i=false):=λi hi=>by
 have:=Ms S.ci.2 S.hR.G.1.2 (λk hk=>(S.kE k hk).2.2) i;unfold r4;simp only;rw [T7 hi];exact this
theorem StepIn.bdE (S:StepIn t r h m):Abs.bdE h (dB r h m) (pP r h m) (dB r h m).j.length=⟨dF h.o (dB r h m),(dB r h m).i.map λk=>h.values[k.toNat]?.getD []⟩:=by
 unfold Go.Abs.bdE dF;rw [if_pos S.sub,aH (aT _)];congr 2;refine bY λk e=>?_;obtain ⟨d,c⟩:=OQ S.sub e;have a:∀ v:Int,v∈(dB r h m).i->iA (pP r h m).i v=(yI (dB r h m).i v:Int):=λv b=>by
  have f:=S.b3 v b;unfold iA pP uK;simp only;rw [B6 _ bL,aF,show ((v.toNat:Nat):Int)=v by omega,MF S.bs,if_pos ((mem_iff _ _).2 b)]
 unfold trE;rw [a _ d,a _ c];rfl
theorem StepIn.grow (S:StepIn t r h m):kP t r (r4 r h m) (Go.Abs.bdE h (dB r h m) (pP r h m) (dB r h m).j.length)=dM t r h m:=by
 rw [S.bdE];rfl
end
theorem YA {t:Types}{r:Rule}{h:Host}{m:Mat}(a:G3 t r h m=0):fX t r.left.o h.o m.m r.inj=0/\(eJ t r.left h m.m).2=0/\(eJ t r.left h m.m).1=m.vars:=by
 unfold G3 at a;split at a
 .cases a
 .rename_i h1;split at a
  .exact absurd a er
  .rename_i h2;split at a
   .cases a
   .rename_i h3;exact ⟨by simpa using h1,by simpa using h2,by simpa using h3⟩
theorem Xn {t:Types}{r:Rule}(h:ruleF t r=0):condF t r.left r.cond=0:=by
 unfold ruleF at h;split at h
 .exact absurd h er
 .split at h
  .cases h
  .split at h
   .exact absurd h er
   .split at h
    .exact absurd h er
    .split at h
     .exact absurd h er
     .split at h
      .cases h
      .exact h
def xX (t:Types)(r:Rule)(h:Host)(m:Mat):Stp26:=if iT t r h m=0 then EV t r h m else pQ
theorem Z5 {P:Program}{f:FuncId}{args:Xa2}{r:D}(a:r.U=true)(h:∀ Q:D->AHeap->Prop,(∀ d H',(jT H' d).U=true->(jT H' d=r\/VV (jT H' d)=r)->Q d H')->ACalls P f args .ak Q):Pure P f args r:=by
 refine Tp a λQ c=>ACalls.bw (h _ λd H' e b=>c _ _ ?_);rw [Tj _ e];exact b
theorem Ro (t:Types)(T:t.ok)(r:Rule)(hr:r.ok)(U:ruleF t r=0)(h:Host)(b8:dH t h=0)(m:Mat):Pua 116 [t.d,r.d,h.d,m.d] (.tup [.agg (xX t r h m).c,dI (iT t r h m)]):=by
 refine Z5 (by simp [go_sem,D.U,D.N,Stp26.U]) λQ G=>?_;have w:=Ti hr U;have N:=rW b8;have e0:=Xn U;refine (Tz.cK ⟨λt=>t==8||t==11||t==13||t==15,λr=>match r with|15=>[(0,2),(2,3),(0,4),(0,6),(1,6),(2,6),(3,6),(4,6)]|16=>[(6,7),(6,8),(6,9),(6,10),(6,11),(6,12)]|17=>[(20,21),(20,22),(20,23),(20,24),(20,25),(20,26),(20,27),(20,28),(20,29),(20,30),(20,31),(20,32),(20,33),(20,34),(20,35),(20,36),(20,37),(20,38),(20,39),(20,40)]|_=>[]⟩ func116 rfl ?_);have Y:=xa2 @Host.d.eq_1 @Host.c.eq_1 @Mat.d.eq_1 @Mat.c.eq_1;refine wv (h:=aB (M2 t T r h m) wl ?_);refine dD (λh2=>?_) λh2=>?_
 .have b:iT t r h m=G3 t r h m:=by unfold iT mK;rw [PI,if_pos h2];simp [h2]
  have f:xX t r h m=pQ:=by unfold xX;rw [if_neg bL]
  refine wv (h:=?_);refine G _ _ (by simp [go_sem,jT,kZ,oR,fM,D.U,D.N]) (by first|(left;(simp [go_sem,jT,kZ,oR,fM,b,f,pQ,qA,tP,kD,Stp26.c,Rule.c,Mat.c,Host.c,Cond.kind,Cond.y,Cond.map,Cond.u,dLI,dI]);done)|(right;(simp [go_sem,jT,kZ,oR,fM,b,f,pQ,qA,tP,kD,Stp26.c,Rule.c,Mat.c,Host.c,Cond.kind,Cond.y,Cond.map,Cond.u,dLI,dI]);done))
 .have hp0:tA t r h m=tK (sR r.left.o h.o m.m) h.o r.G m.m:=by rw [PI,if_neg bL]
  obtain ⟨c1,d4,b0⟩:=YA (bL:G3 t r h m=0);have o:=ST c1;have b7:Cc t r.left.o h.o m.m=sR r.left.o h.o m.m:=by unfold Cc;rw [if_pos o]
  have W:=uV (uD o).2;have d8:=bW w.pl.gg;have d7:=bW w.gr;have d9:=bW N.gg;have d5:=W.len;have c8:=W.bO;have d6:=w.kl;have d0:=N.vl;have b1:∀ v∈h.values,v.length<=100000:=λv hv=>by have:=(N.row v hv).1;omega
  have Y:=xa1 Y o b7;refine wv (h:=aB (GZ t T r.left.o h.o m.m) wl ?_);refine wv (h:=aB (KV (sR r.left.o h.o m.m) h.o r.G m.m bL bL bL bL bL) wl ?_);refine dD (λh8=>?_) λh8=>?_
  .have hpe:tA t r h m≠0:=bL;have b:iT t r h m=tA t r h m:=by unfold iT mK;rw [if_pos hpe,if_pos hpe]
   have f:xX t r h m=pQ:=by unfold xX;rw [if_neg bL]
   refine wv (h:=?_);refine G _ _ (by simp [go_sem,jT,kZ,oR,fM,D.U,D.N]) (by first|(left;(simp [go_sem,jT,kZ,oR,fM,b,hp0,f,pQ,qA,tP,kD,Stp26.c,Rule.c,Mat.c,Host.c,Cond.kind,Cond.y,Cond.map,Cond.u,dLI,dI]);done)|(right;(simp [go_sem,jT,kZ,oR,fM,b,hp0,f,pQ,qA,tP,kD,Stp26.c,Rule.c,Mat.c,Host.c,Cond.kind,Cond.y,Cond.map,Cond.u,dLI,dI]);done))
  .have hpre:tA t r h m=0:=bL;have S:=Rq w N hpre;have s:=LX S hpre;have hP:u9 (sR r.left.o h.o m.m) h.o r.G m.m=dB r h m:=rfl;have c2:Y2 t r.left r.cond h m r.inj=0:=by
    unfold Y2;rw [if_neg bL,if_neg bL,if_neg bL,if_neg bL,if_neg (by rw [b0];simp)]
   have F:mK t r h m=if (pG t h r.inj r.cond m).2≠0 then (pG t h r.inj r.cond m).2 else if (pG t h r.inj r.cond m).1=false then 16 else 0:=by unfold mK;rw [if_neg bL]
   have Y:=wa Y hP;refine wv (h:=aB ((by have M:=Cd t T r.left r.cond hr.cond w.cond w.pl h N m s r.inj c2;simp only [Cond.F] at M;unfold Types.d Types.c Pattern.d Pattern.c Host.d Host.c Mat.d Mat.c dLI dI at M;exact M)) wl ?_);refine dD (λL=>?_) λL=>?_
   .have b:iT t r h m=(pG t h r.inj r.cond m).2:=by unfold iT;rw [F,if_pos L];simp [L]
    have f:xX t r h m=pQ:=by unfold xX;rw [if_neg bL]
    refine wv (h:=?_);refine G _ _ (by simp [go_sem,jT,kZ,oR,fM,D.U,D.N]) (by first|(left;(simp [go_sem,jT,kZ,oR,fM,b,f,pQ,qA,tP,kD,Stp26.c,Rule.c,Mat.c,Host.c,Cond.kind,Cond.y,Cond.map,Cond.u,dLI,dI]);done)|(right;(simp [go_sem,jT,kZ,oR,fM,b,f,pQ,qA,tP,kD,Stp26.c,Rule.c,Mat.c,Host.c,Cond.kind,Cond.y,Cond.map,Cond.u,dLI,dI]);done))
   .refine jH (λK=>?_) λK=>?_
    .have b:iT t r h m=16:=by
      have:(pG t h r.inj r.cond m).1=false:=by simpa using K
      have V:mK t r h m=16:=by rw [F,if_neg bL,if_pos this]
      unfold iT;rw [if_pos bL,V]
     have f:xX t r h m=pQ:=by unfold xX;rw [if_neg bL]
     refine wv (h:=?_);refine G _ _ (by simp [go_sem,jT,kZ,oR,fM,D.U,D.N]) (by first|(left;(simp [go_sem,jT,kZ,oR,fM,b,f,pQ,qA,tP,kD,Stp26.c,Rule.c,Mat.c,Host.c,Cond.kind,Cond.y,Cond.map,Cond.u,dLI,dI]);done)|(right;(simp [go_sem,jT,kZ,oR,fM,b,f,pQ,qA,tP,kD,Stp26.c,Rule.c,Mat.c,Host.c,Cond.kind,Cond.y,Cond.map,Cond.u,dLI,dI]);done))
    .have V:mK t r h m=0:=by
      have a5:(pG t h r.inj r.cond m).1=true:=by simpa using K
      rw [F,if_neg bL,if_neg (by rw [a5];simp)]
     have hK:=w.G;have z:=S.kN;have A:=S.kE;obtain ⟨l,g⟩:=cY (pP r h m);obtain ⟨u,a⟩:=cY (r4 r h m);have a3:uK (dB r h m).i h.o.i.length=l.i:=by rw [g];rfl
     have a2:uK (dB r h m).j h.o.j.length=l.j:=by rw [g];rfl
     have R:l.i.length=h.o.i.length:=by rw [<- a3];exact nF _ _
     have c6:l.j.length=h.o.j.length:=by rw [<- a2];exact nF _ _
     rw [<- g] at z A;have c4:Hd r.G.i r.O.i (rH m.m.i l.i) r.right.o.i.length (dB r h m).i.length=u.i:=by rw [a,g];rfl
     have c3:Hd r.G.j r.O.j (rH m.m.j l.j) r.right.o.j.length (dB r h m).j.length=u.j:=by rw [a,g];rfl
     have c0:=S.len;have a9:=s.vl;have a8:Sm m.vars:=λv hv=>by have:=s.vs v hv;omega
     have c9:=w.pl.vars;have a1:u.i.length=r.right.o.i.length:=by rw [a];simp [r4,Hd]
     have a0:u.j.length=r.right.o.j.length:=by rw [a];simp [r4,Hd]
     have X:=S.d8;have Z:=S.d9;have hB:=S.grow;rw [<- a] at X Z hB;rw [<- g] at hB;have Y:=xa3 Y a3 a2 c4 c3;refine wv (h:=aJ (HZ m bL bL bL) wl ?_);refine wv (h:=aJ (Kj h bL bL bL b1) wl ?_);refine wp (h:=aJ (HV h.o.i.length bL (dB r h m).i S.bs bL) wl ?_);refine wp (h:=aJ (HV h.o.j.length bL (dB r h m).j S.cM bL) wl ?_);refine wp (h:=aJ (Dn r.right.o.i.length bL r.G.i r.O.i m.m.i l.i (dB r h m).i.length bL bL hK.2.2.2.1 (λx n=>(z x n).1) (λx n=>by have:=(z x n).2.1;omega) (λx n=>by obtain ⟨p,_,hp⟩:=(z x n).2.2;omega)) wl ?_);refine wp (h:=aJ (Dn r.right.o.j.length bL r.G.j r.O.j m.m.j l.j (dB r h m).j.length bL bL hK.2.2.2.2 (λx n=>(A x n).1) (λx n=>by have:=(A x n).2.1;omega) (λx n=>by obtain ⟨p,_,hp⟩:=(A x n).2.2;omega)) wl ?_);refine wp (h:=?_);refine Aa (.step (.step (.step (.refl _) 9 0 31 3 1 _ _ eu rfl rfl rfl) 9 0 32 124 3 _ _ eu rfl rfl rfl) 9 0 33 27 1 _ _ eu rfl rfl rfl) ?_;simp [go_sem];unfold dQ;refine Rn t T r w m h N (dB r h m) l u S.b3 S.c4 c0 R ⟨a1,a0⟩ X Z 9 73 74 75 _ (by simp [go_sem,stpC,dLI]) ⟨by simp [go_sem],by simp [go_sem],by simp [go_sem,mA],rfl,λi q v h1 _=>by simp at h1,by simp,λq M=>by simp at M;rcases M with rfl|rfl|rfl<;>simp [go_sem]⟩ eh bS (λj hj b=>?_) _ (λqs H1 a4 C b3 b2 b9 b5=>?_)
     .simp [go_sem,gP,jQ,pJ,BD] at b hj;omega
     rw [hB] at a4 C;have c7:76<=H1.next:=by simp [go_sem] at b5;omega
     have k0:=b9 0 eh bS;simp [go_sem] at k0;have y:∀ j,j<73->j∉73 :: 74 :: 75 :: qs:=λj hj hm=>by
      simp only [aP] at hm;rcases hm with h|h|h|h
      .omega
      .omega
      .omega
      .have:=b2 j h;simp [go_sem] at this;omega
     refine wp (h:=?_);unfold dQ;refine Us t T r w m h (dM t r h m) l u (a ▸ S.put) a9 a8 H1 9 73 74 75 qs C a4 b3 bL _ (λH2 I B b4=>?_) (λH2 I H B b4=>?_)
     .have m0:=(B 0 bL (y 0 bL)).trans k0;have b:iT t r h m=xF t (dM t r h m).o u m.vars r.right.q:=by unfold iT;rw [if_neg bL,<- a,if_pos I]
      have f:xX t r h m=pQ:=by unfold xX;rw [if_neg bL]
      simp [go_sem,seval,m0];refine aU (λhc=>?_) (λhc=>absurd (cG hc) I);simp [go_sem,seval,m0];refine G _ _ (by simp [go_sem,jT,kZ,oR,fM,D.U,D.N]) (by first|(left;(simp [go_sem,jT,kZ,oR,fM,b,f,pQ,qA,tP,kD,Stp26.c,Rule.c,Mat.c,Host.c,Cond.kind,Cond.y,Cond.map,Cond.u,dLI,dI]);done)|(right;(simp [go_sem,jT,kZ,oR,fM,b,f,pQ,qA,tP,kD,Stp26.c,Rule.c,Mat.c,Host.c,Cond.kind,Cond.y,Cond.map,Cond.u,dLI,dI]);done))
     have m0:=(B 0 bL (y 0 bL)).trans k0;have m9:=(B 9 bL (y 9 bL)).trans C;simp only [stpC] at m9;have a7:H2.get 73=some ⟨3,1,(dM t r h m).o.i.map cI,false⟩:=H.ga;have a6:H2.get 74=some ⟨124,3,(dM t r h m).o.j.map Edge.c,false⟩:=H.gb;have Y:=xa3 Y m0 m9 a7 a6;refine jH (λJ=>?_) λJ=>?_
     .have b:iT t r h m=3:=by
       unfold iT;rw [if_neg bL,<- a,if_neg bL,if_pos (by first|exact J|omega)]
      have f:xX t r h m=pQ:=by unfold xX;rw [if_neg bL]
      refine wv (h:=?_);refine G _ _ (by simp [go_sem,jT,kZ,oR,fM,D.U,D.N]) (by first|(left;(simp [go_sem,jT,kZ,oR,fM,b,f,pQ,qA,tP,kD,Stp26.c,Rule.c,Mat.c,Host.c,Cond.kind,Cond.y,Cond.map,Cond.u,dLI,dI]);done)|(right;(simp [go_sem,jT,kZ,oR,fM,b,f,pQ,qA,tP,kD,Stp26.c,Rule.c,Mat.c,Host.c,Cond.kind,Cond.y,Cond.map,Cond.u,dLI,dI]);done))
     .have b:iT t r h m=0:=by
       unfold iT;rw [if_neg bL,<- a,if_neg bL,if_neg (by first|exact J|omega)]
      have f:xX t r h m=EV t r h m:=by unfold xX;rw [if_pos b]
      have hW:xO t r h m=⟨(dM t r h m).o,xE u m.vars r.right.q (dM t r h m).values⟩:=by rw [a];rfl
      have P:=(uQ u m.vars r.right.q (dM t r h m).values).1;have c5:∀ k:Blk,Q (.tup [.agg (stpC r m h (.own 73 (dM t r h m).o.i.length) (.own 74 (dM t r h m).o.j.length) (.own 75 (dM t r h m).values.length) l u),dI 0]) (H2.put 0 k):=λk=>by
       obtain ⟨E,hE⟩:=cY (H2.put 0 k);have h5:HH E 0 73 74 75 qs (xO t r h m):=by
        rw [hW];exact H.same (by rw [hE];simp [go_sem]) (λj hj=>by
         have b6:j≠0:=λe=>y 0 bL (e ▸ hj);rw [hE];simp [go_sem,b6])
       have hd:=h5.bw;have e1:(xO t r h m).o.i.length=(dM t r h m).o.i.length:=by rw [hW]
       have e2:(xO t r h m).o.j.length=(dM t r h m).o.j.length:=by rw [hW]
       have e3:(xO t r h m).values.length=(dM t r h m).values.length:=by rw [hW];exact P
       rw [e1,e2,e3] at hd;simp only [kZ,gA,kG,Host.d,Host.c,D.agg.injEq,List.cons.injEq,and_true] at hd;obtain ⟨d1,d2,d3⟩:=hd;have O:jT E (.tup [.agg (stpC r m h (.own 73 (dM t r h m).o.i.length) (.own 74 (dM t r h m).o.j.length) (.own 75 (dM t r h m).values.length) l u),dI 0])=.tup [.agg (xX t r h m).c,dI (iT t r h m)]:=by
        rw [b,f];simp only [jT,kZ,stpC,gA,kG,d1,d2,d3];simp [kZ,oR,fM,EV,Stp26.c,Rule.c,Mat.c,Host.c,dLI,dI,g,a]
       rw [<- hE];exact G _ _ (by rw [O];simp [go_sem,D.U,D.N,Stp26.U]) (.inl O)
      refine wv (h:=?_);exact c5 _
theorem Ft {t:Types}{r:Rule}{h:Host}(a:fU t r h=0):ruleF t r=0/\dH t h=0:=by
 unfold fU at a;split at a
 .exact absurd a er
 .rename_i h1;exact ⟨by simpa using h1,a⟩
theorem Do (t:Types)(g:t.ok)(r:Rule)(i:r.ok)(a:ruleF t r=0)(h:Host)(b:dH t h=0)(m:Mat){v:Stp26}{e:Int}(f:v=xX t r h m)(j:e=iT t r h m):Pua 116 [t.d,r.d,h.d,m.d] (.tup [.agg v.c,dI e]):=by
 subst f j;exact Ro t g r i a h b m
theorem Rp (t:Types)(j:t.ok)(r:Rule)(k:r.ok)(h:Host)(m:Mat):Pua 58 [t.d,r.d,h.d,m.d] (.tup [.agg (pE t r h m).c,dI (nT t r h m)]):=by
 obtain ⟨v,i⟩:=cY (xX t r h m);obtain ⟨e,f⟩:=cY (iT t r h m);refine Tz.pK ⟨λt=>t==8,λ_=>[]⟩ func58 rfl (λQ l=>?_);have Y:=xa3 @Host.d.eq_1 @Host.c.eq_1 @Mat.d.eq_1 @Mat.c.eq_1 @Stp26.c.eq_1;refine wv (h:=aB (HY t j r k h) wl ?_);refine dD (λn=>?_) λn=>?_
 .have a:nT t r h m=fU t r h:=by unfold nT;rw [if_pos n]
  have g:pE t r h m=pQ:=by unfold pE;rw [if_neg bL]
  exact wv (h:=l _ _ (by simp [go_sem,a,g,pQ,qA,tP,kD,Stp26.c,Rule.c,Mat.c,Host.c,Cond.kind,Cond.y,Cond.map,Cond.u,dLI,dI]))
 .have hz:=Ft (bL:fU t r h=0);have a:nT t r h m=e:=by rw [f];unfold nT;rw [if_neg bL]
  have g:pE t r h m=v:=by rw [i];unfold pE xX;rw [a,f]
  refine wv (h:=aB ((by have b:=Do t j r k hz.1 h hz.2 m i f;simp only [Stp26.c,Rule.c,Mat.c,Host.c,eV,fT] at b;unfold Mat.d Mat.c Host.d Host.c dLI at b;exact b)) wl ?_);exact wv (h:=l _ _ (by simp [go_sem,a,g,Stp26.c,Rule.c,Mat.c,Host.c]))
theorem GX (t:Types)(q:t.ok)(r:Rule)(z:r.ok)(h:Host):Pua 57 [t.d,r.d,h.d] (.tup [.list ((iS t r h).1.map Mat.c),dI (iS t r h).2]):=by
 refine Tz.pK ⟨λt=>t==11||t==13||t==14,λ_=>[]⟩ func57 rfl (λQ w=>?_);have Y:=wa @Host.d.eq_1 @Host.c.eq_1;refine wv (h:=aB (HY t q r z h) wl ?_);refine dD (λD=>?_) λD=>?_
 .have hS:iS t r h=([],fU t r h):=by unfold iS;rw [if_pos D]
  exact wv (h:=w _ _ (eD hS))
 .have hz:=Ft (bL:fU t r h=0);refine wv (h:=aB (Ew t q r.left h r.inj) wl ?_);refine dD (λC=>?_) λC=>?_
  .have hS:iS t r h=([],(eO t r.left h r.inj).2):=by unfold iS;rw [if_neg bL,if_pos C]
   exact wv (h:=w _ _ (eD hS))
  .have hS:iS t r h=((eO t r.left h r.inj).1.filter λm=>decide (iT t r h m=0),0):=by unfold iS;rw [if_neg bL,if_neg bL]
   have x:=Bd t r.left h r.inj;obtain ⟨L,B⟩:=cY ((eO t r.left h r.inj).1);rw [<- B] at hS x;have Y:=wa Y (Eq.symm B);refine wp (h:=bA (λi e H=>∃ g:List Mat,(e 3=.adr t.c/\e 4=.adr r.c/\e 5=.adr h.c/\e 36=.list (L.map Mat.c)/\e 37=dI L.length/\e 11=.own 0 g.length/\e 38=dI i)/\(H.get 0=some ⟨78,3,g.map Mat.c,false⟩)/\(0<H.next)/\(i<=L.length)/\(g=(L.take i).filter λm=>decide (iT t r h m=0))/\(g.length<=i)) (λi=>L.length - i) 0 ⟨([]),wg,wn,wn,wi,(by rfl),(by simp)⟩ λJ n i e H u=>?_);obtain ⟨g,G,p,k,I,f,F⟩:=u;have Y:=xa2 Y G p (bU k);refine dD (λo=>?_) λo=>?_
   .obtain ⟨v,E⟩:=cY (xX t r h L[i]);obtain ⟨e,A⟩:=cY (iT t r h L[i]);obtain ⟨b,a⟩:∃ y,y=g++[L[i]].filter λm=>decide (iT t r h m=0):=⟨_,rfl⟩;have l:iT t r h L[i]=e:=A.symm;have Y:=xa3 Y o (aA o) @Mat.c.eq_1 @Stp26.c.eq_1;refine wp (h:=aB ((by have s:=Do t q r z hz.1 h hz.2 L[i] E A;simp only [Stp26.c,Rule.c,Mat.c,Host.c,eV,fT] at s;unfold Mat.d Mat.c Host.d Host.c dLI at s;exact s)) wl ?_);refine jH (λj=>?_) λj=>?_
    .have hm3:b=g++[L[i]]:=by rw [a,xU (by rw [l];simpa using j)];rfl
     have Y:=wa Y hm3;exact wp (h:=wx n (i+1) ⟨b,wg,wn,wn,wj,(by rw [aD o,eU,<- f,a]),(by rw [hm3];first|(simp;omega)|omega)⟩)
    .have hm3:b=g:=by rw [a,qJ (by rw [l];simpa using j)];simp
     have Y:=wa Y hm3;exact wp (h:=wx n (i+1) ⟨b,wg,wn,wn,wj,(by rw [aD o,eU,<- f,a]),(by rw [hm3];first|(simp;omega)|omega)⟩)
   .rw [aH bL] at f;exact wv (h:=w _ _ (by simp [go_sem,Y,hS,<- f]))
deriving instance DecidableEq for Edge
deriving instance DecidableEq for Graph
deriving instance DecidableEq for Part
deriving instance DecidableEq for Host
deriving instance DecidableEq for Mat
theorem Mo {x y:Edge}(h:x.type=y.type/\x.from_=y.from_/\x.L=y.L):x=y:=by
 obtain ⟨a,b,c⟩:=x;obtain ⟨d,e,f⟩:=y;obtain ⟨rfl,rfl,rfl⟩:=h;rfl
theorem Qk (a b:Graph):decide (a=b)=(decide (a.i=b.i)&&decide (a.j=b.j)):=by
 rw [bB];cases a;cases b;simp
theorem TR (a b:Host):decide (a=b)=(decide (a.o=b.o)&&decide (a.values=b.values)):=by
 rw [bB];cases a;cases b;simp
theorem IC (a b:Xa0):Pua 78 [dLI a,dLI b] (.bool (decide (a=b))):=by
 refine Tz.p0 func78 rfl λQ g Y=>?_;refine dZ (λm=>?_) λm=>?_
 .refine wv (h:=?_);have c:a≠b:=by intro h;subst h;omega
  exact g _ _ (eD c)
 .refine wv (h:=bA (λi e H=>(e 0=dLI a/\e 1=dLI b/\e 5=dI i)/\(i<=a.length)/\(a.take i=b.take i)) (λi=>a.length - i) 0 ⟨wg,wi,(by rfl)⟩ λp j i e H d=>?_);obtain ⟨n,o,f⟩:=d;have Y:=wa Y n;refine wv (h:=?_);repeat first|intro _|refine ⟨iV,?_⟩
  refine wq (λl=>?_) λl=>?_
  .have hib:i<b.length:=bL;have Y:=xa1 Y l hib;refine dZ (λk=>?_) λk=>?_
   .refine wv (h:=?_);have c:a≠b:=by intro h;subst h;exact k rfl
    exact g _ _ (eD c)
   .exact wo (h:=wx j (i+1) ⟨wg,wj,(by rw [aD l,aD hib,f,k])⟩)
  .rw [aH bL,aH bL] at f;exact wv (h:=g _ _ (eD f))
theorem Px (a b:Graph):Pua 76 [a.d,b.d] (.bool (decide (a=b))):=by
 refine Tz.p0 func76 rfl λQ m Y=>?_;refine wo (h:=aB (IC a.i b.i) wl ?_);refine dZ (λj=>?_) λj=>?_
 .refine wv (h:=?_);have f:a≠b:=by intro h;subst h;simp at j
  exact m _ _ (eD f)
 .have hab:a.i=b.i/\a.j.length=b.j.length:=by (try simp at j);obtain ⟨p,r⟩:=j;exact ⟨p,bL⟩
  refine wv (h:=bA (λi e H=>(e 2=.adr a.c/\e 3=.adr b.c/\e 5=dI i)/\(i<=a.j.length)/\(a.j.take i=b.j.take i)) (λi=>a.j.length - i) 0 ⟨wg,wi,(by rfl)⟩ λt n i e H k=>?_);obtain ⟨q,s,l⟩:=k;have Y:=wa Y q;refine wv (h:=?_);repeat first|intro _|refine ⟨iV,?_⟩
  refine wq (λg=>?_) λg=>?_
  .have hib:i<b.j.length:=bL;have Y:=xa2 Y g (aA g) (aA hib);refine dZ (λo=>?_) λo=>?_
   .refine wv (h:=?_);have f:a≠b:=by intro h;subst h;simp at o
    exact m _ _ (eD f)
   .exact wo (h:=wx n (i+1) ⟨wg,wj,(by rw [aD g,aD hib,l,Mo o])⟩)
  .have hE:a.j=b.j:=by rw [aH bL,aH bL] at l;exact l
   exact wv (h:=m _ _ (by simp [go_sem,Qk,hab.1,hE]))
def GQ (a b:Xa0):Prop:=∃ k:Int,Pure prog 77 [dLI a,dLI b] (dI k)/\(k=0↔a=b)
theorem Ix (a:Xa0):Pua 77 [dLI a,dLI a] (dI 0):=by
 refine Tz.p0 func77 rfl λQ f Y=>?_;refine wv (h:=bA (λi e H=>(e 0=dLI a/\e 1=dLI a/\e 5=dI i)/\(i<=a.length)) (λi=>a.length - i) 0 ⟨wg,wi⟩ λk d i e H c=>?_);obtain ⟨g,j⟩:=c;have Y:=wa Y g;refine wv (h:=?_);repeat first|intro _|refine ⟨iV,?_⟩
 refine wq (λb=>?_) λb=>?_
 .have Y:=xa1 Y b (aA b);exact wo (h:=wx d (i+1) ⟨wg,wj⟩)
 .have Y:=wa Y b;exact wo (h:=f _ _ wy)
theorem SJ (a:Xa0):GQ a a:=⟨0,Ix a,by simp⟩
theorem Gj (a b:Host)(t:∀ i (l:i<a.values.length) (x:i<b.values.length),GQ a.values[i] b.values[i]):Pua 38 [a.d,b.d] (.bool (decide (a=b))):=by
 refine Tz.p0 func38 rfl λQ p _=>?_;have Y:=wa @Host.d.eq_1 @Host.c.eq_1;refine wo (h:=aB (Px a.o b.o) wl ?_);refine dZ (λl=>?_) λl=>?_
 .refine wv (h:=?_);have f:a≠b:=by intro h;subst h;simp at l
  exact p _ _ (eD f)
 .have hab:a.o=b.o/\a.values.length=b.values.length:=by (try simp at l);obtain ⟨s,v⟩:=l;exact ⟨s,bL⟩
  refine wv (h:=bA (λi e H=>(e 2=.adr a.c/\e 3=.adr b.c/\e 5=dI i)/\(i<=a.values.length)/\(a.values.take i=b.values.take i)) (λi=>a.values.length - i) 0 ⟨wg,wi,(by rfl)⟩ λy q i e H n=>?_);obtain ⟨u,w,o⟩:=n;have Y:=wa Y u;refine wv (h:=?_);repeat first|intro _|refine ⟨iV,?_⟩
  refine wq (λj=>?_) λj=>?_
  .have hib:i<b.values.length:=bL;obtain ⟨k,m,g⟩:=t i j hib;have Y:=xa3 Y j (aA j) (aA hib) @cL.eq_1;refine wo (h:=aJ (m) wl ?_);refine dZ (λr=>?_) λr=>?_
   .refine wv (h:=?_);have f:a≠b:=by intro h;subst h;exact r (g.2 rfl)
    exact p _ _ (eD f)
   .exact wo (h:=wx q (i+1) ⟨wg,wj,(by rw [aD j,aD hib,o,g.1 r])⟩)
  .have hV:a.values=b.values:=by rw [aH bL,aH bL] at o;exact o
   exact wv (h:=p _ _ (by simp [go_sem,TR,hab.1,hV]))
deriving instance DecidableEq for Term
deriving instance DecidableEq for Slot
deriving instance DecidableEq for Test
deriving instance DecidableEq for Pattern
mutual
def Wg:Cond→Cond→Bool
 | .mk k l m p,.mk k' l' m' p'=>decide (k=k')&&decide (m=m')&&decide (p=p')&&CN l l'
def CN:List Cond→List Cond→Bool
 | [],[]=>true
 | [],_ :: _=>false
 | _ :: _,[]=>false
 | a :: l,b :: l'=>Wg a b&&CN l l'
end
mutual
theorem Lq:∀ a b:Cond,Wg a b=true↔a=b
 | .mk k l m p,.mk k' l' m' p'=>by
  have:=Ih l l';simp only [Wg,aR,decide_eq_true_eq,this,Cond.mk.injEq];constructor
  ·rintro ⟨⟨⟨h1,h2⟩,h3⟩,h4⟩;exact ⟨h1,h4,h2,h3⟩
  ·rintro ⟨h1,h4,h2,h3⟩;exact ⟨⟨⟨h1,h2⟩,h3⟩,h4⟩
theorem Ih:∀ a b:List Cond,CN a b=true↔a=b
 | [],[]=>by simp [CN]
 | [],_ :: _=>by simp [CN]
 | _ :: _,[]=>by simp [CN]
 | a :: l,b :: l'=>by
  have h1:=Lq a b;have h2:=Ih l l';simp [CN,h1,h2]
end
instance:DecidableEq Cond:=fun a b=>decidable_of_iff _ (Lq a b)
deriving instance DecidableEq for Rule
deriving instance DecidableEq for Stp26
theorem SA (a b:List Edge):Pua 117 [.list (a.map Edge.c),.list (b.map Edge.c)] (.bool (decide (a=b))):=by
 refine Tz.p0 func117 rfl λQ k Y=>?_;refine wv (h:=?_);repeat first|intro _|refine ⟨iV,?_⟩
 refine wq (λn=>?_) λn=>?_
 .refine wv (h:=?_);have d:a≠b:=by intro h;subst h;omega
  exact k _ _ (eD d)
 .refine wo (h:=bA (λi e H=>(e 0=.list (a.map Edge.c)/\e 1=.list (b.map Edge.c)/\e 12=dI a.length/\e 13=dI i)/\(i<=a.length)/\(a.take i=b.take i)) (λi=>a.length - i) 0 ⟨wg,wi,(by rfl)⟩ λq l i e H g=>?_);obtain ⟨o,p,j⟩:=g;have Y:=wa Y o;refine dD (λf=>?_) λf=>?_
  .have hib:i<b.length:=bL;have Y:=xa2 Y f (aA f) (aA hib);refine wv (h:=?_);repeat first|intro _|refine ⟨iV,?_⟩
   refine wq (λm=>?_) λm=>?_
   .refine wv (h:=?_);have d:a≠b:=by intro h;subst h;simp at m
    exact k _ _ (eD d)
   .exact wo (h:=wx l (i+1) ⟨wg,wj,(by rw [aD f,aD hib,j,Mo m])⟩)
  .have hab:a=b:=by rw [aH bL,aH bL] at j;exact j
   exact wv (h:=k _ _ (eD hab))
theorem JC (a b:Yb)(g:FuncId)(n:∀ x y:Xa0,Pure prog g [dLI x,dLI y] (.bool (decide (x=y)))):Pua 118 [.list (a.map cL),.list (b.map cL),.fn g []] (.bool (decide (a=b))):=by
 refine Tz.p0 func118 rfl λQ k Y=>?_;refine wv (h:=?_);repeat first|intro _|refine ⟨iV,?_⟩
 refine wq (λo=>?_) λo=>?_
 .refine wv (h:=?_);have c:a≠b:=by intro h;subst h;omega
  exact k _ _ (eD c)
 .refine wo (h:=bA (λi e H=>(e 0=.list (a.map cL)/\e 1=.list (b.map cL)/\e 2=.fn g []/\e 15=.list (a.map cL)/\e 16=dI a.length/\e 17=dI i)/\(i<=a.length)/\(a.take i=b.take i)) (λi=>a.length - i) 0 ⟨wg,wi,(by rfl)⟩ λr l i e H f=>?_);obtain ⟨p,q,j⟩:=f;have Y:=wa Y p;refine dD (λd=>?_) λd=>?_
  .have hib:i<b.length:=bL;have Y:=xa3 Y d (aA d) (aA hib) @cL.eq_1;refine wo (h:=aB (n a[i] b[i]) wl ?_);refine wv (h:=?_);repeat first|intro _|refine ⟨iV,?_⟩
   refine wq (λm=>?_) λm=>?_
   .refine wv (h:=?_);have c:a≠b:=by intro h;subst h;exact m rfl
    exact k _ _ (eD c)
   .exact wo (h:=wx l (i+1) ⟨wg,wj,(by rw [aD d,aD hib,j,m])⟩)
  .have hab:a=b:=by rw [aH bL,aH bL] at j;exact j
   exact wv (h:=k _ _ (eD hab))
theorem Sp (a b:Host):Pua 61 [a.d,b.d] (.bool (decide (a=b))):=by
 refine Tz.p0 func61 rfl λQ f _=>?_;have Y:=wa @Host.d.eq_1 @Host.c.eq_1;refine wo (h:=aB (yV a.o.i b.o.i) wl ?_);refine wo (h:=aN (λe=>SA a.o.j b.o.j) (λe=>wl) ?_);refine wo (h:=aN (λe=>JC a.values b.values 13 yV) (λe=>wl) ?_);have Y:=xa1 Y @TR @Qk;exact wo (h:=f _ _ wy)
structure Arr where
 V:Int
 from_:Int
 L:Int
 m:Mat
def Arr.c (x:Arr):Xa2:=[dI x.V,dI x.from_,dI x.L,dLI x.m.m.i,dLI x.m.m.j,dLI x.m.vars]
def Arr.d (x:Arr):D:=.agg x.c
@[go_sem] theorem Arr.U (x:Arr):D.N x.c=true:=by simp [Arr.c,D.N,pA,dI,D.U]
@[go_sem] theorem Ue (l:List Arr):D.T (l.map Arr.c)=true:=dL _ Arr.U l
def Arr.key (x:Arr):Xa0:=[x.from_,x.V,x.L]
theorem SK (a b c p q r:Int):cJ [a,b,c] [p,q,r]=Tx [cmp1 a p,cmp1 b q,cmp1 c r]:=by
 simp only [cJ,cmp1,Tx]
 repeat' split
 all_goals first|rfl|omega|simp_all
theorem uL (a b:Arr):Pua 28 [a.d,b.d] (dI (cJ a.key b.key)):=by
 have g:=SK a.from_ a.V a.L b.from_ b.V b.L;have f:cJ a.key b.key=cJ [a.from_,a.V,a.L] [b.from_,b.V,b.L]:=rfl;rw [f,g];refine Tz.p0 func28 rfl λQ e _=>?_;have Y:=wa @Arr.c.eq_1 @Arr.d.eq_1;refine wv (h:=aJ (lQ a.from_ b.from_) wl ?_);refine wv (h:=aJ (lQ a.V b.V) wl ?_);refine wv (h:=aJ (lQ a.L b.L) wl ?_);refine wv (h:=aJ (SI [cmp1 a.from_ b.from_,cmp1 a.V b.V,cmp1 a.L b.L]) wl ?_);exact wv (h:=e _ _ wy)
theorem Jk (xs:List Host)(g:FuncId)(a:Xa2)(p:Host->Bool)(t:D.N a=true)(s:∀ x∈xs,Pure prog g (.agg x.c :: a) (.bool (p x))) :
  Pua 59 [.list (xs.map Host.c),.fn g a] (dI (Bk xs p)):=by
 refine aV (Tz.c0 func59 rfl ?_);simp [go_sem,seval,dI,dLI];intro o;refine fO (ι:=Nat) (λi e H=>H=.ak/\i<=xs.length/\e 0=.list (xs.map Host.c)/\e 1=.fn g a/\e 7=dI xs.length/\e 8=dI i/\(∀ j x,j<i->xs[j]?=some x->p x=false)) (λi=>xs.length - i) 0 (by simp [go_sem,seval,dI,dLI]) ?_;intro i e H ⟨u,v,l,k,f,d,n⟩;subst u;simp [go_sem,seval,l,k,f,d,dI,dLI];refine f7 (λb=>?_) (λr=>?_)
 .have hgx:=s xs[i] (aC b);simp [go_sem,seval,l,k,f,d,dI,dLI,b,Host.c] at hgx ⊢;refine aB hgx (eD t) ?_;simp [go_sem,seval,l,k,f,d,dI,dLI];refine aU (λh=>?_) (λh=>?_)
  .simp [go_sem,seval,l,k,f,d,dI,dLI];rw [nD n b h]
  .simp [go_sem,seval,l,k,f,d,dI,dLI];refine ⟨dE bL bL,i+1,bL,bL,bL,λj x q m=>?_⟩;rcases bD j i with hj'|hj'
   .exact n j x hj' m
   .have:j=i:=bL;subst this;rw [aA b] at m;cases m;exact h
 .simp [go_sem,seval,l,k,f,d,dI,dLI];rw [nE λj x q=>n j x bL]
theorem KM (xs:List Arr)(g:FuncId)(a:Xa2)(p:Arr->Bool)(t:D.N a=true)(s:∀ x∈xs,Pure prog g (.agg x.c :: a) (.bool (p x))) :
  Pua 62 [.list (xs.map Arr.c),.fn g a] (dI (Bk xs p)):=by
 refine aV (Tz.c0 func62 rfl ?_);simp [go_sem,seval,dI,dLI];intro o;refine fO (ι:=Nat) (λi e H=>H=.ak/\i<=xs.length/\e 0=.list (xs.map Arr.c)/\e 1=.fn g a/\e 7=dI xs.length/\e 8=dI i/\(∀ j x,j<i->xs[j]?=some x->p x=false)) (λi=>xs.length - i) 0 (by simp [go_sem,seval,dI,dLI]) ?_;intro i e H ⟨u,v,l,k,f,d,n⟩;subst u;simp [go_sem,seval,l,k,f,d,dI,dLI];refine f7 (λb=>?_) (λr=>?_)
 .have hgx:=s xs[i] (aC b);simp [go_sem,seval,l,k,f,d,dI,dLI,b,Arr.c] at hgx ⊢;refine aB hgx (eD t) ?_;simp [go_sem,seval,l,k,f,d,dI,dLI];refine aU (λh=>?_) (λh=>?_)
  .simp [go_sem,seval,l,k,f,d,dI,dLI];rw [nD n b h]
  .simp [go_sem,seval,l,k,f,d,dI,dLI];refine ⟨dE bL bL,i+1,bL,bL,bL,λj x q m=>?_⟩;rcases bD j i with hj'|hj'
   .exact n j x hj' m
   .have:j=i:=bL;subst this;rw [aA b] at m;cases m;exact h
 .simp [go_sem,seval,l,k,f,d,dI,dLI];rw [nE λj x q=>n j x bL]
theorem y4 (xs:List Arr)(g:FuncId)(a:Xa2)(p:Arr->Bool)(b:D.N a=true)(d:D.U (.list (xs.map Arr.c))=true)(e:∀ x∈xs,Pure prog g (.agg x.c :: a) (.bool (p x))) :
  Pua 26 [.list (xs.map Arr.c),.fn g a] (.bool (xs.any p)):=by
 refine aV (Tz.c0 func26 rfl ?_);simp [go_sem,seval];refine aB (KM xs g a p b e) (by simp only [D.N,d,fP];simp [D.U,b]) ?_;simp [go_sem,seval,dI,sU]
@[go_sem] theorem L8 (l:List Host):D.T (l.map Host.c)=true:=dL _ (λh=>by simp [Host.c,D.N,D.U,dLI,go_sem]) l
def AB (l:List Host)(h:Host):Int:=Bk l λx=>decide (x=h)
theorem Dp (x h:Host):Pua 60 [x.d,.adr h.c] (.bool (decide (x=h))):=by
 refine Tz.p0 func60 rfl λQ a _=>?_;have Y:=@Host.d.eq_1;refine wv (h:=aB (Sp x h) wl ?_);exact wv (h:=a _ _ wy)
theorem EX (l:List Host)(h:Host):Pua 25 [.list (l.map Host.c),h.d] (dI (AB l h)):=by
 refine Tz.p0 func25 rfl λQ a _=>?_;have Y:=@Host.d.eq_1;refine wv (h:=aB (Jk l 60 [.adr h.c] (λx=>decide (x=h)) eh (λx _=>Dp x h)) wl ?_);exact wv (h:=a _ _ (by simp [go_sem,AB]))
theorem Pure.dn {P:Program}{f:FuncId}{args args':Xa2}{r:D}(k:Pure P f args' r)(l:args'.length=args.length)(n:∀ (j:Nat) (d c:D),args[j]?=some d->args'[j]?=some c->c=d\/c=lA d):Pure P f args r:=by
 refine ⟨k.1,λM w a o g=>k.2 M w a o ⟨by rw [g.len,l],λj u c i b=>?_⟩⟩;have m:j<args.length:=by rw [<- l];exact (aL.1 b).1
 have h:=aA m;rcases n j _ c h b with e|e
 .rw [e];exact g.Y j u _ i h
 .rw [e];exact Hr (g.Y j u _ i h)
def kL (t:Types):List Rule->Int
 | []=>0
 | r :: l=>if ruleF t r≠0 then ruleF t r else kL t l
def fJ (t:Types)(rs:List Rule):Int:=if (cW t).2≠0 then (cW t).2 else if 10<rs.length then 3 else kL t rs
def L9:Host:=⟨⟨[],[]⟩,[]⟩
theorem aa2 {t:Types}(h:(cW t).2=0):dH t L9=0:=by
 unfold dH oZ L9;rw [if_neg bL];simp [graphF,iJ]
theorem Fz (t:Types)(k:t.ok)(rs:List Rule)(l:∀ r∈rs,r.ok)(h:Host):Pua 95 [t.d,.list (rs.map Rule.c),h.d] (dI (if fJ t rs≠0 then fJ t rs else dH t h)):=by
 refine Tz.pK ⟨λt=>t==10,λ_=>[]⟩ func95 rfl (λQ g=>?_);have Y:=trivial;refine wv (h:=aB (nY t k) wl ?_);refine dD (λj=>?_) λj=>?_
 .have hE:fJ t rs=(cW t).2:=by unfold fJ;rw [if_pos (cG j)]
  have a:¬ (cW t).2=0:=by simpa using j
  exact wv (h:=g _ _ (by rw [hE,if_pos a];simp [go_sem]))
 .have hv:(cW t).2=0:=by simpa using j
  refine dZ (λp=>?_) λp=>?_
  .have hE:fJ t rs=3:=by unfold fJ;rw [if_neg bL,if_pos bL]
   exact wv (h:=g _ _ (by rw [hE,if_pos (by decide)];simp [go_sem]))
  .have hE:fJ t rs=kL t rs:=by unfold fJ;rw [if_neg bL,if_neg bL]
   refine wo (h:=bA (λi e H=>(e 1=.list (rs.map Rule.c)/\e 3=.adr t.c/\e 5=.adr h.c/\e 25=.list (rs.map Rule.c)/\e 26=dI rs.length/\e 27=dI i)/\(i<=rs.length)/\(kL t (rs.drop i)=kL t rs)) (λi=>rs.length - i) 0 ⟨wg,wi,(by rfl)⟩ λu n i e H m=>?_);obtain ⟨q,s,o⟩:=m;have Y:=wa Y q;refine dD (λf=>?_) λf=>?_
   .have hds:kL t (rs.drop i)=if ruleF t rs[i]≠0 then ruleF t rs[i] else kL t (rs.drop (i+1)):=by rw [List.drop_eq_getElem_cons f];rfl
    rw [o] at hds;have Y:=xa1 Y f (aA f);refine wo (h:=aB (Ii t k rs[i] (l _ (aC f))) wl ?_);refine dZ (λb=>?_) λb=>?_
    .have a:ruleF t rs[i]≠0:=by simpa using b
     rw [if_pos a] at hds;exact wv (h:=g _ _ (by rw [hE,hds,if_pos a];simp [go_sem]))
    .have hst:=hds.symm;rw [if_neg (cG b)] at hst;exact wo (h:=wx n (i+1) ⟨wg,wj,(by exact hst)⟩)
   .have hz:kL t rs=0:=by rw [<- o,cR bL];rfl
    refine wv (h:=aB (rU t k h) wl ?_);exact wv (h:=g _ _ (by rw [hE,hz,if_neg (by decide)];simp [go_sem,dH]))
theorem C6 (t:Types)(z:t.ok)(rs:List Rule)(s:∀ r∈rs,r.ok):Pua 48 [t.d,.list (rs.map Rule.c),.agg [.nil,.nil,.nil,.nil]] (.tup [.list [],dI 0,dI (fJ t rs)]):=by
 have q:(if fJ t rs≠0 then fJ t rs else dH t L9)=fJ t rs:=by
  split
  .rfl
  .rename_i h;have h:fJ t rs=0:=bL;have q:(cW t).2=0:=by
    unfold fJ at h;split at h
    .exact absurd h ‹_›
    .omega
   rw [h,aa2 q]
 have y:=Fz t z rs s L9;rw [q] at y;have A:Pua 95 [t.d,.list (rs.map Rule.c),.agg [.nil,.nil,.nil]] (dI (fJ t rs)):=y.dn rfl (by
  rintro (_|_|_|j) d C o n<;>simp at o n
  .exact .inl (n.symm.trans o)
  .exact .inl (n.symm.trans o)
  .subst o n;exact .inr (by simp [L9,Host.d,Host.c,dLI,lA,gI]))
 refine Tz.pK ⟨λt=>t==11||t==13||t==14,λr=>match r with|14=>[(2,4),(3,4),(2,5),(3,5)]|_=>[]⟩ func48 rfl (λQ x=>?_);try simp [go_sem,seval]
 refine aB (A) ((by first|rfl|(simp [go_sem,<- List.map_take,<- List.map_drop];done))) ?_;try simp [go_sem,seval]
 refine aU (λp=>?_) (λp=>?_)
 .try simp [go_sem] at p
  skip
  try simp [go_sem,seval]
  exact x _ _ (by first|(left;(simp [go_sem]);done)|(right;(simp [go_sem]);done))
 .try simp [go_sem] at p
  have w:fJ t rs=0:=by simpa using p
  try simp [go_sem,seval]
  repeat first|intro _|refine ⟨iV,?_⟩
  obtain ⟨v,m⟩:∃ v:Nat->dO->AHeap->Prop,∀ (i:Nat) (e:dO) (H:AHeap),v i e H↔((e 3=.adr t.c)/\(e 5=.adr [.nil,.nil,.nil,.nil])/\(e 1=.list (rs.map Rule.c))/\(e 33=dI 0)/\(e 32=dI 0)/\(e 10=.nil)):=⟨λi e H=>_,λ_ _ _=>Iff.rfl⟩;refine tI v (λi=>0 - i) (0) ((m _ _ _).2 ⟨?_,?_,?_,?_,?_,?_⟩) ?_;iterate 6 (first|omega|(simp [go_sem,seval]<;>omega))
  intro i e H u;obtain ⟨k,g,l,a,b,f⟩:=(m _ _ _).1 u;have B:=xa4 k g l a b f;try simp [go_sem,seval,B]
  repeat first|intro _|refine ⟨iV,?_⟩
  exact x _ _ (by first|(left;(simp [go_sem,w]);done)|(right;(simp [go_sem,w]);done))
theorem Az (t:Types)(b:t.ok)(rs:List Rule)(a:∀ r∈rs,r.ok):Pua 20 [t.d,.list (rs.map Rule.c)] (dI (fJ t rs)):=by
 refine Tz.p0 func20 rfl λQ e Y=>?_;refine wv (h:=aB (C6 t b rs a) wl ?_);exact wv (h:=e _ _ wy)
theorem Pc (t:Types)(m:t.ok)(rs:List Rule)(g:∀ r∈rs,r.ok):Pua 31 [t.d,.list (rs.map Rule.c)] (dI (fJ t rs)):=by
 refine Tz.p0 func31 rfl λQ f Y=>?_;refine wv (h:=aB (qC t m) wl ?_);refine dD (λl=>?_) λl=>?_
 .have hE:fJ t rs=(cW t).2:=by unfold fJ;rw [if_pos (cG l)]
  exact wv (h:=f _ _ (by rw [hE];simp [go_sem]))
 .have hv:(cW t).2=0:=by simpa using l
  refine dZ (λo=>?_) λo=>?_
  .have hE:fJ t rs=3:=by unfold fJ;rw [if_neg bL,if_pos bL]
   exact wv (h:=f _ _ (by rw [hE];simp [go_sem]))
  .have hE:fJ t rs=kL t rs:=by unfold fJ;rw [if_neg bL,if_neg bL]
   refine wv (h:=bA (λi e H=>(e 2=.adr t.c/\e 1=.list (rs.map Rule.c)/\e 7=dI i)/\(i<=rs.length)/\(kL t (rs.drop i)=kL t rs)) (λi=>rs.length - i) 0 ⟨wg,wi,(by rfl)⟩ λs k i e H j=>?_);obtain ⟨p,q,n⟩:=j;have Y:=wa Y p;refine dZ (λb=>?_) λb=>?_
   .have hds:kL t (rs.drop i)=if ruleF t rs[i]≠0 then ruleF t rs[i] else kL t (rs.drop (i+1)):=by rw [List.drop_eq_getElem_cons b];rfl
    rw [n] at hds;have Y:=xa1 Y b (aA b);refine wo (h:=aJ (A1 t m rs[i] (g _ (aC b))) wl ?_);refine dZ (λa=>?_) λa=>?_
    .have hne:ruleF t rs[i]≠0:=by simpa using a
     rw [if_pos hne] at hds;exact wv (h:=f _ _ (by rw [hE,hds];simp [go_sem]))
    .have hst:=hds.symm;rw [if_neg (cG a)] at hst;exact wo (h:=wx k (i+1) ⟨wg,wj,(by exact hst)⟩)
   .have hz:kL t rs=0:=by rw [<- n,cR bL];rfl
    exact wv (h:=f _ _ (by rw [hE,hz];simp [go_sem]))
end Go.Abs
end
