/- Layer 22 of the reference: the first witness of a condition, -/
import Derived.Test.YtbgbahlipnaflaaGreatZuAG
import Derived.Test.YtbgbahlipnaflaaGreatZuAA
import Derived.Test.YtbgbahlipnaflaaGreatZuAO
set_option linter.unusedVariables false
set_option linter.unusedSimpArgs false
section
set_option maxRecDepth 100000
set_option maxHeartbeats 4000000
open Go Go.Proofs Tryz
namespace Go.Abs
theorem O0 (l:List Cond):l.length<=Cond.ac l:=by
 induction l with
 | nil=>simp [Cond.ac]
 | cons a l ih=>have:=xU a;simp only [Cond.ac,eQ];omega
structure CondV (t:Types) (p:Pattern) (c:Cond):Prop where
 wf:Nh c=true
 hp:sC t p c=0
 Y:c.size<=1000000
theorem CondV.db {t:Types}{p:Pattern}{c:Cond}(h:CondV t p c):(c.B=2\/c.B=5->c.u.length=1)/\(1<=c.B/\c.B<=5):=by
 have:=h.wf;rw [vV,aL] at this;have a:=this.1;unfold sY at a;split at a
 .omega
 .split at a
  .rw [aL,decide_eq_true_eq] at a;omega
  .split at a
   .omega
   .rw [aL,decide_eq_true_eq,decide_eq_true_eq] at a;omega
theorem CondV.ex {t:Types}{p:Pattern}{c:Cond}(h:CondV t p c)(f:c.B=5)(g:PatOk t p):ExOk t p c.map c.l/\∀ k∈c.u,CondV t c.l k:=by
 have b:=h.hp;have e:=h.wf;rw [Gs,if_pos f,if_pos f] at b;rw [vV,aL,b9] at e;by_cases a:kM t p c.map c.l=0
 .rw [if_neg aD] at b;refine ⟨?_,λk d=>⟨e.2 k d,rF b k d,by have:=xU c;have:=Cx d;have:=h.Y;omega⟩⟩;unfold kM at a;split at a
  .cases a
  .rename_i h1;split at a
   .exact absurd a (by assumption)
   .rename_i h2;split at a
    .exact absurd a (by assumption)
    .rename_i h3;rw [iG] at h2 h3;refine ⟨HA ?_,aD,g.vars.1,h3⟩;unfold pG at h2;split at h2
     .exact .inr h2
     .rename_i h4;left;omega
 .rw [if_pos a] at b;exact absurd b a
theorem CondV.et {t:Types}{p:Pattern}{c:Cond}(h:CondV t p c)(e:c.B≠5):∀ k∈c.u,CondV t p k:=by
 have d:=h.hp;have b:=h.wf;rw [Gs,if_neg e,if_neg e,if_neg aD] at d;rw [vV,aL,b9] at b;exact λk a=>⟨b.2 k a,rF d k a,by have:=xU c;have:=Cx a;have:=h.Y;omega⟩
theorem xF {α β:Type}(f:α->β){l:List α}{i:Nat}(h:i<l.length):(l.drop i).map f=f l[i] :: (l.drop (i+1)).map f:=by rw [fR h,iX]
theorem AS {t:Types}{h:Host}{inj:Bool}{l:List Cond}(b:0<l.length):O8 (l.map (pX t h inj))=pX t h inj l[0]:=by
 cases l with
 | nil=>cases b
 | cons a l=>rfl
theorem Co (t:Types)(h:Host)(inj:Bool)(c:Cond)(m:Mat):∃ wc wm wk we,pX t h inj c m=(Prf.mk wc wm wk,we):=by
 cases hh:pX t h inj c m with
 | mk a b=>cases a;exact ⟨_,_,_,_,rfl⟩
theorem N0 (t:Types)(ht:t.ok)(h:Host)(ho:HostOk t h)(inj:Bool):∀ (c:Cond) (p:Pattern),CondV t p c->PatOk t p->∀ m:Mat,MatOk t p h m ->
  Pua 266 [t.d,.agg c.c,h.d,m.d,.bool inj] (.tup [.agg (pX t h inj c m).1.c,dI (pX t h inj c m).2]):=by
 refine jU λc ih p K hp m R=>?_;obtain ⟨T,b3⟩:=K.db;have S:c.u.length<=1000000:=by have:=O0 c.u;have:=xU c;have:=K.Y;omega
 have b:=Cp t h inj c m;obtain ⟨W,a7⟩:=c6 (pX t h inj c m);rw [<- a7] at b ⊢;refine vY (by first|rfl|(simp [go_sem];done)) (λQ s=>(Tz.cK ⟨λt=>t==10||t==12||t==14||t==16||t==19||t==24,λr=>match r with|3=>[(0,12),(1,12),(2,12),(3,12),(4,12),(5,12),(6,12),(8,12)]|14=>[(0,13),(1,13),(2,13),(4,13),(5,13),(6,13),(7,13),(9,13)]|23=>[(0,13),(1,13),(2,13),(4,13),(5,13),(6,13),(7,13),(9,13)]|34=>[(0,15),(1,15),(2,15),(3,15),(4,15),(5,15),(8,15),(9,15),(11,15)]|36=>[(2,5),(3,5)]|_=>[]⟩ func266 rfl ?_));have Y:=xa4 @Cond.x @Host.d.eq_1 @Host.c.eq_1 @Mat.d.eq_1 @Mat.c.eq_1 @Prf.x;refine dR (λh2=>?_) λh2=>?_
 .have h2':c.B=2:=by simpa using h2
  have B:0<c.u.length:=by have:=T (.inl h2');omega
  obtain ⟨z,g⟩:∃ k,k=c.u[0]:=⟨_,rfl⟩;have q:z∈c.u:=g ▸ aC B;have b1:=K.et aD z q;obtain ⟨wc,wm,wk,we,n⟩:=Co t h inj z m;rw [if_pos h2',AS B,<- g,n] at b;unfold Wj at b;have Y:=xa2 Y (aA B) (Eq.symm g) h2';refine wp (h:=aI ((by have j:=ih z q p b1 hp m R;simp only [n,Prf.x,Cond.x] at j;unfold Types.d Types.c Host.d Host.c Mat.d Mat.c dLI dI at j;exact j)) wl ?_);refine mA (λh4=>?_) λh4=>?_
  .rw [if_pos (bZ h4)] at b;refine wv (h:=?_);exact s _ _ (by simp [go_sem,Y,b,kJ,jJ,Prf.x,mL,iU,fD,dLI,eY,gK])
  .rw [if_neg (bZ h4)] at b;refine dR (λh6=>?_) λh6=>?_
   .rw [if_pos (bZ h6)] at b;refine wv (h:=?_);exact s _ _ (by simp [go_sem,Y,b,kJ,jJ,Prf.x,mL,iU,fD,dLI,eY,gK])
   .rw [if_neg (bZ h6)] at b;refine wv (h:=?_);exact s _ _ (by simp [go_sem,Y,b,kJ,jJ,Prf.x,mL,iU,fD,dLI,eY,gK])
 .have h2':c.B≠2:=by simpa using h2
  rw [if_neg h2'] at b;refine dR (λh9=>?_) λh9=>?_
  .have h9':c.B=3:=by simpa using h9
   have u:=K.et aD;rw [if_pos h9'] at b;have Y:=wa Y h9';refine wv (h:=rE (Ghosts.step (Ghosts.refl _) 1 0 4 299 5 _ _ ((by simp [go_sem];rfl)) rfl rfl rfl) (λi e H=>∃ J:List Prf,(e 5=.adr t.c/\e 6=.adr c.c/\e 7=.adr h.c/\e 8=.adr m.c/\e 4=.bool inj/\e 10=.ptr 0 1 0 0/\e 14=.ptr 1 1 0 0/\e 15=dI i)/\(H.get 0=some ⟨299,5,[[dI 0,.nil,.nil,.nil,.nil]],false⟩)/\(0<H.next)/\(H.get 1=some ⟨299,5,[[dI 0,.nil,.nil,.nil,.own 2 J.length]],false⟩)/\(1<H.next)/\(H.get 2=some ⟨299,5,J.map Prf.c,false⟩)/\(2<H.next)/\(i<=c.u.length)/\(MU ((c.u.drop i).map λk=>pX t h inj k m) J=W)/\(J.length<=i)/\(c.u.length<=1000000)) (λi=>c.u.length - i) 0 ⟨([]),wg,wn,wn,wn,wn,wn,wn,wi,(by exact b.symm),aE,(by exact S)⟩ λI1 b0 i e H a5=>?_);obtain ⟨J,E1,a1,P,V,M,U,L,hi,l,b2,a2⟩:=a5;have Y:=xa6 Y E1 a1 (cW P) V (cW M) U (cW L);refine wv (h:=?_);repeat first|intro _|refine ⟨fS,?_⟩
   refine wq (λy=>?_) λy=>?_
   .obtain ⟨A,f⟩:∃ k,k=c.u[i]:=⟨_,rfl⟩;have o:A∈c.u:=f ▸ aC y;obtain ⟨wc,wm,wk,we,n⟩:=Co t h inj A m;have a:=l;rw [xF _ y,<- f,n] at a;simp only [MU] at a;have Y:=xa2 Y y (aA y) (Eq.symm f);refine wp (h:=aI ((by have j:=ih A o p (u A o) hp m R;simp only [n,Prf.x,Cond.x] at j;unfold Types.d Types.c Host.d Host.c Mat.d Mat.c dLI dI at j;exact j)) wl ?_);refine mA (λI=>?_) λI=>?_
    .rw [if_pos (bZ I)] at a;refine wv (h:=?_);exact s _ _ (by simp [go_sem,Y,<- a,kJ,jJ,Prf.x,mL,iU,fD,dLI,eY,gK])
    .rw [if_neg (bZ I)] at a;exact wp (h:=wx b0 (i+1) ⟨(J++[.mk wc wm wk]),wg,wn,wn,wn,wn,wn,wn,wj,(by exact a),(by simp;omega),(by exact a2)⟩)
   .rw [kG aD] at l;simp only [jY,MU] at l;refine wv (h:=?_);exact s _ _ (by simp [go_sem,Y,<- l,kJ,jJ,Prf.x,mL,iU,fD,dLI,eY,gK])
  .have h9':c.B≠3:=by simpa using h9
   rw [if_neg h9'] at b;refine dR (λG=>?_) λG=>?_
   .have h19':c.B=4:=by simpa using G
    have u:=K.et aD;rw [if_pos h19'] at b;have Y:=wa Y h19';refine wv (h:=bC (λi e H=>(e 5=.adr t.c/\e 6=.adr c.c/\e 7=.adr h.c/\e 8=.adr m.c/\e 4=.bool inj/\e 10=.ptr 0 1 0 0/\e 18=dI i)/\(H.get 0=some ⟨299,5,[[dI 0,.nil,.nil,.nil,.nil]],false⟩)/\(0<H.next)/\(i<=c.u.length)/\(Wb ((c.u.drop i).map λk=>pX t h inj k m) i=W)) (λi=>c.u.length - i) 0 ⟨wg,wn,wn,wi,(by exact b.symm)⟩ λI3 a9 i e H a4=>?_);obtain ⟨E3,a0,O,hi,l⟩:=a4;have Y:=xa2 Y E3 a0 (cW O);refine wv (h:=?_);repeat first|intro _|refine ⟨fS,?_⟩
    refine wq (λw=>?_) λw=>?_
    .obtain ⟨A,f⟩:∃ k,k=c.u[i]:=⟨_,rfl⟩;have o:A∈c.u:=f ▸ aC w;obtain ⟨wc,wm,wk,we,n⟩:=Co t h inj A m;have a:=l;rw [xF _ w,<- f,n] at a;simp only [Wb] at a;have Y:=xa2 Y w (aA w) (Eq.symm f);refine wp (h:=aI ((by have j:=ih A o p (u A o) hp m R;simp only [n,Prf.x,Cond.x] at j;unfold Types.d Types.c Host.d Host.c Mat.d Mat.c dLI dI at j;exact j)) wl ?_);refine mA (λF=>?_) λF=>?_
     .rw [if_pos (bZ F)] at a;refine wv (h:=?_);exact s _ _ (by simp [go_sem,Y,<- a,kJ,jJ,Prf.x,mL,iU,fD,dLI,eY,gK])
     .rw [if_neg (bZ F)] at a;exact wp (h:=wx a9 (i+1) ⟨wg,wn,wn,wj,(by exact a)⟩)
    .rw [kG aD] at l;simp only [jY,Wb] at l;refine wv (h:=?_);exact s _ _ (by simp [go_sem,Y,<- l,kJ,jJ,Prf.x,mL,iU,fD,dLI,eY,gK])
   .have h19':c.B≠4:=by simpa using G
    rw [if_neg h19'] at b;refine dR (λE=>?_) λE=>?_
    .have h27':c.B=5:=by simpa using E
     obtain ⟨hE,u⟩:=K.ex h27' hp;have B:0<c.u.length:=by have:=T (.inr h27');omega
     obtain ⟨z,g⟩:∃ k,k=c.u[0]:=⟨_,rfl⟩;have q:z∈c.u:=g ▸ aC B;obtain ⟨X,hX⟩:=c6 (zI t c.map c.l h m inj);have a6:∀ x∈X.1,MatOk t c.l h x:=hX ▸ R6 hE ho R;rw [if_pos h27',AS B,<- g,<- hX] at b;have Y:=xa2 Y (aA B) (Eq.symm g) h27';refine wv (h:=aB ((by have j:=D6 t ht p c hE h ho m R inj;rw [<- hX,Cond.x,h27'] at j;unfold Types.d Types.c Host.d Host.c Mat.d Mat.c dLI dI at j;exact j)) wl ?_);refine dR (λD=>?_) λD=>?_
     .rw [if_pos (bZ D)] at b;refine wv (h:=?_);exact s _ _ (by simp [go_sem,Y,b,kJ,jJ,Prf.x,mL,iU,fD,dLI,eY,gK])
     .rw [if_neg (bZ D)] at b;refine wv (h:=bC (λi e H=>(e 5=.adr t.c/\e 6=.adr c.c/\e 7=.adr h.c/\e 8=.adr m.c/\e 4=.bool inj/\e 10=.ptr 0 1 0 0/\e 21=.list (X.1.map Mat.c)/\e 23=dI i)/\(H.get 0=some ⟨299,5,[[dI 0,.nil,.nil,.nil,.nil]],false⟩)/\(0<H.next)/\(i<=X.1.length)/\(Wz ((X.1.drop i).map λx=>(x,pX t h inj z x))=W)) (λi=>X.1.length - i) 0 ⟨wg,wn,wn,wi,(by exact b.symm)⟩ λI5 a8 i e H a3=>?_);obtain ⟨E5,Z,N,hi,l⟩:=a3;have Y:=xa2 Y E5 Z (cW N);refine wv (h:=?_);repeat first|intro _|refine ⟨fS,?_⟩
      refine wq (λv=>?_) λv=>?_
      .obtain ⟨wc,wm,wk,we,n⟩:=Co t h inj z X.1[i];have a:=l;rw [xF _ v,n] at a;simp only [Wz] at a;have Y:=xa1 Y v (aA v);refine wp (h:=aI ((by have j:=ih z q c.l (u z q) hE.pq X.1[i] (a6 _ (aC v));simp only [n,Prf.x,Cond.x] at j;unfold Types.d Types.c Host.d Host.c Mat.d Mat.c dLI dI at j;exact j)) wl ?_);refine mA (λC=>?_) λC=>?_
       .rw [if_pos (bZ C)] at a;refine wp (h:=?_);exact s _ _ (by simp [go_sem,Y,<- a,kJ,jJ,Prf.x,mL,iU,fD,dLI,eY,gK])
       .rw [if_neg (bZ C)] at a;exact wp (h:=wx a8 (i+1) ⟨wg,wn,wn,wj,(by exact a)⟩)
      .rw [kG aD] at l;simp only [jY,Wz] at l;refine wv (h:=?_);exact s _ _ (by simp [go_sem,Y,<- l,kJ,jJ,Prf.x,mL,iU,fD,dLI,eY,gK])
    .have h27':c.B≠5:=by simpa using E
     rw [if_neg h27'] at b;refine wv (h:=?_);exact s _ _ (by simp [go_sem,Y,b,kJ,jJ,Prf.x,mL,iU,fD,dLI,eY,gK])
theorem N5 (t:Types)(j:t.ok)(h:Host)(l:HostOk t h)(inj:Bool)(c:Cond)(p:Pattern)(o:CondV t p c)(k:PatOk t p)(m:Mat)(n:MatOk t p h m) :
  Pua 173 [t.d,.agg c.c,h.d,m.d,.bool inj] (.tup [.bool (l6 t h inj c m).1,dI (l6 t h inj c m).2]):=by
 have a:=N0 t j h l inj c p o k m n;rw [Cond.x] at a;obtain ⟨s,q,r,e,g⟩:=Co t h inj c m;have b:l6 t h inj c m=if e=10 then (false,0) else (decide (e=0),e):=by unfold l6 Lu;rw [g]
 simp only [g,Prf.x] at a;refine Tz.pK ⟨λt=>t==12,λ_=>[]⟩ func173 rfl (λQ i=>?_);have Y:=xa4 @Cond.x @Host.d.eq_1 @Host.c.eq_1 @Mat.d.eq_1 @Mat.c.eq_1 @Prf.x;refine wv (h:=aB ((by have a:=a;unfold Types.d Types.c Host.d Host.c Mat.d Mat.c dLI dI at a;exact a)) wl ?_);refine dR (λf=>?_) λf=>?_
 .rw [if_pos (bZ f)] at b;exact wv (h:=i _ _ (by simp [go_sem,b]))
 .rw [if_neg (bZ f)] at b;exact wv (h:=i _ _ (by simp [go_sem,b,Db]))
structure RuleV (t:Types) (r:Rule):Prop where
 vf:(dA t).2=0
 pl:PatOk t r.left
 gr:graphF r.right.i=0
 tr:fV t r.right.i=true
 sub:subF r.left.i r.q=0
 mo:eK (cO r.left.i r.q) r.right.i r.s=0
 inj:Ba (cO r.left.i r.q) r.right.i r.s=true
 hl:pN t r.right.i r.N r.aa=true
 vars:r.right.vars=r.left.vars
 b5:r.right.o.length<=10
 gy:∀ s∈r.right.o,gX t r.right s=0
 cond:CondV t r.left r.cond
 kl:r.q.h.length<=1000000/\r.q.j.length<=1000000
theorem G6 {t:Types}{r:Rule}(a:r.ok)(h:ruleF t r=0):RuleV t r:=by
 unfold ruleF at h;split at h
 .rename_i h1;exact absurd h h1
 .rename_i h1;split at h
  .cases h
  .split at h
   .rename_i h3;exact absurd h h3
   .rename_i h3;split at h
    .rename_i h4;exact absurd h h4
    .rename_i h4;split at h
     .rename_i h5;exact absurd h h5
     .rename_i h5;split at h
      .cases h
      .rename_i h6;rw [iG] at h1 h3 h4 h5;have c:=AJ h4;unfold iP at h4;rw [if_neg aD,if_neg (by simp [c.2])] at h4;split at h4
       .cases h4
       .rename_i h7;split at h4
        .cases h4
        .rename_i h8;have b:subF r.left.i r.q=0/\eK (cO r.left.i r.q) r.right.i r.s=0/\Ba (cO r.left.i r.q) r.right.i r.s=true:=by
          unfold keptF at h5;split at h5
          .rename_i q;exact absurd h5 q
          .rename_i q;split at h5
           .rename_i q2;exact absurd h5 q2
           .rename_i q2;split at h5
            .cases h5
            .rename_i q3;exact ⟨aD,aD,by simpa using q3⟩
         unfold condF at h;rw [if_neg aD] at h;split at h
         .rename_i q;exact absurd h q
         .rename_i h9;refine ⟨h1,HA (.inr h3),c.1,c.2,b.1,b.2.1,b.2.2,by simpa using h6,aD,aD,λs d=>?_,⟨?_,h,a.size⟩,a.k1,a.k2⟩
          .obtain ⟨i,e,rfl⟩:=aN d;have:=eZ _ _ h4 i (eP _) aD;rw [AH e] at this;split at this
           .cases this
           .rename_i q;exact iG.1 q
          .rw [iG] at h9;unfold tW at h9;split at h9
           .cases h9
           .rename_i q;simpa using q
theorem RuleV.q {t:Types}{r:Rule}(h:RuleV t r):(r.q.h.length=r.s.h.length/\r.q.j.length=r.s.j.length)/\(∀ x∈r.q.h,0<=x/\x<r.left.i.h.length)/\(∀ x∈r.q.j,0<=x/\x<r.left.i.j.length) /\
  (∀ x∈r.s.h,0<=x/\x<r.right.i.h.length)/\∀ x∈r.s.j,0<=x/\x<r.right.i.j.length:=by
 obtain ⟨i,g,d,c⟩:=nE h.sub;obtain ⟨_,_,f,e⟩:=kK h.mo;obtain ⟨b,a⟩:=tG h.mo;have k:(cO r.left.i r.q).h.length=r.q.h.length:=by unfold cO;rw [if_pos h.sub];simp
 have j:(cO r.left.i r.q).j.length=r.q.j.length:=by unfold cO;rw [if_pos h.sub];simp
 exact ⟨⟨aD,aD⟩,d,c,b,a⟩
theorem RuleV.o {t:Types}{r:Rule}(h:RuleV t r):∀ s∈r.right.o,(0<=s.node/\s.node<r.right.i.h.length)/\(0<=s.H/\s.H<(bQ t (r.right.i.h[s.node.toNat]?.getD 0)).length)/\qV s.y r.left.vars.toNat:=λs hs=>by
 have:=h.gy s hs;have hv:=h.pl.vars;have he:=h.vars;unfold gX at this;split at this
 .rename_i h1;simp only [aL,mI,decide_eq_true_eq,inF,Pattern.B] at h1;exact ⟨h1.1.1.1,⟨h1.1.1.2.1,of_decide_eq_true h1.1.1.2.2⟩,⟨aD,aD⟩,aD,aD⟩
 .cases this
theorem ET (t:Types)(b:t.ok)(r:Rule)(f:r.ok)(h:Host):Pua 90 [t.d,r.d,h.d] (dI (f9 t r h)):=by
 refine Tz.p0 func90 rfl λQ e _=>?_;have Y:=wa @Host.d.eq_1 @Host.c.eq_1;refine wv (h:=aB (z6 t b r f) wl ?_);refine dR (λa=>?_) λa=>?_
 .exact wv (h:=e _ _ (by simp [go_sem,f9,a]))
 .refine wv (h:=aB (jH t b h) wl ?_);exact wv (h:=e _ _ (by simp [go_sem,f9,a,fM]))
theorem rO (l:V2)(k:Nat)(v:Int):gY l (k+1) v=if l[k]?.getD (-1)=v then (k:Int) else gY l k v:=by unfold gY;rw [eV]
theorem DB (l:V2)(v:Int):∀ n,-1<=gY l n v/\gY l n v<n
 | 0=>by simp [gY]
 | n+1=>by
  have:=DB l v n;rw [rO];split<;>omega
theorem IH (l:V2)(v:Nat):mH l (v+1)=mH l v++[gY l l.length v]:=by simp [mH,dO]
theorem mG (l:V2)(v:Nat):(mH l v).length=v:=by simp [mH]
theorem pT (l:V2){n i:Nat}(h:i<n):(mH l n)[i]?=some (gY l l.length i):=by simp [mH,h]
theorem Hp (l:V2)(n:Nat)(E:n<=1000000):Pua 176 [dLI l,dI n] (dLI (mH l n)):=by
 refine Tz.pK ⟨λt=>t==5,λ_=>[]⟩ func176 rfl (λQ x=>?_);have Y:=trivial;refine wv (h:=bC (λv e H=>(e 0=dLI l/\e 1=dI n/\e 5=.own 0 v/\e 6=dI v)/\(H.get 0=some ⟨3,1,(mH l v).map cI,false⟩)/\(0<H.next)/\(v<=n)) (λv=>n - v) 0 ⟨wg,(by simp [go_sem,mH]),wn,wi⟩ λI r v e H q=>?_);obtain ⟨C,m,f,D⟩:=q;have Y:=xa2 Y C m (cW f);refine dR (λu=>?_) λu=>?_
 .have hbl:=mG l v;have Y:=wa Y u;refine wp (h:=bC (λk e H=>∃ B:V2,(e 0=dLI l/\e 1=dI n/\e 5=.own 0 (v+1)/\e 6=dI v/\e 7=dI k)/\(H.get 0=some ⟨3,1,B.map cI,false⟩)/\(0<H.next)/\(k<=l.length)/\(B=mH l v++[gY l k v])/\(B.length=v+1)) (λk=>l.length - k) 0 ⟨(mH l v++[-1]),wg,(by simp [go_sem,Y,cI]),wn,wi,(by rfl),(by simp [hbl])⟩ λG g k e H p=>?_);obtain ⟨B,A,j,d,F,s,b⟩:=p;have Y:=xa3 Y A j (cW d) b;refine wv (h:=?_);repeat first|intro _|refine ⟨fS,?_⟩
  refine wq (λi=>?_) λi=>?_
  .have hvB:v<B.length:=aD;have Y:=xa2 Y i (aA i) (aA hvB);refine mA (λz=>?_) λz=>?_
   .obtain ⟨o,a⟩:∃ y,y=B.set v (k:Int):=⟨_,rfl⟩;have w:o.map cI=(B.map cI).set v (cI k):=by rw [a,dB]
    have c:B.set v (k:Int)=mH l v++[gY l (k+1) v]:=by
     rw [rO,aA i,Option.getD_some,if_pos aD,s,nI _ _ aD,hbl,uV];rfl
    have Y:=xa1 Y w @cI.eq_1;exact wp (h:=wx g (k+1) ⟨o,wg,(by simp [go_sem,Y]),wn,wj,(by rw [a];exact c),(by rw [a];simp [b])⟩)
   .obtain ⟨o,a⟩:∃ y,y=B:=⟨_,rfl⟩;have c:B=mH l v++[gY l (k+1) v]:=by
     rw [rO,aA i,Option.getD_some,if_neg aD];exact s
    have Y:=wa Y a;exact wp (h:=wx g (k+1) ⟨o,wg,(by simp [go_sem,Y]),wn,wj,(by rw [a];exact c),(by rw [a];simp [b])⟩)
  .have hBe:B.map cI=(mH l v).map cI++[cI (gY l l.length v)]:=by rw [s,(aD:k=l.length)];simp
   exact wp (h:=wx r (v+1) ⟨wg,(by simp [go_sem,Y,IH,hBe]),wn,wj⟩)
 .have hve:v=n:=aD;exact wv (h:=x _ _ (by simp [go_sem,Y,hve,dLI,mG]))
theorem CJ (l:V2)(n:Nat)(a:n<=1000000):Pua 175 [dI n,dLI l] (dLI (mH l n)):=by
 refine Tz.p0 func175 rfl λQ b Y=>?_;refine wv (h:=aB (Hp l n a) wl ?_);exact wv (h:=b _ _ wy)
theorem Jm (t:Types)(b:t.ok)(h:Host)(p:Part)(f:p.h.length<=1000000)(a:p.j.length<=1000000)(e:h.i.h.length<=1000000)(g:h.i.j.length<=1000000) :
  Pua 94 [t.d,h.d,p.d] (.tup [(VL t h p).d,Part.d ⟨mH p.h h.i.h.length,mH p.j h.i.j.length⟩]):=by
 refine Tz.pK ⟨λt=>t==6||t==7||t==8,λ_=>[]⟩ func94 rfl (λQ i=>?_);have Y:=xa2 @Host.d.eq_1 @Host.c.eq_1 @Part.d.eq_1 @Part.c.eq_1;refine wv (h:=aB (Ju t b h p f a) wl ?_);refine wp (h:=aI (CJ p.h h.i.h.length e) wl ?_);refine wp (h:=aI (CJ p.j h.i.j.length g) wl ?_);exact wp (h:=i _ _ wy)
theorem Bo (l:V2)(n:Int):Pua 177 [dLI l,dI n] (.bool (!mem l n)):=by
 refine Tz.p0 func177 rfl λQ m Y=>?_;refine wv (h:=bC (λi e H=>(e 0=dLI l/\e 1=dI n/\e 5=dI i)/\(i<=l.length)/\(∀ j,j<i->∀ b:j<l.length,l[j]≠n)) (λi=>l.length - i) 0 ⟨wg,wi,(by intro j b;omega)⟩ λs g i e H f=>?_);obtain ⟨q,r,o⟩:=f;have Y:=wa Y q;refine wv (h:=?_);repeat first|intro _|refine ⟨iI,?_⟩
 refine wq (λc=>?_) λc=>?_
 .have Y:=xa1 Y c (aA c);refine eJ (λk=>?_) λk=>?_
  .have a:mem l n=true:=(mem_iff _ _).2 (k ▸ aC c);exact wv (h:=m _ _ (by simp [go_sem,a]))
  .exact wo (h:=wx g (i+1) ⟨wg,wj,(by intro j b d;rcases bX j i with hji|hji;exact o j hji d;(obtain rfl:j=i:=aD;exact k))⟩)
 .have a:mem l n=false:=by
   rw [bK];intro a;obtain ⟨j,b,p⟩:=aN ((mem_iff _ _).1 a);exact o j aD b p
  exact wv (h:=m _ _ (by simp [go_sem,a]))
theorem zY (a b:V2)(s:a.length<=1000000)(p:∀ x∈a,0<=x/\x<b.length):Pua 95 [dLI a,dLI b] (dLI (pY a b)):=by
 refine Tz.pK ⟨λt=>t==5,λ_=>[]⟩ func95 rfl (λQ q=>?_);have Y:=trivial;refine wv (h:=bC (λi e H=>(e 0=dLI a/\e 1=dLI b/\e 5=.own 0 i/\e 6=dI i)/\(H.get 0=some ⟨3,1,(pY (a.take i) b).map cI,false⟩)/\(0<H.next)/\(i<=a.length)) (λi=>a.length - i) 0 ⟨wg,(by simp [go_sem,pY]),wn,wi⟩ λu m i e H k=>?_);obtain ⟨r,c,f,o⟩:=k;have Y:=xa2 Y r c (cW f);refine mA (λg=>?_) λg=>?_
 .have hx:=p _ (aC g);have n:a[i].toNat<b.length:=aD;have l:pY (a.take (i+1)) b=pY (a.take i) b++[b[a[i].toNat]]:=by unfold pY;rw [List.take_succ_eq_append_getElem g,List.map_append];simp [aA n]
  have d:(pY (a.take i) b).length=i:=by simp [pY];omega
  have Y:=xa3 Y g (aA g) (aA n) d;exact wp (h:=wx m (i+1) ⟨wg,(by simp [go_sem,Y,l,cI]),wn,wj⟩)
 .rw [aG aD] at c;have j:i=a.length:=aD;have d:(pY a b).length=a.length:=by simp [pY]
  exact wv (h:=q _ _ (by simp [go_sem,Y,j,d,dLI]))
theorem KA (a:V2)(i:Nat):BO a (i+1)=BO a i+if gY a a.length i<0 then 1 else 0:=by
 unfold BO;rw [dO,fJ,aQ];congr 1;simp only [List.filter_cons,List.filter_nil];split<;>simp_all
theorem Kz (into:V2):BO into 0=0:=rfl
theorem RP (a:V2)(i:Nat):BO a i<=i:=by
 unfold BO;exact fB (jF _ _) aE
theorem Pp (keep b at_:V2)(i a:Nat):DQ keep b at_ (i+1) a=DQ keep b at_ i a++[Iu keep b at_ a i]:=by simp [DQ,dO]
theorem Bp (keep a at_:V2)(b c:Nat)(B:a.length<=keep.length)(u:∀ x∈keep,0<=x/\x<at_.length)(s:b<=1000000)(A:c<=1000000) :
  Pua 96 [dLI keep,dLI a,dI b,dLI at_,dI c] (dLI (DQ keep a at_ b c)):=by
 refine Tz.pK ⟨λt=>t==12,λ_=>[]⟩ func96 rfl (λQ w=>?_);have Y:=@Kz;refine wv (h:=aB (Hp a b s) wl ?_);refine wv (h:=bC (λi e H=>(e 0=dLI keep/\e 1=dLI a/\e 2=dI b/\e 3=dLI at_/\e 4=dI ((c+BO a i:Nat):Int)/\e 11=dLI (mH a b)/\e 12=.own 0 i/\e 13=dI i)/\(H.get 0=some ⟨3,1,(DQ keep a at_ i c).map cI,false⟩)/\(0<H.next)/\(i<=b)) (λi=>b - i) 0 ⟨wg,(by simp [go_sem,DQ]),wn,wi⟩ λF g i e H k=>?_);obtain ⟨z,j,f,D⟩:=k;have Y:=xa2 Y z j (cW f);refine dR (λr=>?_) λr=>?_
 .have hg:=pT a (n:=b) (i:=i) aD;have E:=DB a i a.length;have o:=mG a b;have d:=KA a i;have v:=RP a i;have m:(DQ keep a at_ i c).length=i:=by simp [DQ]
  have l:(mH a b)[i]' aD=gY a a.length i:=by simp [mH]
  have Y:=xa4 Y r hg l o m;refine mA (λy=>?_) λy=>?_
  .have hb2:(gY a a.length i).toNat<keep.length:=aD;have C:=u _ (aC hb2);have q:keep[(gY a a.length i).toNat].toNat<at_.length:=aD;have p:Iu keep a at_ c i=at_[keep[(gY a a.length i).toNat].toNat]:=by unfold Iu;rw [if_pos aD,aA hb2,Option.getD_some,aA q];rfl
   rw [if_neg aD] at d;have Y:=xa2 Y (aA hb2) (aA q) d;exact wp (h:=wx g (i+1) ⟨wg,(by simp [go_sem,Y,Pp,p,cI]),wn,wj⟩)
  .have p:Iu keep a at_ c i=((c+BO a i:Nat):Int):=by unfold Iu;rw [if_neg aD]
   rw [if_pos aD] at d;have Y:=wa Y d;exact wp (h:=wx g (i+1) ⟨wg,(by simp [go_sem,Y,Pp,p,cI]),wn,wj⟩)
 .have hie:i=b:=aD;exact wv (h:=w _ _ (by simp [go_sem,Y,hie,dLI];simp [DQ]))
theorem tX (a b:V2):Pua 63 [dLI a,dLI b] (.bool (decide (a=b))):=by
 refine Tz.p0 func63 rfl λQ g Y=>?_;refine eJ (λm=>?_) λm=>?_
 .refine wv (h:=?_);have c:a≠b:=by intro h;subst h;omega
  exact g _ _ (by simp [go_sem,c])
 .refine wv (h:=bC (λi e H=>(e 0=dLI a/\e 1=dLI b/\e 5=dI i)/\(i<=a.length)/\(a.take i=b.take i)) (λi=>a.length - i) 0 ⟨wg,wi,(by rfl)⟩ λp j i e H d=>?_);obtain ⟨n,o,f⟩:=d;have Y:=wa Y n;refine wv (h:=?_);repeat first|intro _|refine ⟨iI,?_⟩
  refine wq (λl=>?_) λl=>?_
  .have hib:i<b.length:=aD;have Y:=xa1 Y l hib;refine eJ (λk=>?_) λk=>?_
   .refine wv (h:=?_);have c:a≠b:=by intro h;subst h;exact k rfl
    exact g _ _ (by simp [go_sem,c])
   .exact wo (h:=wx j (i+1) ⟨wg,wj,(by rw [List.take_succ_eq_append_getElem l,List.take_succ_eq_append_getElem hib,f,k])⟩)
  .rw [aG aD,aG aD] at f;exact wv (h:=g _ _ (by simp [go_sem,f]))
def wU (t:Types)(r:Rule)(h:Host)(m:Mat):Part:=if pE t r h m=0 then bW r h m else ⟨[],[]⟩
theorem Rd {t:Types}{p g:Graph}{m:Part}{inj:Bool}(h:checkE t p g m inj=0):checkE t p g m false=0:=by
 unfold checkE at h ⊢;split at h
 .exact absurd h (by assumption)
 .rename_i h1;rw [if_neg h1];unfold matchE at h ⊢;split at h
  .cases h
  .rename_i h2;rw [if_neg h2];split at h
   .exact absurd h (by assumption)
   .rename_i h3;rw [if_neg h3];split at h
    .exact absurd h (by assumption)
    .rename_i h4;rw [if_neg h4,if_neg aE]
theorem J7 {t:Types}{p:Pattern}{h:Host}{m:Part}(a:(eF t p h m).2=0):PatOk t p/\HostOk t h/\checkE t p.i h.i m false=0/\eF t p h m=eX p h m []:=by
 unfold eF at a ⊢;split at a
 .exact absurd a (by assumption)
 .rename_i h1;split at a
  .exact absurd a (by assumption)
  .rename_i h2;split at a
   .exact absurd a (by assumption)
   .rename_i h3;rw [iG] at h1 h2 h3;rw [if_neg aD,if_neg aD,if_neg aD];exact ⟨HA (.inr h1),nB h2,h3,rfl⟩
theorem Hf (t:Types)(q:t.ok)(r:Rule)(l:RuleV t r)(h:Host)(u:HostOk t h)(m:Mat) :
  Pua 93 [t.d,r.d,h.d,m.d] (.tup [(wU t r h m).d,dI (kT t r h m)]):=by
 refine Tz.pK ⟨λt=>t==8||t==12||t==13,λ_=>[]⟩ func93 rfl (λQ n=>?_);have Y:=xa2 @Host.d.eq_1 @Host.c.eq_1 @Mat.d.eq_1 @Mat.c.eq_1;refine wv (h:=aB (Aa t q r.left.i h.i m.m r.inj) wl ?_);refine dR (λy=>?_) λy=>?_
 .have i:pE t r h m=1:=by unfold pE;rw [if_pos (bZ y)]
  have k:kT t r h m=1:=by unfold kT;rw [if_pos aD,i]
  have b:wU t r h m=⟨[],[]⟩:=by unfold wU;rw [if_neg aD]
  exact wv (h:=n _ _ (by simp [go_sem,k,b,Part.d,Part.c,dLI]))
 .have hc:checkE t r.left.i h.i m.m r.inj=0:=by simpa using y
  refine wv (h:=aB (N6 t q r.left h m.m) wl ?_);refine dR (λs=>?_) λs=>?_
  .have i:pE t r h m=(eF t r.left h m.m).2:=by unfold pE;rw [if_neg aD,if_pos s]
   have k:kT t r h m=(eF t r.left h m.m).2:=by unfold kT;rw [if_pos aD,i]
   have b:wU t r h m=⟨[],[]⟩:=by unfold wU;rw [if_neg aD]
   exact wv (h:=n _ _ (by simp [go_sem,k,b,Part.d,Part.c,dLI]))
  .obtain ⟨A,z,g,f⟩:=J7 (bZ s);have e:=rD (pS hc).2;refine wp (h:=aB (tX (eF t r.left h m.m).1 m.vars) wl ?_);refine mA (λw=>?_) λw=>?_
   .have h6':(eF t r.left h m.m).1≠m.vars:=by simpa using w
    have i:pE t r h m=11:=by unfold pE;rw [if_neg aD,if_neg aD,if_pos h6']
    have k:kT t r h m=11:=by unfold kT;rw [if_pos aD,i]
    have b:wU t r h m=⟨[],[]⟩:=by unfold wU;rw [if_neg aD]
    exact wv (h:=n _ _ (by simp [go_sem,k,b,Part.d,Part.c,dLI]))
   .have h6':(eF t r.left h m.m).1=m.vars:=by simpa using w
    have v:A9 t r.left.i h.i m.m=kU r.left.i h.i m.m:=by unfold A9;rw [if_pos g]
    have i:pE t r h m=oN (kU r.left.i h.i m.m) h.i r.q m.m:=by unfold pE;rw [if_neg aD,if_neg aD,if_neg (by rw [h6'];simp)]
    have J:=l.q;have H:=bI l.pl.gg;have I:=bI u.gg;have E:=e.len;have F:=e.cb;have G:=l.kl.1;have p:MatOk t r.left h m:=by
     rw [f] at h6';have o:(eX r.left h m.m []).2=0:=by rw [<- f];simpa using s
     obtain ⟨C,B⟩:=BE (V3 l.pl u e) (vs:=[]) aE aE o;rw [h6'] at C B;exact ⟨e,C,B⟩
    have Y:=xa1 Y v g;refine wv (h:=aB (Hj t q r.left.i h.i m.m) wl ?_);refine wv (h:=aB (Uu (kU r.left.i h.i m.m) h.i r.q m.m aD aD aD aD aD) wl ?_);refine dR (λx=>?_) λx=>?_
    .have k:kT t r h m=oN (kU r.left.i h.i m.m) h.i r.q m.m:=by unfold kT;rw [if_pos aD,i]
     have b:wU t r h m=⟨[],[]⟩:=by unfold wU;rw [if_neg aD]
     exact wv (h:=n _ _ (by simp [go_sem,k,b,Part.d,Part.c,dLI]))
    .have b:wU t r h m=bW r h m:=by unfold wU;rw [if_pos aD]
     have j:kT t r h m=if (l6 t h r.inj r.cond m).2≠0 then (l6 t h r.inj r.cond m).2 else if (l6 t h r.inj r.cond m).1=false then 16 else 0:=by unfold kT;rw [if_neg aD]
     refine wv (h:=aB ((by have D:=N5 t q h u r.inj r.cond r.left l.cond l.pl m p;rwa [Cond.x] at D)) wl ?_);refine mA (λa=>?_) λa=>?_
     .rw [if_neg (by rw [a.1];simp),if_pos a.2] at j;exact wv (h:=n _ _ (by simp [go_sem,Y,j,b,bW]))
     .have hE2:kT t r h m=(l6 t h r.inj r.cond m).2:=by
       rw [j];split
       .rfl
       .rename_i o;rw [iG] at o;simp [o] at a;simp [o,a]
      exact wv (h:=n _ _ (by simp [go_sem,Y,hE2,b,bW]))
theorem qF (l:V2)(i:Nat):bG l (i+1)=bG l i++if mem l i=true then [] else [(i:Int)]:=by
 unfold bG;rw [dO,fJ,List.map_append];congr 1;simp only [List.filter_cons,List.filter_nil];split<;>simp_all
def Gt (t:Types)(r:Rule)(x:Host)(i:Nat):Host :=
 ⟨⟨x.i.h++(bG r.s.h i).map (gN r.right.i),x.i.j⟩,x.k++(bG r.s.h i).map (λk=>i4 t (gN r.right.i k))⟩
def QT (t:Types)(r:Rule)(c:Part)(x:Host)(i:Nat):Host:=⟨⟨x.i.h,x.i.j++(bG r.s.j i).map (λk=>freshE c (r.right.i.j[k.toNat]?.getD cY))⟩,x.k⟩
theorem ES (t:Types)(ht:t.ok)(r:Rule)(hR:RuleV t r)(u:Host)(c:Part)(hc:c.h.length=r.right.i.h.length)(hs:u.i.h.length<=1000/\u.i.j.length<=1000/\u.k.length<=1000)
  (G:AHeap) (lo a b V:Nat) (f:List Nat) (q:HH G lo a b V f u) (Q:D->AHeap->Prop)
  (hQ:∀ ns H',(∀ j∈ns,G.next<=j)->HH H' lo a b V (f++ns) (j6 t r c u)->(∀ j,j<G.next->j∉a :: b :: V :: f->H'.get j=G.get j)->G.next<=H'.next->Q (.agg [.own a (j6 t r c u).i.h.length,.own b (j6 t r c u).i.j.length,.own V (j6 t r c u).k.length]) H') :
  ACalls prog 97 [t.d,r.d,.agg [.own a u.i.h.length,.own b u.i.j.length,.own V u.k.length],c.d] G Q:=by
 have e6:=bI hR.gr;have d3:=dX hR.gr;have e9:=q.W a q.bq;have e7:=q.W b q.bp;have f0:=q.W V q.bw;have e8:=q.ab;have v:∀ j,j∉a :: b :: V :: f->j≠a/\j≠b/\j≠V:=λj hj=>by simp only [aV,not_or] at hj;exact ⟨hj.1,hj.2.1,hj.2.2.1⟩
 refine (Tz.cK ⟨λt=>t==6||t==8||t==9||t==13||t==16||t==1000001,λr=>match r with|6=>[(0,8),(1,8),(2,8)]|19=>[(0,18),(1,18),(2,18)]|_=>[]⟩ func97 rfl ?_);have Y:=wa @Part.d.eq_1 @Part.c.eq_1;refine wv (h:=bC (λi e H=>∃ X:Nat,∃ R:Nat,∃ m:Nat,∃ x:Host,∃ ns:List Nat,(e 4=.adr t.c/\e 5=.adr r.c/\e 7=.adr c.c/\e 6=.ptr X 1 0 0/\e 8=.ptr R 1 0 0/\e 9=.ptr m 1 0 0/\e 10=dI i)/\(H.get X=some ⟨44,3,[[.own a x.i.h.length,.own b x.i.j.length,.own V x.k.length]],false⟩)/\(X<H.next)/\(H.get R=some ⟨44,3,[[.nil,.nil,.nil]],false⟩)/\(R<H.next)/\(H.get m=some ⟨29,2,[[dLI r.right.i.h,.list (r.right.i.j.map Edge.c)]],false⟩)/\(m<H.next)/\(i<=r.right.i.h.length)/\(HH H lo a b V (f++ns) x)/\(x=Gt t r u i)/\(∀ j∈a :: b :: V :: (f++ns),j≠X/\j≠R/\j≠m)/\(∀ j∈ns,G.next<=j)/\(G.next<=X/\X<R/\R<m)/\(∀ j,j<G.next->j∉a :: b :: V :: f->H.get j=G.get j)/\(G.next<=H.next)) (λi=>r.right.i.h.length - i) 0 ⟨G.next,(G.next+1),(G.next+2),u,([]),wg,wn,wn,wn,wn,wn,wn,wi,(by rw [dL];refine q.same (by simp [go_sem];omega) (λj hj=>by have:=(q.W j hj).2;simp [go_sem,cW this])),(by simp [Gt,bG]),(by intro j hj;rw [dL] at hj;have:=(q.W j hj).2;omega),(by intro j hj;cases hj),aD,(by intro j hj _;simp [go_sem,cW hj]),(by simp [go_sem];omega)⟩ λI0 c2 i e H d1=>?_);obtain ⟨X,R,m,x,ns,E0,gX_0,nX_0,gR_0,nR_0,gYb_0,nYb_0,hi,B,hx,A,I,b9,hG,a3⟩:=d1;have d9:=xa2 (dZ (aD:m≠R)) (dZ (aD:m≠X)) (dZ (aD:m≠V)) (xb0 (dZ (aD:m≠b)) (dZ (aD:m≠a)) (dZ (aD:R≠X)) (dZ (aD:R≠V)) (dZ (aD:R≠b)) (dZ (aD:R≠a)) (dZ (aD:X≠V)) (dZ (aD:X≠b)) (dZ (aD:X≠a)) (dZ (aD:V≠b)) (dZ (aD:V≠a)) (dZ (aD:b≠a)));have Y:=xa7 Y E0 gX_0 (cW nX_0) gR_0 (cW nR_0) gYb_0 (cW nYb_0) d9;refine mA (λh3=>?_) λh3=>?_
 .have hsu:=qF r.s.h i;obtain ⟨nd,b0⟩:∃ y,y=r.right.i.h[i]:=⟨_,rfl⟩;have d2:gN r.right.i (i:Int)=nd:=by rw [b0];simp [gN,aA h3]
  have c9:=lF r.s.h i;have c5:x.i.h.length<=2000/\x.k.length<=2000/\x.i.j.length<=2000:=by rw [hx];simp [Gt];omega
  have Y:=xa2 Y h3 (aA h3) (Eq.symm b0);refine wp (h:=aB (Bo r.s.h i) wl ?_);refine mA (λh5=>?_) λh5=>?_
  .have hm:mem r.s.h i=true:=by simpa using h5
   rw [if_pos hm,dL] at hsu;obtain ⟨s,l⟩:∃ y,y=x:=⟨_,rfl⟩;obtain ⟨C,n⟩:∃ y,y=ns:=⟨_,rfl⟩;have E:s=Gt t r u (i+1):=by rw [l,hx];unfold Gt;rw [hsu]
   have K:HH H lo a b V (f++C) s:=by rw [l,n];exact B
   have N:∀ j∈a :: b :: V :: (f++C),j≠X/\j≠R/\j≠m:=by rw [n];exact A
   have O:=hG;have Y:=wa Y l;exact wp (h:=wx c2 (i+1) ⟨X,R,m,s,C,wg,wn,wn,wn,wn,wn,wn,wj,(by first|exact K|(rw [n,<- List.append_assoc,l];exact w.c4 (by first|(simp [go_sem];done)|(simp [go_sem];omega)) aD U (by first|(simp [go_sem];done)|(simp [go_sem];omega)) (by simp [go_sem,Y,o]) (by simp [go_sem,Y,o]) (λj hj=>by obtain ⟨S,P⟩:=M j hj;simp [go_sem,S,P]))),(by exact E),(by exact N),(by rw [n];first|exact I|(intro j hj;rw [aZ,bP] at hj;rcases hj with hj|rfl;exact I j hj;exact a1.2)),(by exact b9),(by first|exact O|(intro j hj g;obtain ⟨ja,jb,jV⟩:=v j g;simp [go_sem,jV,(aD:j≠X)];exact a5 j hj g)),(by first|exact a3|(simp [go_sem];omega))⟩)
  .have hm:¬ mem r.s.h i=true:=by simpa using h5
   rw [if_neg hm] at hsu;have b4:=B.ga;have b6:=B.gV;have c7:=j9 B.len;have e2:=B.W a B.bq;have e3:=B.W V B.bw;have c8:=B.W b B.bp;have e0:(bQ t nd).length<=8:=n5 hR.vf nd;have d6:=xa1 (cW (aD:a<H.next)) (cW (aD:b<H.next)) (cW (aD:V<H.next));have b7:∀ j∈b :: V :: (f++ns),j≠a/\j≠X/\j<H.next:=λj hj=>by
    have J:j∈a :: b :: V :: (f++ns):=dS _ hj;refine ⟨?_,(A j J).1,(B.W j J).2⟩;rintro rfl;have:=B.nd;rw [iS] at this;exact this.1 hj
   have Y:=xa4 Y h5 b4 b6 c7 d6;refine wp (h:=aI (pL t ht nd) wl ?_);refine wp (h:=bC (λk e H=>∃ W:Nat,(e 4=.adr t.c/\e 5=.adr r.c/\e 7=.adr c.c/\e 6=.ptr X 1 0 0/\e 8=.ptr R 1 0 0/\e 9=.ptr m 1 0 0/\e 10=dI i/\e 11=.list ((bQ t nd).map Attr.c)/\e 13=.own W k/\e 14=dI k)/\(H.get X=some ⟨44,3,[[.own a (x.i.h.length+1),.own b x.i.j.length,.own V x.k.length]],false⟩)/\(X<H.next)/\(H.get R=some ⟨44,3,[[.nil,.nil,.nil]],false⟩)/\(R<H.next)/\(H.get m=some ⟨29,2,[[dLI r.right.i.h,.list (r.right.i.j.map Edge.c)]],false⟩)/\(m<H.next)/\(H.get W=some ⟨3,1,(((bQ t nd).take k).map λa=>a.ap).map cI,false⟩)/\(W<H.next)/\(k<=(bQ t nd).length)/\(HH H lo a b V (f++ns) ⟨⟨x.i.h++[nd],x.i.j⟩,x.k⟩)/\(∀ j∈a :: b :: V :: (f++ns),j≠W)/\((lo<=W/\m<W)/\G.next<=W)/\(∀ j,j<G.next->j∉a :: b :: V :: f->H.get j=G.get j)/\(G.next<=H.next)) (λk=>(bQ t nd).length - k) 0 ⟨(H.next+13+12),wg,wn,wn,wn,wn,wn,wn,(by simp [go_sem]),wn,wi,(by exact B.h (by first|(simp [go_sem];done)|(simp [go_sem];omega)) (by simp [go_sem,Y,cI]) (λj hj=>by obtain ⟨S,P,k3⟩:=b7 j hj;simp [go_sem,S,P,cW k3])),(by intro j hj;have:=(B.W j hj).2;omega),(by omega),(by intro j hj g;obtain ⟨ja,jb,jV⟩:=v j g;simp [go_sem,ja,(aD:j≠X),cW (aD:j<H.next)];exact hG j hj g),(by simp [go_sem];omega)⟩ λI2 d4 k e H d0=>?_);obtain ⟨W,E2,gX_2,nX_2,gR_2,nR_2,gYb_2,nYb_2,gW_2,nW_2,hk,w,U,a1,a5,e5⟩:=d0;have d8:=xa8 (dZ (aD:W≠m)) (dZ (aD:W≠R)) (dZ (aD:W≠X)) (dZ (aD:W≠V)) (dZ (aD:W≠b)) (dZ (aD:W≠a)) (dZ (aD:m≠R)) (dZ (aD:m≠X)) (dZ (aD:m≠V)) (xb0 (dZ (aD:m≠b)) (dZ (aD:m≠a)) (dZ (aD:R≠X)) (dZ (aD:R≠V)) (dZ (aD:R≠b)) (dZ (aD:R≠a)) (dZ (aD:X≠V)) (dZ (aD:X≠b)) (dZ (aD:X≠a)) (dZ (aD:V≠b)) (dZ (aD:V≠a)) (dZ (aD:b≠a)));have Y:=xa9 Y E2 gX_2 (cW nX_2) gR_2 (cW nR_2) gYb_2 (cW nYb_2) gW_2 (cW nW_2) d8;refine mA (λa0=>?_) λa0=>?_
   .have hst:((bQ t nd).take (k+1)).map (λa=>a.ap)=((bQ t nd).take k).map (λa=>a.ap)++[(bQ t nd)[k].ap]:=by rw [List.take_succ_eq_append_getElem a0,List.map_append];rfl
    have Y:=xa2 Y a0 (aA a0) @Attr.c.eq_1;exact wp (h:=wx d4 (k+1) ⟨W,wg,wn,wn,wn,wn,wn,wn,(by simp [go_sem,Y,hst,cI]),wn,wj,(by exact w.same (by simp [go_sem]) (λj hj=>by have:=U j hj;simp [go_sem,this])),(by exact U),aD,(by intro j hj g;simp [go_sem,(aD:j≠W)];exact a5 j hj g),(by simp [go_sem];omega)⟩)
   .have hke:k=(bQ t nd).length:=aD;have b5:=w.gV;rw [aG aD] at gW_2;obtain ⟨s,l⟩:∃ y:Host,y=⟨⟨x.i.h++[nd],x.i.j⟩,x.k++[i4 t nd]⟩:=⟨_,rfl⟩;obtain ⟨C,n⟩:∃ y,y=ns++[W]:=⟨_,rfl⟩;have E:s=Gt t r u (i+1):=by rw [l,hx];unfold Gt;rw [hsu];simp [d2]
    have N:∀ j∈a :: b :: V :: (f++C),j≠X/\j≠R/\j≠m:=λj hj=>by
     have e:a :: b :: V :: (f++C)=(a :: b :: V :: (f++ns))++[W]:=by rw [n];simp
     rw [e,aZ,bP] at hj;rcases hj with hj|rfl
     .exact A j hj
     .omega
    have a2:s.i.h.length=x.i.h.length+1/\s.i.j.length=x.i.j.length/\s.k.length=x.k.length+1:=by rw [l];simp
    have M:∀ j∈a :: b :: (f++ns),j≠V/\j≠X:=λj hj=>by
     simp only [aV] at hj;rcases hj with rfl|rfl|hj
     .exact ⟨aD,(A _ w.bq).1⟩
     .exact ⟨aD,(A _ w.bp).1⟩
     .exact ⟨(w.qn hj).2.2,(A _ (w.bi hj)).1⟩
    have o:i4 t nd=(bQ t nd).map λa=>a.ap:=rfl;have Y:=xa2 Y b5 a2 hke;exact wp (h:=wx c2 (i+1) ⟨X,R,m,s,C,wg,wn,wn,wn,wn,wn,wn,wj,(by first|exact K|(rw [n,<- List.append_assoc,l];exact w.c4 (by first|(simp [go_sem];done)|(simp [go_sem];omega)) aD U (by first|(simp [go_sem];done)|(simp [go_sem];omega)) (by simp [go_sem,Y,o]) (by simp [go_sem,Y,o]) (λj hj=>by obtain ⟨S,P⟩:=M j hj;simp [go_sem,S,P]))),(by exact E),(by exact N),(by rw [n];first|exact I|(intro j hj;rw [aZ,bP] at hj;rcases hj with hj|rfl;exact I j hj;exact a1.2)),(by exact b9),(by first|exact O|(intro j hj g;obtain ⟨ja,jb,jV⟩:=v j g;simp [go_sem,jV,(aD:j≠X)];exact a5 j hj g)),(by first|exact a3|(simp [go_sem];omega))⟩)
 .have hie:i=r.right.i.h.length:=aD;have b3:=B.gb;have c9:=lF r.s.h i;have c5:x.i.j.length<=1000:=by rw [hx];exact hs.2.1
  have Y:=wa Y b3;refine wv (h:=bC (λi e H=>∃ x:Host,(e 4=.adr t.c/\e 5=.adr r.c/\e 7=.adr c.c/\e 6=.ptr X 1 0 0/\e 8=.ptr R 1 0 0/\e 9=.ptr m 1 0 0/\e 15=dI i)/\(H.get X=some ⟨44,3,[[.own a x.i.h.length,.own b x.i.j.length,.own V x.k.length]],false⟩)/\(X<H.next)/\(H.get R=some ⟨44,3,[[.nil,.nil,.nil]],false⟩)/\(R<H.next)/\(H.get m=some ⟨29,2,[[dLI r.right.i.h,.list (r.right.i.j.map Edge.c)]],false⟩)/\(m<H.next)/\(i<=r.right.i.j.length)/\(HH H lo a b V (f++ns) x)/\(x=QT t r c (Gt t r u r.right.i.h.length) i)/\(∀ j,j<G.next->j∉a :: b :: V :: f->H.get j=G.get j)/\(G.next<=H.next)) (λi=>r.right.i.j.length - i) 0 ⟨x,wg,wn,wn,wn,wn,wn,wn,wi,(by exact B),(by rw [hx,hie];simp [QT,bG]),(by exact hG),(by exact a3)⟩ λI4 c1 i e H b1=>?_);obtain ⟨x,E4,gX_4,nX_4,gR_4,nR_4,gYb_4,nYb_4,b1,p,T,Z,a4⟩:=b1;have d7:=xa2 (dZ (aD:m≠R)) (dZ (aD:m≠X)) (dZ (aD:m≠V)) (xb0 (dZ (aD:m≠b)) (dZ (aD:m≠a)) (dZ (aD:R≠X)) (dZ (aD:R≠V)) (dZ (aD:R≠b)) (dZ (aD:R≠a)) (dZ (aD:X≠V)) (dZ (aD:X≠b)) (dZ (aD:X≠a)) (dZ (aD:V≠b)) (dZ (aD:V≠a)) (dZ (aD:b≠a)));have Y:=xa7 Y E4 gX_4 (cW nX_4) gR_4 (cW nR_4) gYb_4 (cW nYb_4) d7;refine mA (λF=>?_) λF=>?_
  .have hsu:=qF r.s.j i;obtain ⟨y,hy⟩:=c6 (r.right.i.j[i]);have c4:r.right.i.j[(i:Int).toNat]?.getD cY=y:=by rw [hy];simp [aA F]
   have a9:r.right.i.j[i]?.getD cY=y:=by rw [hy,aA F];rfl
   have c3:=(d3.2 _ (aC F)).2;rw [<- hy] at c3;have a8:y.w.toNat<c.h.length:=aD;have a7:y.M.toNat<c.h.length:=aD;have e4:=lF r.s.j i;have e1:x.i.j.length<=2000:=by rw [T];simp [QT,Gt];omega
   have b2:=p.gb;have c8:=p.W b p.bp;have d5:=cW (aD:b<H.next);have Y:=xa7 Y F (aA F) (Eq.symm hy) (aA a8) (aA a7) b2 @Edge.c.eq_1 d5;refine wv (h:=aB (Bo r.s.j i) wl ?_);refine dR (λa6=>?_) λa6=>?_
   .have hm:¬ mem r.s.j i=true:=by simpa using a6
    rw [if_neg hm] at hsu;have b8:freshE c y=⟨y.type,c.h[y.w.toNat],c.h[y.M.toNat]⟩:=by unfold freshE;rw [aA a8,aA a7];rfl
    obtain ⟨s,l⟩:∃ z:Host,z=⟨⟨x.i.h,x.i.j++[freshE c y]⟩,x.k⟩:=⟨_,rfl⟩;have E:s=QT t r c (Gt t r u r.right.i.h.length) (i+1):=by rw [l,T];unfold QT;rw [hsu];simp [c4,a9]
    have a2:s.i.h.length=x.i.h.length/\s.i.j.length=x.i.j.length+1/\s.k.length=x.k.length:=by rw [l];simp
    have L:∀ j∈a :: V :: (f++ns),j≠b/\j≠X/\j<H.next:=λj hj=>by
     have J:j∈a :: b :: V :: (f++ns):=by simp only [aV] at hj ⊢;rcases hj with h|h|h<;>simp [h]
     refine ⟨?_,(A j J).1,(p.W j J).2⟩;rintro rfl;have:=p.nd;simp only [iS,aV,not_or] at this;simp only [aV] at hj;rcases hj with h|h|h
     .exact this.1.1 h.symm
     .exact this.2.1.1 h
     .exact this.2.1.2 h
    have Y:=wa Y a2;exact wp (h:=wx c1 (i+1) ⟨s,wg,wn,wn,wn,wn,wn,wn,wj,(by first|exact K|(rw [l];exact p.j (by first|(simp [go_sem];done)|(simp [go_sem];omega)) (by simp [go_sem,Y,b8,Edge.c]) (λj hj=>by obtain ⟨S,P,k3⟩:=L j hj;simp [go_sem,S,P,cW k3]))),(by exact E),(by first|exact O|(intro j hj g;obtain ⟨ja,jb,jV⟩:=v j g;simp [go_sem,jb,(aD:j≠X),cW (aD:j<H.next)];exact Z j hj g)),(by first|exact a4|(simp [go_sem];omega))⟩)
   .have hm:mem r.s.j i=true:=by simpa using a6
    rw [if_pos hm,dL] at hsu;obtain ⟨s,l⟩:∃ z,z=x:=⟨_,rfl⟩;have E:s=QT t r c (Gt t r u r.right.i.h.length) (i+1):=by rw [l,T];unfold QT;rw [hsu]
    have K:HH H lo a b V (f++ns) s:=by rw [l];exact p
    have O:=Z;have Y:=wa Y l;exact wp (h:=wx c1 (i+1) ⟨s,wg,wn,wn,wn,wn,wn,wn,wj,(by first|exact K|(rw [l];exact p.j (by first|(simp [go_sem];done)|(simp [go_sem];omega)) (by simp [go_sem,Y,b8,Edge.c]) (λj hj=>by obtain ⟨S,P,k3⟩:=L j hj;simp [go_sem,S,P,cW k3]))),(by exact E),(by first|exact O|(intro j hj g;obtain ⟨ja,jb,jV⟩:=v j g;simp [go_sem,jb,(aD:j≠X),cW (aD:j<H.next)];exact Z j hj g)),(by first|exact a4|(simp [go_sem];omega))⟩)
  .have hie4:i=r.right.i.j.length:=aD;have c0:x=j6 t r c u:=by rw [T,hie4];rfl
   rw [c0] at p;have Y:=wa Y c0;refine wv (h:=?_);exact hQ ns _ I (p.same (by simp [go_sem]) (λj hj=>by simp [go_sem,(A j hj).2.1])) (λj hj g=>by simp [go_sem,(aD:j≠R)];exact Z j hj g) (by simp [go_sem];exact a4)
theorem Kn (c:Part)(vs:V2)(l:List Slot)(s:Slot)(vals:Yb):uQ c vs (l++[s]) vals=(uQ c vs l vals).set (fT c s) (((uQ c vs l vals)[fT c s]?.getD []).set s.H.toNat (dM s.y vs)):=by unfold uQ;rw [sJ];rfl
theorem qC (c:Part)(vs:V2):∀ (l:List Slot) (vals:Yb),(uQ c vs l vals).length=vals.length/\∀ n:Nat,((uQ c vs l vals)[n]?.getD []).length=(vals[n]?.getD []).length
 | [],vals=>⟨rfl,λ_=>rfl⟩
 | s :: l,vals=>by
  obtain ⟨h1,h2⟩:=qC c vs l (vals.set (fT c s) ((vals[fT c s]?.getD []).set s.H.toNat (dM s.y vs)));have e:uQ c vs (s :: l) vals=uQ c vs l (vals.set (fT c s) ((vals[fT c s]?.getD []).set s.H.toNat (dM s.y vs))):=rfl;rw [e];refine ⟨by rw [h1,jP],λn=>?_⟩;rw [h2 n,eI];split
  .rename_i hn;subst hn;split
   .simp
   .rename_i hn;rw [bY aD]
  .rfl
def wC (c:Part)(vs:V2)(l:List Slot)(i k:Nat):Bool:=match l[k]?,l[i]? with|some a,some b=>Cf c vs a b|_,_=>false
theorem xL (c:Part)(vs:V2)(l:List Slot):uE c vs l=(List.range l.length).any λi=>(List.range i).any λk=>wC c vs l i k:=rfl
structure PutOk (t:Types) (r:Rule) (x:Host) (c:Part):Prop where
 Q:c.h.length=r.right.i.h.length
 b5:x.i.h.length<=2000/\x.i.j.length<=2000/\x.k.length<=2000
 spot:∀ s∈r.right.o,0<=c.h[s.node.toNat]?.getD 0/\fT c s<x.k.length/\fT c s<x.i.h.length
 H:∀ s∈r.right.o,s.H<(x.k[fT c s]?.getD []).length/\s.H<(bQ t (x.i.h[fT c s]?.getD 0)).length
theorem Qn (t:Types)(ht:t.ok)(r:Rule)(hR:RuleV t r)(f:Host)(c:Part)(hP:PutOk t r f c)(vs:V2)(a0:vs.length=r.left.vars.toNat)(Z:Sm vs)
  (G:AHeap) (lo a b V:Nat) (w:List Nat) (m:HH G lo a b V w f) (Q:D->AHeap->Prop)
  (L:∀ H',r8 t f.i c vs r.right.o≠0->(∀ j,j<G.next->j∉a :: b :: V :: w->H'.get j=G.get j)->G.next<=H'.next->Q (.tup [.agg [.nil,.nil,.nil],dI (r8 t f.i c vs r.right.o)]) H')
  (hQ:∀ H',r8 t f.i c vs r.right.o=0->(∀ j,j<G.next->j∉a :: b :: V :: w->H'.get j=G.get j)->G.next<=H'.next->Q (.tup [Host.d ⟨f.i,uQ c vs r.right.o f.k⟩,dI 0]) H') :
  ACalls prog 99 [t.d,r.d,.agg [.own a f.i.h.length,.own b f.i.j.length,.own V f.k.length],c.d,dLI vs] G Q:=by
 have g1:=dX hR.gr;have g6:=m.W a m.bq;have g3:=m.W b m.bp;have g7:=m.W V m.bw;have g5:=m.ab;have s:=hR.o;have c1:=hR.b5;obtain ⟨l,hl⟩:=c6 (r.right.o);rw [<- hl] at L hQ s c1;have n:=hP.spot;have K:=hP.H;rw [<- hl] at n K;have g2:=hP.Q;obtain ⟨Q',N⟩:∃ Q':D->AHeap->Prop,∀ d H',Q' d H'↔Q (jK H' d) (f5 (By H' d) H'):=⟨_,λ_ _=>Iff.rfl⟩;refine ACalls.cN ?_;rw [show (λd H'=>Q (jK H' d) (f5 (By H' d) H'))=Q' from funext λd=>funext λH'=>propext (N d H').symm];refine (Tz.cK ⟨λt=>t==7||t==10,λ_=>[]⟩ func99 rfl ?_);have Y:=xa2 @Part.d.eq_1 @Part.c.eq_1 (Eq.symm hl) @Term.c.eq_1;refine wv (h:=bC (λi e H=>∃ X:Nat,∃ R:Nat,(e 5=.adr t.c/\e 6=.adr r.c/\e 8=.adr c.c/\e 4=dLI vs/\e 12=.list (l.map Slot.c)/\e 7=.ptr X 1 0 0/\e 10=.ptr R 1 0 0/\e 13=dI i)/\(H.get X=some ⟨44,3,[[.own a f.i.h.length,.own b f.i.j.length,.own V f.k.length]],false⟩)/\(X<H.next)/\(H.get R=some ⟨44,3,[[.nil,.nil,.nil]],false⟩)/\(R<H.next)/\(i<=l.length)/\(HH H lo a b V w f)/\(∀ j∈a :: b :: V :: w,j≠X/\j≠R)/\(G.next<=X/\X<R)/\(∀ p q,p<i->q<p->wC c vs l p q=false)/\(∀ j,j<G.next->j∉a :: b :: V :: w->H.get j=G.get j)/\(G.next<=H.next)) (λi=>l.length - i) 0 ⟨G.next,(G.next+1),wg,wn,wn,wn,wn,wi,(by exact m.same (by simp [go_sem];omega) (λj u=>by have:=(m.W j u).2;simp [go_sem,cW this])),(by intro j u;have:=(m.W j u).2;omega),aD,(by intro p q hp;omega),(by intro j u _;simp [go_sem,cW u]),(by simp [go_sem];omega)⟩ λI0 e7 i e H d6=>?_);obtain ⟨X,R,E0,gX_0,nX_0,gR_0,nR_0,hi,hh,a5,e3,hC,hG,b3⟩:=d6;have f4:=xa8 (dZ (aD:R≠X)) (dZ (aD:R≠V)) (dZ (aD:R≠b)) (dZ (aD:R≠a)) (dZ (aD:X≠V)) (dZ (aD:X≠b)) (dZ (aD:X≠a)) (dZ (aD:V≠b)) (dZ (aD:V≠a)) (dZ (aD:b≠a));have Y:=xa5 Y E0 gX_0 (cW nX_0) gR_0 (cW nR_0) f4;refine mA (λh3=>?_) λh3=>?_
 .have hlm:=aC h3;have a6:=(s _ hlm).2.2;have d2:=(s _ hlm).1;have z:l[i].node.toNat<c.h.length:=aD;have Y:=xa3 Y h3 (aA h3) @Slot.c.eq_1 (aA z);refine wp (h:=aB (kI l[i].y vs (by rw [a0];exact a6) Z) wl ?_);refine wp (h:=bC (λk e H=>(e 5=.adr t.c/\e 6=.adr r.c/\e 8=.adr c.c/\e 4=dLI vs/\e 12=.list (l.map Slot.c)/\e 7=.ptr X 1 0 0/\e 10=.ptr R 1 0 0/\e 13=dI i/\e 14=dI (dM l[i].y vs)/\e 16=dI k)/\(H.get X=some ⟨44,3,[[.own a f.i.h.length,.own b f.i.j.length,.own V f.k.length]],false⟩)/\(X<H.next)/\(H.get R=some ⟨44,3,[[.nil,.nil,.nil]],false⟩)/\(R<H.next)/\(k<=i)/\(HH H lo a b V w f)/\(∀ q,q<k->wC c vs l i q=false)/\(∀ j,j<G.next->j∉a :: b :: V :: w->H.get j=G.get j)/\(G.next<=H.next)) (λk=>i - k) 0 ⟨wg,wn,wn,wn,wn,wi,(by exact hh.same (by first|(simp [go_sem];done)|(simp [go_sem];omega)) (λ_ _=>rfl)),(by intro q P;omega),(by exact hG),(by first|exact b3|(simp [go_sem];omega))⟩ λI2 e6 k e H d5=>?_);obtain ⟨E2,gX_2,nX_2,gR_2,nR_2,hk,c0,c5,a8,a3⟩:=d5;have f3:=xa8 (dZ (aD:R≠X)) (dZ (aD:R≠V)) (dZ (aD:R≠b)) (dZ (aD:R≠a)) (dZ (aD:X≠V)) (dZ (aD:X≠b)) (dZ (aD:X≠a)) (dZ (aD:V≠b)) (dZ (aD:V≠a)) (dZ (aD:b≠a));have Y:=xa5 Y E2 gX_2 (cW nX_2) gR_2 (cW nR_2) f3;refine dR (λh7=>?_) λh7=>?_
  .have hkl:k<l.length:=aD;have a4:=aC hkl;have e4:=(s _ a4).2.2;have g0:=(s _ a4).1;have J:l[k].node.toNat<c.h.length:=aD;have d0:=(n _ hlm).1;have c9:=(n _ a4).1;rw [aA z,Option.getD_some] at d0;rw [aA J,Option.getD_some] at c9;have c4:wC c vs l i k=(decide (c.h[l[k].node.toNat]=c.h[l[i].node.toNat])&&(decide (l[k].H=l[i].H)&&decide (dM l[k].y vs≠dM l[i].y vs))):=by
    unfold wC Cf fT;simp only [aA hkl,aA h3,aA z,aA J,Option.getD_some];rw [show (decide ((c.h[l[k].node.toNat]).toNat=(c.h[l[i].node.toNat]).toNat))=decide (c.h[l[k].node.toNat]=c.h[l[i].node.toNat]) from by rw [decide_eq_decide];omega]
   have Y:=xa2 Y h7 (aA hkl) (aA J);refine wp (h:=aB (kI l[k].y vs (by rw [a0];exact e4) Z) wl ?_);refine mA (λI=>?_) λI=>?_
   .have hB:uE c vs l=true:=by
     rw [xL,bB];refine ⟨i,by simpa using h3,?_⟩;rw [bB];refine ⟨k,by simpa using h7,?_⟩;rw [c4];simp at I ⊢;exact ⟨I.1.1,I.1.2,λe=>I.2 e.symm⟩
    have hE:r8 t f.i c vs l=11:=by unfold r8;rw [if_pos hB]
    refine wv (h:=?_);rw [hE] at L;refine (N _ _).2 ?_;simp only [jK,kQ,qX,fW,By,HZ,Mr,l9,iX,jY,oV,JU,dL,f5];exact L _ (by decide) (λj u o=>by simp [go_sem,(aD:j≠R)];exact a8 j u o) (by first|(simp [go_sem];omega)|exact a3)
   .have hCk:wC c vs l i k=false:=by
     rw [c4,bK];intro A;simp at A;exact A.2.2 (I A.1 A.2.1).symm
    exact wp (h:=wx e6 (k+1) ⟨wg,wn,wn,wn,wn,wj,(by exact c0.same (by first|(simp [go_sem];done)|(simp [go_sem];omega)) (λ_ _=>rfl)),(by intro q P;rcases bX q k with hqk|hqk;exact c5 q hqk;(obtain rfl:q=k:=aD;exact hCk)),(by exact a8),(by first|exact a3|(simp [go_sem];omega))⟩)
  .exact wp (h:=wx e7 (i+1) ⟨X,R,wg,wn,wn,wn,wn,wj,(by exact c0),(by exact a5),(by exact e3),(by intro p q hp P;rcases bX p i with hpi|hpi;exact hC p q hpi P;(obtain rfl:p=i:=aD;exact c5 q aD)),(by exact a8),(by exact a3)⟩)
 .have hB:uE c vs l=false:=by
   rw [xL,bK];intro A;rw [bB] at A;obtain ⟨p,hp,A⟩:=A;rw [bB] at A;obtain ⟨q,P,A⟩:=A;rw [aW] at hp P;rw [hC p q aD P] at A;cases A
  have O:r8 t f.i c vs l=if l.any (yC t f.i c vs)=true then 6 else 0:=by unfold r8;rw [if_neg (by rw [hB];simp)]
  refine wv (h:=bC (λi e H=>∃ x:Host,(e 5=.adr t.c/\e 6=.adr r.c/\e 8=.adr c.c/\e 4=dLI vs/\e 12=.list (l.map Slot.c)/\e 7=.ptr X 1 0 0/\e 10=.ptr R 1 0 0/\e 19=dI i)/\(H.get X=some ⟨44,3,[[.own a f.i.h.length,.own b f.i.j.length,.own V f.k.length]],false⟩)/\(X<H.next)/\(H.get R=some ⟨44,3,[[.nil,.nil,.nil]],false⟩)/\(R<H.next)/\(i<=l.length)/\(x=⟨f.i,uQ c vs (l.take i) f.k⟩)/\(HH H lo a b V w x)/\((l.take i).any (yC t f.i c vs)=false)/\(∀ j,j<G.next->j∉a :: b :: V :: w->H.get j=G.get j)/\(G.next<=H.next)) (λi=>l.length - i) 0 ⟨f,wg,wn,wn,wn,wn,wi,(by rfl),(by exact hh),(by rfl),(by exact hG),(by exact b3)⟩ λI4 e5 i e H b8=>?_);obtain ⟨x,E4,gX_4,nX_4,gR_4,nR_4,b8,hx,g,hO,a7,b7⟩:=b8;have f2:=xa8 (dZ (aD:R≠X)) (dZ (aD:R≠V)) (dZ (aD:R≠b)) (dZ (aD:R≠a)) (dZ (aD:X≠V)) (dZ (aD:X≠b)) (dZ (aD:X≠a)) (dZ (aD:V≠b)) (dZ (aD:V≠a)) (dZ (aD:b≠a));have Y:=xa5 Y E4 gX_4 (cW nX_4) gR_4 (cW nR_4) f2;refine mA (λF=>?_) λF=>?_
  .have hlm:=aC F;have a6:=(s _ hlm).2.2;have d2:=(s _ hlm).1;have g4:=(s _ hlm).2.1;have z:l[i].node.toNat<c.h.length:=aD;obtain ⟨s1,s2,s3⟩:=n _ hlm;obtain ⟨a1,a2⟩:=K _ hlm;have c8:fT c l[i]=(c.h[l[i].node.toNat]).toNat:=by unfold fT;rw [aA z];rfl
   rw [aA z,Option.getD_some] at s1;have b2:=qC c vs (l.take i) f.k;have C:x.i=f.i:=by rw [hx]
   have U:x.k=uQ c vs (l.take i) f.k:=by rw [hx]
   have W:x.k.length=f.k.length:=by rw [U];exact b2.1
   have b5:fT c l[i]<x.k.length:=aD;have b6:fT c l[i]<x.i.h.length:=by rw [C];exact s3
   have d3:fT c l[i]<w.length:=by rw [g.len];exact b5
   obtain ⟨q,P⟩:=c6 (w[fT c l[i]]);obtain ⟨v,hv⟩:=c6 (x.k[fT c l[i]]);have e1:w[fT c l[i]]?=some q:=by rw [aA d3,P]
   have e2:x.k[fT c l[i]]?=some v:=by rw [aA b5,hv]
   have b1:=tE e1 e2;have d7:=g.gq _ _ _ e1 e2;have f6:v.length=(f.k[fT c l[i]]?.getD []).length:=by rw [<- b2.2,<- U,e2];rfl
   have e0:l[i].H.toNat<v.length:=aD;obtain ⟨nd,b4⟩:∃ y,y=x.i.h[fT c l[i]]:=⟨_,rfl⟩;have S:f.i.h[fT c l[i]]?.getD 0=nd:=by rw [b4,<- C,aA b6];rfl
   rw [S] at a2;have c2:l[i].H.toNat<(bQ t nd).length:=aD;have B:q∈w:=aK e1;have f7:=g.W q (g.bi B);have f9:=a5 q (g.bi B);have f8:=g.qn B;have c3:yC t f.i c vs l[i]=(decide (dM l[i].y vs<(bQ t nd)[l[i].H.toNat].ap)||decide ((bQ t nd)[l[i].H.toNat].a8<dM l[i].y vs)):=by unfold yC;rw [S,aA c2];rfl
   have e9:=g.ga;have e8:=g.gb;have f0:=g.gV;have d8:f.i.h.length=x.i.h.length:=by rw [C]
   have d1:=j9 g.len;have f1:=xa2 (dZ (aD:R≠X)) (dZ (aD:R≠V)) (dZ (aD:R≠b)) (xb0 (dZ (aD:R≠a)) (dZ (aD:R≠q)) (dZ (aD:X≠V)) (dZ (aD:X≠b)) (dZ (aD:X≠a)) (dZ (aD:X≠q)) (dZ (aD:V≠b)) (dZ (aD:V≠a)) (dZ (aD:V≠q)) (dZ (aD:b≠a)) (dZ (aD:b≠q)) (dZ (aD:a≠q)));have Y:=xa7 Y F (aA F) @Slot.c.eq_1 (aA z) (Eq.symm c8) e9 e8 (xb0 f0 b1 d7 d1 (aA b6) (Eq.symm b4) (aA c2) (aA e0) @Attr.c.eq_1 W.symm d8 f1);refine wp (h:=aB (kI l[i].y vs (by rw [a0];exact a6) Z) wl ?_);refine wp (h:=aI (pL t ht nd) wl ?_);refine mA (λa9=>?_) λa9=>?_
   .have A:l.any (yC t f.i c vs)=true:=bB.2 ⟨_,hlm,by rw [c3];simpa using a9⟩;rw [if_pos A] at O;refine wv (h:=?_);rw [O] at L;refine (N _ _).2 ?_;simp only [jK,kQ,qX,fW,By,HZ,Mr,l9,iX,jY,oV,JU,dL,f5];exact L _ (by decide) (λj u o=>by simp [go_sem,(aD:j≠R)];exact a7 j u o) (by first|(simp [go_sem];omega)|exact b7)
   .have hOi:yC t f.i c vs l[i]=false:=by rw [c3];simpa using a9
    obtain ⟨x2,b0⟩:∃ y:Host,y=⟨x.i,x.k.set (fT c l[i]) (v.set l[i].H.toNat (dM l[i].y vs))⟩:=⟨_,rfl⟩;have c7:x2=⟨f.i,uQ c vs (l.take (i+1)) f.k⟩:=by
     rw [b0,List.take_succ_eq_append_getElem F,Kn,<- U,e2,C];rfl
    exact wp (h:=wx e5 (i+1) ⟨x2,wg,wn,wn,wn,wn,wj,(by exact c7),(by rw [b0];exact g.ea (by first|(simp [go_sem];done)|(simp [go_sem];omega)) e1 e2 aE (by simp [go_sem,Y,dB,cI]) (λj u d4=>by simp [go_sem,d4])),(by rw [List.take_succ_eq_append_getElem F,Cn,hO];simp [hOi]),(by intro j u o;simp [go_sem,show j≠q from λe=>o (e ▸ g.bi B)];exact a7 j u o),(by simp [go_sem];omega)⟩)
  .rw [aG aD] at hO hx;rw [if_neg (by rw [hO];simp)] at O;have C:x.i=f.i:=by rw [hx]
   have W:x.k.length=f.k.length:=by rw [hx];exact (qC c vs l f.k).1
   refine wv (h:=?_);refine (N _ _).2 ?_;obtain ⟨E,M⟩:=c6 (H.put R ⟨44,3,[[.own a f.i.h.length,.own b f.i.j.length,.own V f.k.length]],false⟩);have b9:HH E lo a b V w x:=g.same (by rw [M];simp [go_sem]) (λj u=>by rw [M];simp [go_sem,(a5 j u).2]);rw [<- M];have hd:=b9.cN;rw [C,W] at hd;have T:=b9.hr f.i.h.length f.i.j.length f.k.length 0;simp only [dI] at T;have d9:kQ E (D.int .i64 0)=.int .i64 0:=rfl;simp only [jK,iX,jY,hd,d9];rw [hx];refine hQ _ O (λj u o=>?_) ?_
   .rw [B0 _ _ j (λhm=>o (T _ hm)),M];simp [go_sem,(aD:j≠R)];exact a7 j u o
   .rw [(yJ _ E).2,M];simp [go_sem];exact b7
end Go.Abs
end
