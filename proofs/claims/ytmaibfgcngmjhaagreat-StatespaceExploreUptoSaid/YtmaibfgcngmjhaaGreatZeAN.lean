/- Layer 22, the reference: conditions. · Layer 24, the referen -/
import Derived.Test.YtmaibfgcngmjhaaGreatZeAG
import Derived.Test.YtmaibfgcngmjhaaGreatZeAA
import Derived.Test.YtmaibfgcngmjhaaGreatZeAJ
import Derived.Test.YtmaibfgcngmjhaaGreatZeAK
import Derived.Test.YtmaibfgcngmjhaaGreatZeAM
set_option linter.unusedVariables false
set_option linter.unusedSimpArgs false
section
set_option maxRecDepth 100000
set_option maxHeartbeats 4000000
open Go Go.Proofs Tryz
namespace Go.Abs
theorem G1 (a b:Graph)(m:Part):Pua 231 [a.d,b.d,m.d] (.bool (Jh a b m)):=by
 refine Tz.p0 func231 rfl λQ e Y=>?_;refine wo (h:=aB (wD a b m) wl ?_);refine wo (h:=aN (λc=>qR m.i) (λc=>wl) ?_);refine wo (h:=aN (λc=>qR m.j) (λc=>wl) ?_);exact wo (h:=e _ _ (by simp [go_sem,Jh,Bool.and_assoc]))
theorem Np (c:Cond)(a:c.bq):Pua 330 [.agg c.c] (.bool (bareB c)):=by
 obtain ⟨j,i,g,f,e,d⟩:=a;refine Tz.p0 func330 rfl λQ b _=>?_;have Y:=@Cond.F;exact wo (h:=b _ _ (by simp [go_sem,bareB];rw [bB];simp;omega))
theorem Pf (c:Cond)(m:c.bq):Pua 287 [.agg c.c] (.bool (tJ c)):=by
 have a:∀ e:Int,e=c.kind->Pua 330 [.agg [dI e,.list (c.y.map Cond.c),dLI c.map.i,dLI c.map.j,dLI c.u.o.i,.list (c.u.o.j.map Edge.c),.list (c.u.q.map Slot.c),dI c.u.vars,.list (c.u.R.map Test.c)]] (.bool (bareB c)):=by
  intro e f;have:=Np c m;rwa [Cond.F,<- f] at this
 refine Tz.p0 func287 rfl λQ d _=>?_;have Y:=@Cond.F;refine dD (λl=>?_) λl=>?_
 .have Y:=wa Y l;refine wo (h:=aN (λb=>(a _ bL)) (λb=>wl) ?_);exact wo (h:=d _ _ (by simp [go_sem,tJ,Y]))
 .have Y:=wa Y l;refine dD (λk=>?_) λk=>?_
  .have Y:=wa Y k;refine wo (h:=aN (λb=>(a _ bL)) (λb=>wl) ?_);exact wo (h:=d _ _ (by simp [go_sem,tJ,Y]))
  .have Y:=wa Y k;refine dD (λj=>?_) λj=>?_
   .have Y:=wa Y j;refine wo (h:=aN (λb=>(a _ bL)) (λb=>wl) ?_);exact wo (h:=d _ _ (by simp [go_sem,tJ,Y];rw [bB];simp;omega))
   .have Y:=wa Y j;refine dD (λi=>?_) λi=>?_
    .have Y:=wa Y i;refine wo (h:=aN (λb=>(a _ bL)) (λb=>wl) ?_);exact wo (h:=d _ _ (by simp [go_sem,tJ,Y];rw [bB];simp;omega))
    .have Y:=wa Y i;refine dD (λg=>?_) λg=>?_
     .have Y:=wa Y g;exact wo (h:=d _ _ (by simp [go_sem,tJ,Y];rw [bB];simp))
     .have Y:=wa Y g;exact wv (h:=d _ _ (by simp [go_sem,tJ,Y]))
theorem Iu:∀ c:Cond,c.ok->Pua 228 [.agg c.c] (.bool (Oz c)):=by
 refine lU λc p s=>?_;obtain ⟨q,r⟩:=(w4 c).1 s;have g:=w5 c;refine Tz.p0 func228 rfl λQ j _=>?_;have Y:=@Cond.F;refine wo (h:=aB ((by have:=Pf c q;rwa [Cond.F] at this)) wl ?_);refine dZ (λd=>?_) λd=>?_
 .exact wv (h:=j _ _ (.inl (fc g d)))
 .refine wv (h:=bA (λi e H=>(e 1=.adr c.c/\e 3=dI i)/\(i<=c.y.length)/\(((c.y.take i).any λk=>!Oz k)=false)) (λi=>c.y.length - i) 0 ⟨wg,wi,(by rfl)⟩ λv l i e H f=>?_);obtain ⟨t,u,o⟩:=f;have Y:=wa Y t;refine wv (h:=?_);repeat first|intro _|refine ⟨iV,?_⟩
  refine wq (λb=>?_) λb=>?_
  .have Y:=wa Y b;refine wo (h:=aB ((by have:=p _ (aC b) (r _ (aC b));rwa [Cond.F] at this)) wl ?_);refine dZ (λm=>?_) λm=>?_
   .refine wv (h:=?_);have a:c.y.all Oz=false:=by rw [bP];intro h;rw [cF] at h;have:=h _ (aC b);rw [m] at this;cases this
    exact j _ _ (.inl (by simp only [go_sem,g,d,a,GT]))
   .exact wo (h:=wx l (i+1) ⟨wg,wj,(by rw [dS _ _ _ b,o];simp [m])⟩)
  .refine wv (h:=?_);have n:=oW o b;have a:c.y.all Oz=true:=by simp at n ⊢;exact n
   exact j _ _ (.inl (by simp only [go_sem,g,d,a,CG]))
theorem Kz:∀ c:Cond,c.size<=1000000->Pua 229 [.agg c.c] (.tup [dI c.size,dI c.bv]):=by
 refine lU λc x F=>?_;have f:=v7 c;have g:=Xk c;have A:=BX c.y;refine Tz.p0 func229 rfl λQ v _=>?_;try simp [go_sem,seval,Cond.F]
 obtain ⟨t,j⟩:∃ t:Nat->dO->AHeap->Prop,∀ (i:Nat) (e:dO) (H:AHeap),t i e H↔((e 1=.adr c.c)/\(e 4=dI ((1+Cond.X (c.y.take i):Nat):Int))/\(e 5=dI (Cond.ax (c.y.take i):Nat))/\(e 6=dI i)/\(i<=c.y.length)):=⟨λi e H=>_,λ_ _ _=>Iff.rfl⟩;refine tI t (λi=>c.y.length - i) (0) ((j _ _ _).2 ⟨?_,?_,?_,?_,(by first|assumption|omega|(simp [go_sem,Cond.F];done)|(simp_all;done))⟩) ?_;iterate 4 (first|omega|(simp [go_sem,seval,Cond.F]<;>omega))
 intro i e H p;obtain ⟨n,d,b,m,E⟩:=(j _ _ _).1 p;have l:=xa0 n m;try simp [go_sem,seval,Cond.F,l]
 repeat first|intro _|refine ⟨iV,?_⟩
 refine aU (λh=>?_) (λh=>?_)
 .try simp [go_sem] at h
  have z:=Dr (aC h);have C:=SE c.y[i];have o:=aD h;have q:=Ib (c.y.take i) c.y[i];have r:=Mp (c.y.take i) c.y[i];have y:=Ia c.y (i+1);have u:Cond.X (c.y.take (i+1))=Cond.X (c.y.take i)+c.y[i].size:=by rw [o,q]
  have w:Cond.ax (c.y.take (i+1))=max (Cond.ax (c.y.take i)) c.y[i].bv:=by rw [o,r]
  have B:=BX (c.y.take i);try simp [go_sem,seval,Cond.F,l,h]
  repeat first|intro _|refine ⟨iV,?_⟩
  refine aB ((by have:=x _ (aC h) bL;rwa [Cond.F] at this)) (em) ?_;try simp [go_sem,seval,l,d,b]
  repeat first|intro _|refine ⟨iV,?_⟩
  refine gU (i+1) bL ((j _ _ _).2 ⟨?_,?_,?_,?_,(by first|assumption|omega|(simp [go_sem,Cond.F,l,d,b,h,u,w,KH];done)|(simp_all<;>omega))⟩)<;>first|omega|(simp [go_sem,seval,Cond.F,l,u,w]<;>omega)
 .try simp [go_sem] at h
  have D:c.y.take i=c.y:=aH h;rw [D] at d b;try simp [go_sem,seval,Cond.F,l]
  refine aU (λk=>?_) (λk=>?_)
  .try simp [go_sem] at k
   try simp [go_sem,seval,d,b]
   repeat first|intro _|refine ⟨iV,?_⟩
   exact v _ _ (by first|(left;(simp [go_sem,f,g,k]);done)|(right;(simp [go_sem,f,g,k]);done))
  .try simp [go_sem] at k
   try simp [go_sem,seval,d,b]
   exact v _ _ (by first|(left;(simp [go_sem,f,g,k]);done)|(right;(simp [go_sem,f,g,k]);done))
theorem Pi (c:Cond)(e:c.ok)(d:c.size<=1000000):Pua 163 [.agg c.c] (dI (uO c)):=by
 refine Tz.p0 func163 rfl λQ b _=>?_;have Y:=@Cond.F;refine wo (h:=aB ((by have:=Iu c e;rwa [Cond.F] at this)) wl ?_);refine dZ (λa=>?_) λa=>?_
 .exact wv (h:=b _ _ (by simp [go_sem,uO,a]))
 .refine wv (h:=aB ((by have:=Kz c d;rwa [Cond.F] at this)) wl ?_);refine dZ (λf=>?_) λf=>?_
  .exact wv (h:=b _ _ (by simp [go_sem,uO,a];omega))
  .exact wv (h:=b _ _ (by simp [go_sem,uO,a];omega))
theorem Nq (p:Pattern)(v:Int):Pua 288 [p.d,dI v] (.bool (kS p v)):=by
 refine Tz.p0 func288 rfl λQ l Y=>?_;refine wv (h:=bA (λi e H=>(e 2=.adr p.c/\e 1=dI v/\e 5=dI i)/\(i<=p.q.length)/\(((p.q.take i).any λs=>decide (s.E.var=v))=false)) (λi=>p.q.length - i) 0 ⟨wg,wi,(by rfl)⟩ λo g i e H b=>?_);obtain ⟨m,n,k⟩:=b;have Y:=wa Y m;refine wv (h:=?_);repeat first|intro _|refine ⟨iV,?_⟩
 refine wq (λa=>?_) λa=>?_
 .have Y:=wa Y a;refine dZ (λj=>?_) λj=>?_
  .refine wv (h:=?_);have f:kS p v=true:=aZ.2 ⟨_,aC a,by simpa using j⟩;exact l _ _ (.inl (by simp only [go_sem,f]))
  .exact wo (h:=wx g (i+1) ⟨wg,wj,(by rw [dS _ _ _ a,k];simpa using j)⟩)
 .refine wv (h:=?_);have f:kS p v=false:=oW k a;exact l _ _ (.inl (by simp only [go_sem,f]))
def wQ (t:Types)(o:Int)(q:Pattern):Int:=if q.vars<o then 20 else pY t q o
theorem Pg (t:Types)(x:t.ok)(o:Int)(r:0<=o)(q:Pattern):Pua 230 [t.d,dI o,q.d] (dI (wQ t o q)):=by
 refine Tz.p0 func230 rfl λQ f Y=>?_;refine dD (λp=>?_) λp=>?_
 .exact wv (h:=f _ _ (by simp [go_sem,wQ,p]))
 .refine wv (h:=aB (wA t x q) wl ?_);refine dD (λa=>?_) λa=>?_
  .exact wv (h:=f _ _ (by simp [go_sem,wQ,pY,a];omega))
  .have g:=lX (.inl a);have n:wQ t o q=pY t q o:=by unfold wQ;rw [if_neg bL]
   refine wv (h:=bA (λv e H=>(e 5=.adr q.c/\e 7=dI 9/\e 8=dI (o+v))/\(∀ u:Int,o<=u->u<o+v->kS q u=true)) (λv=>(q.vars - o).toNat - v) 0 ⟨wg,(by intro u b g;omega)⟩ λA j v e H i=>?_);obtain ⟨z,m⟩:=i;have Y:=wa Y z;refine dD (λl=>?_) λl=>?_
   .have Y:=wa Y l;refine wo (h:=aB (Nq q _) wl ?_);refine dZ (λk=>?_) λk=>?_
    .exact wv (h:=f _ _ (by rw [n,Gx a r (v:=o+v) bL l (cG k)];simp [go_sem]))
    .have ho':∀ u:Int,o<=u->u<o+((v+1:Nat):Int)->kS q u=true:=λu b g=>by
      by_cases y:u<o+v
      .exact m u b y
      .rw [(bL:u=o+v)];simpa using k
     exact wo (h:=wx j (v+1) ⟨wg,(ho')⟩)
   .exact wv (h:=f _ _ (by rw [n,Gv a r λu b g=>m u b bL];simp [go_sem]))
theorem RO (t:Types)(G:t.ok):∀ (c:Cond) (p:Pattern),0<=p.vars->p.vars<=12->Pua 164 [t.d,p.d,.agg c.c] (dI (sS t p c)):=by
 refine lU λc D p u A=>?_;have j:=Hx t p c;refine Tz.pK ⟨λt=>t==7,λ_=>[]⟩ func164 rfl (λQ n=>?_);have Y:=@Cond.F;refine dD (λx=>?_) λx=>?_
 .rw [if_pos x,if_pos x] at j;refine wv (h:=aB (Pg t G p.vars u c.u) wl ?_);refine dD (λr=>?_) λr=>?_
  .have hE:kT t p c.map c.u=wQ t p.vars c.u:=by
    unfold kT;unfold wQ at r ⊢;split
    .rfl
    .rename_i h';rw [if_neg h'] at r;rw [if_pos r]
   exact wv (h:=n _ _ (by rw [j,hE,if_pos bL];simp [go_sem]))
  .have hv0:¬ c.u.vars<p.vars/\pY t c.u p.vars=0:=by
    unfold wQ at r;split at r
    .omega
    .exact ⟨by assumption,r⟩
   have F:=hv0.1;have z:=hv0.2;refine wv (h:=aB (wD p.o c.u.o c.map) wl ?_);refine dD (λy=>?_) λy=>?_
   .exact wv (h:=n _ _ (by simp [go_sem,j,kT,z,y];omega))
   .refine wo (h:=aB (G1 p.o c.u.o c.map) wl ?_);refine dZ (λB=>?_) λB=>?_
    .exact wv (h:=n _ _ (by simp [go_sem,j,kT,z,y,B];omega))
    .have hE0:kT t p c.map c.u=0:=by simp [kT,z,y,B];omega
     rw [hE0,if_neg bL] at j;obtain ⟨w,g⟩:=cY (c.u);have E:=Gw z;have l:0<=w.vars:=by rw [g];exact E.1
     have k:w.vars<=12:=by rw [g];exact E.2
     have q:sS t p c=iN (sS t w) c.y:=by rw [j,g]
     refine wv (h:=bA (λi e H=>(e 3=.adr t.c/\e 5=.adr c.c/\e 7=.ptr 0 1 0 0/\e 10=dI i)/\(H.get 0=some ⟨52,5,[w.c],false⟩)/\(0<H.next)/\(i<=c.y.length)/\(iN (sS t w) (c.y.drop i)=sS t p c)) (λi=>c.y.length - i) 0 ⟨wg,(eD g),wn,wi,(by exact q.symm)⟩ λJ o i e H m=>?_);obtain ⟨C,f,b,I,v⟩:=m;have Y:=xa2 Y C f (bU b);refine wv (h:=?_);repeat first|intro _|refine ⟨iV,?_⟩
     refine wq (λa=>?_) λa=>?_
     .have hst:=v;rw [lY _ a] at hst;have Y:=wa Y a;refine wo (h:=aJ ((by have:=D _ (aC a) w l k;rwa [Cond.F] at this)) wl ?_);refine dZ (λs=>?_) λs=>?_
      .rw [if_pos bL] at hst;exact wv (h:=n _ _ (eD hst))
      .rw [if_neg bL] at hst;exact wo (h:=wx o (i+1) ⟨wg,cl,wn,wj,(by exact hst)⟩)
     .exact wv (h:=n _ _ (by rw [<- v,nC _ bL];simp [go_sem]))
 .rw [if_neg x,if_neg bL,if_neg x] at j;obtain ⟨w,g⟩:=cY (p);have l:0<=w.vars:=by rw [g];exact u
  have k:w.vars<=12:=by rw [g];exact A
  have q:sS t p c=iN (sS t w) c.y:=by rw [j,g]
  refine wv (h:=bA (λi e H=>(e 3=.adr t.c/\e 5=.adr c.c/\e 7=.ptr 0 1 0 0/\e 10=dI i)/\(H.get 0=some ⟨52,5,[w.c],false⟩)/\(0<H.next)/\(i<=c.y.length)/\(iN (sS t w) (c.y.drop i)=sS t p c)) (λi=>c.y.length - i) 0 ⟨wg,(eD g),wn,wi,(by exact q.symm)⟩ λJ o i e H m=>?_);obtain ⟨C,f,b,I,v⟩:=m;have Y:=xa2 Y C f (bU b);refine wv (h:=?_);repeat first|intro _|refine ⟨iV,?_⟩
  refine wq (λa=>?_) λa=>?_
  .have hst:=v;rw [lY _ a] at hst;have Y:=wa Y a;refine wo (h:=aJ ((by have:=D _ (aC a) w l k;rwa [Cond.F] at this)) wl ?_);refine dZ (λs=>?_) λs=>?_
   .rw [if_pos bL] at hst;exact wv (h:=n _ _ (eD hst))
   .rw [if_neg bL] at hst;exact wo (h:=wx o (i+1) ⟨wg,cl,wn,wj,(by exact hst)⟩)
  .exact wv (h:=n _ _ (by rw [<- v,nC _ bL];simp [go_sem]))
theorem Gh (t:Types)(f:t.ok)(p:Pattern)(c:Cond)(i:c.ok)(g:c.size<=1000000):Pua 91 [t.d,p.d,.agg c.c] (dI (condF t p c)):=by
 refine Tz.p0 func91 rfl λQ b _=>?_;have Y:=@Cond.F;refine wv (h:=aB (wA t f p) wl ?_);refine dD (λa=>?_) λa=>?_
 .have Y:=xa1 Y a @condF.eq_1;exact wv (h:=b _ _ wy)
 .have hv:=lX (.inr a);refine wv (h:=aB ((by have:=Pi c i g;rwa [Cond.F] at this)) wl ?_);refine dD (λe=>?_) λe=>?_
  .have Y:=xa2 Y a e @condF.eq_1;exact wv (h:=b _ _ wy)
  .refine wv (h:=aB ((by have:=RO t f c p hv.1 hv.2;rwa [Cond.F] at this)) wl ?_);have Y:=xa2 Y a e @condF.eq_1;exact wv (h:=b _ _ wy)
theorem DY {l:Xa0}{v:Int}(e:l.Pairwise (· < ·))(f:mem l v=true):Ox l v=yI l v:=by
 obtain ⟨i,d,g⟩:=aM ((mem_iff l v).1 f);have a:=cA.1 e;rw [yQ (i:=i) (λj c h=>by
   have b:j<l.length:=bL;rw [aA b] at h;have:=a j i b d c;simp at h;omega) (by rw [aA d,g])]
 rw [Ts (n:=i) (λj c h=>by have:=a j i c d h;omega) bL (λ_=>by omega)]
theorem rT {α:Type}{f:α->Int}:∀ {l:List α},iN f l=0->∀ x∈l,f x=0
 | [],_,x,hx=>by cases hx
 | a :: l,h,x,hx=>by
  unfold iN at h;split at h
  .rename_i h1;exact absurd h h1
  .rename_i h1;rcases aP.1 hx with h2|h2
   .subst h2;omega
   .exact rT h x h2
theorem EU {g:Graph}{p:Part}(h:subF g p=0):∀ k∈p.j,mem p.i (g.j[k.toNat]?.getD cK).from_=true/\mem p.i (g.j[k.toNat]?.getD cK).L=true:=by
 unfold subF tF at h;split at h
 .rename_i h1;exact absurd h h1
 .split at h
  .rename_i h2;exact absurd h h2
  .split at h
   .rename_i h3;exact absurd h h3
   .intro k hk;have:=rT h k hk;unfold Bt at this;grind
theorem Cs (g:Graph)(p:Part)(hl:p.i.length<=1000000)(a2:p.j.length<=1000000):Pua 160 [g.d,p.d] (.tup [(dF g p).d,(Gq g p).d,dI (subF g p)]):=by
 refine Tz.pK ⟨λt=>t==4||t==5||t==8||t==11||t==76||t==80,λr=>match r with|8=>[(0,11),(1,11)]|12=>[(0,9),(1,9),(2,9),(3,9),(5,9),(6,9),(7,9),(8,9)]|13=>[(0,15),(1,15)]|14=>[(0,1),(1,2),(1,3),(0,4),(0,5),(1,5),(2,5),(3,5),(4,5),(1,6),(4,6),(5,6),(1,7),(4,7),(5,7),(0,8)]|_=>[]⟩ func160 rfl (λQ hQ=>?_);have Y:=trivial;refine wv (h:=aB (A4 g p) wl ?_);refine dD (λC=>?_) λC=>?_
 .exact wv (h:=hQ _ _ (by simp [go_sem,dF,Gq,C]))
 .obtain ⟨hg,hs,P,R⟩:=BI C;have n:=EU C;refine wv (h:=o8 (Ghosts.step (Ghosts.refl _) 2 0 0 3 1 _ _ (rfl) rfl rfl rfl) (λi e H=>∃ b:Xa0,(e 2=.adr g.c/\e 3=.adr p.c/\e 4=.ptr 0 1 0 0/\e 5=.ptr 1 1 0 0/\e 8=.ptr 2 1 0 0/\e 9=dI i)/\(H.get 0=some ⟨30,2,[[.nil,.nil]],false⟩)/\(0<H.next)/\(H.get 1=some ⟨55,2,[[.nil,.nil]],false⟩)/\(1<H.next)/\(H.get 2=some ⟨30,2,[[.own 3 b.length,.nil]],false⟩)/\(2<H.next)/\(H.get 3=some ⟨3,1,b.map cI,false⟩)/\(3<H.next)/\(i<=p.i.length)/\(b=(p.i.take i).map (gN g))) (λi=>p.i.length - i) 0 ⟨([]),wg,wn,wn,wn,wn,wn,wn,wn,wn,wi,(by rfl)⟩ λI0 V i e H T=>?_);obtain ⟨b,E0,L,A,J,y,f,w,F,u,hi,O⟩:=T;have Y:=xa8 Y E0 L (bU A) J (bU y) f (bU w) F (bU u);refine jH (λM=>?_) λM=>?_
  .have hin':=P _ (aC M);have hk:p.i[i].toNat<g.i.length:=bL;have a1:b.length=i:=by rw [O];simp;omega
   have Y:=xa2 Y M (aA hk) @gN.eq_1;exact wp (h:=wx V (i+1) ⟨(b++[gN g p.i[i]]),wg,wn,wn,wn,wn,wn,wn,wn,wn,wj,(by rw [fN _ M,<- O])⟩)
  .have hX:b=p.i.map (gN g):=by rw [O,lK _ bL]
   refine wv (h:=o8 (Ghosts.step (Ghosts.refl _) 2 0 1 124 3 _ _ (f) rfl rfl rfl) (λk e H=>∃ j:Nat,∃ l:List Edge,(e 2=.adr g.c/\e 3=.adr p.c/\e 4=.ptr 0 1 0 0/\e 5=.ptr 1 1 0 0/\e 8=.ptr 2 1 0 0/\e 10=dI k)/\(H.get 0=some ⟨30,2,[[.nil,.nil]],false⟩)/\(0<H.next)/\(H.get 1=some ⟨55,2,[[.nil,.nil]],false⟩)/\(1<H.next)/\(H.get 2=some ⟨30,2,[[.own 3 b.length,.own j l.length]],false⟩)/\(2<H.next)/\(H.get 3=some ⟨3,1,b.map cI,false⟩)/\(3<H.next)/\(H.get j=some ⟨124,3,l.map Edge.c,false⟩)/\(j<H.next)/\(k<=p.j.length)/\(l=(p.j.take k).map (gEd g p))/\(j≠0)/\(j≠1)/\(j≠2)/\(j≠3)) (λk=>p.j.length - k) 0 ⟨H.next,([]),wg,wn,wn,wn,wn,wn,wn,wn,wn,wn,wn,wi,(by rfl),bL,bL,bL,bL⟩ λI2 U k e H m=>?_);obtain ⟨j,l,E2,K,z,I,x,G,v,E,s,D,q,hk,N,j0,Z,X,W⟩:=m;have Y:=xa7 Y E2 K (bU z) I (bU x) G (bU v) (xb0 E (bU s) D (bU q) j0 Z X W j0.symm Z.symm X.symm W.symm);refine jH (λa=>?_) λa=>?_
   .have hie':=R _ (aC a);have B:p.j[k].toNat<g.j.length:=bL;have a0:l.length=k:=by rw [N];simp;omega
    have o:=n _ (aC a);rw [aA B,aF] at o;have S:=DY hs o.1;have m:=DY hs o.2;have Y:=xa4 Y a (aA B) @gEd.eq_1 S m;refine wp (h:=aJ (Gk p.i _) wl ?_);refine wp (h:=aJ (Gk p.i _) wl ?_);exact wp (h:=wx U (k+1) ⟨j,(l++[gEd g p p.j[k]]),wg,wn,wn,wn,wn,wn,wn,wn,wn,wn,wn,wj,(by rw [fN _ a,<- N]),wj,wj,wj,wj⟩)
   .have hY:l=p.j.map (gEd g p):=by rw [N,lK _ bL]
    exact wp (h:=hQ _ _ (by simp [go_sem,Y,dF,Gq,C,hX,hY]))
theorem RN (t:Types)(w:t.ok)(p:Pattern)(F:p.o.i.length<=1000)(y:p.q.length<=1000)(i:Nat)(r:i<p.q.length):Pua 158 [t.d,p.d,dI i] (dI (zJ t p i)):=by
 have a:=EZ (t:=t) r;have g:=r8 w (p.kind p.q[i].node);refine Tz.pK ⟨λt=>t==7,λ_=>[]⟩ func158 rfl (λQ m=>?_);have Y:=wa (aA r) r;refine dZ (λB=>?_) λB=>?_
 .have hE:iM t p p.q[i]≠0:=by
   unfold iM;rw [if_neg];decide;intro h;simp [mQ] at h;omega
  rw [if_pos hE] at a;exact wv (h:=m _ _ (eD a))
 .have hn:p.q[i].node.toNat<p.o.i.length:=bL;have l:p.kind p.q[i].node=p.o.i[p.q[i].node.toNat]:=by simp [Pattern.kind,hn]
  rw [l] at g;have Y:=xa1 Y (aA hn) l;refine wo (h:=aJ (sP t w p.o.i[p.q[i].node.toNat]) wl ?_);refine dZ (λA=>?_) λA=>?_
  .have hE:iM t p p.q[i]≠0:=by
    unfold iM;rw [if_neg];decide;intro h;simp [mQ,inF,l] at h;omega
   rw [if_pos hE] at a;exact wv (h:=m _ _ (eD a))
  .have hE:iM t p p.q[i]=0:=by
    unfold iM;rw [if_pos];simp [mQ,inF,l];omega
   rw [if_neg bL] at a;refine wv (h:=bA (λk e H=>(e 4=.adr p.c/\e 2=dI i/\e 7=.ptr 0 1 0 0/\e 10=dI k)/\(H.get 0=some ⟨223,4,[p.q[i].c],false⟩)/\(0<H.next)/\(k<=i)/\(((p.q.take k).any (sameSlot p.q[i]))=false)) (λk=>i - k) 0 ⟨wg,wn,wn,wi,(by rfl)⟩ λG u k e H q=>?_);obtain ⟨C,j,b,z,f⟩:=q;have Y:=xa2 Y C j (bU b);refine dD (λg=>?_) λg=>?_
   .have hkl:k<p.q.length:=bL;have Y:=xa1 Y g hkl;refine dZ (λv=>?_) λv=>?_
    .refine wv (h:=?_);have s:=wZ (p:=sameSlot p.q[i]) g hkl (by simp [sameSlot];omega);exact m _ _ (by rw [a,if_pos s];simp [go_sem])
    .exact wo (h:=wx u (k+1) ⟨wg,wn,wn,wj,(by rw [dS _ _ _ hkl,f];simp [sameSlot];omega)⟩)
   .have s:=tW f (bL:k=i);exact wv (h:=m _ _ (by rw [a,if_neg (fg s)];simp [go_sem]))
theorem Pe (t:Types)(p:t.ok)(r:Rule):Pua 86 [t.d,r.d] (dI (jX t r)):=by
 refine Tz.p0 func86 rfl λQ f Y=>?_;refine wv (h:=aB (mJ r.right.o) wl ?_);refine dD (λg=>?_) λg=>?_
 .exact wv (h:=f _ _ (.inl (by simp [go_sem,jX,g])))
 .have hg:=bW g;refine wo (h:=aB (wC t r.right.o) wl ?_);refine dZ (λb=>?_) λb=>?_
  .rw [rM g] at b;exact wv (h:=f _ _ (.inl (by simp [go_sem,jX,g,b])))
  .rw [rM g] at b;refine dZ (λl=>?_) λl=>?_
   .have hR:jX t r=1:=by unfold jX;rw [if_neg bL,if_neg (fg b),if_pos bL]
    exact wv (h:=f _ _ (.inl (eD hR)))
   .have h6':¬ (r.right.vars≠r.left.vars\/0<r.right.R.length):=by
     rintro (h|h)
     .exact h l.1
     .have:=l.2;simp [this] at h
    refine dZ (λq=>?_) λq=>?_
    .have hR:jX t r=3:=by unfold jX;rw [if_neg bL,if_neg (fg b),if_neg h6',if_pos bL]
     exact wv (h:=f _ _ (.inl (eD hR)))
    .have hR:jX t r=b6 (zJ t r.right) 0 r.right.q.length:=by unfold jX;rw [if_neg bL,if_neg (fg b),if_neg h6',if_neg bL]
     refine wv (h:=bA (λi e H=>(e 2=.adr t.c/\e 3=.adr r.c/\e 6=dI i)/\(i<=r.right.q.length)/\(b6 (zJ t r.right) i (r.right.q.length - i)=jX t r)) (λi=>r.right.q.length - i) 0 ⟨wg,wi,(hR.symm)⟩ λx k i e H j=>?_);obtain ⟨s,w,n⟩:=j;have Y:=wa Y s;refine dZ (λa=>?_) λa=>?_
     .have hst:=n;rw [fG _ a] at hst;have Y:=wa Y a;refine wv (h:=aB (RN t p r.right bL bL i a) wl ?_);refine dD (λm=>?_) λm=>?_
      .rw [if_pos bL] at hst;exact wv (h:=f _ _ (.inl (eD hst)))
      .rw [if_neg bL] at hst;exact wo (h:=wx k (i+1) ⟨wg,wj,(hst)⟩)
     .exact wv (h:=f _ _ (.inl (by rw [<- n,(bL:r.right.q.length - i=0)];rfl)))
theorem UM (l:Xa0)(v:Int):Pua 227 [dLI l,dI v] (.bool (mem l v)):=by
 refine Tz.p0 func227 rfl λQ m Y=>?_;refine wv (h:=bA (λi e H=>(e 0=dLI l/\e 1=dI v/\e 5=dI i)/\(i<=l.length)/\(∀ j,j<i->l[j]?≠some v)) (λi=>l.length - i) 0 ⟨wg,wi,(by intro j k;omega)⟩ λq f i e H d=>?_);obtain ⟨o,p,a⟩:=d;have Y:=wa Y o;refine wv (h:=?_);repeat first|intro _|refine ⟨iV,?_⟩
 refine wq (λb=>?_) λb=>?_
 .have Y:=wa Y b;refine dZ (λg=>?_) λg=>?_
  .refine wv (h:=?_);have c:mem l v=true:=(mem_iff l v).2 (g ▸ aC b);exact m _ _ (eD c)
  .exact wo (h:=wx f (i+1) ⟨wg,wj,(by exact lS a (by rw [aA b];simpa using g))⟩)
 .refine wv (h:=?_);have c:mem l v=false:=by rw [bP];intro h;obtain ⟨j,k,n⟩:=aM ((mem_iff l v).1 h);exact a j bL (by rw [aA k,n])
  exact m _ _ (eD c)
theorem It (l:Xa0)(n:Nat)(v:n<=1000000):Pua 162 [dI n,dLI l] (dLI (dC l n)):=by
 refine Tz.pK ⟨λt=>t==5,λ_=>[]⟩ func162 rfl (λQ r=>?_);have Y:=trivial;refine wv (h:=bA (λi e H=>∃ a:Xa0,(e 1=dLI l/\e 0=dI n/\e 5=.own 0 a.length/\e 6=dI i)/\(H.get 0=some ⟨3,1,a.map cI,false⟩)/\(0<H.next)/\(i<=n)/\(a.length<=i)/\(a=((List.range i).filter λ(b:Nat)=>!mem l b).map (λ(b:Nat)=>(b:Int)))) (λi=>n - i) 0 ⟨([]),wg,wn,wn,wi,bS,(by rfl)⟩ λz f i e H k=>?_);obtain ⟨a,s,g,d,x,w,j⟩:=k;have Y:=xa2 Y s g (bU d);refine dD (λp=>?_) λp=>?_
 .have Y:=wa Y p;refine wo (h:=aB (UM l i) wl ?_);refine dZ (λm=>?_) λm=>?_
  .have Y:=wa Y m;exact wo (h:=wx f (i+1) ⟨(a++(if (!mem l i)=true then [(i:Int)] else [])),wg,wn,wn,wj,eC,(by rw [dP,<- j])⟩)
  .have Y:=wa Y m;exact wo (h:=wx f (i+1) ⟨(a++(if (!mem l i)=true then [(i:Int)] else [])),wg,wn,wn,wj,eC,(by rw [dP,<- j])⟩)
 .exact wv (h:=r _ _ (by simp [go_sem,Y,dC];rw [j,(bL:i=n)];simp))
theorem No (t:Types)(D:t.ok)(g:Graph)(J:graphF g=0)(G:iB t g=true)(nodes edges:Xa0)(E:∀ i∈nodes,0<=i/\i<g.i.length)(F:∀ k∈edges,0<=k/\k<g.j.length):Pua 90 [t.d,g.d,dLI nodes,dLI edges] (.bool (Bf t g nodes edges)):=by
 have o:=p9 J G;refine Tz.pK ⟨λt=>t==11,λr=>match r with|9=>[(0,8),(1,8),(4,8),(5,8),(6,8),(7,8)]|_=>[]⟩ func90 rfl (λQ x=>?_);have Y:=trivial;refine wv (h:=bA (λi e H=>(e 4=.adr t.c/\e 5=.adr g.c/\e 2=dLI nodes/\e 3=dLI edges/\e 9=dI i)/\(i<=nodes.length)/\(((nodes.take i).any (absB t g))=false)) (λi=>nodes.length - i) 0 ⟨wg,wi,(by rfl)⟩ λO z i e H v=>?_);obtain ⟨L,M,C⟩:=v;have Y:=wa Y L;refine wv (h:=?_);repeat first|intro _|refine ⟨iV,?_⟩
 refine wq (λj=>?_) λj=>?_
 .have hn':=E _ (aC j);have q:nodes[i].toNat<g.i.length:=bL;have n:=o.1 _ (aC q);have m:g.i[nodes[i].toNat].toNat<t.i.length:=bL;have p:absB t g nodes[i]=t.i[g.i[nodes[i].toNat].toNat].cO:=by simp [absB,gN,aA q,aA m]
  have Y:=xa2 Y j (aA q) (aA m);refine dZ (λA=>?_) λA=>?_
  .refine wv (h:=?_);have s:nodes.any (absB t g)=true:=aZ.2 ⟨_,aC j,by rw [p,A]⟩;exact x _ _ (.inl (by simp only [go_sem,Bf,s,CF,GS]))
  .exact wo (h:=wx z (i+1) ⟨wg,wj,(by rw [dS _ _ _ j,C,p,A];rfl)⟩)
 .have hN:=oW C j;refine wv (h:=bA (λk e H=>(e 4=.adr t.c/\e 5=.adr g.c/\e 2=dLI nodes/\e 3=dLI edges/\e 10=dI k)/\(k<=edges.length)/\(((edges.take k).any (unfitB t g))=false)) (λk=>edges.length - k) 0 ⟨wg,wi,(by rfl)⟩ λN y k e H u=>?_);obtain ⟨K,q,s⟩:=u;have Y:=wa Y K;refine wv (h:=?_);repeat first|intro _|refine ⟨iV,?_⟩
  refine wq (λf=>?_) λf=>?_
  .have he':=F _ (aC f);have a:edges[k].toNat<g.j.length:=bL;have n:=o.2 _ (aC a);have B:g.j[edges[k].toNat].from_.toNat<g.i.length:=bL;have l:g.j[edges[k].toNat].L.toNat<g.i.length:=bL;have p:unfitB t g edges[k] = !qF t g.j[edges[k].toNat].type g.i[g.j[edges[k].toNat].from_.toNat] g.i[g.j[edges[k].toNat].L.toNat]:=by simp [unfitB,gN,aA a,aA B,aA l]
   have Y:=xa3 Y f (aA a) (aA B) (aA l);refine wo (h:=aJ (ID t D _ _ _) wl ?_);refine dZ (λb=>?_) λb=>?_
   .refine wv (h:=?_);have w:edges.any (unfitB t g)=true:=aZ.2 ⟨_,aC f,by rw [p,b];rfl⟩;exact x _ _ (.inl (by simp only [go_sem,Bf,w,CF,GT]))
   .exact wo (h:=wx y (k+1) ⟨wg,wj,(by rw [dS _ _ _ f,s,p,b];rfl)⟩)
  .refine wv (h:=?_);have I:=oW s f;exact x _ _ (.inl (by simp only [go_sem,Bf,hN,I,GR,CG]))
theorem Ky (r:Rule)(c:r.right.o.i.length<=1000000)(b:r.right.o.j.length<=1000000):Pua 89 [r.d] (.tup [dLI r.ac,dLI r.av]):=by
 refine Tz.p0 func89 rfl λQ a Y=>?_;refine wo (h:=aJ (It r.O.i _ c) wl ?_);refine wo (h:=aJ (It r.O.j _ b) wl ?_);have Y:=xa1 Y @Rule.ac.eq_1 @Rule.av.eq_1;exact wo (h:=a _ _ wy)
def spanF (r:Rule):Int :=
 if subF r.left.o r.G≠0 then subF r.left.o r.G
 else fD (dF r.left.o r.G) r.right.o r.O
theorem RM (r:Rule)(f:r.ok):Pua 87 [r.d] (dI (spanF r)):=by
 obtain ⟨_,b,a,i,g,_,_⟩:=f;refine Tz.pK ⟨λt=>t==4||t==5,λ_=>[]⟩ func87 rfl (λQ e=>?_);have Y:=trivial;refine wv (h:=aB (A4 r.left.o r.G) wl ?_);refine dD (λc=>?_) λc=>?_
 .have Y:=xa1 Y c @spanF.eq_1;exact wv (h:=e _ _ wy)
 .refine wv (h:=aB (Cs r.left.o r.G b a) wl ?_);refine wv (h:=aB (wD (dF r.left.o r.G) r.right.o r.O) wl ?_);have Y:=xa1 Y c @spanF.eq_1;exact wv (h:=e _ _ wy)
theorem Sh (r:Rule):keptF r=if spanF r≠0 then spanF r else if (decide r.O.i.Nodup&&decide r.O.j.Nodup)=true then 0 else 11:=by
 unfold keptF spanF Jh;grind
theorem A1 (t:Types)(m:t.ok)(r:Rule)(q:r.ok):Pua 46 [t.d,r.d] (dI (ruleF t r)):=by
 have o:=Gh t m r.left r.cond q.cond q.size;rw [Cond.F] at o;have u:=Sh r;refine Tz.p0 func46 rfl λQ f Y=>?_;refine wv (h:=aB (qC t m) wl ?_);refine dD (λe=>?_) λe=>?_
 .exact wv (h:=f _ _ (by simp [go_sem,ruleF,e]))
 .refine wo (h:=aB (qS r.name q.name) wl ?_);refine dZ (λg=>?_) λg=>?_
  .exact wv (h:=f _ _ (by simp [go_sem,ruleF,e,g]))
  .refine wv (h:=aB (wA t m r.left) wl ?_);refine dD (λj=>?_) λj=>?_
   .exact wv (h:=f _ _ (by simp [go_sem,ruleF,e,g,j]))
   .refine wv (h:=aB (Pe t m r) wl ?_);refine dD (λb=>?_) λb=>?_
    .exact wv (h:=f _ _ (by simp [go_sem,ruleF,e,g,j,b]))
    .have n:=Fb b;have v:=bW n.1;refine wv (h:=aB (RM r q) wl ?_);refine dD (λp=>?_) λp=>?_
     .exact wv (h:=f _ _ (by simp [go_sem,ruleF,e,g,j,b,u,p]))
     .refine wo (h:=aB (qR r.O.i) wl ?_);refine wo (h:=aN (λn=>qR r.O.j) (λn=>wl) ?_);refine dZ (λl=>?_) λl=>?_
      .have c:keptF r=11:=by rw [u,if_neg bL,if_neg (λh=>by rw [aR,decide_eq_true_eq,decide_eq_true_eq] at h;rcases l with h'|h';exact h' h.1;exact h' h.2)]
       exact wv (h:=f _ _ (by simp [go_sem,ruleF,e,g,j,b,c]))
      .have c:keptF r=0:=by rw [u,if_neg bL,if_pos (by rw [aR,decide_eq_true_eq,decide_eq_true_eq];exact l)]
       refine wv (h:=aB (Ky r bL bL) wl ?_);refine wo (h:=aB (No t m r.right.o n.1 n.2 r.ac r.av (λi s=>mL s) (λi s=>mL s)) wl ?_);refine dZ (λk=>?_) λk=>?_
       .exact wv (h:=f _ _ (by simp [go_sem,ruleF,e,g,j,b,c,k]))
       .refine wv (h:=aB (o) wl ?_);exact wv (h:=f _ _ (by simp [go_sem,ruleF,e,g,j,b,c,k]))
end Go.Abs
end
section
namespace Go.Abs
theorem RepV.dx {M:Nat->Prop}{σ:Nat->Option Ow}{N:Nat->Prop}{w:World}{m:Nat->Prop}{σ':Nat->Option Ow}{l:Nat->Prop}{w':World}{v:Value}{d:D}(h:RepV M σ N w v d) :
  ∀ v',RepV m σ' l w' v' d->RepV M σ (λi=>N i/\l i) w v d:=by
 induction h with
 | int=>exact λ_ _=>.int _ _
 | bool=>exact λ_ _=>.bool _
 | str=>exact λ_ _=>.str _
 | agg vs ds hl h1 hr ih =>
  intro v' b;cases b with
  | agg vs' _ hl' h1' hr' =>
   exact .agg vs ds hl h1 λj u x c a=>by
    have e:j<vs'.length:=by rw [hl'];exact (aL.1 a).1
    exact ih j u x c a vs'[j] (hr' j _ x (aA e) a)
 | tup vs ds hl hr ih =>
  intro v' b;cases b with
  | tup vs' _ hl' hr' =>
   exact .tup vs ds hl λj u x c a=>by
    have e:j<vs'.length:=by rw [hl'];exact (aL.1 a).1
    exact ih j u x c a vs'[j] (hr' j _ x (aA e) a)
 | nil=>exact λ_ _=>.nil
 | listN=>exact λ_ _=>.listN
 | list ad cap sz xs es hc hm hsz hl h1 hcell hr ih =>
  intro v' b;cases b with
  | listN=>exact .list ad cap sz xs [] hc hm hsz hl h1 hcell λj u x c a=>by simp at a
  | list ad' cap' sz' xs' _ hc' hm' hsz' hl' h1' hcell' hr' =>
   exact .list ad cap sz xs es hc hm hsz hl h1 hcell λj u x c a=>by
    have e:j<xs'.length:=by rw [hl'];exact (aL.1 a).1
    exact ih j u x c a xs'[j] (hr' j _ x (aA e) a)
 | adr ad xs ds hl h1 hcell hr ih =>
  intro v' b;cases b with
  | adr ad' xs' _ hl' h1' hcell' hr' =>
   exact .adr ad xs ds hl h1 hcell λj u x c a=>by
    have e:j<xs'.length:=by rw [hl'];exact (aL.1 a).1
    exact ih j u x c a xs'[j] (hr' j _ x (aA e) a)
 | ne ad cap hm=>exact λ_ _=>.ne ad cap hm
 | nilp=>exact λ_ _=>.nilp
 | ptr v id ver i off hN h1 h =>
  intro v' b;cases b with
  | ptr _ _ _ _ _ hN' _ _=>exact .ptr v id ver i off ⟨hN,hN'⟩ h1 h
 | own v id n hN h1 h =>
  intro v' b;cases b with
  | own _ _ _ hN' _ _=>exact .own v id n ⟨hN,hN'⟩ h1 h
 | win v id ver lo hi hN h1 hlh h =>
  intro v' b;cases b with
  | win _ _ _ _ _ hN' _ _ _=>exact .win v id ver lo hi ⟨hN,hN'⟩ h1 hlh h
 | fn f vs ds hl hr ih =>
  intro v' b;cases b with
  | fn _ vs' _ hl' hr' =>
   exact .fn f vs ds hl λj u x c a=>by
    have e:j<vs'.length:=by rw [hl'];exact (aL.1 a).1
    exact ih j u x c a vs'[j] (hr' j _ x (aA e) a)
 | nilf=>exact λ_ _=>.nilf
 | opt v g d hf h ih =>
  intro v' b;cases b with
  | opt _ _ _ hf' h''=>exact .opt v g d hf λk=>ih k v' (h'' k)
 | cst v=>exact λ_ _=>.cst v
 | junk v=>exact λ_ _=>.junk v
def yC (τ:Nat->Nat):D->D
 | .own id n=>.own (τ id) n
 | d=>d
def okc (A:Nat->Prop):D->Prop
 | .own id _=>A id
 | d=>d.U=true
def Wo (τ:Nat->Nat):D->D
 | .agg cs=>.agg (cs.map (yC τ))
 | d=>yC τ d
def okC (A:Nat->Prop):D->Prop
 | .agg cs=>∀ c∈cs,okc A c
 | d=>okc A d
theorem RepV.cd {M f:Nat->Prop}{σ1 σE:Nat->Option Ow}{q A:Nat->Prop}{w:World}{τ:Nat->Nat}{v:Value}{d:D}(h:RepV M σ1 q w v (yC τ d))(a:okc A d)(i:∀ j,A j->σE j=σ1 (τ j))(p:∀ b,¬ M b->¬ f b):RepV f σE A w v d:=by
 by_cases c:∃ id n,d=.own id n
 .obtain ⟨id,n,rfl⟩:=c;cases h with
  | own _ _ _ hN h1 h=>exact .own v id n a h1 λo l=>h o (by rw [<- i id a];exact l)
 .have e:yC τ d=d:=by cases d<;>first|rfl|exact absurd ⟨_,_,rfl⟩ c
  have m:d.U=true:=by cases d<;>first|exact a|exact absurd ⟨_,_,rfl⟩ c
  rw [e] at h;exact h.closed (λr u k g=>⟨p _ k,g⟩) m
theorem RepV.c3 {M l:Nat->Prop}{σ1 σE:Nat->Option Ow}{o A:Nat->Prop}{w:World}{τ:Nat->Nat}{v:Value}{d:D}(h:RepV M σ1 o w v (Wo τ d))(a:okC A d)(i:∀ j,A j->σE j=σ1 (τ j))(k:∀ b,¬ M b->¬ l b):RepV l σE A w v d:=by
 by_cases c:∃ f,d=.agg f
 .obtain ⟨f,rfl⟩:=c;cases h with
  | agg vs _ hl h1 hr =>
   exact .agg vs f (cG hl) h1 λj u x m g=>(hr j u (yC τ x) m (by rw [aW,g];rfl)).cd (a x (aK g)) i k
 .have e:Wo τ d=yC τ d:=by cases d<;>first|rfl|exact absurd ⟨_,rfl⟩ c
  have n:okC A d=okc A d:=by cases d<;>first|rfl|exact absurd ⟨_,rfl⟩ c
  rw [e] at h;rw [n] at a;exact h.cd a i k
structure Exact (H H1 E:AHeap) (τ:Nat->Nat):Prop where
 nx:∀ j,E.J j->j<E.next
 inj:∀ i j,E.J i->E.J j->τ i=τ j->i=j
 bc:∀ j,H.J j->E.J j/\τ j=j
 d2:∀ j,¬ E.J j->E.get j=none
 ec:∀ j k,E.get j=some k->(H.J j/\H.get j=some k/\H1.get j=some k) \/
  (∃ k0,H1.get (τ j)=some k0/\k0.ty=k.ty/\k0.sz=k.sz/\k0.fz=k.fz/\k0.es=k.es.map (·.map (yC τ))/\∀ c∈k.es,∀ y∈c,okc E.J y)
theorem ACalls.exact {P:Program}{f:FuncId}{args:Xa2}{H E:AHeap}{r:D}{Q:D→AHeap→Prop}(h:ACalls P f args H Q)
  (hQ:(∀ j,H.J j→j<H.next)→(∀ j,¬ H.J j→H.get j=none)→∀ d H1,Q d H1→∃ τ,Exact H H1 E τ∧d=Wo τ r∧okC E.J r):ACalls P f args H fun d H1=>d=r∧H1=E :=
 ⟨h.1,fun M0 σ w vals hR ha=>(h.2 M0 σ w vals hR ha).mono fun e w' ⟨v,d,H1,σ1,he,hR1,hv,hst,hk,hq⟩=>by
  obtain ⟨τ,X,rfl,hok⟩:=hQ hR.bb (fun j hj=>(hR.bf j hj).2) d H1 hq
  classical
  obtain ⟨σE,hσ⟩:∃ σE:Nat→Option Ow,∀ j,σE j=if E.J j then σ1 (τ j) else none:=⟨fun j=>if E.J j then σ1 (τ j) else none,fun _=>rfl⟩
  have hs:∀ j,E.J j→σE j=σ1 (τ j):=fun j hj=>by rw [hσ,if_pos hj]
  have hsn:∀ j,¬ E.J j→σE j=none:=fun j hj=>by rw [hσ,if_neg hj]
  have hal:∀ j o,σE j=some o→E.J j:=fun j o ho=>bE fun hn=>by rw [hsn j hn] at ho;cases ho
  have halg:∀ j k,E.get j=some k→E.J j:=fun j k ho=>bE fun hn=>by rw [X.d2 j hn] at ho;cases ho
  have hmut:∀ b,¬ dK M0 H1 σ1 b→¬ dK M0 E σE b:=by
   rintro b hm (h0|⟨j,k,o,hk',hf,ho,hb⟩)
   ·exact hm (.inl h0)
   ·rw [hs j (halg j k hk')] at ho
    rcases X.ec j k hk' with ⟨h1,h2,h3⟩|⟨k0,h1,h2,h3,h4,_⟩
    ·rw [(X.bc j h1).2] at ho
     exact hm (.inr ⟨j,k,o,h3,hf,ho,hb⟩)
    ·exact hm (.inr ⟨τ j,k0,o,h1,h4.trans hf,ho,hb⟩)
  have hkE:Keeps (dK M0 H σ) σ H.J w (dK M0 E σE) σE E.J w':=by
   refine ⟨fun ad u hm hu=>?_,fun id o' hid ho'=>?_,fun id hid=>(X.bc id hid).1⟩
   ·obtain ⟨a1,a2⟩:=hk.cell ad u hm hu;exact ⟨hmut _ a1,a2⟩
   ·rw [hs id (X.bc id hid).1,(X.bc id hid).2] at ho';exact hk.own id o' hid ho'
  have hkS:Keeps (dK M0 H1 σ1) σ1 (fun i=>H1.J i∧H.J i) w' (dK M0 E σE) σE E.J w':=by
   refine ⟨fun ad u hm hu=>⟨hmut _ hm,hu⟩,fun id o' hid ho'=>?_,fun id hid=>(X.bc id hid.2).1⟩;rw [hs id (X.bc id hid.2).1,(X.bc id hid.2).2] at ho';exact ⟨o',ho',.inl rfl⟩
  have hRE:Rel M0 E σE w':=by
   refine ⟨fun j hj=>⟨hsn j hj,X.d2 j hj⟩,X.nx,fun j k hk'=>?_,fun i j o o' b hi hj hb hb'=>?_,fun i o b hi hb=>?_,hR1.m0⟩
   ·have hj:=halg j k hk'
    rcases X.ec j k hk' with ⟨h1,h2,h3⟩|⟨k0,h1,h2,h3,h4,h5,h6⟩
    ·obtain ⟨o,ho,l⟩:=hR1.ah j k h3
     obtain ⟨o0,ho0,l0⟩:=hR.ah j k h2;obtain ⟨xs,a1,a2,a3⟩:=l.row;obtain ⟨ys,b1,b2,b3⟩:=l0.row;refine ⟨o,by rw [hs j hj,(X.bc j h1).2];exact ho,l.af,l.ty,l.sz,l.K,xs,a1,a2,a3.len,fun q u d hu hd=>?_⟩;have hq':q<ys.length:=by rw [b3.len];exact (aL.1 hd).1
     exact ((a3.Y q u d hu hd).dx _ (b3.Y q ys[q] d (aA hq') hd)).G hkS
    ·obtain ⟨o,ho,l⟩:=hR1.ah (τ j) k0 h1
     obtain ⟨xs,a1,a2,a3⟩:=l.row;have hlen:k0.es.length=k.es.length:=by rw [h5,bR]
     have hfl:k0.es.flatten=k.es.flatten.map (yC τ):=by rw [h5];exact List.map_flatten.symm
     refine ⟨o,by rw [hs j hj];exact ho,by rw [l.af,hlen],by rw [l.ty,h2],by rw [l.sz,h3],fun c hc=>?_,xs,by rw [← h2,← hlen];exact a1,a2,by rw [a3.len,hfl,bR],fun q u d hu hd=>?_⟩
     ·have:=l.K (c.map (yC τ)) (by rw [h5];exact qI hc)
      rwa [bR] at this
     ·have hd2:k0.es.flatten[q]?=some (yC τ d):=by rw [hfl,aW,hd];rfl
      obtain ⟨c,hc,hdc⟩:=iI.1 (aK hd);exact (a3.Y q u _ hu hd2).cd (h6 c hc d hdc) hs hmut
   ·have hi':=hal i o hi
    have hj':=hal j o' hj;rw [hs i hi'] at hi;rw [hs j hj'] at hj;exact X.inj i j hi' hj' (hR1.inj _ _ o o' b hi hj hb hb')
   ·rw [hs i (hal i o hi)] at hi
    exact hR1.lt (τ i) o b hi hb
  refine ⟨v,r,E,σE,he,hRE,hv.c3 hok hs hmut,⟨hst.os,hst.tape,hst.output,hst.size,hst.bc,fun i o' b ho hb=>?_⟩,hkE,rfl,rfl⟩;rw [hs i (hal i o' ho)] at ho;exact hst.new (τ i) o' b ho hb⟩
end Go.Abs
end
section
set_option maxRecDepth 100000
set_option maxHeartbeats 4000000
open Go Go.Proofs Tryz
namespace Go.Abs
structure SmallA (x:Attr):Prop where
 lo : -1000000<=x.am
 hi:x.aw<=1000000
 le:x.am<=x.aw
theorem He {x:Attr}{b:List Attr}(h:dW x b=0):SmallA x:=by
 unfold dW at h;split at h<;>try (cases h;done)
 split at h<;>try (cases h;done)
 split at h
 .exact absurd h er
 .rename_i h3;split at h
  .rename_i h4;split at h
   .rename_i h5;have a:x.ae.length<=20:=by
     refine bE λc=>h3 ?_;unfold pU;rw [if_pos bL];decide
    simp at h5;exact ⟨bL,bL,bL⟩
   .cases h
  .split at h
   .rename_i h5;simp at h5;exact ⟨bL,bL,bL⟩
   .cases h
theorem PX {t:Types}{a:Nat}(b:a<t.i.length)(h:i7 t a=0):∀ k,(t.w a).length - t.i[a].w.length<=k->∀ hk:k<(t.w a).length,SmallA (t.w a)[k]:=by
 rw [DO t a b] at h;split at h<;>try (cases h;done)
 split at h<;>try (cases h;done)
 split at h<;>try (cases h;done)
 split at h<;>try (cases h;done)
 split at h<;>try (cases h;done)
 intro k c hk;have:=fF _ _ h k c bL;unfold CB at this;rw [aA hk] at this;exact He this
theorem QS {t:Types}(g:(cW t).2=0):∀ a:Nat,a<t.i.length->∀ x∈t.w a,SmallA x:=by
 have c:=pD g;have f:∀ j,j<t.i.length->i7 t j=0:=by
  have h:=g;unfold cW at h;split at h
  .simp at h
  .split at h
   .simp at h
   .obtain ⟨f,_⟩:=tT _ _ h;exact λj p=>f j bL bL
 intro a;induction a using Nat.strongRecOn with
 | _ a ih =>
 intro e x m;have b:=FL t a e (c.an a);have i:=c.I a _ (aA e);obtain ⟨k,l,rfl⟩:=aM m;by_cases q:k<(t.w a).length - t.i[a].w.length
 .by_cases hp:0<=t.i[a].I
  .rw [if_pos hp] at b;have n:(t.w a).length=(t.w t.i[a].I.toNat).length+t.i[a].w.length:=by rw [b];simp
   have d:k<(t.w t.i[a].I.toNat).length:=bL;have o:(t.w a)[k]=(t.w t.i[a].I.toNat)[k]:=by
    have:(t.w a)[k]?=(t.w t.i[a].I.toNat)[k]?:=by rw [b,aY d]
    rw [aA l,aA d] at this;exact Option.some.inj this
   rw [o];exact ih _ bL bL _ (aC d)
  .rw [if_neg hp] at b;have n:(t.w a).length=t.i[a].w.length:=by rw [b];simp
   omega
 .exact PX e (f a e) k bL l
theorem MI {t:Types}(c:t.vl0):∀ b:Nat,b<t.i.length->∀ a:Nat,mem (t.ao b) (a:Int)=true->∃ r,t.w b=t.w a++r:=by
 intro b;induction b using Nat.strongRecOn with
 | _ b ih =>
 intro d a hm;have e:=c.I b _ (aA d);rw [Bh t b d (c.an b),yM,cX] at hm;rcases hm with hm|hm
 .by_cases h0:0<=t.i[b].I
  .rw [if_pos h0] at hm;obtain ⟨r,f⟩:=ih t.i[b].I.toNat bL bL a hm;exact ⟨r++t.i[b].w,by rw [FL t b d (c.an b),if_pos h0,f,List.append_assoc]⟩
  .rw [if_neg h0,DR] at hm;cases hm
 .simp at hm;have:a=b:=bL;subst this;exact ⟨[],by simp⟩
structure SOk (p:Pattern) (h:Host) (m:Part):Prop where
 vars:0<=p.vars/\p.vars<=12
 node:∀ s∈p.q,0<=s.node/\s.node<m.i.length
 bn:∀ k∈m.i,0<=k/\k<h.values.length
 Q:∀ s∈p.q,0<=s.Q/\s.Q<(h.values[(m.i[s.node.toNat]?.getD 0).toNat]?.getD []).length
 aj:∀ l∈h.values,∀ v∈l,-1000000<=v/\v<=1000000
 E:∀ s∈p.q,rF s.E p.vars.toNat
 ck:∀ x∈p.R,J6 x p.vars.toNat
end Go.Abs
end
