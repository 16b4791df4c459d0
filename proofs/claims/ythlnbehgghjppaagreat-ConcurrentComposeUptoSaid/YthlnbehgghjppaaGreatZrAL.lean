/- Layer 13: the overlaps of two graphs: the search over the no -/
import Derived.Test.YthlnbehgghjppaaGreatZrAG
import Derived.Test.YthlnbehgghjppaaGreatZrAA
import Derived.Test.YthlnbehgghjppaaGreatZrAK
import Derived.Test.YthlnbehgghjppaaGreatZrAI
import Derived.Test.YthlnbehgghjppaaGreatZrAJ
set_option linter.unusedVariables false
set_option linter.unusedSimpArgs false
section
set_option maxRecDepth 100000
set_option maxHeartbeats 4000000
open Go Go.Proofs Tryz
namespace Go.Abs
theorem MV (a b:Graph)(ha:graphF a=0)(hb:graphF b=0)(f o:Nat)(hd:f≠o) :
  ∀ (k:Nat) (ns:Xa0) (i:List Ovl) (G:AHeap) (Q:D->AHeap->Prop),ns.length+k=b.h.length->f<G.next->o<G.next->OvS 159 f o a b i G ->
  (∀ H',OvS 159 f o a b (Nw a b k ns i) H'->(∀ j,j≠f->j≠o->j<G.next->H'.get j=G.get j)->G.next<=H'.next->Q (.tup []) H')->ACalls prog 118 [.ptr f 1 0 0,dLI ns] G Q:=by
 have b1:=aY ha;have b0:=aY hb;intro k;induction k using Nat.strongRecOn with
 | _ k ih =>
 intro ns i G Q hk M J hF hQ;obtain ⟨gf,go,A⟩:=hF;have a2:=hd.symm;have ff:=bP M;have fo:=bP J;refine (Tz.c0 func118 rfl ?_);have Y:=xa6 gf go hd a2 ff fo @Ovl.d.eq_1 @Ovl.c.eq_1;refine kI (λh0=>?_) λh0=>?_
 .have hfull:2000<i.length:=bZ;refine wv (h:=?_);exact hQ _ (by rw [UB _ _ _ _ hfull];exact ⟨gf,go,A⟩) (by intro j _ _ _;rfl) (bD _)
 .have hnf:¬ 2000<i.length:=bZ;refine kI (λl=>?_) λl=>?_
  .have hk0:k=0:=bZ;subst hk0;refine wv (h:=?_);refine D1 (args':=[.ptr f 1 0 0,dLI ns,dLI []]) (by simp [go_sem,Y,dLI,QU]) ?_;unfold e8;refine MW a b ha hb ns bZ f o hd b.i.length [] i _ _ eG M J ⟨gf,go,A⟩ (λW s B z=>?_);refine wv (h:=?_);exact hQ _ (by simp only [Nw];rw [if_neg hnf];exact s) B z
  .obtain ⟨t,rfl⟩:∃ t,k=t+1:=⟨k - 1,bZ⟩;have N:ns.length<b.h.length:=bZ;have Y:=wa Y (aA N);refine wp (h:=i5 (fS ns bZ) wl ?_);refine wp (h:=?_);refine tY (args':=[.ptr f 1 0 0,dLI (ns++[-1])]) (by simp [go_sem,Y,dLI]) rfl ?_;unfold e8;refine ih t bZ (ns++[-1]) i _ _ (by simp;omega) (by simp [go_sem];omega) (by simp [go_sem];omega) ⟨by simp [go_sem,Y],by simp [go_sem,Y],A⟩ (λH2 a4 a1 Z=>?_);obtain ⟨T,R,u⟩:=a4;simp [go_sem] at Z;have L:∀ j,j≠f->j≠o->j<G.next->H2.get j=G.get j:=λj l p E=>by
    have e1:=bP E;rw [a1 j l p (by simp [go_sem];omega)];simp [go_sem,l,p,e1]
   obtain ⟨o1,K⟩:∃ x,x=Nw a b t (ns++[-1]) i:=⟨_,rfl⟩;rw [<- K] at T R u;have Y:=xa1 Y T R;refine wp (h:=bC (λj e H=>∃ r:List Ovl,(e 0=.ptr f 1 0 0/\e 1=dLI ns/\e 34=dLI a.h/\e 35=dI a.h.length/\e 36=dI j)/\(H.get f=some ⟨159,5,[[dLI a.h,.list (a.i.map Edge.c),dLI b.h,.list (b.i.map Edge.c),.own o r.length]],false⟩)/\(f<H.next)/\(H.get o=some ⟨45,6,r.map Ovl.c,false⟩)/\(o<H.next)/\(j<=a.h.length)/\(r.length<=2001)/\(r=(List.range j).foldl (λi j=>if YB a b ns j=true then Nw a b t (ns++[(j:Int)]) i else i) o1)/\(∀ q,q≠f->q≠o->q<G.next->H.get q=G.get q)/\(G.next<=H.next)) (λj=>a.h.length - j) 0 ⟨o1,wg,wn,wn,wn,wn,wi,(by exact u),(by rfl),(by exact L),bZ⟩ λI0 O j e H a0=>?_);obtain ⟨r,E0,S,I,P,F,hj,m,y,n,X⟩:=a0;have a8:=dE (bZ:o≠f);have Y:=xa5 Y E0 S (bP I) P (bP F) a8;refine c8 (λV=>?_) λV=>?_
   .have hEj:YB a b ns j=(decide (a.h[j]=b.h[ns.length])&&!mem ns j):=by unfold YB;rw [aA V,aA N];rfl
    have Y:=xa1 Y V (aA V);refine wp (h:=aG (λhg=>eX ns j) (λhg=>wl) ?_);refine kI (λU=>?_) λU=>?_
    .have hE:YB a b ns j=true:=by rw [hEj];simpa using U
     obtain ⟨w,g⟩:∃ x,x=Nw a b t (ns++[(j:Int)]) r:=⟨_,rfl⟩;refine wp (h:=i5 (fS ns bZ) wl ?_);refine wp (h:=?_);refine tY (args':=[.ptr f 1 0 0,dLI (ns++[(j:Int)])]) (by simp [go_sem,Y,dLI]) rfl ?_;unfold e8;refine ih t bZ (ns++[(j:Int)]) r _ _ (by simp;omega) (by simp [go_sem];omega) (by simp [go_sem];omega) ⟨by simp [go_sem,Y],by simp [go_sem,Y],m⟩ (λW s B z=>?_);rw [<- g] at s;obtain ⟨a6,a5,a9⟩:=s;simp [go_sem] at z;have v:∀ j,j≠f->j≠o->j<G.next->W.get j=G.get j:=λj l p E=>by
      have e1:=bP (bZ:j<H.next);rw [B j l p (by simp [go_sem];omega)];simp [go_sem,l,p,e1];exact n j l p E
     have a7:=xa0 (bP (bZ:f<W.next)) (bP (bZ:o<W.next));have Y:=xa3 Y a6 a5 g a7;exact wp (h:=wx O (j+1) ⟨w,wg,wn,wn,wn,wn,wj,(by rw [g];first|exact m|exact My _ _ _ _ _ m),(by rw [dN,<- y,g];first|rw [if_pos hE]|rw [if_neg (by rw [hE];simp)]),(by first|exact v|exact n|(intro q l p E;simp [go_sem,l,p,bP (bZ:q<H.next)];exact n q l p E)),(by first|omega|(simp [go_sem];omega))⟩)
    .have hE:YB a b ns j=false:=by
      rw [hEj,aW];intro C;simp at C U;have:=U C.1;rw [C.2] at this;cases this
     obtain ⟨w,g⟩:∃ x,x=r:=⟨_,rfl⟩;have Y:=wa Y g;exact wp (h:=wx O (j+1) ⟨w,wg,wn,wn,wn,wn,wj,(by rw [g];first|exact m|exact My _ _ _ _ _ m),(by rw [dN,<- y,g];first|rw [if_pos hE]|rw [if_neg (by rw [hE];simp)]),(by first|exact v|exact n|(intro q l p E;simp [go_sem,l,p,bP (bZ:q<H.next)];exact n q l p E)),(by first|omega|(simp [go_sem];omega))⟩)
   .have hJ:j=a.h.length:=bZ;have a3:Nw a b (t+1) ns i=r:=by simp only [Nw];rw [if_neg hnf,<- K,y,hJ]
    refine wv (h:=?_);exact hQ _ (by rw [a3];exact ⟨by assumption,by assumption,m⟩) n X
theorem jL {l:Xa1}(h:∀ c∈l,jM c=c):eU l=l:=by
 rw [EC];conv=>rhs;rw [<- List.map_id l]
 exact cE h
theorem c7 (l:Xa0):eU (l.map cI)=l.map cI:=jL λc hc=>by
 rw [aV] at hc;obtain ⟨x,_,rfl⟩:=hc;rfl
theorem f8 (l:List Edge):eU (l.map Edge.c)=l.map Edge.c:=jL λc hc=>by
 rw [aV] at hc;obtain ⟨x,_,rfl⟩:=hc;rfl
theorem WA (l:List Ovl):eU (l.map Ovl.c)=l.map Ovl.c:=jL λc hc=>by
 rw [aV] at hc;obtain ⟨x,_,rfl⟩:=hc;simp [Ovl.c,jM,mM,dLI,c7,f8]
def rA (a b:Graph):Int :=
 if graphF a≠0 then graphF a else if graphF b≠0 then graphF b
 else if 40<a.h.length+b.h.length\/80<a.i.length+b.i.length then 3
 else if 2000<(Nw a b b.h.length [] []).length then 3 else 0
def Wt (a b:Graph):List Ovl:=if rA a b=0 then Nw a b b.h.length [] [] else []
theorem mZ (a b:Graph)(m:Part):Pua 83 [a.d,b.d,m.d] (.bool (jN a b m)):=by
 refine Tz.p0 func83 rfl λQ e Y=>?_;refine wo (h:=aB (kA a b m) wl ?_);refine wo (h:=aG (λc=>qG m.h) (λc=>wl) ?_);refine wo (h:=aG (λc=>qG m.i) (λc=>wl) ?_);exact wo (h:=e _ _ (by simp [go_sem,jN,gA]))
theorem Mm (c:Cond)(a:c.cc):Pua 386 [.agg c.c] (.bool (bareB c)):=by
 obtain ⟨j,i,g,f,e,d⟩:=a;refine Tz.p0 func386 rfl λQ b _=>?_;have Y:=@Cond.E;exact wo (h:=b _ _ (by simp [go_sem,bareB];rw [aU];simp;omega))
theorem N8 (c:Cond)(m:c.cc):Pua 347 [.agg c.c] (.bool (s7 c)):=by
 have a:∀ e:Int,e=c.F->Pua 386 [.agg [dI e,.list (c.w.map Cond.c),dLI c.map.h,dLI c.map.i,dLI c.n.j.h,.list (c.n.j.i.map Edge.c),.list (c.n.q.map Slot.c),dI c.n.vars,.list (c.n.I.map Test.c)]] (.bool (bareB c)):=by
  intro e f;have:=Mm c m;rwa [Cond.E,<- f] at this
 refine Tz.p0 func347 rfl λQ d _=>?_;have Y:=@Cond.E;refine c8 (λl=>?_) λl=>?_
 .have Y:=wa Y l;refine wo (h:=aG (λb=>(a _ bZ)) (λb=>wl) ?_);exact wo (h:=d _ _ (by simp [go_sem,s7,Y]))
 .have Y:=wa Y l;refine c8 (λk=>?_) λk=>?_
  .have Y:=wa Y k;refine wo (h:=aG (λb=>(a _ bZ)) (λb=>wl) ?_);exact wo (h:=d _ _ (by simp [go_sem,s7,Y]))
  .have Y:=wa Y k;refine c8 (λj=>?_) λj=>?_
   .have Y:=wa Y j;refine wo (h:=aG (λb=>(a _ bZ)) (λb=>wl) ?_);exact wo (h:=d _ _ (by simp [go_sem,s7,Y];rw [aU];simp;omega))
   .have Y:=wa Y j;refine c8 (λi=>?_) λi=>?_
    .have Y:=wa Y i;refine wo (h:=aG (λb=>(a _ bZ)) (λb=>wl) ?_);exact wo (h:=d _ _ (by simp [go_sem,s7,Y];rw [aU];simp;omega))
    .have Y:=wa Y i;refine c8 (λg=>?_) λg=>?_
     .have Y:=wa Y g;exact wo (h:=d _ _ (by simp [go_sem,s7,Y];rw [aU];simp))
     .have Y:=wa Y g;exact wv (h:=d _ _ (by simp [go_sem,s7,Y]))
theorem Hx:∀ c:Cond,c.ok->Pua 293 [.agg c.c] (.bool (Nz c)):=by
 refine Cond.bm λc p s=>?_;obtain ⟨q,r⟩:=(wB c).1 s;have g:=wC c;refine Tz.p0 func293 rfl λQ j _=>?_;have Y:=@Cond.E;refine wo (h:=aB ((by have:=N8 c q;rwa [Cond.E] at this)) wl ?_);refine dW (λd=>?_) λd=>?_
 .exact wv (h:=j _ _ (.inl (by simp [go_sem,g,d])))
 .refine wv (h:=bC (λi e H=>(e 1=.adr c.c/\e 3=dI i)/\(i<=c.w.length)/\(((c.w.take i).any λk=>!Nz k)=false)) (λi=>c.w.length - i) 0 ⟨wg,wi,(by rfl)⟩ λv l i e H f=>?_);obtain ⟨t,u,o⟩:=f;have Y:=wa Y t;refine wv (h:=?_);repeat first|intro _|refine ⟨iF,?_⟩
  refine wq (λb=>?_) λb=>?_
  .have Y:=wa Y b;refine wo (h:=aB ((by have:=p _ (aC b) (r _ (aC b));rwa [Cond.E] at this)) wl ?_);refine dW (λm=>?_) λm=>?_
   .refine wv (h:=?_);have a:c.w.all Nz=false:=by rw [aW];intro h;rw [b6] at h;have:=h _ (aC b);rw [m] at this;cases this
    exact j _ _ (.inl (by simp only [go_sem,g,d,a,Bool.and_false]))
   .exact wo (h:=wx l (i+1) ⟨wg,wj,(by rw [dZ _ _ _ b,o];simp [m])⟩)
  .refine wv (h:=?_);have n:=pD o b;have a:c.w.all Nz=true:=by simp at n ⊢;exact n
   exact j _ _ (.inl (by simp only [go_sem,g,d,a,Bool.and_true]))
theorem JJ:∀ c:Cond,c.size<=1000000->Pua 294 [.agg c.c] (.tup [dI c.size,dI c.ch]):=by
 refine Cond.bm λc x F=>?_;have f:=yP c;have g:=Vp c;have A:=Bq c.w;refine Tz.p0 func294 rfl λQ v _=>?_;try simp [go_sem,seval,Cond.E]
 obtain ⟨t,j⟩:∃ t:Nat->d7->AHeap->Prop,∀ (i:Nat) (e:d7) (H:AHeap),t i e H↔((e 1=.adr c.c)/\(e 4=dI ((1+Cond.ag (c.w.take i):Nat):Int))/\(e 5=dI (Cond.a2 (c.w.take i):Nat))/\(e 6=dI i)/\(i<=c.w.length)):=⟨λi e H=>_,λ_ _ _=>Iff.rfl⟩;refine uJ t (λi=>c.w.length - i) (0) ((j _ _ _).2 ⟨?_,?_,?_,?_,(by first|assumption|omega|(simp [go_sem,Cond.E];done)|(simp_all;done))⟩) ?_;iterate 4 (first|omega|(simp [go_sem,seval,Cond.E]<;>omega))
 intro i e H p;obtain ⟨n,d,b,m,E⟩:=(j _ _ _).1 p;have l:=xa0 n m;try simp [go_sem,seval,Cond.E,l]
 repeat first|intro _|refine ⟨iF,?_⟩
 refine bA (λh=>?_) (λh=>?_)
 .try simp [go_sem] at h
  have z:=CU (aC h);have C:=Rj c.w[i];have o:=aF h;have q:=He (c.w.take i) c.w[i];have r:=Lt (c.w.take i) c.w[i];have y:=Hd c.w (i+1);have u:Cond.ag (c.w.take (i+1))=Cond.ag (c.w.take i)+c.w[i].size:=by rw [o,q]
  have w:Cond.a2 (c.w.take (i+1))=max (Cond.a2 (c.w.take i)) c.w[i].ch:=by rw [o,r]
  have B:=Bq (c.w.take i);try simp [go_sem,seval,Cond.E,l,h]
  repeat first|intro _|refine ⟨iF,?_⟩
  refine aB ((by have:=x _ (aC h) bZ;rwa [Cond.E] at this)) ((by first|rfl|(simp [go_sem];done))) ?_;try simp [go_sem,seval,l,d,b]
  repeat first|intro _|refine ⟨iF,?_⟩
  refine g9 (i+1) bZ ((j _ _ _).2 ⟨?_,?_,?_,?_,(by first|assumption|omega|(simp [go_sem,Cond.E,l,d,b,h,u,w,JV];done)|(simp_all<;>omega))⟩)<;>first|omega|(simp [go_sem,seval,Cond.E,l,u,w]<;>omega)
 .try simp [go_sem] at h
  have D:c.w.take i=c.w:=aH h;rw [D] at d b;try simp [go_sem,seval,Cond.E,l]
  refine bA (λk=>?_) (λk=>?_)
  .try simp [go_sem] at k
   try simp [go_sem,seval,d,b]
   repeat first|intro _|refine ⟨iF,?_⟩
   exact v _ _ (by first|(left;(simp [go_sem,f,g,k]);done)|(right;(simp [go_sem,f,g,k]);done))
  .try simp [go_sem] at k
   try simp [go_sem,seval,d,b]
   exact v _ _ (by first|(left;(simp [go_sem,f,g,k]);done)|(right;(simp [go_sem,f,g,k]);done))
theorem Ob (c:Cond)(e:c.ok)(d:c.size<=1000000):Pua 222 [.agg c.c] (dI (uC c)):=by
 refine Tz.p0 func222 rfl λQ b _=>?_;have Y:=@Cond.E;refine wo (h:=aB ((by have:=Hx c e;rwa [Cond.E] at this)) wl ?_);refine dW (λa=>?_) λa=>?_
 .exact wv (h:=b _ _ (by simp [go_sem,uC,a]))
 .refine wv (h:=aB ((by have:=JJ c d;rwa [Cond.E] at this)) wl ?_);refine dW (λf=>?_) λf=>?_
  .exact wv (h:=b _ _ (by simp [go_sem,uC,a];omega))
  .exact wv (h:=b _ _ (by simp [go_sem,uC,a];omega))
theorem Mn (p:Pattern)(v:Int):Pua 348 [p.d,dI v] (.bool (kQ p v)):=by
 refine Tz.p0 func348 rfl λQ l Y=>?_;refine wv (h:=bC (λi e H=>(e 2=.adr p.c/\e 1=dI v/\e 5=dI i)/\(i<=p.q.length)/\(((p.q.take i).any λs=>decide (s.C.R=v))=false)) (λi=>p.q.length - i) 0 ⟨wg,wi,(by rfl)⟩ λo g i e H b=>?_);obtain ⟨m,n,k⟩:=b;have Y:=wa Y m;refine wv (h:=?_);repeat first|intro _|refine ⟨iF,?_⟩
 refine wq (λa=>?_) λa=>?_
 .have Y:=wa Y a;refine dW (λj=>?_) λj=>?_
  .refine wv (h:=?_);have f:kQ p v=true:=bF.2 ⟨_,aC a,by simpa using j⟩;exact l _ _ (.inl (by simp only [go_sem,f]))
  .exact wo (h:=wx g (i+1) ⟨wg,wj,(by rw [dZ _ _ _ a,k];simpa using j)⟩)
 .refine wv (h:=?_);have f:kQ p v=false:=pD k a;exact l _ _ (.inl (by simp only [go_sem,f]))
def vQ (t:Types)(o:Int)(q:Pattern):Int:=if q.vars<o then 20 else pL t q o
theorem N9 (t:Types)(x:t.ok)(o:Int)(r:0<=o)(q:Pattern):Pua 295 [t.d,dI o,q.d] (dI (vQ t o q)):=by
 refine Tz.p0 func295 rfl λQ f Y=>?_;refine c8 (λp=>?_) λp=>?_
 .exact wv (h:=f _ _ (by simp [go_sem,vQ,p]))
 .refine wv (h:=aB (vE t x q) wl ?_);refine c8 (λa=>?_) λa=>?_
  .exact wv (h:=f _ _ (by simp [go_sem,vQ,pL,a];omega))
  .have g:=lP (.inl a);have n:vQ t o q=pL t q o:=by unfold vQ;rw [if_neg bZ]
   refine wv (h:=bC (λv e H=>(e 5=.adr q.c/\e 7=dI 9/\e 8=dI (o+v))/\(∀ u:Int,o<=u->u<o+v->kQ q u=true)) (λv=>(q.vars - o).toNat - v) 0 ⟨wg,(by intro u b g;omega)⟩ λA j v e H i=>?_);obtain ⟨z,m⟩:=i;have Y:=wa Y z;refine c8 (λl=>?_) λl=>?_
   .have Y:=wa Y l;refine wo (h:=aB (Mn q _) wl ?_);refine dW (λk=>?_) λk=>?_
    .exact wv (h:=f _ _ (by rw [n,FP a r (v:=o+v) bZ l (eL k)];simp [go_sem]))
    .have ho':∀ u:Int,o<=u->u<o+((v+1:Nat):Int)->kQ q u=true:=λu b g=>by
      by_cases y:u<o+v
      .exact m u b y
      .rw [(bZ:u=o+v)];simpa using k
     exact wo (h:=wx j (v+1) ⟨wg,(ho')⟩)
   .exact wv (h:=f _ _ (by rw [n,FN a r λu b g=>m u b bZ];simp [go_sem]))
theorem QG (t:Types)(G:t.ok):∀ (c:Cond) (p:Pattern),0<=p.vars->p.vars<=12->Pua 223 [t.d,p.d,.agg c.c] (dI (sH t p c)):=by
 refine Cond.bm λc D p u A=>?_;have j:=GM t p c;refine Tz.pK ⟨λt=>t==7,λ_=>[]⟩ func223 rfl (λQ n=>?_);have Y:=@Cond.E;refine c8 (λx=>?_) λx=>?_
 .rw [if_pos x,if_pos x] at j;refine wv (h:=aB (N9 t G p.vars u c.n) wl ?_);refine c8 (λr=>?_) λr=>?_
  .have hE:kS t p c.map c.n=vQ t p.vars c.n:=by
    unfold kS;unfold vQ at r ⊢;split
    .rfl
    .rename_i h';rw [if_neg h'] at r;rw [if_pos r]
   exact wv (h:=n _ _ (by rw [j,hE,if_pos bZ];simp [go_sem]))
  .have hv0:¬ c.n.vars<p.vars/\pL t c.n p.vars=0:=by
    unfold vQ at r;split at r
    .omega
    .exact ⟨by assumption,r⟩
   have F:=hv0.1;have z:=hv0.2;refine wv (h:=aB (kA p.j c.n.j c.map) wl ?_);refine c8 (λy=>?_) λy=>?_
   .exact wv (h:=n _ _ (by simp [go_sem,j,kS,z,y];omega))
   .refine wo (h:=aB (mZ p.j c.n.j c.map) wl ?_);refine dW (λB=>?_) λB=>?_
    .exact wv (h:=n _ _ (by simp [go_sem,j,kS,z,y,B];omega))
    .have hE0:kS t p c.map c.n=0:=by simp [kS,z,y,B];omega
     rw [hE0,if_neg bZ] at j;obtain ⟨w,g⟩:=fH (c.n);have E:=FO z;have l:0<=w.vars:=by rw [g];exact E.1
     have k:w.vars<=12:=by rw [g];exact E.2
     have q:sH t p c=iB (sH t w) c.w:=by rw [j,g]
     refine wv (h:=bC (λi e H=>(e 3=.adr t.c/\e 5=.adr c.c/\e 7=.ptr 0 1 0 0/\e 10=dI i)/\(H.get 0=some ⟨33,5,[w.c],false⟩)/\(0<H.next)/\(i<=c.w.length)/\(iB (sH t w) (c.w.drop i)=sH t p c)) (λi=>c.w.length - i) 0 ⟨wg,(by simp [go_sem,g]),wn,wi,(by exact q.symm)⟩ λJ o i e H m=>?_);obtain ⟨C,f,b,I,v⟩:=m;have Y:=xa2 Y C f (bP b);refine wv (h:=?_);repeat first|intro _|refine ⟨iF,?_⟩
     refine wq (λa=>?_) λa=>?_
     .have hst:=v;rw [lQ _ a] at hst;have Y:=wa Y a;refine wo (h:=aI ((by have:=D _ (aC a) w l k;rwa [Cond.E] at this)) wl ?_);refine dW (λs=>?_) λs=>?_
      .rw [if_pos bZ] at hst;exact wv (h:=n _ _ (by simp [go_sem,hst]))
      .rw [if_neg bZ] at hst;exact wo (h:=wx o (i+1) ⟨wg,(by simp [go_sem,Y]),wn,wj,(by exact hst)⟩)
     .exact wv (h:=n _ _ (by rw [<- v,nC _ bZ];simp [go_sem]))
 .rw [if_neg x,if_neg bZ,if_neg x] at j;obtain ⟨w,g⟩:=fH (p);have l:0<=w.vars:=by rw [g];exact u
  have k:w.vars<=12:=by rw [g];exact A
  have q:sH t p c=iB (sH t w) c.w:=by rw [j,g]
  refine wv (h:=bC (λi e H=>(e 3=.adr t.c/\e 5=.adr c.c/\e 7=.ptr 0 1 0 0/\e 10=dI i)/\(H.get 0=some ⟨33,5,[w.c],false⟩)/\(0<H.next)/\(i<=c.w.length)/\(iB (sH t w) (c.w.drop i)=sH t p c)) (λi=>c.w.length - i) 0 ⟨wg,(by simp [go_sem,g]),wn,wi,(by exact q.symm)⟩ λJ o i e H m=>?_);obtain ⟨C,f,b,I,v⟩:=m;have Y:=xa2 Y C f (bP b);refine wv (h:=?_);repeat first|intro _|refine ⟨iF,?_⟩
  refine wq (λa=>?_) λa=>?_
  .have hst:=v;rw [lQ _ a] at hst;have Y:=wa Y a;refine wo (h:=aI ((by have:=D _ (aC a) w l k;rwa [Cond.E] at this)) wl ?_);refine dW (λs=>?_) λs=>?_
   .rw [if_pos bZ] at hst;exact wv (h:=n _ _ (by simp [go_sem,hst]))
   .rw [if_neg bZ] at hst;exact wo (h:=wx o (i+1) ⟨wg,(by simp [go_sem,Y]),wn,wj,(by exact hst)⟩)
  .exact wv (h:=n _ _ (by rw [<- v,nC _ bZ];simp [go_sem]))
theorem Fx (t:Types)(f:t.ok)(p:Pattern)(c:Cond)(i:c.ok)(g:c.size<=1000000):Pua 130 [t.d,p.d,.agg c.c] (dI (condF t p c)):=by
 refine Tz.p0 func130 rfl λQ b _=>?_;have Y:=@Cond.E;refine wv (h:=aB (vE t f p) wl ?_);refine c8 (λa=>?_) λa=>?_
 .have Y:=xa1 Y a @condF.eq_1;exact wv (h:=b _ _ wy)
 .have hv:=lP (.inr a);refine wv (h:=aB ((by have:=Ob c i g;rwa [Cond.E] at this)) wl ?_);refine c8 (λe=>?_) λe=>?_
  .have Y:=xa2 Y a e @condF.eq_1;exact wv (h:=b _ _ wy)
  .refine wv (h:=aB ((by have:=QG t f c p hv.1 hv.2;rwa [Cond.E] at this)) wl ?_);have Y:=xa2 Y a e @condF.eq_1;exact wv (h:=b _ _ wy)
theorem xN {l:Xa0}{v:Int}(e:l.Pairwise (· < ·))(f:mem l v=true):gS l v=lH l v:=by
 obtain ⟨i,d,g⟩:=aO ((mem_iff l v).1 f);have a:=eD.1 e;rw [sI (i:=i) (λj c h=>by
   have b:j<l.length:=bZ;rw [aA b] at h;have:=a j i b d c;simp at h;omega) (by rw [aA d,g])]
 rw [R3 (n:=i) (λj c h=>by have:=a j i c d h;omega) bZ (λ_=>by omega)]
theorem rL {α:Type}{f:α->Int}:∀ {l:List α},iB f l=0->∀ x∈l,f x=0
 | [],_,x,hx=>by cases hx
 | a :: l,h,x,hx=>by
  unfold iB at h;split at h
  .rename_i h1;exact absurd h h1
  .rename_i h1;rcases aS.1 hx with h2|h2
   .subst h2;omega
   .exact rL h x h2
theorem Bc {g:Graph}{p:Part}(h:subF g p=0):∀ k∈p.i,mem p.h (g.i[k.toNat]?.getD bX).B=true/\mem p.h (g.i[k.toNat]?.getD bX).O=true:=by
 unfold subF sC at h;split at h
 .rename_i h1;exact absurd h h1
 .split at h
  .rename_i h2;exact absurd h h2
  .split at h
   .rename_i h3;exact absurd h h3
   .intro k hk;have:=rL h k hk;unfold AY at this;grind
theorem BS (g:Graph)(p:Part)(hl:p.h.length<=1000000)(a2:p.i.length<=1000000):Pua 219 [g.d,p.d] (.tup [(bG g p).d,(FF g p).d,dI (subF g p)]):=by
 refine Tz.pK ⟨λt=>t==4||t==5||t==8||t==11||t==76||t==80,λr=>match r with|8=>[(0,11),(1,11)]|12=>[(0,9),(1,9),(2,9),(3,9),(5,9),(6,9),(7,9),(8,9)]|13=>[(0,15),(1,15)]|14=>[(0,1),(1,2),(1,3),(0,4),(0,5),(1,5),(2,5),(3,5),(4,5),(1,6),(4,6),(5,6),(1,7),(4,7),(5,7),(0,8)]|_=>[]⟩ func219 rfl (λQ hQ=>?_);have Y:=trivial;refine wv (h:=aB (vH g p) wl ?_);refine c8 (λC=>?_) λC=>?_
 .exact wv (h:=hQ _ _ (by simp [go_sem,bG,FF,C]))
 .obtain ⟨hg,hs,P,R⟩:=fO C;have n:=Bc C;refine wv (h:=nE (Ghosts.step (Ghosts.refl _) 2 0 0 3 1 _ _ (rfl) rfl rfl rfl) (λi e H=>∃ b:Xa0,(e 2=.adr g.c/\e 3=.adr p.c/\e 4=.ptr 0 1 0 0/\e 5=.ptr 1 1 0 0/\e 8=.ptr 2 1 0 0/\e 9=dI i)/\(H.get 0=some ⟨29,2,[[.nil,.nil]],false⟩)/\(0<H.next)/\(H.get 1=some ⟨36,2,[[.nil,.nil]],false⟩)/\(1<H.next)/\(H.get 2=some ⟨29,2,[[.own 3 b.length,.nil]],false⟩)/\(2<H.next)/\(H.get 3=some ⟨3,1,b.map cI,false⟩)/\(3<H.next)/\(i<=p.h.length)/\(b=(p.h.take i).map (gN g))) (λi=>p.h.length - i) 0 ⟨([]),wg,wn,wn,wn,wn,wn,wn,wn,wn,wi,(by rfl)⟩ λI0 V i e H T=>?_);obtain ⟨b,E0,L,A,J,y,f,w,F,u,hi,O⟩:=T;have Y:=xa8 Y E0 L (bP A) J (bP y) f (bP w) F (bP u);refine kI (λM=>?_) λM=>?_
  .have hin':=P _ (aC M);have hk:p.h[i].toNat<g.h.length:=bZ;have a1:b.length=i:=by rw [O];simp;omega
   have Y:=xa2 Y M (aA hk) @gN.eq_1;exact wp (h:=wx V (i+1) ⟨(b++[gN g p.h[i]]),wg,wn,wn,wn,wn,wn,wn,wn,wn,wj,(by rw [dB _ M,<- O])⟩)
  .have hX:b=p.h.map (gN g):=by rw [O,dV _ bZ]
   refine wv (h:=nE (Ghosts.step (Ghosts.refl _) 2 0 1 153 3 _ _ (f) rfl rfl rfl) (λk e H=>∃ j:Nat,∃ l:List Edge,(e 2=.adr g.c/\e 3=.adr p.c/\e 4=.ptr 0 1 0 0/\e 5=.ptr 1 1 0 0/\e 8=.ptr 2 1 0 0/\e 10=dI k)/\(H.get 0=some ⟨29,2,[[.nil,.nil]],false⟩)/\(0<H.next)/\(H.get 1=some ⟨36,2,[[.nil,.nil]],false⟩)/\(1<H.next)/\(H.get 2=some ⟨29,2,[[.own 3 b.length,.own j l.length]],false⟩)/\(2<H.next)/\(H.get 3=some ⟨3,1,b.map cI,false⟩)/\(3<H.next)/\(H.get j=some ⟨153,3,l.map Edge.c,false⟩)/\(j<H.next)/\(k<=p.i.length)/\(l=(p.i.take k).map (gEd g p))/\(j≠0)/\(j≠1)/\(j≠2)/\(j≠3)) (λk=>p.i.length - k) 0 ⟨H.next,([]),wg,wn,wn,wn,wn,wn,wn,wn,wn,wn,wn,wi,(by rfl),bZ,bZ,bZ,bZ⟩ λI2 U k e H m=>?_);obtain ⟨j,l,E2,K,z,I,x,G,v,E,s,D,q,hk,N,j0,Z,X,W⟩:=m;have Y:=xa7 Y E2 K (bP z) I (bP x) G (bP v) (xb0 E (bP s) D (bP q) j0 Z X W j0.symm Z.symm X.symm W.symm);refine kI (λa=>?_) λa=>?_
   .have hie':=R _ (aC a);have B:p.i[k].toNat<g.i.length:=bZ;have a0:l.length=k:=by rw [N];simp;omega
    have o:=n _ (aC a);rw [aA B,aD] at o;have S:=xN hs o.1;have m:=xN hs o.2;have Y:=xa4 Y a (aA B) @gEd.eq_1 S m;refine wp (h:=aI (vG p.h _) wl ?_);refine wp (h:=aI (vG p.h _) wl ?_);exact wp (h:=wx U (k+1) ⟨j,(l++[gEd g p p.i[k]]),wg,wn,wn,wn,wn,wn,wn,wn,wn,wn,wn,wj,(by rw [dB _ a,<- N]),wj,wj,wj,wj⟩)
   .have hY:l=p.i.map (gEd g p):=by rw [N,dV _ bZ]
    exact wp (h:=hQ _ _ (by simp [go_sem,Y,bG,FF,C,hX,hY]))
theorem QF (t:Types)(w:t.ok)(p:Pattern)(F:p.j.h.length<=1000)(y:p.q.length<=1000)(i:Nat)(r:i<p.q.length):Pua 217 [t.d,p.d,dI i] (dI (yO t p i)):=by
 have a:=Ep (t:=t) r;have g:=rT w (p.F p.q[i].node);refine Tz.pK ⟨λt=>t==7,λ_=>[]⟩ func217 rfl (λQ m=>?_);have Y:=wa (aA r) r;refine dW (λB=>?_) λB=>?_
 .have hE:iI t p p.q[i]≠0:=by
   unfold iI;rw [if_neg];decide;intro h;simp [mK] at h;omega
  rw [if_pos hE] at a;exact wv (h:=m _ _ (by simp [go_sem,a]))
 .have hn:p.q[i].node.toNat<p.j.h.length:=bZ;have l:p.F p.q[i].node=p.j.h[p.q[i].node.toNat]:=by simp [Pattern.F,hn]
  rw [l] at g;have Y:=xa1 Y (aA hn) l;refine wo (h:=aI (sA t w p.j.h[p.q[i].node.toNat]) wl ?_);refine dW (λA=>?_) λA=>?_
  .have hE:iI t p p.q[i]≠0:=by
    unfold iI;rw [if_neg];decide;intro h;simp [mK,inF,l] at h;omega
   rw [if_pos hE] at a;exact wv (h:=m _ _ (by simp [go_sem,a]))
  .have hE:iI t p p.q[i]=0:=by
    unfold iI;rw [if_pos];simp [mK,inF,l];omega
   rw [if_neg bZ] at a;refine wv (h:=bC (λk e H=>(e 4=.adr p.c/\e 2=dI i/\e 7=.ptr 0 1 0 0/\e 10=dI k)/\(H.get 0=some ⟨178,4,[p.q[i].c],false⟩)/\(0<H.next)/\(k<=i)/\(((p.q.take k).any (sameSlot p.q[i]))=false)) (λk=>i - k) 0 ⟨wg,wn,wn,wi,(by rfl)⟩ λG u k e H q=>?_);obtain ⟨C,j,b,z,f⟩:=q;have Y:=xa2 Y C j (bP b);refine c8 (λg=>?_) λg=>?_
   .have hkl:k<p.q.length:=bZ;have Y:=xa1 Y g hkl;refine dW (λv=>?_) λv=>?_
    .refine wv (h:=?_);have s:=v7 (p:=sameSlot p.q[i]) g hkl (by simp [sameSlot];omega);exact m _ _ (by rw [a,if_pos s];simp [go_sem])
    .exact wo (h:=wx u (k+1) ⟨wg,wn,wn,wj,(by rw [dZ _ _ _ hkl,f];simp [sameSlot];omega)⟩)
   .have s:=tM f (bZ:k=i);exact wv (h:=m _ _ (by rw [a,if_neg (by simp [s])];simp [go_sem]))
theorem N7 (t:Types)(p:t.ok)(r:Rule):Pua 125 [t.d,r.d] (dI (iX t r)):=by
 refine Tz.p0 func125 rfl λQ f Y=>?_;refine wv (h:=aB (mF r.right.j) wl ?_);refine c8 (λg=>?_) λg=>?_
 .exact wv (h:=f _ _ (.inl (by simp [go_sem,iX,g])))
 .have hg:=aY g;refine wo (h:=aB (vF t r.right.j) wl ?_);refine dW (λb=>?_) λb=>?_
  .rw [yK g] at b;exact wv (h:=f _ _ (.inl (by simp [go_sem,iX,g,b])))
  .rw [yK g] at b;refine dW (λl=>?_) λl=>?_
   .have hR:iX t r=1:=by unfold iX;rw [if_neg bZ,if_neg (by simp [b]),if_pos bZ]
    exact wv (h:=f _ _ (.inl (by simp [go_sem,hR])))
   .have h6':¬ (r.right.vars≠r.left.vars\/0<r.right.I.length):=by
     rintro (h|h)
     .exact h l.1
     .have:=l.2;simp [this] at h
    refine dW (λq=>?_) λq=>?_
    .have hR:iX t r=3:=by unfold iX;rw [if_neg bZ,if_neg (by simp [b]),if_neg h6',if_pos bZ]
     exact wv (h:=f _ _ (.inl (by simp [go_sem,hR])))
    .have hR:iX t r=bS (yO t r.right) 0 r.right.q.length:=by unfold iX;rw [if_neg bZ,if_neg (by simp [b]),if_neg h6',if_neg bZ]
     refine wv (h:=bC (λi e H=>(e 2=.adr t.c/\e 3=.adr r.c/\e 6=dI i)/\(i<=r.right.q.length)/\(bS (yO t r.right) i (r.right.q.length - i)=iX t r)) (λi=>r.right.q.length - i) 0 ⟨wg,wi,(hR.symm)⟩ λx k i e H j=>?_);obtain ⟨s,w,n⟩:=j;have Y:=wa Y s;refine dW (λa=>?_) λa=>?_
     .have hst:=n;rw [fE _ a] at hst;have Y:=wa Y a;refine wv (h:=aB (QF t p r.right bZ bZ i a) wl ?_);refine c8 (λm=>?_) λm=>?_
      .rw [if_pos bZ] at hst;exact wv (h:=f _ _ (.inl (by simp [go_sem,hst])))
      .rw [if_neg bZ] at hst;exact wo (h:=wx k (i+1) ⟨wg,wj,(hst)⟩)
     .exact wv (h:=f _ _ (.inl (by rw [<- n,(bZ:r.right.q.length - i=0)];rfl)))
theorem Te (l:Xa0)(v:Int):Pua 292 [dLI l,dI v] (.bool (mem l v)):=by
 refine Tz.p0 func292 rfl λQ m Y=>?_;refine wv (h:=bC (λi e H=>(e 0=dLI l/\e 1=dI v/\e 5=dI i)/\(i<=l.length)/\(∀ j,j<i->l[j]?≠some v)) (λi=>l.length - i) 0 ⟨wg,wi,(by intro j k;omega)⟩ λq f i e H d=>?_);obtain ⟨o,p,a⟩:=d;have Y:=wa Y o;refine wv (h:=?_);repeat first|intro _|refine ⟨iF,?_⟩
 refine wq (λb=>?_) λb=>?_
 .have Y:=wa Y b;refine dW (λg=>?_) λg=>?_
  .refine wv (h:=?_);have c:mem l v=true:=(mem_iff l v).2 (g ▸ aC b);exact m _ _ (by simp [go_sem,c])
  .exact wo (h:=wx f (i+1) ⟨wg,wj,(by exact iR a (by rw [aA b];simpa using g))⟩)
 .refine wv (h:=?_);have c:mem l v=false:=by rw [aW];intro h;obtain ⟨j,k,n⟩:=aO ((mem_iff l v).1 h);exact a j bZ (by rw [aA k,n])
  exact m _ _ (by simp [go_sem,c])
theorem Hw (l:Xa0)(n:Nat)(v:n<=1000000):Pua 220 [dI n,dLI l] (dLI (aN l n)):=by
 refine Tz.pK ⟨λt=>t==5,λ_=>[]⟩ func220 rfl (λQ r=>?_);have Y:=trivial;refine wv (h:=bC (λi e H=>∃ a:Xa0,(e 1=dLI l/\e 0=dI n/\e 5=.own 0 a.length/\e 6=dI i)/\(H.get 0=some ⟨3,1,a.map cI,false⟩)/\(0<H.next)/\(i<=n)/\(a.length<=i)/\(a=((List.range i).filter λ(b:Nat)=>!mem l b).map (λ(b:Nat)=>(b:Int)))) (λi=>n - i) 0 ⟨([]),wg,wn,wn,wi,eG,(by rfl)⟩ λz f i e H k=>?_);obtain ⟨a,s,g,d,x,w,j⟩:=k;have Y:=xa2 Y s g (bP d);refine c8 (λp=>?_) λp=>?_
 .have Y:=wa Y p;refine wo (h:=aB (Te l i) wl ?_);refine dW (λm=>?_) λm=>?_
  .have Y:=wa Y m;exact wo (h:=wx f (i+1) ⟨(a++(if (!mem l i)=true then [(i:Int)] else [])),wg,wn,wn,wj,(by rw [aQ];split<;>simp<;>omega),(by rw [b8,<- j])⟩)
  .have Y:=wa Y m;exact wo (h:=wx f (i+1) ⟨(a++(if (!mem l i)=true then [(i:Int)] else [])),wg,wn,wn,wj,(by rw [aQ];split<;>simp<;>omega),(by rw [b8,<- j])⟩)
 .exact wv (h:=r _ _ (by simp [go_sem,Y,aN];rw [j,(bZ:i=n)];simp))
theorem Ml (t:Types)(D:t.ok)(g:Graph)(J:graphF g=0)(G:eY t g=true)(nodes edges:Xa0)(E:∀ i∈nodes,0<=i/\i<g.h.length)(F:∀ k∈edges,0<=k/\k<g.i.length):Pua 129 [t.d,g.d,dLI nodes,dLI edges] (.bool (sE t g nodes edges)):=by
 have o:=iW J G;refine Tz.pK ⟨λt=>t==11,λr=>match r with|9=>[(0,8),(1,8),(4,8),(5,8),(6,8),(7,8)]|_=>[]⟩ func129 rfl (λQ x=>?_);have Y:=trivial;refine wv (h:=bC (λi e H=>(e 4=.adr t.c/\e 5=.adr g.c/\e 2=dLI nodes/\e 3=dLI edges/\e 9=dI i)/\(i<=nodes.length)/\(((nodes.take i).any (absB t g))=false)) (λi=>nodes.length - i) 0 ⟨wg,wi,(by rfl)⟩ λO z i e H v=>?_);obtain ⟨L,M,C⟩:=v;have Y:=wa Y L;refine wv (h:=?_);repeat first|intro _|refine ⟨iF,?_⟩
 refine wq (λj=>?_) λj=>?_
 .have hn':=E _ (aC j);have q:nodes[i].toNat<g.h.length:=bZ;have n:=o.1 _ (aC q);have m:g.h[nodes[i].toNat].toNat<t.h.length:=bZ;have p:absB t g nodes[i]=t.h[g.h[nodes[i].toNat].toNat].d2:=by simp [absB,gN,aA q,aA m]
  have Y:=xa2 Y j (aA q) (aA m);refine dW (λA=>?_) λA=>?_
  .refine wv (h:=?_);have s:nodes.any (absB t g)=true:=bF.2 ⟨_,aC j,by rw [p,A]⟩;exact x _ _ (.inl (by simp only [go_sem,sE,s,Jk,Gd]))
  .exact wo (h:=wx z (i+1) ⟨wg,wj,(by rw [dZ _ _ _ j,C,p,A];rfl)⟩)
 .have hN:=pD C j;refine wv (h:=bC (λk e H=>(e 4=.adr t.c/\e 5=.adr g.c/\e 2=dLI nodes/\e 3=dLI edges/\e 10=dI k)/\(k<=edges.length)/\(((edges.take k).any (unfitB t g))=false)) (λk=>edges.length - k) 0 ⟨wg,wi,(by rfl)⟩ λN y k e H u=>?_);obtain ⟨K,q,s⟩:=u;have Y:=wa Y K;refine wv (h:=?_);repeat first|intro _|refine ⟨iF,?_⟩
  refine wq (λf=>?_) λf=>?_
  .have he':=F _ (aC f);have a:edges[k].toNat<g.i.length:=bZ;have n:=o.2 _ (aC a);have B:g.i[edges[k].toNat].B.toNat<g.h.length:=bZ;have l:g.i[edges[k].toNat].O.toNat<g.h.length:=bZ;have p:unfitB t g edges[k] = !oR t g.i[edges[k].toNat].type g.h[g.i[edges[k].toNat].B.toNat] g.h[g.i[edges[k].toNat].O.toNat]:=by simp [unfitB,gN,aA a,aA B,aA l]
   have Y:=xa3 Y f (aA a) (aA B) (aA l);refine wo (h:=aI (HJ t D _ _ _) wl ?_);refine dW (λb=>?_) λb=>?_
   .refine wv (h:=?_);have w:edges.any (unfitB t g)=true:=bF.2 ⟨_,aC f,by rw [p,b];rfl⟩;exact x _ _ (.inl (by simp only [go_sem,sE,w,Jk,Bool.and_false]))
   .exact wo (h:=wx y (k+1) ⟨wg,wj,(by rw [dZ _ _ _ f,s,p,b];rfl)⟩)
  .refine wv (h:=?_);have I:=pD s f;exact x _ _ (.inl (by simp only [go_sem,sE,hN,I,Bool.not_false,Bool.and_true]))
theorem JH (r:Rule)(c:r.right.j.h.length<=1000000)(b:r.right.j.i.length<=1000000):Pua 128 [r.d] (.tup [dLI r.Y,dLI r.am]):=by
 refine Tz.p0 func128 rfl λQ a Y=>?_;refine wo (h:=aI (Hw r.A.h _ c) wl ?_);refine wo (h:=aI (Hw r.A.i _ b) wl ?_);have Y:=xa1 Y @Rule.Y.eq_1 @Rule.am.eq_1;exact wo (h:=a _ _ wy)
def spanF (r:Rule):Int :=
 if subF r.left.j r.u≠0 then subF r.left.j r.u
 else cY (bG r.left.j r.u) r.right.j r.A
theorem QE (r:Rule)(f:r.ok):Pua 126 [r.d] (dI (spanF r)):=by
 obtain ⟨_,b,a,i,g,_,_⟩:=f;refine Tz.pK ⟨λt=>t==4||t==5,λ_=>[]⟩ func126 rfl (λQ e=>?_);have Y:=trivial;refine wv (h:=aB (vH r.left.j r.u) wl ?_);refine c8 (λc=>?_) λc=>?_
 .have Y:=xa1 Y c @spanF.eq_1;exact wv (h:=e _ _ wy)
 .refine wv (h:=aB (BS r.left.j r.u b a) wl ?_);refine wv (h:=aB (kA (bG r.left.j r.u) r.right.j r.A) wl ?_);have Y:=xa1 Y c @spanF.eq_1;exact wv (h:=e _ _ wy)
theorem Q3 (r:Rule):keptF r=if spanF r≠0 then spanF r else if (decide r.A.h.Nodup&&decide r.A.i.Nodup)=true then 0 else 11:=by
 unfold keptF spanF jN;grind
theorem Ar (t:Types)(m:t.ok)(r:Rule)(q:r.ok):Pua 62 [t.d,r.d] (dI (ruleF t r)):=by
 have o:=Fx t m r.left r.cond q.cond q.size;rw [Cond.E] at o;have u:=Q3 r;refine Tz.p0 func62 rfl λQ f Y=>?_;refine wv (h:=aB (nY t m) wl ?_);refine c8 (λe=>?_) λe=>?_
 .exact wv (h:=f _ _ (by simp [go_sem,ruleF,e]))
 .refine wo (h:=aB (qH r.name q.name) wl ?_);refine dW (λg=>?_) λg=>?_
  .exact wv (h:=f _ _ (by simp [go_sem,ruleF,e,g]))
  .refine wv (h:=aB (vE t m r.left) wl ?_);refine c8 (λj=>?_) λj=>?_
   .exact wv (h:=f _ _ (by simp [go_sem,ruleF,e,g,j]))
   .refine wv (h:=aB (N7 t m r) wl ?_);refine c8 (λb=>?_) λb=>?_
    .exact wv (h:=f _ _ (by simp [go_sem,ruleF,e,g,j,b]))
    .have n:=Be b;have v:=aY n.1;refine wv (h:=aB (QE r q) wl ?_);refine c8 (λp=>?_) λp=>?_
     .exact wv (h:=f _ _ (by simp [go_sem,ruleF,e,g,j,b,u,p]))
     .refine wo (h:=aB (qG r.A.h) wl ?_);refine wo (h:=aG (λn=>qG r.A.i) (λn=>wl) ?_);refine dW (λl=>?_) λl=>?_
      .have c:keptF r=11:=by rw [u,if_neg bZ,if_neg (λh=>by rw [aL,decide_eq_true_eq,decide_eq_true_eq] at h;rcases l with h'|h';exact h' h.1;exact h' h.2)]
       exact wv (h:=f _ _ (by simp [go_sem,ruleF,e,g,j,b,c]))
      .have c:keptF r=0:=by rw [u,if_neg bZ,if_pos (by rw [aL,decide_eq_true_eq,decide_eq_true_eq];exact l)]
       refine wv (h:=aB (JH r bZ bZ) wl ?_);refine wo (h:=aB (Ml t m r.right.j n.1 n.2 r.Y r.am (λi s=>eJ s) (λi s=>eJ s)) wl ?_);refine dW (λk=>?_) λk=>?_
       .exact wv (h:=f _ _ (by simp [go_sem,ruleF,e,g,j,b,c,k]))
       .refine wv (h:=aB (o) wl ?_);exact wv (h:=f _ _ (by simp [go_sem,ruleF,e,g,j,b,c,k]))
theorem iP (l:Xa0)(v:Int):Pua 95 [dLI l,dI v] (dI (gS l v)):=by
 refine Tz.p0 func95 rfl λQ g Y=>?_;refine wv (h:=bC (λi e H=>(e 0=dLI l/\e 1=dI v/\e 5=dI i)/\(i<=l.length)/\(∀ j,j<i->l[j]?≠some v)) (λi=>l.length - i) 0 ⟨wg,wi,(by intro j k;omega)⟩ λo d i e H c=>?_);obtain ⟨m,n,a⟩:=c;have Y:=wa Y m;refine wv (h:=?_);repeat first|intro _|refine ⟨iF,?_⟩
 refine wq (λb=>?_) λb=>?_
 .have Y:=wa Y b;refine wv (h:=?_);repeat first|intro _|refine ⟨iF,?_⟩
  refine wq (λf=>?_) λf=>?_
  .exact wv (h:=g _ _ (by rw [sI a (by rw [aA b,f])];simp [go_sem]))
  .exact wo (h:=wx d (i+1) ⟨wg,wj,(by exact iR a (by rw [aA b];simpa using f))⟩)
 .exact wv (h:=g _ _ (by rw [xO λj k=>a j bZ];simp [go_sem]))
def O8 (l:Xa0)(n:Nat):Xa0:=((List.range n).filter λ(i:Nat)=>mem l i).map λ(i:Nat)=>(i:Int)
theorem C3 (l:Xa0)(n:Nat)(q:n<=1000000):Pua 85 [dI n,dLI l] (dLI (O8 l n)):=by
 refine Tz.pK ⟨λt=>t==5,λ_=>[]⟩ func85 rfl (λQ o=>?_);have Y:=trivial;refine wv (h:=bC (λi e H=>∃ a:Xa0,(e 1=dLI l/\e 0=dI n/\e 5=.own 0 a.length/\e 6=dI i)/\(H.get 0=some ⟨3,1,a.map cI,false⟩)/\(0<H.next)/\(i<=n)/\(a.length<=i)/\(a=((List.range i).filter λ(b:Nat)=>mem l b).map (λ(b:Nat)=>(b:Int)))) (λi=>n - i) 0 ⟨([]),wg,wn,wn,wi,eG,(by rfl)⟩ λu d i e H k=>?_);obtain ⟨a,p,g,c,s,r,j⟩:=k;have Y:=xa2 Y p g (bP c);refine c8 (λm=>?_) λm=>?_
 .have Y:=wa Y m;refine wv (h:=aB (iP l i) wl ?_);refine c8 (λf=>?_) λf=>?_
  .have hm:mem l i=true:=by simpa [mem] using f
   have Y:=xa1 Y f hm;exact wo (h:=wx d (i+1) ⟨(a++(if mem l i=true then [(i:Int)] else [])),wg,wn,wn,wj,(by rw [aQ];split<;>simp<;>omega),(by rw [b8,<- j])⟩)
  .have hm:mem l i=false:=by simpa [mem] using f
   have Y:=xa1 Y f hm;exact wo (h:=wx d (i+1) ⟨(a++(if mem l i=true then [(i:Int)] else [])),wg,wn,wn,wj,(by rw [aQ];split<;>simp<;>omega),(by rw [b8,<- j])⟩)
 .exact wv (h:=o _ _ (by simp [go_sem,Y,O8];rw [j,(bZ:i=n)];simp))
theorem iN (l:Xa0)(n:Nat)(q:n<=1000000):Pua 77 [dLI l,dI n] (dLI (aN l n)):=by
 refine Tz.pK ⟨λt=>t==5,λ_=>[]⟩ func77 rfl (λQ o=>?_);have Y:=trivial;refine wv (h:=bC (λi e H=>∃ a:Xa0,(e 0=dLI l/\e 7=dI n/\e 5=.own 0 a.length/\e 8=dI i)/\(H.get 0=some ⟨3,1,a.map cI,false⟩)/\(0<H.next)/\(i<=n)/\(a.length<=i)/\(a=((List.range i).filter λ(b:Nat)=>!mem l b).map (λ(b:Nat)=>(b:Int)))) (λi=>n - i) 0 ⟨([]),wg,wn,wn,wi,eG,(by rfl)⟩ λu d i e H j=>?_);obtain ⟨a,p,f,c,s,r,g⟩:=j;have Y:=xa2 Y p f (bP c);refine c8 (λm=>?_) λm=>?_
 .have Y:=wa Y m;refine wo (h:=aB (eX l i) wl ?_);refine dW (λk=>?_) λk=>?_
  .have Y:=wa Y k;exact wo (h:=wx d (i+1) ⟨(a++(if (!mem l i)=true then [(i:Int)] else [])),wg,wn,wn,wj,(by rw [aQ];split<;>simp<;>omega),(by rw [b8,<- g])⟩)
  .have Y:=wa Y k;exact wo (h:=wx d (i+1) ⟨(a++(if (!mem l i)=true then [(i:Int)] else [])),wg,wn,wn,wj,(by rw [aQ];split<;>simp<;>omega),(by rw [b8,<- g])⟩)
 .exact wv (h:=o _ _ (by simp [go_sem,Y,aN];rw [g,(bZ:i=n)];simp))
theorem vW (xs:Xa0)(b:xs.length<=1000000):Pua 73 [dLI xs] (dLI (kJ xs)):=by
 have a:=lO xs;refine Tz.p0 func73 rfl λQ c _=>?_;have Y:=a;refine wv (h:=i5 (fS xs b) wl ?_);refine wv (h:=?_);unfold e8;refine Ha (ty:=3) (xs:=xs) (by simp [go_sem]) b ?_;exact wv (h:=c _ _ wy)
def mT (d f:Xa0)(n:Nat):Xa0:=((List.range n).filter λ(i:Nat)=>mem f (d[i]?.getD 0)).map λ(i:Nat)=>(i:Int)
def lY (d f:Xa0)(n:Nat):Xa0:=((List.range n).filter λ(i:Nat)=>mem f (d[i]?.getD 0)).map λ(i:Nat)=>gS f (d[i]?.getD 0)
theorem Lx (d f:Xa0){i:Nat}(h:i<d.length):mT d f (i+1)=mT d f i++(if mem f d[i]=true then [(i:Int)] else []):=by
 unfold mT;rw [dM,jY,List.map_append];congr 1;by_cases a:mem f d[i]=true<;>simp [h,a]
theorem Lw (d f:Xa0){i:Nat}(h:i<d.length):lY d f (i+1)=lY d f i++(if mem f d[i]=true then [gS f d[i]] else []):=by
 unfold lY;rw [dM,jY,List.map_append];congr 1;by_cases a:mem f d[i]=true<;>simp [h,a]
theorem A5 (d f:Xa0)(n:Nat):(mT d f n).length<=n:=by
 unfold mT;rw [bI];exact eI (dG _ _) eG
theorem DY (d f:Xa0)(n:Nat):(lY d f n).length<=n:=by
 unfold lY;rw [bI];exact eI (dG _ _) eG
theorem C6 (d f:Xa0)(F:d.length<=1000000):Pua 196 [dLI d,dLI f] (.tup [dLI (mT d f d.length),dLI (lY d f d.length)]):=by
 refine Tz.pK ⟨λt=>t==6||t==7,λ_=>[]⟩ func196 rfl (λQ B=>?_);have Y:=trivial;refine wv (h:=bC (λi e H=>∃ m:Xa0,∃ l:Xa0,(e 0=dLI d/\e 1=dLI f/\e 6=.own 0 m.length/\e 7=.own 1 l.length/\e 8=dI i)/\(H.get 0=some ⟨3,1,m.map cI,false⟩)/\(0<H.next)/\(H.get 1=some ⟨3,1,l.map cI,false⟩)/\(1<H.next)/\(i<=d.length)/\(m.length<=i)/\(l.length<=i)/\(m=mT d f i)/\(l=lY d f i)) (λi=>d.length - i) 0 ⟨([]),([]),wg,wn,wn,wn,wn,wi,eG,eG,(by rfl),(by rfl)⟩ λG p i e H v=>?_);obtain ⟨m,l,C,u,o,s,n,E,D,A,z,y⟩:=v;have Y:=xa4 Y C u (bP o) s (bP n);refine dW (λr=>?_) λr=>?_
 .have hA:=Lx d f r;have q:=Lw d f r;rw [<- z] at hA;rw [<- y] at q;have Y:=xa1 Y r (aA r);refine wo (h:=aB (iP f d[i]) wl ?_);refine dW (λw=>?_) λw=>?_
  .have hm:mem f d[i]=true:=by simpa [mem] using w
   rw [if_pos hm] at hA q;obtain ⟨g,b⟩:∃ x,x=m++[(i:Int)]:=⟨_,rfl⟩;obtain ⟨c,a⟩:∃ x,x=l++[gS f d[i]]:=⟨_,rfl⟩;have k:g=mT d f (i+1):=by rw [b,hA]
   have j:c=lY d f (i+1):=by rw [a,q]
   have Y:=xa1 Y b a;exact wo (h:=wx p (i+1) ⟨g,c,wg,wn,wn,wn,wn,wj,(by rw [k];exact A5 _ _ _),(by rw [j];exact DY _ _ _),(by exact k),(by exact j)⟩)
  .have hm:mem f d[i]=false:=by simpa [mem] using w
   rw [if_neg (by rw [hm];simp)] at hA q;obtain ⟨g,b⟩:∃ x,x=m:=⟨_,rfl⟩;obtain ⟨c,a⟩:∃ x,x=l:=⟨_,rfl⟩;have k:g=mT d f (i+1):=by rw [b,hA];simp
   have j:c=lY d f (i+1):=by rw [a,q];simp
   have Y:=xa1 Y b a;exact wo (h:=wx p (i+1) ⟨g,c,wg,wn,wn,wn,wn,wj,(by rw [k];exact A5 _ _ _),(by rw [j];exact DY _ _ _),(by exact k),(by exact j)⟩)
 .have hie:i=d.length:=bZ;subst hie;exact wv (h:=B _ _ (by simp [go_sem,Y,z,y]))
theorem vX (d f:Xa0)(F:d.length<=1000000):Pua 107 [dLI d,dLI f] (.tup [dLI (mT d f d.length),dLI (lY d f d.length)]):=by
 refine Tz.pK ⟨λt=>t==6||t==7,λ_=>[]⟩ func107 rfl (λQ B=>?_);have Y:=trivial;refine wo (h:=bC (λi e H=>∃ m:Xa0,∃ l:Xa0,(e 11=dLI d/\e 12=dI d.length/\e 1=dLI f/\e 6=.own 0 m.length/\e 7=.own 1 l.length/\e 13=dI i)/\(H.get 0=some ⟨3,1,m.map cI,false⟩)/\(0<H.next)/\(H.get 1=some ⟨3,1,l.map cI,false⟩)/\(1<H.next)/\(i<=d.length)/\(m.length<=i)/\(l.length<=i)/\(m=mT d f i)/\(l=lY d f i)) (λi=>d.length - i) 0 ⟨([]),([]),wg,wn,wn,wn,wn,wi,eG,eG,(by rfl),(by rfl)⟩ λG p i e H v=>?_);obtain ⟨m,l,C,u,o,s,n,E,D,A,z,y⟩:=v;have Y:=xa4 Y C u (bP o) s (bP n);refine c8 (λr=>?_) λr=>?_
 .have hA:=Lx d f r;have q:=Lw d f r;rw [<- z] at hA;rw [<- y] at q;have Y:=xa1 Y r (aA r);refine wo (h:=aB (oL f d[i]) wl ?_);refine dW (λw=>?_) λw=>?_
  .have hm:mem f d[i]=true:=by simpa [mem] using w
   rw [if_pos hm] at hA q;obtain ⟨g,b⟩:∃ x,x=m++[(i:Int)]:=⟨_,rfl⟩;obtain ⟨c,a⟩:∃ x,x=l++[gS f d[i]]:=⟨_,rfl⟩;have k:g=mT d f (i+1):=by rw [b,hA]
   have j:c=lY d f (i+1):=by rw [a,q]
   have Y:=xa1 Y b a;exact wo (h:=wx p (i+1) ⟨g,c,wg,wn,wn,wn,wn,wj,(by rw [k];exact A5 _ _ _),(by rw [j];exact DY _ _ _),(by exact k),(by exact j)⟩)
  .have hm:mem f d[i]=false:=by simpa [mem] using w
   rw [if_neg (by rw [hm];simp)] at hA q;obtain ⟨g,b⟩:∃ x,x=m:=⟨_,rfl⟩;obtain ⟨c,a⟩:∃ x,x=l:=⟨_,rfl⟩;have k:g=mT d f (i+1):=by rw [b,hA];simp
   have j:c=lY d f (i+1):=by rw [a,q];simp
   have Y:=xa1 Y b a;exact wo (h:=wx p (i+1) ⟨g,c,wg,wn,wn,wn,wn,wj,(by rw [k];exact A5 _ _ _),(by rw [j];exact DY _ _ _),(by exact k),(by exact j)⟩)
 .have hie:i=d.length:=bZ;subst hie;exact wv (h:=B _ _ (by simp [go_sem,Y,z,y]))
def uL (l by_:Xa0):Xa0:=l.map λx=>by_[x.toNat]?.getD 0
theorem KC (l by_:Xa0)(r:l.length<=1000000)(g:∀ x∈l,0<=x/\x<by_.length):Pua 195 [dLI l,dLI by_] (dLI (uL l by_)):=by
 refine Tz.pK ⟨λt=>t==5,λ_=>[]⟩ func195 rfl (λQ p=>?_);have Y:=trivial;refine wv (h:=bC (λi e H=>∃ a:Xa0,(e 0=dLI l/\e 1=dLI by_/\e 5=.own 0 a.length/\e 6=dI i)/\(H.get 0=some ⟨3,1,a.map cI,false⟩)/\(0<H.next)/\(i<=l.length)/\(a.length=i)/\(a=(l.take i).map (λx=>by_[x.toNat]?.getD 0))) (λi=>l.length - i) 0 ⟨([]),wg,wn,wn,wi,(by rfl),(by rfl)⟩ λu k i e H j=>?_);obtain ⟨a,q,d,b,s,f,m⟩:=j;have Y:=xa2 Y q d (bP b);refine dW (λc=>?_) λc=>?_
 .have hin':=g _ (aC c);have n:l[i].toNat<by_.length:=bZ;have Y:=xa2 Y c (aA c) (aA n);exact wo (h:=wx k (i+1) ⟨(a++[by_[l[i].toNat]?.getD 0]),wg,wn,wn,wj,(by simp [f]),(by rw [dB _ c,<- m])⟩)
 .refine wv (h:=?_);have o:uL l by_=a:=by rw [m,dV _ bZ];rfl
  exact p _ _ (by simp [go_sem,Y,o])
structure Rule.aq (r:Rule):Prop where
 s1:r.left.q.length<=1000000
 t1:r.left.I.length<=1000000
 s2:r.right.q.length<=1000000
def Mx (r:Rule):Bool:=decide (r.left.vars=0)&&(decide ((r.left.q.length:Int)+r.left.I.length+r.right.q.length=0)&&(r.cond.F==1))
def jP (r:Rule):Bool:=r.inj&&Mx r
theorem JI (r:Rule)(e:r.aq):Pua 110 [r.d] (.bool (Mx r)):=by
 obtain ⟨c,b,a⟩:=e;refine Tz.p0 func110 rfl λQ f Y=>?_;exact wo (h:=f _ _ (by simp [go_sem,Mx,gA]))
theorem Ap (r:Rule)(a:r.aq):Pua 48 [r.d] (.bool (jP r)):=by
 refine Tz.p0 func48 rfl λQ c Y=>?_;refine wo (h:=aG (λb=>JI r a) (λb=>wl) ?_);exact wo (h:=c _ _ (by simp [go_sem,jP]))
theorem nF (r:Rule)(e:r.aq):Pua 99 [r.d] (.bool (jP r)):=by
 obtain ⟨c,b,a⟩:=e;refine Tz.p0 func99 rfl λQ f Y=>?_;exact wo (h:=f _ _ (by simp [go_sem,jP,Mx,gA]))
theorem Ox (t:Types)(s:t.ok)(a:Int):Pua 192 [t.d,dI a] (.tup [dLI (fQ t a),dI (given2F t a a)]):=by
 refine Tz.pK ⟨λt=>t==7,λ_=>[]⟩ func192 rfl (λQ q=>?_);have Y:=trivial;refine wv (h:=aB (Az t s a a) wl ?_);refine c8 (λl=>?_) λl=>?_
 .exact wv (h:=q _ _ (by simp [go_sem,fQ,l]))
 .obtain ⟨p,u,z⟩:=rN l;have y:=p.br;refine wv (h:=bC (λi e H=>∃ g:Xa0,(e 2=.adr t.c/\e 1=dI a/\e 7=.own 0 g.length/\e 8=dI i)/\(H.get 0=some ⟨3,1,g.map cI,false⟩)/\(0<H.next)/\(i<=t.h.length)/\(g.length<=i)/\(g=((List.range i).filter λ(b:Nat)=>mem (t.ao b) a).map (λ(b:Nat)=>(b:Int)))) (λi=>t.h.length - i) 0 ⟨([]),wg,wn,wn,wi,eG,(by rfl)⟩ λA k i e H n=>?_);obtain ⟨g,v,f,j,x,w,m⟩:=n;have Y:=xa2 Y v f (bP j);refine dW (λr=>?_) λr=>?_
  .have Y:=wa Y r;refine wv (h:=aB (tE t p a u i bZ) wl ?_);refine c8 (λo=>?_) λo=>?_
   .have Y:=wa Y o;exact wo (h:=wx k (i+1) ⟨(g++(if mem (t.ao i) a=true then [(i:Int)] else [])),wg,wn,wn,wj,(by rw [aQ];split<;>simp<;>omega),(by rw [b8,<- m])⟩)
   .have Y:=wa Y o;exact wo (h:=wx k (i+1) ⟨(g++(if mem (t.ao i) a=true then [(i:Int)] else [])),wg,wn,wn,wj,(by rw [aQ];split<;>simp<;>omega),(by rw [b8,<- m])⟩)
  .exact wv (h:=q _ _ (by simp [go_sem,f,fQ,l];rw [m,(bZ:i=t.h.length)];simp))
def kX (t:Types)(l:Xa0):Bool:=l.all λk=>decide ((fQ t k).length<=1)
theorem C5 (t:Types)(m:t.ok)(g:Graph):Pua 111 [t.d,g.d] (.bool (kX t g.h)):=by
 refine Tz.p0 func111 rfl λQ l Y=>?_;refine wv (h:=bC (λi e H=>(e 2=.adr t.c/\e 3=.adr g.c/\e 5=dI i)/\(i<=g.h.length)/\((g.h.take i).all (λk=>decide ((fQ t k).length<=1))=true)) (λi=>g.h.length - i) 0 ⟨wg,wi,(by rfl)⟩ λu j i e H b=>?_);obtain ⟨r,s,f⟩:=b;have Y:=wa Y r;refine wv (h:=?_);repeat first|intro _|refine ⟨iF,?_⟩
 refine wq (λa=>?_) λa=>?_
 .have Y:=xa1 Y a (aA a);refine wo (h:=aI (Ox t m g.h[i]) wl ?_);refine wv (h:=?_);repeat first|intro _|refine ⟨iF,?_⟩
  refine wq (λq=>?_) λq=>?_
  .refine wv (h:=?_);have p:kX t g.h=false:=by
    rw [aW];intro n;have:=b6.1 n _ (aC a);simp at this;omega
   exact l _ _ (by simp [go_sem,p])
  .exact wo (h:=wx j (i+1) ⟨wg,wj,(by rw [aF a,oY,f];simp;omega)⟩)
 .refine wv (h:=?_);have o:kX t g.h=true:=by rw [aH bZ] at f;exact f
  exact l _ _ (by simp [go_sem,o])
theorem Ao (t:Types)(a:t.ok)(r:Rule):Pua 49 [t.d,r.d] (.bool (kX t r.left.j.h&&kX t r.right.j.h)):=by
 refine Tz.p0 func49 rfl λQ c Y=>?_;refine wo (h:=aB (C5 t a r.left.j) wl ?_);refine wo (h:=aG (λb=>C5 t a r.right.j) (λb=>wl) ?_);exact wo (h:=c _ _ wy)
def oneR (t:Types)(r:Rule):Int:=if ruleF t r≠0 then ruleF t r else if jP r=false then 8 else if (kX t r.left.j.h&&kX t r.right.j.h)=false then 13 else 0
theorem KB (t:Types)(g:t.ok)(r:Rule)(i:r.ok)(e:r.aq):Pua 158 [t.d,r.d] (dI (oneR t r)):=by
 refine Tz.p0 func158 rfl λQ b Y=>?_;refine wv (h:=aB (Ar t g r i) wl ?_);refine c8 (λa=>?_) λa=>?_
 .have Y:=xa1 Y a @oneR.eq_1;exact wv (h:=b _ _ wy)
 .refine wo (h:=aB (Ap r e) wl ?_);refine dW (λc=>?_) λc=>?_
  .have Y:=xa2 Y a c @oneR.eq_1;exact wv (h:=b _ _ wy)
  .refine wo (h:=aB (Ao t g r) wl ?_);refine dW (λh6=>?_) λh6=>?_
   .refine wv (h:=?_);have f:oneR t r=13:=by unfold oneR;rw [if_neg (by simp [a]),if_neg (by simp [c]),if_pos (by rcases h6 with h6|h6<;>simp [h6])]
    exact b _ _ (by simp [go_sem,f])
   .refine wv (h:=?_);have f:oneR t r=0:=by unfold oneR;rw [if_neg (by simp [a]),if_neg (by simp [c]),if_neg (by simp [h6])]
    exact b _ _ (by simp [go_sem,f])
def givenR (t:Types)(a b:Rule):Int:=if (cQ t).2≠0 then (cQ t).2 else if oneR t a≠0 then oneR t a else oneR t b
theorem N3 (t:Types)(e:t.ok)(a b:Rule)(l:a.ok)(k:b.ok)(g:a.aq)(f:b.aq):Pua 78 [t.d,a.d,b.d] (dI (givenR t a b)):=by
 refine Tz.p0 func78 rfl λQ i Y=>?_;refine wv (h:=aB (nY t e) wl ?_);refine c8 (λc=>?_) λc=>?_
 .have Y:=xa1 Y c @givenR.eq_1;exact wv (h:=i _ _ wy)
 .refine wv (h:=aB (KB t e a l g) wl ?_);refine c8 (λj=>?_) λj=>?_
  .have Y:=xa2 Y c j @givenR.eq_1;exact wv (h:=i _ _ wy)
  .refine wv (h:=aB (KB t e b k f) wl ?_);have Y:=xa2 Y c j @givenR.eq_1;exact wv (h:=i _ _ wy)
theorem CQ (g:Graph)(p:Part)(V:subF g p=0)(G:p.h.length<=1000000)(M:p.i.length<=1000000):LN prog 268 [g.d,p.d] ⟨3,1,(bG g p).h.map cI,false⟩ ⟨153,3,(bG g p).i.map Edge.c,false⟩ [p.d,dI 0]:=by
 refine UA (htl:=by simp [go_sem,Part.d,Part.c]) (hcl1:=mO _) (hcl2:=pT _) (h:=λQ hQ=>?_);obtain ⟨hg,hs,O,P⟩:=fO V;refine (Tz.cK ⟨λt=>t==4||t==5||t==8||t==13,λr=>match r with|8=>[(0,7),(1,7)]|_=>[]⟩ func268 rfl ?_);have Y:=V;refine wv (h:=aB (t8 g p G) wl ?_);refine wo (h:=nE (Ghosts.step (Ghosts.refl _) 2 0 0 3 1 _ _ (rfl) rfl rfl rfl) (λi e H=>∃ a:Xa0,(e 2=.adr g.c/\e 3=.adr p.c/\e 4=.ptr 0 1 0 0/\e 5=.ptr 1 1 0 0/\e 8=.ptr 2 1 0 0/\e 23=dLI p.h/\e 24=dI p.h.length/\e 25=dI i)/\(H.get 0=some ⟨29,2,[[.nil,.nil]],false⟩)/\(0<H.next)/\(H.get 1=some ⟨36,2,[[.nil,.nil]],false⟩)/\(1<H.next)/\(H.get 2=some ⟨29,2,[[.own 3 a.length,.nil]],false⟩)/\(2<H.next)/\(H.get 3=some ⟨3,1,a.map cI,false⟩)/\(3<H.next)/\(i<=p.h.length)/\(a=(p.h.take i).map (gN g))) (λi=>p.h.length - i) 0 ⟨([]),wg,wn,wn,wn,wn,wn,wn,wn,wn,wi,(by rfl)⟩ λI0 U i e H S=>?_);obtain ⟨a,E0,F,x,D,v,l,s,A,o,hi,L⟩:=S;have Y:=xa8 Y E0 F (bP x) D (bP v) l (bP s) A (bP o);refine c8 (λI=>?_) λI=>?_
 .have hin':=O _ (aC I);have hk:p.h[i].toNat<g.h.length:=bZ;have a1:a.length=i:=by rw [L];simp;omega
  have Y:=xa2 Y I (aA hk) @gN.eq_1;exact wo (h:=wx U (i+1) ⟨(a++[gN g p.h[i]]),wg,wn,wn,wn,wn,wn,wn,wn,wn,wj,(by rw [dB _ I,<- L])⟩)
 .have hX:a=p.h.map (gN g):=by rw [L,dV _ bZ]
  refine wo (h:=nE (Ghosts.step (Ghosts.refl _) 2 0 1 153 3 _ _ (l) rfl rfl rfl) (λk e H=>∃ j:Nat,∃ f:List Edge,(e 2=.adr g.c/\e 3=.adr p.c/\e 4=.ptr 0 1 0 0/\e 5=.ptr 1 1 0 0/\e 8=.ptr 2 1 0 0/\e 41=dLI p.i/\e 42=dI p.i.length/\e 43=dI k)/\(H.get 0=some ⟨29,2,[[.nil,.nil]],false⟩)/\(0<H.next)/\(H.get 1=some ⟨36,2,[[.nil,.nil]],false⟩)/\(1<H.next)/\(H.get 2=some ⟨29,2,[[.own 3 a.length,.own j f.length]],false⟩)/\(2<H.next)/\(H.get 3=some ⟨3,1,a.map cI,false⟩)/\(3<H.next)/\(H.get j=some ⟨153,3,f.map Edge.c,false⟩)/\(j<H.next)/\(k<=p.i.length)/\(f=(p.i.take k).map (gEd g p))/\(j≠0)/\(j≠1)/\(j≠2)/\(j≠3)) (λk=>p.i.length - k) 0 ⟨H.next,([]),wg,wn,wn,wn,wn,wn,wn,wn,wn,wn,wn,wi,(by rfl),bZ,bZ,bZ,bZ⟩ λI2 T k e H R=>?_);obtain ⟨j,f,E2,E,w,C,u,B,q,z,n,y,m,hk,K,Z,X,W,J⟩:=R;have Y:=xa7 Y E2 E (bP w) C (bP u) B (bP q) (xb0 z (bP n) y (bP m) Z X W J Z.symm X.symm W.symm J.symm);refine c8 (λb=>?_) λb=>?_
  .have hie':=P _ (aC b);have N:p.i[k].toNat<g.i.length:=bZ;have a0:f.length=k:=by rw [K];simp;omega
   have Y:=xa2 Y b (aA N) @gEd.eq_1;refine wo (h:=aB (pX p.h _ hs G) wl ?_);refine wo (h:=aB (pX p.h _ hs G) wl ?_);exact wo (h:=wx T (k+1) ⟨j,(f++[gEd g p p.i[k]]),wg,wn,wn,wn,wn,wn,wn,wn,wn,wn,wn,wj,(by rw [dB _ b,<- K]),wj,wj,wj,wj⟩)
  .have hY:f=p.i.map (gEd g p):=by rw [K,dV _ bZ]
   have hE:bG g p=⟨a,f⟩:=by unfold bG;rw [if_pos V,hX,hY]
   rw [hE] at hQ;refine wv (h:=aI ((fS p.h G).pure) wl ?_);refine wv (h:=aI ((fS p.i M).pure) wl ?_);refine wv (h:=?_);exact hQ _ _ _ _ _ (Ne.symm J) eG eG (by simp [go_sem,Y]) (by simp [go_sem,Y])
theorem HF (g:Graph)(p:Part)(R:subF g p=0)(hl:p.h.length<=1000000)(a4:p.i.length<=1000000):LN prog 219 [g.d,p.d] ⟨3,1,(bG g p).h.map cI,false⟩ ⟨153,3,(bG g p).i.map Edge.c,false⟩ [p.d,dI 0]:=by
 refine UA (htl:=by simp [go_sem,Part.d,Part.c]) (hcl1:=mO _) (hcl2:=pT _) (h:=λQ hQ=>?_);obtain ⟨hg,hs,V,W⟩:=fO R;have n:=Bc R;obtain ⟨Q',E⟩:∃ Q':D->AHeap->Prop,∀ d O,Q' d O↔∃ x tl,d=.tup (x :: tl)/\Q (.tup (x :: tl.map (iS O))) (fJ (tl.flatMap dQ) O):=⟨_,λ_ _=>Iff.rfl⟩;refine Nv (λd O h=>(E d O).1 h) ?_;refine (Tz.cK ⟨λt=>t==4||t==5||t==8||t==11||t==76||t==80,λr=>match r with|8=>[(0,11),(1,11)]|12=>[(0,9),(1,9),(2,9),(3,9),(5,9),(6,9),(7,9),(8,9)]|13=>[(0,15),(1,15)]|14=>[(0,1),(1,2),(1,3),(0,4),(0,5),(1,5),(2,5),(3,5),(4,5),(1,6),(4,6),(5,6),(1,7),(4,7),(5,7),(0,8)]|_=>[]⟩ func219 rfl ?_);have Y:=R;refine wv (h:=aB (vH g p) wl ?_);refine wv (h:=nE (Ghosts.step (Ghosts.refl _) 2 0 0 3 1 _ _ (rfl) rfl rfl rfl) (λi e H=>∃ b:Xa0,(e 2=.adr g.c/\e 3=.adr p.c/\e 4=.ptr 0 1 0 0/\e 5=.ptr 1 1 0 0/\e 8=.ptr 2 1 0 0/\e 9=dI i)/\(H.get 0=some ⟨29,2,[[.nil,.nil]],false⟩)/\(0<H.next)/\(H.get 1=some ⟨36,2,[[.nil,.nil]],false⟩)/\(1<H.next)/\(H.get 2=some ⟨29,2,[[.own 3 b.length,.nil]],false⟩)/\(2<H.next)/\(H.get 3=some ⟨3,1,b.map cI,false⟩)/\(3<H.next)/\(i<=p.h.length)/\(b=(p.h.take i).map (gN g))) (λi=>p.h.length - i) 0 ⟨([]),wg,wn,wn,wn,wn,wn,wn,wn,wn,wi,(by rfl)⟩ λI0 a1 i e H Z=>?_);obtain ⟨b,E0,N,B,L,z,l,w,I,u,hi,U⟩:=Z;have Y:=xa8 Y E0 N (bP B) L (bP z) l (bP w) I (bP u);refine kI (λP=>?_) λP=>?_
 .have hin':=V _ (aC P);have hk:p.h[i].toNat<g.h.length:=bZ;have a3:b.length=i:=by rw [U];simp;omega
  have Y:=xa2 Y P (aA hk) @gN.eq_1;exact wp (h:=wx a1 (i+1) ⟨(b++[gN g p.h[i]]),wg,wn,wn,wn,wn,wn,wn,wn,wn,wj,(by rw [dB _ P,<- U])⟩)
 .have hX:b=p.h.map (gN g):=by rw [U,dV _ bZ]
  refine wv (h:=nE (Ghosts.step (Ghosts.refl _) 2 0 1 153 3 _ _ (l) rfl rfl rfl) (λk e H=>∃ j:Nat,∃ f:List Edge,(e 2=.adr g.c/\e 3=.adr p.c/\e 4=.ptr 0 1 0 0/\e 5=.ptr 1 1 0 0/\e 8=.ptr 2 1 0 0/\e 10=dI k)/\(H.get 0=some ⟨29,2,[[.nil,.nil]],false⟩)/\(0<H.next)/\(H.get 1=some ⟨36,2,[[.nil,.nil]],false⟩)/\(1<H.next)/\(H.get 2=some ⟨29,2,[[.own 3 b.length,.own j f.length]],false⟩)/\(2<H.next)/\(H.get 3=some ⟨3,1,b.map cI,false⟩)/\(3<H.next)/\(H.get j=some ⟨153,3,f.map Edge.c,false⟩)/\(j<H.next)/\(k<=p.i.length)/\(f=(p.i.take k).map (gEd g p))/\(j≠0)/\(j≠1)/\(j≠2)/\(j≠3)) (λk=>p.i.length - k) 0 ⟨H.next,([]),wg,wn,wn,wn,wn,wn,wn,wn,wn,wn,wn,wi,(by rfl),bZ,bZ,bZ,bZ⟩ λI2 a0 k e H m=>?_);obtain ⟨j,f,E2,M,A,K,y,J,v,G,s,F,q,hk,T,j0,j1,j2,S⟩:=m;have Y:=xa7 Y E2 M (bP A) K (bP y) J (bP v) (xb0 G (bP s) F (bP q) j0 j1 j2 S j0.symm j1.symm j2.symm S.symm);refine kI (λa=>?_) λa=>?_
  .have hie':=W _ (aC a);have C:p.i[k].toNat<g.i.length:=bZ;have a2:f.length=k:=by rw [T];simp;omega
   have o:=n _ (aC a);rw [aA C,aD] at o;have X:=xN hs o.1;have m:=xN hs o.2;have Y:=xa4 Y a (aA C) @gEd.eq_1 X m;refine wp (h:=aI (vG p.h _) wl ?_);refine wp (h:=aI (vG p.h _) wl ?_);exact wp (h:=wx a0 (k+1) ⟨j,(f++[gEd g p p.i[k]]),wg,wn,wn,wn,wn,wn,wn,wn,wn,wn,wn,wj,(by rw [dB _ a,<- T]),wj,wj,wj,wj⟩)
  .have hY:f=p.i.map (gEd g p):=by rw [T,dV _ bZ]
   have hE:bG g p=⟨b,f⟩:=by unfold bG;rw [if_pos R,hX,hY]
   rw [hE] at hQ;refine wp (h:=?_);refine (E _ _).2 ⟨_,_,rfl,?_⟩;simp [go_sem,Y];exact hQ _ _ _ _ _ (Ne.symm S) eG eG (by simp [go_sem,Y,(bZ:(3:Nat)≠H.next+1),(bZ:(3:Nat)≠H.next+5)]) (by simp [go_sem,Y,(bZ:j≠H.next+1),(bZ:j≠H.next+5)])
end Go.Abs
end
