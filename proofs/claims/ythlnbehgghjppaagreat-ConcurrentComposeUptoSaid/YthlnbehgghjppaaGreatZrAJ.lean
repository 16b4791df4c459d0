/- Layer 7: parts of graphs, continued. · Layer 22: conditions. -/
import Derived.Test.YthlnbehgghjppaaGreatZrAG
import Derived.Test.YthlnbehgghjppaaGreatZrAA
import Derived.Test.YthlnbehgghjppaaGreatZrAI
set_option linter.unusedVariables false
set_option linter.unusedSimpArgs false
section
set_option maxRecDepth 100000
set_option maxHeartbeats 4000000
open Go Go.Proofs Tryz
namespace Go.Abs
theorem CP (l:Xa0)(v:Int)(a:l.Pairwise (· < ·))(b:l.length<=1000000):Pua 350 [dLI l,dI v] (.bool (mem l v)):=by
 refine Tz.p0 func350 rfl λQ c Y=>?_;refine wv (h:=aB (pX l v a b) wl ?_);exact wv (h:=c _ _ wy)
def AY (g:Graph)(p:Part)(k:Int):Int:=if (mem p.h (g.i[k.toNat]?.getD bX).B&&mem p.h (g.i[k.toNat]?.getD bX).O)=true then 0 else 14
def sC (g:Graph)(p:Part):Int :=
 if EY p.h g.h.length≠0 then EY p.h g.h.length
 else if EY p.i g.i.length≠0 then EY p.i g.i.length
 else iB (AY g p) p.i
def subF (g:Graph)(p:Part):Int:=if graphF g≠0 then graphF g else sC g p
theorem Jq (g:Graph)(p:Part)(s:p.h.length<=1000000):Pua 296 [g.d,p.d] (dI (sC g p)):=by
 refine Tz.p0 func296 rfl λQ j Y=>?_;refine wv (h:=?_);repeat first|intro _|refine ⟨iF,?_⟩
 refine aB (BN p.h _) wl ?_;refine wv (h:=?_);repeat first|intro _|refine ⟨iF,?_⟩
 refine wq (λf=>?_) λf=>?_
 .exact wv (h:=j _ _ (by simp [go_sem,sC,f]))
 .refine wv (h:=?_);repeat first|intro _|refine ⟨iF,?_⟩
  refine aB (BN p.i _) wl ?_;refine wv (h:=?_);repeat first|intro _|refine ⟨iF,?_⟩
  refine wq (λm=>?_) λm=>?_
  .exact wv (h:=j _ _ (by simp [go_sem,sC,f,m]))
  .have hP:sC g p=iB (AY g p) p.i:=by unfold sC;rw [if_neg (by simp [f]),if_neg (by simp [m])]
   have r:=(CH f).2;have n:=(CH m).1;refine wv (h:=?_);repeat first|intro _|refine ⟨iF,?_⟩
   refine bC (λi e H=>(e 2=.adr g.c/\e 3=.adr p.c/\e 28=dLI p.i/\e 29=dI p.i.length/\e 30=dI i)/\(i<=p.i.length)/\(iB (AY g p) (p.i.drop i)=sC g p)) (λi=>p.i.length - i) 0 ⟨wg,wi,(hP.symm)⟩ λC q i e H o=>?_;obtain ⟨y,B,v⟩:=o;have Y:=wa Y y;refine c8 (λl=>?_) λl=>?_
   .have hst:=v;rw [lQ _ l] at hst;have u:=n _ (aC l);have t:p.i[i].toNat<g.i.length:=bZ;have k:AY g p p.i[i]=if (mem p.h g.i[p.i[i].toNat].B&&mem p.h g.i[p.i[i].toNat].O)=true then 0 else 14:=by simp only [AY,aA t,aD]
    have Y:=xa1 Y l (aA t);refine wv (h:=?_);repeat first|intro _|refine ⟨iF,?_⟩
    refine aI (CP p.h _ r s) wl ?_;refine wv (h:=?_);repeat first|intro _|refine ⟨iF,?_⟩
    refine fX (λx=>CP p.h _ r s) (λx=>wl) ?_;refine wv (h:=?_);repeat first|intro _|refine ⟨iF,?_⟩
    refine wq (λb=>?_) λb=>?_
    .rw [if_neg (by rcases b with h|h<;>simp [h])] at k;rw [k,if_pos bZ] at hst;exact wv (h:=j _ _ (by simp [go_sem,<- hst]))
    .rw [if_pos (by simp [b])] at k;rw [k,if_neg bZ] at hst;refine wv (h:=?_);repeat first|intro _|refine ⟨iF,?_⟩
     exact wx q (i+1) ⟨wg,wj,(hst)⟩
   .exact wv (h:=j _ _ (by rw [<- v,nC _ bZ];simp [go_sem]))
theorem t8 (g:Graph)(p:Part)(c:p.h.length<=1000000):Pua 226 [g.d,p.d] (dI (subF g p)):=by
 refine Tz.p0 func226 rfl λQ b Y=>?_;refine wv (h:=aB (lK g) wl ?_);refine c8 (λa=>?_) λa=>?_
 .have Y:=xa1 Y a @subF.eq_1;exact wv (h:=b _ _ wy)
 .refine wv (h:=aB (Jq g p c) wl ?_);have Y:=xa1 Y a @subF.eq_1;exact wv (h:=b _ _ wy)
theorem Oq (g:Graph)(p:Part):Pua 290 [g.d,p.d] (dI (sC g p)):=by
 refine Tz.pK ⟨λt=>t==8,λr=>match r with|10=>[(0,9),(1,9),(2,9),(3,9),(5,9),(6,9),(7,9),(8,9)]|_=>[]⟩ func290 rfl (λQ b=>?_);have Y:=trivial;refine wo (h:=aB (zJ p.h _) wl ?_);refine wv (h:=?_);repeat first|intro _|refine ⟨q,?_⟩
 refine wq (λl=>?_) λl=>?_
 .exact wv (h:=b _ _ (by simp [go_sem,sC,l]))
 .refine wo (h:=aB (zJ p.i _) wl ?_);refine wv (h:=?_);repeat first|intro _|refine ⟨q,?_⟩
  refine wq (λk=>?_) λk=>?_
  .exact wv (h:=b _ _ (by simp [go_sem,sC,l,k]))
  .have hP:sC g p=iB (AY g p) p.i:=by unfold sC;rw [if_neg (by simp [l]),if_neg (by simp [k])]
   have m:=(CH k).1;refine wv (h:=bC (λi e H=>(e 2=.adr g.c/\e 3=.adr p.c/\e 7=dI i)/\(i<=p.i.length)/\(iB (AY g p) (p.i.drop i)=sC g p)) (λi=>p.i.length - i) 0 ⟨wg,wi,(hP.symm)⟩ λC o i e H n=>?_);obtain ⟨y,B,v⟩:=n;have Y:=wa Y y;refine wv (h:=?_);repeat first|intro _|refine ⟨q,?_⟩
   refine wq (λj=>?_) λj=>?_
   .have hst:=v;rw [lQ _ j] at hst;have u:=m _ (aC j);have s:p.i[i].toNat<g.i.length:=bZ;have f:AY g p p.i[i]=if (mem p.h g.i[p.i[i].toNat].B&&mem p.h g.i[p.i[i].toNat].O)=true then 0 else 14:=by simp only [AY,aA s,aD]
    have Y:=xa1 Y j (aA s);refine wo (h:=aB (KF p.h _) wl ?_);refine wo (h:=aG (λx=>KF p.h _) (λx=>wl) ?_);refine wv (h:=?_);repeat first|intro _|refine ⟨q,?_⟩
    refine wq (λa=>?_) λa=>?_
    .rw [if_neg (by rcases a with h|h<;>simp [h])] at f;rw [f,if_pos bZ] at hst;exact wv (h:=b _ _ (by simp [go_sem,<- hst]))
    .rw [if_pos (by simp [a])] at f;rw [f,if_neg bZ] at hst;exact wo (h:=wx o (i+1) ⟨wg,wj,(hst)⟩)
   .exact wv (h:=b _ _ (by rw [<- v,nC _ bZ];simp [go_sem]))
theorem vH (g:Graph)(p:Part):Pua 218 [g.d,p.d] (dI (subF g p)):=by
 refine Tz.p0 func218 rfl λQ b Y=>?_;refine wv (h:=aB (mF g) wl ?_);refine c8 (λa=>?_) λa=>?_
 .have Y:=xa1 Y a @subF.eq_1;exact wv (h:=b _ _ wy)
 .refine wv (h:=aB (Oq g p) wl ?_);have Y:=xa1 Y a @subF.eq_1;exact wv (h:=b _ _ wy)
def gN (g:Graph)(n:Int):Int:=g.h[n.toNat]?.getD 0
def gEd (g:Graph)(p:Part)(k:Int):Edge:=⟨(g.i[k.toNat]?.getD bX).type,lH p.h (g.i[k.toNat]?.getD bX).B,lH p.h (g.i[k.toNat]?.getD bX).O⟩
def bG (g:Graph)(p:Part):Graph:=if subF g p=0 then ⟨p.h.map (gN g),p.i.map (gEd g p)⟩ else ⟨[],[]⟩
def FF (g:Graph)(p:Part):Part:=if subF g p=0 then p else ⟨[],[]⟩
theorem fO {g:Graph}{p:Part}(h:subF g p=0):graphF g=0/\p.h.Pairwise (· < ·)/\(∀ n∈p.h,0<=n/\n<g.h.length)/\∀ k∈p.i,0<=k/\k<g.i.length:=by
 unfold subF sC at h;split at h
 .rename_i h1;exact absurd h h1
 .rename_i h1;split at h
  .rename_i h2;exact absurd h h2
  .rename_i h2;split at h
   .rename_i h3;exact absurd h h3
   .rename_i h3;have a:EY p.h g.h.length=0:=bZ;have b:EY p.i g.i.length=0:=bZ;exact ⟨bZ,(CH a).2,(CH a).1,(CH b).1⟩
theorem dB {α β:Type}(f:α→β){l:List α}{i:Nat}(h:i<l.length):(l.take (i+1)).map f=(l.take i).map f++[f l[i]]:=by
 rw [aF h,List.map_append];rfl
theorem dV {α β:Type}(f:α->β){l:List α}{i:Nat}(h:l.length<=i):(l.take i).map f=l.map f:=by
 rw [aH h]
theorem Em (g:Graph)(p:Part)(hl:p.h.length<=1000000)(hle:p.i.length<=1000000):Pua 268 [g.d,p.d] (.tup [(bG g p).d,(FF g p).d,dI (subF g p)]):=by
 refine Tz.pK ⟨λt=>t==4||t==5||t==8||t==13,λr=>match r with|8=>[(0,7),(1,7)]|_=>[]⟩ func268 rfl (λQ hQ=>?_);have Y:=trivial;refine wv (h:=aB (t8 g p hl) wl ?_);refine c8 (λh2=>?_) λh2=>?_
 .exact wv (h:=hQ _ _ (by simp [go_sem,bG,FF,h2]))
 .obtain ⟨hg,hs,hin,hie⟩:=fO h2;refine wo (h:=nE (Ghosts.step (Ghosts.refl _) 2 0 0 3 1 _ _ (rfl) rfl rfl rfl) (λi e H=>∃ xs:Xa0,(e 2=.adr g.c/\e 3=.adr p.c/\e 4=.ptr 0 1 0 0/\e 5=.ptr 1 1 0 0/\e 8=.ptr 2 1 0 0/\e 23=dLI p.h/\e 24=dI p.h.length/\e 25=dI i)/\(H.get 0=some ⟨29,2,[[.nil,.nil]],false⟩)/\(0<H.next)/\(H.get 1=some ⟨36,2,[[.nil,.nil]],false⟩)/\(1<H.next)/\(H.get 2=some ⟨29,2,[[.own 3 xs.length,.nil]],false⟩)/\(2<H.next)/\(H.get 3=some ⟨3,1,xs.map cI,false⟩)/\(3<H.next)/\(i<=p.h.length)/\(xs=(p.h.take i).map (gN g))) (λi=>p.h.length - i) 0 ⟨([]),wg,wn,wn,wn,wn,wn,wn,wn,wn,wi,(by rfl)⟩ λI0 hI0 i e H hi0=>?_);obtain ⟨xs,E0,g0_0,n0_0,g1_0,n1_0,g2_0,n2_0,g3_0,n3_0,hi,hx⟩:=hi0;have Y:=xa8 Y E0 g0_0 (bP n0_0) g1_0 (bP n1_0) g2_0 (bP n2_0) g3_0 (bP n3_0);refine c8 (λh6=>?_) λh6=>?_
  .have hin':=hin _ (aC h6);have hk:p.h[i].toNat<g.h.length:=bZ;have hxl:xs.length=i:=by rw [hx];simp;omega
   have Y:=xa2 Y h6 (aA hk) @gN.eq_1;exact wo (h:=wx hI0 (i+1) ⟨(xs++[gN g p.h[i]]),wg,wn,wn,wn,wn,wn,wn,wn,wn,wj,(by rw [dB _ h6,<- hx])⟩)
  .have hX:xs=p.h.map (gN g):=by rw [hx,dV _ bZ]
   refine wo (h:=nE (Ghosts.step (Ghosts.refl _) 2 0 1 153 3 _ _ (g2_0) rfl rfl rfl) (λk e H=>∃ j:Nat,∃ ys:List Edge,(e 2=.adr g.c/\e 3=.adr p.c/\e 4=.ptr 0 1 0 0/\e 5=.ptr 1 1 0 0/\e 8=.ptr 2 1 0 0/\e 41=dLI p.i/\e 42=dI p.i.length/\e 43=dI k)/\(H.get 0=some ⟨29,2,[[.nil,.nil]],false⟩)/\(0<H.next)/\(H.get 1=some ⟨36,2,[[.nil,.nil]],false⟩)/\(1<H.next)/\(H.get 2=some ⟨29,2,[[.own 3 xs.length,.own j ys.length]],false⟩)/\(2<H.next)/\(H.get 3=some ⟨3,1,xs.map cI,false⟩)/\(3<H.next)/\(H.get j=some ⟨153,3,ys.map Edge.c,false⟩)/\(j<H.next)/\(k<=p.i.length)/\(ys=(p.i.take k).map (gEd g p))/\(j≠0)/\(j≠1)/\(j≠2)/\(j≠3)) (λk=>p.i.length - k) 0 ⟨H.next,([]),wg,wn,wn,wn,wn,wn,wn,wn,wn,wn,wn,wi,(by rfl),bZ,bZ,bZ,bZ⟩ λI2 hI2 k e H hi2=>?_);obtain ⟨j,ys,E2,g0_2,n0_2,g1_2,n1_2,g2_2,n2_2,g3_2,n3_2,gj_2,nj_2,hk,hy,j0,j1,j2,j3⟩:=hi2;have Y:=xa7 Y E2 g0_2 (bP n0_2) g1_2 (bP n1_2) g2_2 (bP n2_2) (xb0 g3_2 (bP n3_2) gj_2 (bP nj_2) j0 j1 j2 j3 j0.symm j1.symm j2.symm j3.symm);refine c8 (λh11=>?_) λh11=>?_
   .have hie':=hie _ (aC h11);have hke:p.i[k].toNat<g.i.length:=bZ;have hyl:ys.length=k:=by rw [hy];simp;omega
    have Y:=xa2 Y h11 (aA hke) @gEd.eq_1;refine wo (h:=aB (pX p.h _ hs hl) wl ?_);refine wo (h:=aB (pX p.h _ hs hl) wl ?_);exact wo (h:=wx hI2 (k+1) ⟨j,(ys++[gEd g p p.i[k]]),wg,wn,wn,wn,wn,wn,wn,wn,wn,wn,wn,wj,(by rw [dB _ h11,<- hy]),wj,wj,wj,wj⟩)
   .have hY:ys=p.i.map (gEd g p):=by rw [hy,dV _ bZ]
    refine wv (h:=aI ((fS p.h hl).pure) wl ?_);refine wv (h:=aI ((fS p.i hle).pure) wl ?_);exact wv (h:=hQ _ _ (by simp [go_sem,Y,bG,FF,h2,hX,hY]))
mutual
theorem Cond.bm {p:Cond->Prop}(h:∀ c:Cond,(∀ k∈c.w,p k)->p c):∀ c:Cond,p c
 | .mk k l m q=>h _ (LP h l)
theorem LP {p:Cond->Prop}(h:∀ c:Cond,(∀ k∈c.w,p k)->p c):∀ l:List Cond,∀ k∈l,p k
 | []=>λk hk=>absurd hk (by simp)
 | c :: l=>λk hk=>by
  rcases aS.1 hk with h1|h1
  ·rw [h1];exact Cond.bm h c
  ·exact LP h l k h1
end
def bareB (c:Cond):Bool:=decide ((c.map.h.length:Int)+c.map.i.length+c.n.j.h.length+c.n.j.i.length+c.n.q.length+c.n.I.length=0)&&decide (c.n.vars=0)
structure Cond.cc (c:Cond):Prop where
 m1:c.map.h.length<=1000000
 m2:c.map.i.length<=1000000
 p1:c.n.j.h.length<=1000000
 p2:c.n.j.i.length<=1000000
 p3:c.n.q.length<=1000000
 p4:c.n.I.length<=1000000
theorem IN (c:Cond)(a:c.cc):Pua 382 [.agg c.c] (.bool (bareB c)):=by
 obtain ⟨j,i,g,f,e,d⟩:=a;refine Tz.pK ⟨λt=>t==3,λ_=>[]⟩ func382 rfl (λQ b=>?_);have Y:=@Cond.E;have Y:=wa Y @bareB.eq_1;exact wo (h:=b _ _ wy)
theorem Ik (xs:List Cond)(g:FuncId)(b:Xa2)(p:Cond->Bool)(u:D.N b=true)(t:∀ x∈xs,Pure prog g (.agg x.c :: b) (.bool (p x))) :
  Pua 401 [.list (xs.map Cond.c),.fn g b] (dI (xP xs p)):=by
 refine aT (Tz.c0 func401 rfl ?_);simp [go_sem,seval,dI];intro m;refine fR (ι:=Nat) (λi e H=>H=.an/\i<=xs.length/\e 0=.list (xs.map Cond.c)/\e 1=.fn g b/\e 7=dI xs.length/\e 8=dI i/\(∀ j x,j<i->xs[j]?=some x->p x=false)) (λi=>xs.length - i) 0 (by simp [go_sem,seval,dI]) ?_;intro i e H ⟨v,z,q,o,n,k,l⟩;subst v;simp [go_sem,seval,n,k,dI];refine f6 (λd=>?_) (λs=>?_)
 .have hgx:=t xs[i] (aC d);simp [go_sem,seval,q,o,k,dI,dLI,d,Cond.E] at hgx ⊢;refine aB hgx (by simp [go_sem,u]) ?_;simp [go_sem,seval];refine bA (λh=>?_) (λh=>?_)
  .simp [go_sem,seval];rw [pP l d h]
  .simp [go_sem,seval,q,o,n,k,dI];refine ⟨dK bZ bZ,i+1,bZ,bZ,bZ,λj x r y=>?_⟩;grind
 .simp [go_sem,seval];rw [pQ λj x r=>l j x bZ]
theorem DR (xs:List Cond)(g:FuncId)(a:Xa2)(p:Cond->Bool)(d:D.N a=true)(e:D.W (.list (xs.map Cond.c))=true)(f:∀ x∈xs,Pure prog g (.agg x.c :: a) (.bool (p x))) :
  Pua 383 [.list (xs.map Cond.c),.fn g a] (.bool (xs.any p)):=by
 refine aT (Tz.c0 func383 rfl ?_);simp [go_sem,seval];refine aB (Ik xs g a p d f) (by simp only [D.N,e,iL];simp [D.W,d]) ?_;simp [go_sem,seval,dI,uM]
def s7 (c:Cond):Bool :=
 if c.F=1 then decide ((c.w.length:Int)=0)&&bareB c
 else if c.F=2 then decide ((c.w.length:Int)=1)&&bareB c
 else if c.F=3\/c.F=4 then decide (1<=(c.w.length:Int))&&bareB c
 else decide (c.F=5)&&decide ((c.w.length:Int)=1)
mutual
def Nz:Cond->Bool
 | .mk k l m p=>s7 (.mk k l m p)&&Wd l
def Wd:List Cond->Bool
 | []=>true
 | c :: l=>Nz c&&Wd l
end
theorem Wc (l:List Cond):Wd l=l.all Nz:=by
 induction l with
 | nil=>rfl
 | cons a l ih=>simp [Wd,ih]
theorem wC (c:Cond):Nz c=(s7 c&&c.w.all Nz):=by cases c;simp [Nz,Wc,Cond.w]
mutual
def Cond.ok:Cond->Prop
 | .mk k l m p=>(Cond.mk k l m p).cc/\Cond.cJ l
def Cond.cJ:List Cond->Prop
 | []=>True
 | c :: l=>c.ok/\Cond.cJ l
end
theorem Np (l:List Cond):Cond.cJ l↔∀ c∈l,c.ok:=by
 induction l with
 | nil=>simp [Cond.cJ]
 | cons a l ih=>simp [Cond.cJ,ih]
theorem wB (c:Cond):c.ok↔c.cc/\∀ k∈c.w,k.ok:=by cases c;simp [Cond.ok,Np,Cond.w]
theorem wf1 (c:Cond)(h:Pua 336 [.agg c.c] (.bool (Nz c))):Pua 384 [.agg c.c] (.bool (!Nz c)):=by
 refine Tz.p0 func384 rfl λQ a _=>?_;have Y:=@Cond.E;refine wo (h:=aB ((by simpa [Cond.E,go_sem] using h)) wl ?_);exact wo (h:=a _ _ wy)
theorem A2:∀ c:Cond,c.ok->Pua 336 [.agg c.c] (.bool (Nz c)):=by
 refine Cond.bm λc s v=>?_;obtain ⟨t,u⟩:=(wB c).1 v;have a:=DR c.w 384 [] (λk=>!Nz k) rfl (by simp [go_sem]) (λk r=>wf1 k (s k r (u k r)));have e:∀ l:Int,l=c.F->Pua 382 [.agg [dI l,.list (c.w.map Cond.c),dLI c.map.h,dLI c.map.i,dLI c.n.j.h,.list (c.n.j.i.map Edge.c),.list (c.n.q.map Slot.c),dI c.n.vars,.list (c.n.I.map Test.c)]] (.bool (bareB c)):=by
  intro l m;have:=IN c t;rwa [Cond.E,<- m] at this
 have b:(!(c.w.any λk=>!Nz k))=c.w.all Nz:=by simp [List.not_any_eq_all_not]
 refine Tz.p0 func336 rfl λQ g _=>?_;have Y:=@Cond.E;refine dW (λq=>?_) λq=>?_
 .have Y:=wa Y q;refine wo (h:=aG (λd=>(e _ bZ)) (λd=>wl) ?_);refine wo (h:=aG (λd=>a) (λd=>wl) ?_);exact wo (h:=g _ _ (by simp [go_sem,wC,<- b,s7,Y]))
 .have Y:=wa Y q;refine c8 (λp=>?_) λp=>?_
  .have Y:=wa Y p;refine wo (h:=aG (λd=>(e _ bZ)) (λd=>wl) ?_);refine wo (h:=aG (λd=>a) (λd=>wl) ?_);exact wo (h:=g _ _ (by simp [go_sem,wC,<- b,s7,Y]))
  .have Y:=wa Y p;refine c8 (λo=>?_) λo=>?_
   .have Y:=wa Y o;refine wo (h:=aG (λd=>(e _ bZ)) (λd=>wl) ?_);refine wo (h:=aG (λd=>a) (λd=>wl) ?_);exact wo (h:=g _ _ (by simp [go_sem,wC,<- b,s7,Y]))
   .have Y:=wa Y o;refine c8 (λn=>?_) λn=>?_
    .have Y:=wa Y n;refine wo (h:=aG (λd=>(e _ bZ)) (λd=>wl) ?_);refine wo (h:=aG (λd=>a) (λd=>wl) ?_);exact wo (h:=g _ _ (by simp [go_sem,wC,<- b,s7,Y]))
    .have Y:=wa Y n;refine c8 (λf=>?_) λf=>?_
     .have Y:=wa Y f;refine wo (h:=aG (λd=>a) (λd=>wl) ?_);exact wo (h:=g _ _ (by simp [go_sem,wC,<- b,s7,Y]))
     .have Y:=wa Y f;refine wo (h:=aG (λd=>a) (λd=>wl) ?_);exact wo (h:=g _ _ (by simp [go_sem,wC,<- b,s7,Y]))
mutual
def Cond.size:Cond->Nat
 | .mk _ l _ _=>1+Cond.ag l
def Cond.ag:List Cond->Nat
 | []=>0
 | c :: l=>c.size+Cond.ag l
end
mutual
def Cond.ch:Cond->Nat
 | .mk k l _ _=>Cond.a2 l+(if k=5 then 1 else 0)
def Cond.a2:List Cond->Nat
 | []=>0
 | c :: l=>max c.ch (Cond.a2 l)
end
theorem He (l:List Cond)(c:Cond):Cond.ag (l++[c])=Cond.ag l+c.size:=by
 induction l with
 | nil=>simp [Cond.ag]
 | cons a l ih=>simp [Cond.ag,ih];omega
theorem Lt (l:List Cond)(c:Cond):Cond.a2 (l++[c])=max (Cond.a2 l) c.ch:=by
 induction l with
 | nil=>simp [Cond.a2]
 | cons a l ih=>simp only [dP,Cond.a2,ih];omega
theorem yP (c:Cond):c.size=1+Cond.ag c.w:=by cases c;simp [Cond.size,Cond.w]
theorem Vp (c:Cond):c.ch=Cond.a2 c.w+(if c.F=5 then 1 else 0):=by cases c;rw [Cond.ch];rfl
@[go_sem] theorem ZE:Cond.ag []=0:=by simp [Cond.ag]
@[go_sem] theorem adD:Cond.a2 []=0:=by simp [Cond.a2]
theorem CU {l:List Cond}{c:Cond}(h:c∈l):c.size<=Cond.ag l:=by
 induction l with
 | nil=>cases h
 | cons a l ih =>
  rcases aS.1 h with h1|h1
  .subst h1;simp only [Cond.ag];omega
  .have:=ih h1;simp only [Cond.ag];omega
theorem Hd (l:List Cond)(i:Nat):Cond.ag (l.take i)<=Cond.ag l:=by
 induction l generalizing i with
 | nil=>simp
 | cons a l ih=>cases i with
  | zero=>simp [Cond.ag]
  | succ i=>have:=ih i;simp only [u0,Cond.ag];omega
mutual
theorem Rj:∀ c:Cond,c.ch<=c.size
 | .mk k l m p=>by have:=Bq l;simp only [Cond.ch,Cond.size];split<;>omega
theorem Bq:∀ l:List Cond,Cond.a2 l<=Cond.ag l
 | []=>by simp [Cond.a2]
 | c :: l=>by have:=Rj c;have:=Bq l;simp only [Cond.a2,Cond.ag];omega
end
theorem JV (a b:Nat):(if (a:Int)<(b:Int) then (b:Int) else (a:Int))=((max a b:Nat):Int):=by split<;>omega
theorem DU:∀ c:Cond,c.size<=1000000->Pua 337 [.agg c.c] (.tup [dI c.size,dI c.ch]):=by
 refine Cond.bm λc A J=>?_;have f:=yP c;have g:=Vp c;have D:=Bq c.w;refine Tz.pK ⟨λt=>t==7,λ_=>[]⟩ func337 rfl (λQ y=>?_);try simp [go_sem,seval,Cond.E]
 repeat first|intro _|refine ⟨iF,?_⟩
 obtain ⟨w,m⟩:∃ w:Nat->d7->AHeap->Prop,∀ (i:Nat) (e:d7) (H:AHeap),w i e H↔((e 1=.adr c.c)/\(e 11=.list (c.w.map Cond.c))/\(e 12=dI c.w.length)/\(e 4=dI ((1+Cond.ag (c.w.take i):Nat):Int))/\(e 5=dI (Cond.a2 (c.w.take i):Nat))/\(e 13=dI i)/\(i<=c.w.length)):=⟨λi e H=>_,λ_ _ _=>Iff.rfl⟩;refine uJ w (λi=>c.w.length - i) (0) ((m _ _ _).2 ⟨?_,?_,?_,?_,?_,?_,(by first|assumption|omega|(simp [go_sem,Cond.E];done)|(simp_all;done))⟩) ?_;iterate 6 (first|omega|(simp [go_sem,seval,Cond.E]<;>omega))
 intro i e H r;obtain ⟨p,l,k,d,b,j,I⟩:=(m _ _ _).1 r;have o:=xa2 p l k j;try simp [go_sem,seval,o]
 refine bA (λh=>?_) (λh=>?_)
 .try simp [go_sem] at h
  have C:=CU (aC h);have F:=Rj c.w[i];have q:=aF h;have s:=He (c.w.take i) c.w[i];have u:=Lt (c.w.take i) c.w[i];have B:=Hd c.w (i+1);have x:Cond.ag (c.w.take (i+1))=Cond.ag (c.w.take i)+c.w[i].size:=by rw [q,s]
  have z:Cond.a2 (c.w.take (i+1))=max (Cond.a2 (c.w.take i)) c.w[i].ch:=by rw [q,u]
  have E:=Bq (c.w.take i);try simp [go_sem,seval,Cond.E,o,h]
  repeat first|intro _|refine ⟨iF,?_⟩
  refine aB ((by have:=A _ (aC h) bZ;rwa [Cond.E] at this)) ((by first|rfl|(simp [go_sem];done))) ?_;try simp [go_sem,seval,o,d,b]
  repeat first|intro _|refine ⟨iF,?_⟩
  refine g9 (i+1) bZ ((m _ _ _).2 ⟨?_,?_,?_,?_,?_,?_,(by first|assumption|omega|(simp [go_sem,Cond.E,o,d,b,h,x,z,JV];done)|(simp_all<;>omega))⟩)<;>first|omega|(simp [go_sem,seval,Cond.E,o,x,z]<;>omega)
 .try simp [go_sem] at h
  have G:c.w.take i=c.w:=aH h;rw [G] at d b;try simp [go_sem,seval,Cond.E,o]
  refine bA (λn=>?_) (λn=>?_)
  .try simp [go_sem] at n
   try simp [go_sem,seval,d,b]
   repeat first|intro _|refine ⟨iF,?_⟩
   exact y _ _ (by first|(left;(simp [go_sem,f,g,n]);done)|(right;(simp [go_sem,f,g,n]);done))
  .try simp [go_sem] at n
   try simp [go_sem,seval,d,b]
   exact y _ _ (by first|(left;(simp [go_sem,f,g,n]);done)|(right;(simp [go_sem,f,g,n]);done))
def uC (c:Cond):Int:=if Nz c=false then 1 else if 12<c.size\/3<c.ch then 3 else 0
theorem Gv (c:Cond)(e:c.ok)(d:c.size<=1000000):Pua 284 [.agg c.c] (dI (uC c)):=by
 refine Tz.p0 func284 rfl λQ b _=>?_;have Y:=@Cond.E;refine wo (h:=aB ((by have:=A2 c e;rwa [Cond.E] at this)) wl ?_);refine dW (λa=>?_) λa=>?_
 .exact wv (h:=b _ _ (by simp [go_sem,uC,a]))
 .refine wv (h:=aB ((by have:=DU c d;rwa [Cond.E] at this)) wl ?_);refine dW (λf=>?_) λf=>?_
  .exact wv (h:=b _ _ (by simp [go_sem,uC,a];omega))
  .exact wv (h:=b _ _ (by simp [go_sem,uC,a];omega))
def pL (t:Types)(q:Pattern)(outer:Int):Int :=
 if c6 t q≠9 then c6 t q
 else if ((List.range q.vars.toNat).all λ(v:Nat)=>decide ((v:Int)<outer)||kQ q v)=true then 0 else 9
theorem FN {t:Types}{q:Pattern}{a:Int}(h:c6 t q=9)(c:0<=a)(b:∀ v:Int,a<=v->v<q.vars->kQ q v=true):pL t q a=0:=by
 unfold pL;grind
theorem FP {t:Types}{q:Pattern}{a:Int}(h:c6 t q=9)(f:0<=a){v:Int}(e:a<=v)(d:v<q.vars)(c:kQ q v=false):pL t q a=9:=by
 unfold pL;rw [if_neg bZ,if_neg];intro b;rw [b6] at b;have:=b v.toNat (by simp;omega);grind
theorem Lp {f:Nat->Int}{m:Int}(h0:(0:Int)≠m)(h:∀ j,f j≠m):∀ n k,bS f k n≠m
 | 0,k=>h0
 | n+1,k=>by unfold bS;split;exact h k;exact Lp h0 h n (k+1)
theorem Cv {f:Nat->Int}{nm:Nat->ByteArray}{last:ByteArray × Int}{m:Int}(h0:last.2≠m)(h:∀ j,f j≠m):∀ n k,(eZ f nm last k n).2≠m
 | 0,k=>h0
 | n+1,k=>by unfold eZ;split;exact h k;exact Cv h0 h n (k+1)
theorem KW:∀ (r l:List ByteArray),oT l r≠9
 | [],l=>by simp [oT]
 | s :: r,l=>by
  unfold oT;split
  .decide
  .split
   .decide
   .exact KW r _
theorem Ty (l:List ByteArray):pI l≠9:=by grind [pI, KW]
theorem Ka (x:Attr)(l:List Attr):dX x l≠9:=by
 have:=Ty x.ah;unfold dX;grind
theorem UM (t:Types)(i:Nat):iV t i≠9:=by
 unfold iV;split
 .decide
 .repeat' split
  all_goals first|decide|skip
  refine Lp (by decide) (λj=>?_) _ _;split
  .exact Ka _ _
  .decide
theorem Vl (t:Types)(i:Nat):kY t i≠9:=by grind [kY]
theorem Km (t:Types):(cQ t).2≠9:=by
 unfold cQ;split
 .decide
 .split
  .decide
  .exact Cv (Cv (by decide) (Vl t) _ _) (UM t) _ _
theorem Cz (s:Slot)(v:Int):Pua 385 [.agg s.c,.adr [dI v]] (.bool (decide (s.C.R=v))):=by
 refine Tz.p0 func385 rfl λQ a Y=>?_;exact wv (h:=a _ _ wy)
theorem Ih (xs:List Slot)(g:FuncId)(b:Xa2)(p:Slot->Bool)(v:D.N b=true)(u:∀ x∈xs,Pure prog g (.agg x.c :: b) (.bool (p x))) :
  Pua 381 [.list (xs.map Slot.c),.fn g b] (dI (xP xs p)):=by
 refine aT (Tz.c0 func381 rfl ?_);simp [go_sem,seval,dI];intro n;refine fR (ι:=Nat) (λi e H=>H=.an/\i<=xs.length/\e 0=.list (xs.map Slot.c)/\e 1=.fn g b/\e 7=dI xs.length/\e 8=dI i/\(∀ j x,j<i->xs[j]?=some x->p x=false)) (λi=>xs.length - i) 0 (by simp [go_sem,seval,dI]) ?_;intro i e H ⟨w,y,r,q,o,m,l⟩;subst w;simp [go_sem,seval,o,m,dI];refine f6 (λd=>?_) (λt=>?_)
 .have hgx:=u xs[i] (aC d);simp [go_sem,seval,r,q,m,dI,d,Slot.c] at hgx ⊢;refine aB hgx (by simp [go_sem,v]) ?_;simp [go_sem,seval];refine bA (λh=>?_) (λh=>?_)
  .simp [go_sem,seval];rw [pP l d h]
  .simp [go_sem,seval,r,q,o,m,dI];refine ⟨dK bZ bZ,i+1,bZ,bZ,bZ,λj x s k=>?_⟩;rcases bT j i with hj'|hj'
   .exact l j x hj' k
   .have:j=i:=bZ;subst this;rw [aA d] at k;cases k;exact h
 .simp [go_sem,seval];rw [pQ λj x s=>l j x bZ]
theorem vV (xs:List Slot)(g:FuncId)(a:Xa2)(p:Slot->Bool)(d:D.N a=true)(e:D.W (.list (xs.map Slot.c))=true)(f:∀ x∈xs,Pure prog g (.agg x.c :: a) (.bool (p x))) :
  Pua 334 [.list (xs.map Slot.c),.fn g a] (.bool (xs.any p)):=by
 refine aT (Tz.c0 func334 rfl ?_);simp [go_sem,seval];refine aB (Ih xs g a p d f) (by simp only [D.N,e,iL];simp [D.W,d]) ?_;simp [go_sem,seval,dI,uM]
theorem lP {t : Types} {q : Pattern} (h : c6 t q = 9 \/ c6 t q = 0) : 0 <= q.vars /\ q.vars <= 12 := by
  have b := Km t;unfold c6 at h;by_cases d : (cQ t).2 = 0
  · rw [if_neg bZ] at h
    by_cases c : graphF q.j = 0
    · rw [if_neg bZ] at h
      split at h
      · omega
      · split at h
        · omega
        · rename_i h3; simp [inF] at h3; omega
    · rw [if_pos c] at h
      have h3 : graphF q.j ≠ 9 := by unfold graphF; repeat' split
                                     all_goals decide
      omega
  · grind
theorem DT (t:Types)(z:t.ok)(q:Pattern)(a:Int)(x:0<=a):Pua 338 [t.d,q.d,dI a] (dI (pL t q a)):=by
 refine Tz.pK ⟨λt=>t==8,λ_=>[]⟩ func338 rfl (λQ n=>?_);have Y:=trivial;refine wv (h:=aB (pC t z q) wl ?_);refine c8 (λg=>?_) λg=>?_
 .exact wv (h:=n _ _ (by simp [go_sem,pL,g]))
 .have l:=lP (.inl g);refine wv (h:=bC (λv e H=>∃ i:Nat,(e 4=.adr q.c/\e 7=dI 9/\e 8=.ptr i 1 0 0)/\(H.get i=some ⟨3,1,[[dI (a+v)]],false⟩)/\(i<H.next)/\(∀ u:Int,a<=u->u<a+v->kQ q u=true)) (λv=>(q.vars - a).toNat - v) 0 ⟨0,wg,wn,wn,(by intro u j l;omega)⟩ λC o v e H m=>?_);obtain ⟨i,B,f,b,w⟩:=m;have Y:=xa2 Y B f (bP b);refine c8 (λr=>?_) λr=>?_
  .have hOv:(q.q.any λs=>decide (s.C.R=a+v))=kQ q (a+v):=rfl;have Y:=xa1 Y r hOv;refine wo (h:=sN ((vV q.q 385 [.adr [dI (a+v)]] (λs=>decide (s.C.R=a+v)) (by simp [go_sem]) (by simp [go_sem]) (λs _=>Cz s (a+v)))) wr wl rfl ?_);refine dW (λp=>?_) λp=>?_
   .exact wv (h:=n _ _ (by rw [FP g x (v:=a+v) bZ r (eL p)];simp [go_sem]))
   .have ho':∀ u:Int,a<=u->u<a+((v+1:Nat):Int)->kQ q u=true:=λu j l=>by
     by_cases A:u<a+v
     .exact w u j A
     .rw [(bZ:u=a+v)];simpa using p
    exact wo (h:=wx o (v+1) ⟨H.next,wg,wn,wn,(ho')⟩)
  .exact wv (h:=n _ _ (by rw [FN g x λu j l=>w u j bZ];simp [go_sem]))
def kS (t:Types)(p:Pattern)(m:Part)(q:Pattern):Int :=
 if q.vars<p.vars then 20
 else if pL t q p.vars≠0 then pL t q p.vars
 else if cY p.j q.j m≠0 then cY p.j q.j m
 else if jN p.j q.j m=false then 1 else 0
mutual
def sH (t:Types):Pattern->Cond->Int
 | p,.mk k l m q=>if (if k=5 then kS t p m q else 0)≠0 then (if k=5 then kS t p m q else 0) else U0 t (if k=5 then q else p) l
def U0 (t:Types):Pattern->List Cond->Int
 | _,[]=>0
 | p,c :: l=>if sH t p c≠0 then sH t p c else U0 t p l
end
theorem WO (t:Types)(p:Pattern)(l:List Cond):U0 t p l=iB (sH t p) l:=by
 induction l with
 | nil=>simp [U0,iB]
 | cons a l ih=>simp only [U0,iB,ih]
theorem GM (t:Types)(p:Pattern)(c:Cond):sH t p c=if (if c.F=5 then kS t p c.map c.n else 0)≠0 then (if c.F=5 then kS t p c.map c.n else 0) else iB (sH t (if c.F=5 then c.n else p)) c.w:=by
 cases c;simp only [sH,WO];rfl
theorem FO {t:Types}{q:Pattern}{o:Int}(h:pL t q o=0):0<=q.vars/\q.vars<=12:=by
 unfold pL at h;split at h
 .exact lP (.inr h)
 .rename_i h1;exact lP (t:=t) (.inl bZ)
theorem EN (t:Types)(M:t.ok):∀ (c:Cond) (p:Pattern),0<=p.vars->p.vars<=12->Pua 285 [t.d,p.d,.agg c.c] (dI (sH t p c)):=by
 refine Cond.bm λc G p y E=>?_;have j:=GM t p c;refine Tz.pK ⟨λt=>t==4||t==7||t==11,λ_=>[]⟩ func285 rfl (λQ l=>?_);have Y:=@Cond.E;refine c8 (λB=>?_) λB=>?_
 .rw [if_pos B,if_pos B] at j;refine c8 (λJ=>?_) λJ=>?_
  .exact wv (h:=l _ _ (by simp [go_sem,j,kS,J]))
  .refine wv (h:=aB (DT t M c.n p.vars y) wl ?_);refine c8 (λv=>?_) λv=>?_
   .exact wv (h:=l _ _ (by simp [go_sem,j,kS,v];omega))
   .refine wv (h:=aB (gQ p.j c.n.j c.map) wl ?_);refine c8 (λA=>?_) λA=>?_
    .exact wv (h:=l _ _ (by simp [go_sem,j,kS,v,A];omega))
    .have hm:=dA A;have O:=aY hm.1;refine wv (h:=?_);repeat first|intro _|refine ⟨iF,?_⟩
     refine aB (iY p.j c.n.j c.map bZ bZ) wl ?_;refine wv (h:=?_);repeat first|intro _|refine ⟨iF,?_⟩
     refine wq (λu=>?_) λu=>?_
     .exact wv (h:=l _ _ (by simp [go_sem,j,kS,v,A,u];omega))
     .have hE0:kS t p c.map c.n=0:=by simp [kS,v,A,u];omega
      rw [hE0,if_neg bZ] at j;obtain ⟨w,g⟩:=fH (c.n);have I:=FO v;have n:0<=w.vars:=by rw [g];exact I.1
      have m:w.vars<=12:=by rw [g];exact I.2
      have r:sH t p c=iB (sH t w) c.w:=by rw [j,g]
      refine wv (h:=?_);repeat first|intro _|refine ⟨iF,?_⟩
      refine bC (λi e H=>(e 3=.adr t.c/\e 5=.adr c.c/\e 51=.list (c.w.map Cond.c)/\e 52=dI c.w.length/\e 4=.ptr 0 1 0 0/\e 53=dI i)/\(H.get 0=some ⟨33,5,[w.c],false⟩)/\(0<H.next)/\(i<=c.w.length)/\(iB (sH t w) (c.w.drop i)=sH t p c)) (λi=>c.w.length - i) 0 ⟨wg,(by simp [go_sem,g]),wn,wi,(r.symm)⟩ λP q i e H o=>?_;obtain ⟨F,f,b,N,z⟩:=o;have Y:=xa2 Y F f (bP b);refine c8 (λa=>?_) λa=>?_
      .have hst:=z;rw [lQ _ a] at hst;have Y:=wa Y a;refine wv (h:=?_);repeat first|intro _|refine ⟨iF,?_⟩
       refine aB ((by have:=G _ (aC a) w n m;rwa [Cond.E] at this)) wl ?_;refine wv (h:=?_);repeat first|intro _|refine ⟨iF,?_⟩
       refine wq (λs=>?_) λs=>?_
       .rw [if_pos bZ] at hst;exact wv (h:=l _ _ (by simp [go_sem,hst]))
       .rw [if_neg bZ] at hst;refine wv (h:=?_);repeat first|intro _|refine ⟨iF,?_⟩
        exact wx q (i+1) ⟨wg,(by simp [go_sem,Y]),wn,wj,(hst)⟩
      .exact wv (h:=l _ _ (by rw [<- z,nC _ bZ];simp [go_sem]))
 .rw [if_neg B,if_neg bZ,if_neg B] at j;obtain ⟨w,g⟩:=fH (p);have n:0<=w.vars:=by rw [g];exact y
  have m:w.vars<=12:=by rw [g];exact E
  have r:sH t p c=iB (sH t w) c.w:=by rw [j,g]
  refine wv (h:=?_);repeat first|intro _|refine ⟨iF,?_⟩
  refine bC (λi e H=>(e 3=.adr t.c/\e 5=.adr c.c/\e 51=.list (c.w.map Cond.c)/\e 52=dI c.w.length/\e 4=.ptr 0 1 0 0/\e 53=dI i)/\(H.get 0=some ⟨33,5,[w.c],false⟩)/\(0<H.next)/\(i<=c.w.length)/\(iB (sH t w) (c.w.drop i)=sH t p c)) (λi=>c.w.length - i) 0 ⟨wg,(by simp [go_sem,g]),wn,wi,(r.symm)⟩ λP q i e H o=>?_;obtain ⟨F,f,b,N,z⟩:=o;have Y:=xa2 Y F f (bP b);refine c8 (λa=>?_) λa=>?_
  .have hst:=z;rw [lQ _ a] at hst;have Y:=wa Y a;refine wv (h:=?_);repeat first|intro _|refine ⟨iF,?_⟩
   refine aB ((by have:=G _ (aC a) w n m;rwa [Cond.E] at this)) wl ?_;refine wv (h:=?_);repeat first|intro _|refine ⟨iF,?_⟩
   refine wq (λs=>?_) λs=>?_
   .rw [if_pos bZ] at hst;exact wv (h:=l _ _ (by simp [go_sem,hst]))
   .rw [if_neg bZ] at hst;refine wv (h:=?_);repeat first|intro _|refine ⟨iF,?_⟩
    exact wx q (i+1) ⟨wg,(by simp [go_sem,Y]),wn,wj,(hst)⟩
  .exact wv (h:=l _ _ (by rw [<- z,nC _ bZ];simp [go_sem]))
def condF (t:Types)(p:Pattern)(c:Cond):Int :=
 if c6 t p≠0 then c6 t p else if uC c≠0 then uC c else sH t p c
theorem zO (t:Types)(f:t.ok)(p:Pattern)(c:Cond)(i:c.ok)(g:c.size<=1000000):Pua 203 [t.d,p.d,.agg c.c] (dI (condF t p c)):=by
 refine Tz.p0 func203 rfl λQ b _=>?_;have Y:=@Cond.E;refine wv (h:=aB (pC t f p) wl ?_);refine c8 (λa=>?_) λa=>?_
 .have Y:=xa1 Y a @condF.eq_1;exact wv (h:=b _ _ wy)
 .have hv:=lP (.inr a);refine wv (h:=aB ((by have:=Gv c i g;rwa [Cond.E] at this)) wl ?_);refine c8 (λe=>?_) λe=>?_
  .have Y:=xa2 Y a e @condF.eq_1;exact wv (h:=b _ _ wy)
  .refine wv (h:=aB ((by have:=EN t f c p hv.1 hv.2;rwa [Cond.E] at this)) wl ?_);have Y:=xa2 Y a e @condF.eq_1;exact wv (h:=b _ _ wy)
attribute [go_sem] Rule.c Rule.d
@[go_sem] theorem ae3 (o:Option Attr)(e d b a:D):((Option.map Attr.c o).getD [e,d,b,a]).length=4:=by cases o<;>rfl
@[go_sem] theorem ae1 (o:Option NodeTy)(e d b a:D):((Option.map NodeTy.c o).getD [e,d,b,a]).length=4:=by cases o<;>rfl
@[go_sem] theorem Z8 (o:Option EdgeTy)(h g f e d b a:D):((Option.map EdgeTy.c o).getD [h,g,f,e,d,b,a]).length=7:=by cases o<;>rfl
@[go_sem] theorem acY (o:Option Edge)(d b a:D):((Option.map Edge.c o).getD [d,b,a]).length=3:=by cases o<;>rfl
@[go_sem] theorem aeZ (o:Option Slot)(e d b a:D):((Option.map Slot.c o).getD [e,d,b,a]).length=4:=by cases o<;>rfl
@[go_sem] theorem aeY (o:Option Test)(f e d b a:D):((Option.map Test.c o).getD [f,e,d,b,a]).length=5:=by cases o<;>rfl
@[go_sem] theorem acX (o:Option Stage)(b a:D):((Option.map Stage.c o).getD [b,a]).length=2:=by cases o<;>rfl
@[go_sem] theorem agP (o:Option Int)(a:D):((Option.map cI o).getD [a]).length=1:=by cases o<;>rfl
@[go_sem] theorem agN (o:Option ByteArray)(a:D):((Option.map cS o).getD [a]).length=1:=by cases o<;>rfl
@[go_sem] theorem ae2 (o:Option Bool)(a:D):((Option.map cB o).getD [a]).length=1:=by cases o<;>rfl
theorem NT (t:Types)(a:Int):Pua 332 [dI a,.adr t.c] (.bool (decide ((t.h.length:Int)<=a))):=by
 refine Tz.p0 func332 rfl λQ b Y=>?_;exact wo (h:=b _ _ wy)
theorem NS (t:Types)(x:Edge):Pua 333 [.agg x.c,.adr t.c] (.bool (decide ((t.i.length:Int)<=x.type))):=by
 refine Tz.p0 func333 rfl λQ a Y=>?_;exact wo (h:=a _ _ wy)
theorem Qv (t:Types)(g:Graph):Pua 279 [t.d,g.d] (.bool (eY t g)):=by
 have j:=f5 g.h 332 [.adr t.c] (λa=>decide ((t.h.length:Int)<=a)) (by simp [go_sem]) (by simp [go_sem]) (λa _=>NT t a);have i:=mS g.i 333 [.adr t.c] (λx=>decide ((t.i.length:Int)<=x.type)) (by simp [go_sem]) (by simp [go_sem]) (λx _=>NS t x);have e:eY t g=((!(g.h.any λn=>decide ((t.h.length:Int)<=n)))&&!(g.i.any λx=>decide ((t.i.length:Int)<=x.type))):=rfl;rw [e];refine Tz.p0 func279 rfl λQ f Y=>?_;refine wo (h:=aB (j) wl ?_);refine wo (h:=aG (λb=>i) (λb=>wl) ?_);exact wo (h:=f _ _ wy)
def sameSlot (x y:Slot):Bool:=decide (y.node=x.node)&&decide (y.P=x.P)
theorem Qw (x y:Slot):Pua 335 [.agg y.c,.adr x.c] (.bool (sameSlot x y)):=by
 refine Tz.p0 func335 rfl λQ a Y=>?_;have Y:=wa Y @sameSlot.eq_1;exact wo (h:=a _ _ wy)
def yO (t:Types)(p:Pattern)(i:Nat):Int:=match p.q[i]? with
 | some s=>if iI t p s≠0 then 6 else if ((p.q.take i).any (sameSlot s))=true then 5 else 0
 | none=>0
theorem Ep {t:Types}{p:Pattern}{i:Nat}(h:i<p.q.length):yO t p i=if iI t p p.q[i]≠0 then 6 else if ((p.q.take i).any (sameSlot p.q[i]))=true then 5 else 0:=by
 unfold yO;rw [aA h]
theorem S3 (t:Types)(l:t.ok)(r:Rule)(s:r.right.j.h.length<=1000)(i:Nat)(k:i<r.right.q.length):Pua 280 [t.d,r.d,dI i] (dI (yO t r.right i)):=by
 have a:=Ep (t:=t) k;have e:=rT l (r.right.F r.right.q[i].node);have b:=vV (r.right.q.take i) 335 [.adr r.right.q[i].c] (sameSlot r.right.q[i]) (by simp [go_sem]) (by simp only [D.W];exact Hb _) (λy _=>Qw r.right.q[i] y);refine Tz.pK ⟨λt=>t==7||t==10,λ_=>[]⟩ func280 rfl (λQ g=>?_);have Y:=wa (aA k) k;refine dW (λq=>?_) λq=>?_
 .have hE:iI t r.right r.right.q[i]≠0:=by
   unfold iI;rw [if_neg];decide;intro h;simp [mK] at h;omega
  rw [if_pos hE] at a;exact wv (h:=g _ _ (by simp [go_sem,a]))
 .have hn:r.right.q[i].node.toNat<r.right.j.h.length:=bZ;have f:r.right.F r.right.q[i].node=r.right.j.h[r.right.q[i].node.toNat]:=by simp [Pattern.F,hn]
  rw [f] at e;have Y:=xa1 Y (aA hn) f;refine wo (h:=aI (r8 t l r.right.j.h[r.right.q[i].node.toNat]) wl ?_);refine dW (λp=>?_) λp=>?_
  .have hE:iI t r.right r.right.q[i]≠0:=by
    unfold iI;rw [if_neg];decide;intro h;simp [mK,inF,f] at h;omega
   rw [if_pos hE] at a;exact wv (h:=g _ _ (by simp [go_sem,a]))
  .have hE:iI t r.right r.right.q[i]=0:=by
    unfold iI;rw [if_pos];simp [mK,inF,f];omega
   rw [if_neg bZ] at a;have o:(i:Int)<=r.right.q.length:=bZ;refine wo (h:=sN (b) wr wl rfl ?_);refine dW (λe=>?_) λe=>?_
   .exact wv (h:=g _ _ (by rw [a,if_pos (by rw [bF];exact e)];simp [go_sem]))
   .exact wv (h:=g _ _ (by rw [a,if_neg (by rw [bF];rintro ⟨x,n,m⟩;have:=e x n;rw [this] at m;cases m)];simp [go_sem]))
def iX (t:Types)(r:Rule):Int :=
 if graphF r.right.j≠0 then graphF r.right.j
 else if eY t r.right.j=false then 13
 else if r.right.vars≠r.left.vars\/0<r.right.I.length then 1
 else if 10<r.right.q.length then 3
 else bS (yO t r.right) 0 r.right.q.length
theorem Qx (t:Types)(p:t.ok)(r:Rule):Pua 199 [t.d,r.d] (dI (iX t r)):=by
 refine Tz.p0 func199 rfl λQ b Y=>?_;refine wv (h:=aB (lK r.right.j) wl ?_);refine c8 (λg=>?_) λg=>?_
 .exact wv (h:=b _ _ (.inl (by simp [go_sem,iX,g])))
 .have hg:=aY g;refine wo (h:=aB (Qv t r.right.j) wl ?_);refine dW (λf=>?_) λf=>?_
  .exact wv (h:=b _ _ (.inl (by simp [go_sem,iX,g,f])))
  .refine dW (λl=>?_) λl=>?_
   .have hR:iX t r=1:=by unfold iX;rw [if_neg bZ,if_neg (by simp [f]),if_pos bZ]
    exact wv (h:=b _ _ (.inl (by simp [go_sem,hR])))
   .have h6':¬ (r.right.vars≠r.left.vars\/0<r.right.I.length):=by
     rintro (h|h)
     .exact h l.1
     .have:=l.2;simp [this] at h
    refine dW (λq=>?_) λq=>?_
    .have hR:iX t r=3:=by unfold iX;rw [if_neg bZ,if_neg (by simp [f]),if_neg h6',if_pos bZ]
     exact wv (h:=b _ _ (.inl (by simp [go_sem,hR])))
    .have hR:iX t r=bS (yO t r.right) 0 r.right.q.length:=by unfold iX;rw [if_neg bZ,if_neg (by simp [f]),if_neg h6',if_neg bZ]
     refine wo (h:=bC (λi e H=>(e 2=.adr t.c/\e 3=.adr r.c/\e 46=dI r.right.q.length/\e 47=dI i)/\(i<=r.right.q.length)/\(bS (yO t r.right) i (r.right.q.length - i)=iX t r)) (λi=>r.right.q.length - i) 0 ⟨wg,wi,(hR.symm)⟩ λx k i e H j=>?_);obtain ⟨s,w,n⟩:=j;have Y:=wa Y s;refine c8 (λa=>?_) λa=>?_
     .have hst:=n;rw [fE _ a] at hst;have Y:=wa Y a;refine wv (h:=aB (S3 t p r bZ i a) wl ?_);refine c8 (λm=>?_) λm=>?_
      .rw [if_pos bZ] at hst;exact wv (h:=b _ _ (.inl (by simp [go_sem,hst])))
      .rw [if_neg bZ] at hst;exact wo (h:=wx k (i+1) ⟨wg,wj,(hst)⟩)
     .exact wv (h:=b _ _ (.inl (by rw [<- n,(bZ:r.right.q.length - i=0)];rfl)))
def aN (l:Xa0)(n:Nat):Xa0:=((List.range n).filter λ(i:Nat)=>!mem l i).map λ(b:Nat)=>(b:Int)
theorem eJ {l:Xa0}{n:Nat}{x:Int}(h:x∈aN l n):0<=x/\x<n:=by
 simp only [aN,aV,f7,bY] at h;grind
theorem dJ (l:Xa0)(n:Nat):(aN l n).length<=n:=by
 unfold aN;rw [bI];exact eI (dG _ _) eG
theorem Fl (l:Xa0)(n:Nat)(v:n<=1000000):Pua 281 [dLI l,dI n] (dLI (aN l n)):=by
 refine Tz.pK ⟨λt=>t==5,λ_=>[]⟩ func281 rfl (λQ r=>?_);have Y:=trivial;refine wv (h:=bC (λi e H=>∃ a:Xa0,(e 0=dLI l/\e 7=dI n/\e 5=.own 0 a.length/\e 8=dI i)/\(H.get 0=some ⟨3,1,a.map cI,false⟩)/\(0<H.next)/\(i<=n)/\(a.length<=i)/\(a=((List.range i).filter λ(b:Nat)=>!mem l b).map (λ(b:Nat)=>(b:Int)))) (λi=>n - i) 0 ⟨([]),wg,wn,wn,wi,eG,(by rfl)⟩ λz f i e H k=>?_);obtain ⟨a,s,g,d,x,w,j⟩:=k;have Y:=xa2 Y s g (bP d);refine c8 (λp=>?_) λp=>?_
 .have Y:=wa Y p;refine wo (h:=aB (eX l i) wl ?_);refine dW (λm=>?_) λm=>?_
  .have Y:=wa Y m;exact wo (h:=wx f (i+1) ⟨(a++(if (!mem l i)=true then [(i:Int)] else [])),wg,wn,wn,wj,(by rw [aQ];split<;>simp<;>omega),(by rw [b8,<- j])⟩)
  .have Y:=wa Y m;exact wo (h:=wx f (i+1) ⟨(a++(if (!mem l i)=true then [(i:Int)] else [])),wg,wn,wn,wj,(by rw [aQ];split<;>simp<;>omega),(by rw [b8,<- j])⟩)
 .exact wv (h:=r _ _ (by simp [go_sem,Y,aN];rw [j,(bZ:i=n)];simp))
def keptF (r:Rule):Int :=
 if subF r.left.j r.u≠0 then subF r.left.j r.u
 else if cY (bG r.left.j r.u) r.right.j r.A≠0 then cY (bG r.left.j r.u) r.right.j r.A
 else if jN (bG r.left.j r.u) r.right.j r.A=false then 11 else 0
structure Rule.ok (r:Rule):Prop where
 name:r.name.size<=100000
 k1:r.u.h.length<=1000000
 k2:r.u.i.length<=1000000
 i1:r.A.h.length<=1000000
 i2:r.A.i.length<=1000000
 cond:r.cond.ok
 size:r.cond.size<=1000000
theorem S4 (r:Rule)(k:r.ok):Pua 200 [r.d] (dI (keptF r)):=by
 obtain ⟨_,f,e,i,g,_,_⟩:=k;refine Tz.pK ⟨λt=>t==3||t==4,λ_=>[]⟩ func200 rfl (λQ b=>?_);have Y:=trivial;refine wv (h:=aB (Em r.left.j r.u f e) wl ?_);refine c8 (λa=>?_) λa=>?_
 .have Y:=xa1 Y a @keptF.eq_1;exact wv (h:=b _ _ wy)
 .refine wv (h:=aB (gQ (bG r.left.j r.u) r.right.j r.A) wl ?_);refine c8 (λc=>?_) λc=>?_
  .have Y:=xa2 Y a c @keptF.eq_1;exact wv (h:=b _ _ wy)
  .refine wo (h:=aB (iY (bG r.left.j r.u) r.right.j r.A i g) wl ?_);refine dW (λj=>?_) λj=>?_
   .have Y:=xa3 Y a c j @keptF.eq_1;exact wv (h:=b _ _ wy)
   .have Y:=xa3 Y a c j @keptF.eq_1;exact wv (h:=b _ _ wy)
def absB (t:Types)(g:Graph)(i:Int):Bool:=((t.h[(gN g i).toNat]?).map (·.d2)).getD false
def unfitB (t:Types)(g:Graph)(k:Int):Bool:=!oR t (g.i[k.toNat]?.getD bX).type (gN g (g.i[k.toNat]?.getD bX).B) (gN g (g.i[k.toNat]?.getD bX).O)
def sE (t:Types)(g:Graph)(nodes edges:Xa0):Bool:=(!(nodes.any (absB t g)))&&!(edges.any (unfitB t g))
theorem iW {t:Types}{g:Graph}(b:graphF g=0)(h:eY t g=true):(∀ a∈g.h,0<=a/\a<t.h.length)/\∀ x∈g.i,(0<=x.type/\x.type<t.i.length)/\(0<=x.B/\x.B<g.h.length)/\(0<=x.O/\x.O<g.h.length):=by
 obtain ⟨d,c⟩:=dO b;simp [eY] at h;simp_all
theorem JC (t:Types)(g:Graph)(l:graphF g=0)(j:eY t g=true)(i:Int)(f:0<=i)(e:i<g.h.length):Pua 282 [dI i,.adr t.c,.adr g.c] (.bool (absB t g i)):=by
 have a:i.toNat<g.h.length:=bZ;have d:=(iW l j).1 _ (aC a);have b:g.h[i.toNat].toNat<t.h.length:=bZ;refine Tz.p0 func282 rfl λQ k _=>?_;have Y:=wa (aA a) (aA b);have Y:=xa1 Y @absB.eq_1 @gN.eq_1;exact wo (h:=k _ _ wy)
theorem JB (t:Types)(d:t.ok)(g:Graph)(n:graphF g=0)(l:eY t g=true)(k:Int)(i:0<=k)(f:k<g.i.length):Pua 283 [dI k,.adr g.c,.adr t.c] (.bool (unfitB t g k)):=by
 have b:k.toNat<g.i.length:=bZ;have e:=(iW n l).2 _ (aC b);have j:g.i[k.toNat].B.toNat<g.h.length:=bZ;have a:g.i[k.toNat].O.toNat<g.h.length:=bZ;refine Tz.pK ⟨λt=>t==5,λ_=>[]⟩ func283 rfl (λQ m=>?_);have Y:=xa1 (aA b) (aA j) (aA a);refine wo (h:=aI (G0 t d _ _ _) wl ?_);have Y:=xa1 Y @unfitB.eq_1 @gN.eq_1;exact wo (h:=m _ _ wy)
theorem Mf (t:Types)(o:t.ok)(g:Graph)(n:graphF g=0)(m:eY t g=true)(a b:Xa0)(e:∀ i∈a,0<=i/\i<g.h.length)(l:∀ k∈b,0<=k/\k<g.i.length):Pua 202 [t.d,g.d,dLI a,dLI b] (.bool (sE t g a b)):=by
 have u:=f5 a 282 [.adr t.c,.adr g.c] (absB t g) (by simp [go_sem]) (by simp [go_sem]) (λi j=>JC t g n m i (e i j).1 (e i j).2);have s:=f5 b 283 [.adr g.c,.adr t.c] (unfitB t g) (by simp [go_sem]) (by simp [go_sem]) (λk f=>JB t o g n m k (l k f).1 (l k f).2);have r:sE t g a b=((!(a.any (absB t g)))&&!(b.any (unfitB t g))):=rfl;rw [r];refine Tz.p0 func202 rfl λQ q Y=>?_;refine wo (h:=aB (u) wl ?_);refine wo (h:=aG (λp=>s) (λp=>wl) ?_);exact wo (h:=q _ _ wy)
def Rule.Y (r:Rule):Xa0:=aN r.A.h r.right.j.h.length
def Rule.am (r:Rule):Xa0:=aN r.A.i r.right.j.i.length
theorem Mg (r:Rule)(c:r.right.j.h.length<=1000000)(b:r.right.j.i.length<=1000000):Pua 201 [r.d] (.tup [dLI r.Y,dLI r.am]):=by
 refine Tz.p0 func201 rfl λQ a Y=>?_;refine wo (h:=aI (Fl r.A.h _ c) wl ?_);refine wo (h:=aI (Fl r.A.i _ b) wl ?_);have Y:=xa1 Y @Rule.Y.eq_1 @Rule.am.eq_1;exact wo (h:=a _ _ wy)
def ruleF (t:Types)(r:Rule):Int :=
 if (cQ t).2≠0 then (cQ t).2
 else if mN r.name=false then 2
 else if c6 t r.left≠0 then c6 t r.left
 else if iX t r≠0 then iX t r
 else if keptF r≠0 then keptF r
 else if sE t r.right.j r.Y r.am=false then 13
 else condF t r.left r.cond
theorem Be {t:Types}{r:Rule}(h:iX t r=0):graphF r.right.j=0/\eY t r.right.j=true:=by
 unfold iX at h;grind
theorem Hk (t:Types)(k:t.ok)(r:Rule)(m:r.ok):Pua 116 [t.d,r.d] (dI (ruleF t r)):=by
 have l:=zO t k r.left r.cond m.cond m.size;rw [Cond.E] at l;refine Tz.p0 func116 rfl λQ e Y=>?_;refine wv (h:=aB (mD t k) wl ?_);refine c8 (λc=>?_) λc=>?_
 .have Y:=xa1 Y c @ruleF.eq_1;exact wv (h:=e _ _ wy)
 .refine wo (h:=aB (qD r.name m.name) wl ?_);refine dW (λf=>?_) λf=>?_
  .have Y:=xa2 Y c f @ruleF.eq_1;exact wv (h:=e _ _ wy)
  .refine wv (h:=aB (pC t k r.left) wl ?_);refine c8 (λj=>?_) λj=>?_
   .have Y:=xa3 Y c f j @ruleF.eq_1;exact wv (h:=e _ _ wy)
   .refine wv (h:=aB (Qx t k r) wl ?_);refine c8 (λa=>?_) λa=>?_
    .have Y:=xa4 Y c f j a @ruleF.eq_1;exact wv (h:=e _ _ wy)
    .have hg:=Be a;have o:=aY hg.1;refine wv (h:=aB (S4 r m) wl ?_);refine c8 (λb=>?_) λb=>?_
     .have Y:=xa5 Y c f j a b @ruleF.eq_1;exact wv (h:=e _ _ wy)
     .refine wv (h:=aB (Mg r bZ bZ) wl ?_);refine wo (h:=aB (Mf t k r.right.j hg.1 hg.2 r.Y r.am (λi n=>eJ n) (λi n=>eJ n)) wl ?_);refine dW (λg=>?_) λg=>?_
      .have Y:=xa6 Y c f j a b g @ruleF.eq_1;exact wv (h:=e _ _ wy)
      .refine wv (h:=aB (l) wl ?_);have Y:=xa6 Y c f j a b g @ruleF.eq_1;exact wv (h:=e _ _ wy)
def fewG (g:Graph):Bool:=decide ((g.h.length:Int)<=45)&&decide ((g.i.length:Int)<=90)
def fewP (p:Pattern):Bool:=fewG p.j&&decide ((p.q.length:Int)<=15)&&decide ((p.I.length:Int)<=15)
def fewPart (p:Part)(n:Int):Bool:=decide ((p.h.length:Int)+p.i.length<=n)
structure Part.le (p:Part):Prop where
 n:p.h.length<=1000000000000000
 e:p.i.length<=1000000000000000
theorem xA (g:Graph):Pua 21 [g.d] (.bool (fewG g)):=by
 refine Tz.p0 func21 rfl λQ a Y=>?_;have Y:=wa Y @fewG.eq_1;exact wo (h:=a _ _ wy)
theorem w8 (p:Pattern):Pua 120 [p.d] (.bool (fewP p)):=by
 refine Tz.p0 func120 rfl λQ a Y=>?_;refine wo (h:=aB (xA p.j) wl ?_);have Y:=wa Y @fewP.eq_1;exact wo (h:=a _ _ wy)
theorem rI (p:Part)(a:p.le)(n:Int):Pua 22 [p.d,dI n] (.bool (fewPart p n)):=by
 obtain ⟨e,c⟩:=a;refine Tz.p0 func22 rfl λQ b Y=>?_;have Y:=wa Y @fewPart.eq_1;exact wo (h:=b _ _ wy)
theorem Tg (p:Part)(a:p.le)(n:Int):Pua 121 [p.d,dI n] (.bool (fewPart p n)):=by
 obtain ⟨e,c⟩:=a;refine Tz.p0 func121 rfl λQ b Y=>?_;have Y:=wa Y @fewPart.eq_1;exact wo (h:=b _ _ wy)
mutual
def rC:Cond->Int->Int
 | .mk k l m p,b=>if (!fewP p||!fewPart m 140)=true then -1 else rB l (b - 1)
def rB:List Cond->Int->Int
 | [],b=>b
 | c :: l,b=>if 0<=b then rB l (rC c b) else b
end
theorem US (c:Cond)(b:Int):rC c b=if (!fewP c.n||!fewPart c.map 140)=true then -1 else rB c.w (b - 1):=by cases c;rw [rC];rfl
mutual
theorem Id:∀ (c:Cond) (b:Int),0<=b->-1<=rC c b/\rC c b<=b - 1
 | .mk k l m p,b,h=>by
  rw [rC];split
  ·omega
  ·exact Ic l (b - 1) (by omega)
theorem Ic:∀ (l:List Cond) (b:Int),-1<=b->-1<=rB l b/\rB l b<=b
 | [],b,h=>by rw [rB];omega
 | c :: l,b,h=>by
  rw [rB];split
  ·rename_i h0
   have h1:=Id c b h0;have h2:=Ic l (rC c b) h1.1;omega
  ·omega
end
mutual
def Cond.le:Cond->Prop
 | .mk k l m p=>m.le/\Cond.ds l
def Cond.ds:List Cond->Prop
 | []=>True
 | c :: l=>c.le/\Cond.ds l
end
theorem Nq (l:List Cond):Cond.ds l↔∀ c∈l,c.le:=by
 induction l with
 | nil=>simp [Cond.ds]
 | cons a l ih=>simp [Cond.ds,ih]
theorem Gc (c:Cond):c.le↔c.map.le/\∀ k∈c.w,k.le:=by cases c;simp [Cond.le,Nq,Cond.w,Cond.map]
mutual
theorem Dv:∀ (c:Cond) (b:Int),0<=b->0<=rC c b->c.ok/\(c.size:Int)<=b - rC c b
 | .mk k l m p,b,h,h0=>by
  rw [rC] at h0 ⊢;split at h0
  ·omega
  ·rename_i h1
   rw [if_neg h1];have h2:=O2 l (b - 1) (by omega) h0;simp [fewP,fewG,fewPart] at h1;refine ⟨⟨⟨?_,?_,?_,?_,?_,?_⟩,h2.1⟩,?_⟩<;>simp only [Cond.map,Cond.n,Cond.size]<;>omega
theorem O2:∀ (l:List Cond) (b:Int),-1<=b->0<=rB l b->Cond.cJ l/\(Cond.ag l:Int)<=b - rB l b
 | [],b,h,h0=>by simp [Cond.cJ,Cond.ag,rB]
 | c :: l,b,h,h0=>by
  rw [rB] at h0 ⊢;split at h0
  ·rename_i hb
   rw [if_pos hb];have h1:=Id c b hb;have h2:=Ic l (rC c b) h1.1;have h3:=Dv c b hb (by omega);have h4:=O2 l (rC c b) h1.1 h0;refine ⟨⟨h3.1,h4.1⟩,?_⟩;simp only [Cond.ag];omega
  ·omega
end
theorem Q0 {l:List Cond}{i:Nat}(h:i<l.length){b:Int}(a:0<=b):rB (l.drop i) b=rB (l.drop (i+1)) (rC l[i] b):=by
 rw [fI h,rB,if_pos a]
theorem TE {l:List Cond}{i:Nat}{b:Int}(h:¬ (i<l.length/\0<=b)):rB (l.drop i) b=b:=by
 by_cases a:i<l.length
 .rw [fI a,rB,if_neg bZ]
 .rw [iT bZ,rB]
theorem QH:∀ c:Cond,c.le->∀ b:Int,0<=b->b<=1000->Pua 210 [.agg c.c,dI b] (dI (rC c b)):=by
 refine Cond.bm λc n r d t s=>?_;obtain ⟨o,p⟩:=(Gc c).1 r;have a:=US c d;refine Tz.p0 func210 rfl λQ k _=>?_;have Y:=@Cond.E;refine wo (h:=aB (w8 c.n) wl ?_);refine wo (h:=aG (λq=>rI c.map o 140) (λq=>wl) ?_);refine dW (λj=>?_) λj=>?_
 .rw [if_pos (eL j)] at a;exact wv (h:=k _ _ (by simp [go_sem,a]))
 .rw [if_neg (eL j)] at a;refine wv (h:=bC (λi e H=>∃ b:Int,(e 2=.adr c.c/\e 1=dI b/\e 5=dI i)/\(i<=c.w.length)/\(-1<=b/\b<d)/\(rB (c.w.drop i) b=rC c d)) (λi=>c.w.length - i) 0 ⟨((d - 1)),wg,wi,bZ,(by exact a.symm)⟩ λy g i e H f=>?_);obtain ⟨b,v,w,x,l⟩:=f;have Y:=wa Y v;refine wv (h:=?_);repeat first|intro _|refine ⟨iF,?_⟩
  refine wq (λm=>?_) λm=>?_
  .have h5':i<c.w.length/\0<=b:=bZ;have Y:=xa1 Y m h5'.1;refine wo (h:=aB ((by have:=n _ (aC h5'.1) (p _ (aC h5'.1)) b h5'.2 bZ;rwa [Cond.E] at this)) wl ?_);exact wo (h:=wx g (i+1) ⟨(rC c.w[i] b),wg,wj,(by have:=Id c.w[i] b h5'.2;omega),(by rw [<- l,Q0 h5'.1 h5'.2])⟩)
  .have h5':¬ (i<c.w.length/\0<=b):=bZ;refine wv (h:=?_);have u:rC c d=b:=by rw [<- l,TE h5']
   exact k _ _ (by simp [go_sem,u])
def fewC (c:Cond):Bool:=decide (0<=rC c 40)
theorem KE (c:Cond)(a:c.le):Pua 122 [.agg c.c] (.bool (fewC c)):=by
 refine Tz.p0 func122 rfl λQ b _=>?_;have Y:=@Cond.E;refine wv (h:=aB ((by have:=QH c a 40 bZ bZ;rwa [Cond.E] at this)) wl ?_);have Y:=wa Y @fewC.eq_1;exact wv (h:=b _ _ wy)
def fewR (r:Rule):Bool:=decide ((r.name.size:Int)<=60)&&fewP r.left&&fewP r.right&&fewPart r.u 140&&fewPart r.A 140&&fewC r.cond
structure Rule.le (r:Rule):Prop where
 u:r.u.le
 A:r.A.le
 cond:r.cond.le
theorem KD (r:Rule)(b:r.le):Pua 61 [r.d] (.bool (fewR r)):=by
 refine Tz.p0 func61 rfl λQ c Y=>?_;refine wo (h:=aG (λa=>w8 r.left) (λa=>wl) ?_);refine wo (h:=aG (λa=>w8 r.right) (λa=>wl) ?_);refine wo (h:=aG (λa=>Tg r.u b.u 140) (λa=>wl) ?_);refine wo (h:=aG (λa=>rI r.A b.A 140) (λa=>wl) ?_);refine wo (h:=aG (λa=>(by have:=KE r.cond b.cond;rwa [Cond.E] at this)) (λa=>wl) ?_);have Y:=wa Y @fewR.eq_1;exact wo (h:=c _ _ wy)
def kT (s:ByteArray):Bool:=decide (40<(s.size:Int))
def v6 (x:Attr):Bool:=kT x.name||decide (25<(x.ah.length:Int))||x.ah.any kT
def r6 (n:NodeTy):Bool:=kT n.name||n.y.any v6
def Bv (x:EdgeTy):Bool:=kT x.name
def jW (l:List NodeTy):Nat:=(l.map λn=>n.y.length).sum
def sV (t:Types):Bool:=decide ((t.h.length:Int)<=20)&&decide ((t.i.length:Int)<=30)&&decide (jW t.h<=30)&&!(t.h.any r6)&&!(t.i.any Bv)
@[go_sem,simp] theorem XU:jW []=0:=rfl
theorem M9 (l:List NodeTy){i:Nat}(h:i<l.length):jW (l.take (i+1))=jW (l.take i)+l[i].y.length:=by
 unfold jW;rw [aF h,List.map_append,List.sum_append];simp
theorem RF (l:List NodeTy)(i:Nat):jW (l.take i)≤jW l:=by
 have:jW l=jW (l.take i)+jW (l.drop i):=by
  unfold jW;rw [← List.sum_append,← List.map_append,List.take_append_drop]
 omega
theorem T1 {l:List NodeTy}{n:NodeTy}(h:n∈l):n.y.length<=jW l:=by
 induction l with
 | nil=>cases h
 | cons a l ih =>
  have e:jW (a :: l)=a.y.length+jW l:=by simp [jW]
  grind
theorem DG {t:Types}(h:sV t=true):t.ok:=by
 simp [sV] at h;obtain ⟨⟨⟨⟨k,j⟩,i⟩,f⟩,e⟩:=h;refine ⟨λn c=>?_,λx b=>⟨?_⟩,bZ,bZ⟩
 .have hl:=T1 c;have:=f n c;simp [r6,kT] at this;refine ⟨bZ,λx b=>?_,bZ⟩;have d:=this.2 x b;simp [v6,kT] at d;refine ⟨bZ,λs g=>?_,bZ⟩;grind
 .have:=e x b;simp [Bv,kT] at this;omega
theorem EA (t:Types)(R:∀ n∈t.h,n.y.length<=1000000000000000):Pua 60 [t.d] (.bool (sV t)):=by
 refine Tz.pK ⟨λt=>t==6,λ_=>[]⟩ func60 rfl (λQ u=>?_);have Y:=trivial;refine dW (λW=>?_) λW=>?_
 .refine wv (h:=?_);have s:sV t=false:=by simp [sV];omega
  exact u _ _ (by simp [go_sem,s])
 .refine wv (h:=bC (λi e H=>(e 1=.adr t.c/\e 3=dI (jW (t.h.take i))/\e 4=dI i)/\(i<=t.h.length)/\(jW (t.h.take i)<=30)/\((t.h.take i).any r6=false)) (λi=>t.h.length - i) 0 ⟨wg,wi,(by simp [jW]),(by rfl)⟩ λI0 J i e H D=>?_);obtain ⟨E0,hi,S,P⟩:=D;have Y:=wa Y E0;refine dW (λp=>?_) λp=>?_
  .have hst:=M9 t.h p;have T:=RF t.h (i+1);have hn:=R _ (aC p);have Y:=xa1 Y p hst;refine dW (λh8=>?_) λh8=>?_
   .refine wv (h:=?_);have s:sV t=false:=by
     rcases h8 with h8|h8
     .simp [sV];omega
     .have:t.h.any r6=true:=bF.2 ⟨_,aC p,by simp [r6,kT];omega⟩;simp [sV,this]
    exact u _ _ (by simp [go_sem,s])
   .have U:kT t.h[i].name=false:=by simp [kT];omega
    refine wv (h:=bC (λk e H=>(e 1=.adr t.c/\e 3=dI (jW (t.h.take (i+1)))/\e 4=dI i/\e 5=dI k)/\(k<=t.h[i].y.length)/\((t.h[i].y.take k).any v6=false)) (λk=>t.h[i].y.length - k) 0 ⟨wg,wi,(by rfl)⟩ λI2 I k e H C=>?_);obtain ⟨E2,hk,s⟩:=C;have Y:=wa Y E2;refine dW (λb=>?_) λb=>?_
    .have Y:=wa Y b;refine dW (λM=>?_) λM=>?_
     .refine wv (h:=?_);have f:v6 t.h[i].y[k]=true:=by simp [v6,kT];omega
      have g:t.h.any r6=true:=bF.2 ⟨_,aC p,by unfold r6;rw [c5];right;exact bF.2 ⟨_,aC b,f⟩⟩;have a:sV t=false:=by simp [sV,g]
      exact u _ _ (by simp [go_sem,a])
     .have V:kT t.h[i].y[k].name=false:=by simp [kT];omega
      refine wv (h:=bC (λm e H=>∃ j:Nat,(e 1=.adr t.c/\e 3=dI (jW (t.h.take (i+1)))/\e 4=dI i/\e 5=dI k/\e 6=.ptr j 1 0 0/\e 7=dI m)/\(H.get j=some ⟨109,4,[t.h[i].y[k].c],false⟩)/\(j<H.next)/\(m<=t.h[i].y[k].ah.length)/\((t.h[i].y[k].ah.take m).any kT=false)) (λm=>t.h[i].y[k].ah.length - m) 0 ⟨H.next,wg,wn,wn,wi,(by rfl)⟩ λI4 G m e H B=>?_);obtain ⟨j,E4,w,v,hm,O⟩:=B;have Y:=xa2 Y E4 w (bP v);refine dW (λo=>?_) λo=>?_
      .have Y:=wa Y o;refine dW (λL=>?_) λL=>?_
       .refine wv (h:=?_);have f:v6 t.h[i].y[k]=true:=by unfold v6;rw [c5];right;exact bF.2 ⟨_,aC o,by simp [kT];omega⟩
        have g:t.h.any r6=true:=bF.2 ⟨_,aC p,by unfold r6;rw [c5];right;exact bF.2 ⟨_,aC b,f⟩⟩;have a:sV t=false:=by simp [sV,g]
        exact u _ _ (by simp [go_sem,a])
       .exact wo (h:=wx G (m+1) ⟨j,wg,wn,wn,wj,(by rw [dZ _ _ _ o,O];simp [kT];omega)⟩)
      .have hZ:=pD O o;exact wo (h:=wx I (k+1) ⟨wg,wj,(by rw [dZ _ _ _ b,s];simp [v6,V,hZ];omega)⟩)
    .have hA:=pD s b;exact wo (h:=wx J (i+1) ⟨wg,wj,bZ,(by rw [dZ _ _ _ p,P];simp [r6,U,hA])⟩)
  .have E:=pD P p;rw [aH bZ] at S;refine wv (h:=bC (λq e H=>(e 1=.adr t.c/\e 8=dI q)/\(q<=t.i.length)/\((t.i.take q).any Bv=false)) (λq=>t.i.length - q) 0 ⟨wg,wi,(by rfl)⟩ λI6 F q e H A=>?_);obtain ⟨Z,hj,N⟩:=A;have Y:=wa Y Z;refine dW (λl=>?_) λl=>?_
   .have Y:=wa Y l;refine dW (λK=>?_) λK=>?_
    .refine wv (h:=?_);have g:t.i.any Bv=true:=bF.2 ⟨_,aC l,by simp [Bv,kT];omega⟩;have a:sV t=false:=by simp [sV,g]
     exact u _ _ (by simp [go_sem,a])
    .exact wo (h:=wx F (q+1) ⟨wg,wj,(by rw [dZ _ _ _ l,N];simp [Bv,kT];omega)⟩)
   .have hEe:=pD N l;refine wv (h:=?_);have a:sV t=true:=by simp only [sV,E,hEe];simp;omega
    exact u _ _ (by simp [go_sem,a])
end Go.Abs
end
