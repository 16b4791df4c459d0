/- The step of the program: least, track, comatch, copies, matc -/
import Derived.Test.YtmaibfgcngmjhaaGreatZeAG
import Derived.Test.YtmaibfgcngmjhaaGreatZeAA
import Derived.Test.YtmaibfgcngmjhaaGreatZeAS
import Derived.Test.YtmaibfgcngmjhaaGreatZeAR
import Derived.Test.YtmaibfgcngmjhaaGreatZeAQ
set_option linter.unusedVariables false
set_option linter.unusedSimpArgs false
section
set_option maxRecDepth 100000
set_option maxHeartbeats 4000000
open Go Go.Proofs Tryz
namespace Go.Abs
theorem MF {l:Xa0}(b:l.Pairwise (· < ·))(v:Int):jG l l.length v=if mem l v=true then (yI l v:Int) else -1:=by
 by_cases h:mem l v=true
 .rw [if_pos h,<- DY b h];obtain ⟨p,d,e⟩:=aM ((mem_iff l v).1 h);have c:=cA.1 b;rw [yQ (i:=p) (λj k f=>by
   have a:j<l.length:=bL;rw [aA a] at f;have:=c j p a d k;simp at f;omega) (by rw [aA d,e]),<- e,By (FS b) d]
 .rw [if_neg h,B7 (λg=>h ((mem_iff _ _).2 g)) _ (aT _)]
def GW (d:Xa0)(n i:Nat):Xa0:=mG d i++List.replicate (n - i) 0
theorem HQ {d:Xa0}{n i:Nat}(h:i<=n):(GW d n i).length=n:=by simp [GW,nF];omega
theorem OM {d:Xa0}{n i:Nat}(h:i<n):(GW d n i).set i (jG d d.length i)=GW d n (i+1):=by
 unfold GW;rw [lI _ _ (by rw [nF];omega),nF,nU,JV,show n - i=(n - (i+1))+1 by omega,mU,nW,List.append_assoc];rfl
theorem HV (n:Nat)(s:n<=1000000)(d:Xa0)(m:d.Pairwise (· < ·))(o:d.length<=1000000):Pua 194 [dI n,dLI d] (dLI (uK d n)):=by
 refine Tz.p0 func194 rfl λQ q Y=>?_;refine wp (h:=bA (λi e H=>(e 1=dLI d/\e 5=.own 0 n/\e 12=dI n/\e 13=dI i)/\(H.get 0=some ⟨3,1,(GW d n i).map cI,false⟩)/\(0<H.next)/\(i<=n)) (λi=>n - i) 0 ⟨wg,(by simp [go_sem,GW,mG,cI]),wn,wi⟩ λu c i e H k=>?_);obtain ⟨r,g,b,t⟩:=k;have Y:=xa2 Y r g (bU b);refine dD (λf=>?_) λf=>?_
 .have hB:=MF m (i:Int);have j:i<(GW d n i).length:=by rw [HQ bL];exact f
  have a:(GW d n i).length=n:=HQ bL;have Y:=xa2 Y f (aA j) a;refine wv (h:=aB (wX d i m o) wl ?_);refine jH (λl=>?_) λl=>?_
  .rw [if_neg (cG l)] at hB;have Y:=wa Y hB;exact wp (h:=wx c (i+1) ⟨wg,(by simp [go_sem,Y,<- OM f,c8,cI]),wn,wj⟩)
  .rw [if_pos (cG l)] at hB;have Y:=wa Y hB;exact wp (h:=wx c (i+1) ⟨wg,(by simp [go_sem,Y,<- OM f,c8,cI]),wn,wj⟩)
 .have a:(GW d n i).length=n:=HQ bL;have p:uK d n=GW d n i:=by unfold GW uK;rw [(bL:i=n)];simp
  have Y:=wa Y a;exact wv (h:=q _ _ (by simp [go_sem,Y,p,dLI]))
/-! ### comatch -/
def Xq (keep into at_:Xa0)(n j:Nat):Int:=if 0<=jG into n j then at_[(keep[(jG into n j).toNat]?.getD 0).toNat]?.getD 0 else -1
def SL (keep into at_:Xa0)(count n:Nat):Xa0:=(List.range count).map (Xq keep into at_ n)
def JL (keep into at_:Xa0)(count remain i:Nat):Xa0:=(List.range count).map λj=>if j<i then Mt keep into at_ remain j else Xq keep into at_ into.length j
theorem Y1 (keep b at_:Xa0)(a n:Nat):(SL keep b at_ a n).length=a:=by simp [SL]
theorem N4 (keep c at_:Xa0)(a b i:Nat):(JL keep c at_ a b i).length=a:=by simp [JL]
theorem Xs (keep b at_:Xa0)(a:Nat):SL keep b at_ a 0=List.replicate a (-1):=by
 apply gF (by simp [SL]);intro i d c;simp [SL,Xq,jG]
theorem Xt (keep a at_:Xa0)(b n:Nat)(h:n<a.length)(f:0<=a[n]):SL keep a at_ b (n+1)=(SL keep a at_ b n).set a[n].toNat (at_[(keep[n]?.getD 0).toNat]?.getD 0):=by
 apply gF (by simp [SL]);intro i e d;rw [B8];simp only [SL,vQ,rJ,Xq,r6,aA h,aF];by_cases c:a[n]=(i:Int)
 .rw [if_pos c,if_pos bL,if_pos bL,Int.toNat_natCast]
 .rw [if_neg c,if_neg (bL:¬ a[n].toNat=i)]
theorem Xr (keep a at_:Xa0)(b c:Nat):JL keep a at_ b c 0=SL keep a at_ b a.length:=by simp [JL,SL]
theorem YY (keep c at_:Xa0)(b a:Nat){i:Nat}(h:i<b):(JL keep c at_ b a i).set i (Mt keep c at_ a i)=JL keep c at_ b a (i+1):=by
 apply gF (by simp [JL]);intro j g f;rw [B8];simp only [JL,vQ,rJ];by_cases d:i=j
 .subst d;rw [if_pos rfl,if_pos bL]
 .rw [if_neg d];by_cases e:j<i
  .rw [if_pos e,if_pos bL]
  .rw [if_neg e,if_neg bL]
theorem Y0 (keep c at_:Xa0)(a b:Nat):JL keep c at_ a b a=Hd keep c at_ a b:=by
 unfold JL Hd;exact bY λj d=>by rw [if_pos (bN.1 d)]
theorem YZ (keep a at_:Xa0)(b c:Nat){i:Nat}(h:i<b):(JL keep a at_ b c i)[i]?=some (Xq keep a at_ a.length i):=by
 simp [JL,h]
theorem Dn (b:Nat)(hc:b<=1000)(keep a c d:Xa0)(n:Nat)(hn:n<=1000)(hl:a.length<=keep.length)(L:∀ x∈a,0<=x/\x<b)(K:∀ x∈keep,0<=x/\x<c.length)(I:∀ x∈keep,0<=iA c x/\iA c x<d.length)
  (X:∀ x∈keep,0<=(rH c d)[x.toNat]?.getD 0):Pua 195 [dI b,dLI keep,dLI a,dLI c,dLI d,dI n] (dLI (Hd keep a (rH c d) b n)):=by
 refine Tz.pK ⟨λt=>t==19,λ_=>[]⟩ func195 rfl (λQ hQ=>?_);have Y:=trivial;refine wv (h:=mT (CQ (-1) b hc) wl ?_);refine wv (h:=?_);repeat first|intro _|refine ⟨fY,?_⟩
 refine bA (λi e H=>(e 1=dLI keep/\e 2=dLI a/\e 3=dLI c/\e 4=dLI d/\e 13=.own 0 b/\e 20=dLI a/\e 21=dI a.length/\e 22=dI i/\e 5=dI n)/\(H.get 0=some ⟨3,1,(SL keep a (rH c d) b i).map cI,false⟩)/\(0<H.next)/\(i<=a.length)) (λi=>a.length - i) 0 ⟨wg,(by simp [go_sem,Xs,cI]),wn,wi⟩ λI0 U i e H P=>?_;obtain ⟨E0,D,s,hi⟩:=P;have Y:=xa2 Y E0 D (bU s);refine dD (λA=>?_) λA=>?_
 .have hki:i<keep.length:=bL;have Z:=K _ (aC hki);have G:=I _ (aC hki);have o:keep[i].toNat<c.length:=bL;have N:iA c keep[i]=c[keep[i].toNat]:=by unfold iA;rw [aA o];rfl
  rw [N] at G;have w:(c[keep[i].toNat]).toNat<d.length:=bL;have M:=L _ (aC A);have f:(SL keep a (rH c d) b i).length=b:=Y1 _ _ _ _ _;have T:a[i].toNat<(SL keep a (rH c d) b i).length:=bL;have W:(rH c d)[(keep[i]?.getD 0).toNat]?.getD 0=d[(c[keep[i].toNat]).toNat]:=by
   rw [aA hki,aF];unfold rH;rw [aW,aA o,fS,aF,aA w,aF]
  have u:=Xt keep a (rH c d) b i A M.1;rw [W] at u;have Y:=xa6 Y A (aA A) (aA hki) (aA o) (aA w) (aA T) f;refine wv (h:=?_);repeat first|intro _|refine ⟨fY,?_⟩
  exact wx U (i+1) ⟨wg,(by simp [go_sem,Y,u,c8,cI]),wn,wj⟩
 .have hA:SL keep a (rH c d) b i=JL keep a (rH c d) b n 0:=by rw [Xr,(bL:i=a.length)]
  have f:(JL keep a (rH c d) b n 0).length=b:=N4 _ _ _ _ _ _;have F:CU a 0=0:=LR a;have Y:=xa2 Y hA f F;refine wv (h:=?_);repeat first|intro _|refine ⟨fY,?_⟩
  refine bA (λk e H=>(e 1=dLI keep/\e 2=dLI a/\e 3=dLI c/\e 4=dLI d/\e 13=.own 0 b/\e 42=dI b/\e 43=dI k/\e 5=dI ((n+CU a k:Nat):Int))/\(H.get 0=some ⟨3,1,(JL keep a (rH c d) b n k).map cI,false⟩)/\(0<H.next)/\(k<=b)) (λk=>b - k) 0 ⟨wg,cl,wn,wi⟩ λI2 z k e H O=>?_;obtain ⟨E2,C,r,hk⟩:=O;have Y:=xa2 Y E2 C (bU r);refine dD (λE=>?_) λE=>?_
  .have hnl:=TE a k;have f:(JL keep a (rH c d) b n k).length=b:=N4 _ _ _ _ _ _;have S:k<(JL keep a (rH c d) b n k).length:=bL;have R:=YZ keep a (rH c d) b n E;have p:(JL keep a (rH c d) b n k)[k]=Xq keep a (rH c d) a.length k:=by rw [aA S] at R;exact Option.some.inj R
   have l:=YY keep a (rH c d) b n E;have m:=LS a k;have a0:=Et a (k:Int) a.length;have Y:=xa2 Y f E R;refine wv (h:=?_);repeat first|intro _|refine ⟨fY,?_⟩
   refine wq (λg=>?_) λg=>?_
   .rw [p] at g;have v:¬ 0<=jG a a.length k:=by
     intro B;have y:(jG a a.length k).toNat<keep.length:=bL;have:=X _ (aC y);simp only [Xq,if_pos B,aA y,aF] at g;omega
    have q:Mt keep a (rH c d) n k=((n+CU a k:Nat):Int):=by unfold Mt;rw [if_neg v]
    rw [q] at l;rw [if_pos bL] at m;have j:(JL keep a (rH c d) b n (k+1)).map cI=((JL keep a (rH c d) b n k).map cI).set k [.int .i64 ((n+CU a k:Nat):Int)]:=by rw [<- l,c8];rfl
    have Y:=wa Y m;refine wv (h:=?_);repeat first|intro _|refine ⟨fY,?_⟩
    exact wx z (k+1) ⟨wg,(fe j),wn,wj⟩
   .rw [p] at g;have q:Mt keep a (rH c d) n k=Xq keep a (rH c d) a.length k:=by
     unfold Mt Xq;split
     .rfl
     .rename_i B;exfalso;unfold Xq at g;rw [if_neg B] at g;omega
    have V:0<=jG a a.length k:=by
     refine bE λB=>?_;unfold Xq at g;rw [if_neg B] at g;omega
    rw [q,<- p,List.set_getElem_self] at l;rw [if_neg bL] at m;have j:(JL keep a (rH c d) b n (k+1))=JL keep a (rH c d) b n k:=l.symm;have Y:=wa Y m;refine wv (h:=?_);repeat first|intro _|refine ⟨fY,?_⟩
    exact wx z (k+1) ⟨wg,(fe j),wn,wj⟩
  .have hE:=Y0 keep a (rH c d) b n;have J:k=b:=bL;have f:(JL keep a (rH c d) b n b).length=b:=N4 _ _ _ _ _ _;rw [hE] at f;have Y:=xa2 Y f J hE;exact wv (h:=hQ _ _ (by simp [go_sem,Y,hE,dLI]))
/-! ### copies -/
@[go_sem] theorem Mat.dw (m:Mat):m.d.U=true:=by simp [Mat.d,D.U,Mat.U]
theorem HZ (m:Mat)(f:m.m.i.length<=1000000)(e:m.m.j.length<=1000000)(b:m.vars.length<=1000000):Pua 192 [m.d] m.d:=by
 refine Tz.pK ⟨λt=>t==2,λ_=>[]⟩ func192 rfl (λQ a=>?_);have Y:=wa @Mat.d.eq_1 @Mat.c.eq_1;refine wv (h:=?_);refine mO (jC m.m.i f) (by simp [go_sem,dLI]) eh (Ju _) rfl eh ?_;refine wv (h:=?_);refine mO (jC m.m.j e) (by simp [go_sem,dLI]) eh (Ju _) rfl eh ?_;refine wv (h:=?_);refine mO (jC m.vars b) (by simp [go_sem,dLI]) eh (Ju _) rfl eh ?_;exact wv (h:=a _ _ (by simp [go_sem,Y,dLI]))
def G3 (t:Types)(r:Rule)(h:Host)(m:Mat):Int :=
 if fX t r.left.o h.o m.m r.inj≠0 then 1
 else if (eJ t r.left h m.m).2≠0 then (eJ t r.left h m.m).2
 else if (eJ t r.left h m.m).1≠m.vars then 11 else 0
theorem PI (t:Types)(r:Rule)(h:Host)(m:Mat):tA t r h m=if G3 t r h m≠0 then G3 t r h m else tK (sR r.left.o h.o m.m) h.o r.G m.m:=by
 unfold tA G3;by_cases c:fX t r.left.o h.o m.m r.inj≠0
 .rw [if_pos c,if_pos c];simp
 .rw [if_neg c,if_neg c];by_cases a:(eJ t r.left h m.m).2≠0
  .rw [if_pos a,if_pos a,if_pos a]
  .rw [if_neg a,if_neg a];by_cases b:(eJ t r.left h m.m).1≠m.vars
   .rw [if_pos b,if_pos b];simp
   .rw [if_neg b,if_neg b];simp
theorem M2 (t:Types)(g:t.ok)(r:Rule)(h:Host)(m:Mat):Pua 188 [t.d,r.d,h.d,m.d] (dI (G3 t r h m)):=by
 refine Tz.p0 func188 rfl λQ a _=>?_;have Y:=xa7 @Rule.d.eq_1 @Rule.c.eq_1 @Pattern.c.eq_1 @Host.d.eq_1 @Host.c.eq_1 @Mat.d.eq_1 @Mat.c.eq_1 @Graph.c.eq_1 @Part.c.eq_1;refine wv (h:=aB (zL t g r.left.o h.o m.m r.inj) wl ?_);refine dD (λf=>?_) λf=>?_
 .have hM:G3 t r h m=1:=by unfold G3;rw [if_pos (cG f)]
  exact wv (h:=a _ _ (eD hM))
 .have hM:G3 t r h m=if (eJ t r.left h m.m).2≠0 then (eJ t r.left h m.m).2 else if (eJ t r.left h m.m).1≠m.vars then 11 else 0:=by unfold G3;rw [if_neg (cG f)]
  refine wv (h:=aB (As t g r.left h m.m) wl ?_);refine dD (λe=>?_) λe=>?_
  .rw [if_pos (cG e)] at hM;exact wv (h:=a _ _ (eD hM))
  .rw [if_neg (cG e)] at hM;refine wo (h:=aB (yV (eJ t r.left h m.m).1 m.vars) wl ?_);refine dZ (λb=>?_) λb=>?_
   .rw [if_pos (cG b)] at hM;exact wv (h:=a _ _ (eD hM))
   .rw [if_neg (cG b)] at hM;exact wv (h:=a _ _ (eD hM))
theorem HY (t:Types)(b:t.ok)(r:Rule)(g:r.ok)(h:Host):Pua 114 [t.d,r.d,h.d] (dI (fU t r h)):=by
 refine Tz.p0 func114 rfl λQ c Y=>?_;refine wv (h:=aB (nY t b) wl ?_);refine dD (λf=>?_) λf=>?_
 .have hE:ruleF t r=(cW t).2:=by unfold ruleF;rw [if_pos (cG f)]
  have a:fU t r h=(cW t).2:=by unfold fU;rw [if_pos (by rw [hE];simpa using f),hE]
  exact wv (h:=c _ _ (eD a))
 .refine wv (h:=aB (Ii t b r g) wl ?_);refine dD (λe=>?_) λe=>?_
  .have a:fU t r h=ruleF t r:=by unfold fU;rw [if_pos (cG e)]
   exact wv (h:=c _ _ (eD a))
  .have a:fU t r h=dH t h:=by unfold fU;rw [if_neg (cG e)]
   refine wv (h:=aB (rU t b h) wl ?_);exact wv (h:=c _ _ (by simp [go_sem,a,dH]))
mutual
def Cond.bj (B:Nat):Cond→Prop
 | .mk k l m p=>(m.i.length≤B∧m.j.length≤B)∧Cond.cc B l
def Cond.cc (B:Nat):List Cond→Prop
 | []=>True
 | c :: l=>c.bj B∧Cond.cc B l
end
theorem Lf (B:Nat)(l:List Cond):Cond.cc B l↔∀ c∈l,c.bj B:=by
 induction l with
 | nil=>simp [Cond.cc]
 | cons a l ih=>simp [Cond.cc,ih]
theorem EF (B:Nat)(c:Cond):c.bj B↔(c.map.i.length<=B/\c.map.j.length<=B)/\∀ k∈c.y,k.bj B:=by cases c;simp [Cond.bj,Lf,Cond.y,Cond.map]
theorem Cond.bnd_le {B:Nat}(e:B<=1000000000000000):∀ c:Cond,c.bj B->c.le:=by
 refine lU λc b h=>?_;obtain ⟨f,d⟩:=(EF B c).1 h;exact (GP c).2 ⟨⟨bL,bL⟩,λk a=>b k a (d k a)⟩
def Rule.bj (B:Nat)(x:Rule):Prop:=(x.G.i.length<=B/\x.G.j.length<=B)/\(x.O.i.length<=B/\x.O.j.length<=B)/\x.cond.bj B
theorem Rule.bnd_le {B:Nat}(a:B<=1000000000000000){r:Rule}(h:r.bj B):r.le:=by
 obtain ⟨⟨f,e⟩,⟨d,c⟩,b⟩:=h;exact ⟨⟨bL,bL⟩,⟨bL,bL⟩,Cond.bnd_le a _ b⟩
section
variable {H:Type} {enc:TypeId × Value→H} {w:World} {base:Nat} {spare:Nat→Bool} {held:Bool} {bulk:DataW H→Nat} {B:Nat}
theorem op9 (hB:Bulk bulk):∀ n,Opens enc prog w base spare held bulk B n 9 cS (λ_=>True):=λn=>(NA hB underlying9).map id (λ_=>rfl) (λ_ _=>trivial)
theorem LL:∀ n,Opens enc prog w base spare held bulk B n 3 cI (λ_=>True):=λn=>(LK underlying3).map id (λ_=>rfl) (λ_ _=>trivial)
theorem aeO (hB:Bulk bulk):∀ n,Opens enc prog w base spare held bulk B n 105 (λl:List ByteArray=>[D.list (l.map cS)]) (λl=>l.length<=B/\∀ a∈l,(λ_=>True) a)
 | 0=>Opens.zero
 | n+1=>jO hB underlying105 (op9 hB n)
theorem aeN (hB:Bulk bulk):∀ n,Opens enc prog w base spare held bulk B n 107 Attr.c (λ_=>True)
 | 0=>Opens.zero
 | n+1=>(eX hB underlying107 en (bH (op9 hB n) (bH (LL n) (bH (LL n) (bH (aeO hB n) gH))))).map (λp=>⟨p.1,p.2.1,p.2.2.1,p.2.2.2.1⟩) (λp=>rfl) (λp h=>trivial)
theorem aiB (hB:Bulk bulk):∀ n,Opens enc prog w base spare held bulk B n 98 (λl:List Attr=>[D.list (l.map Attr.c)]) (λl=>l.length<=B/\∀ a∈l,(λ_=>True) a)
 | 0=>Opens.zero
 | n+1=>jO hB underlying98 (aeN hB n)
theorem aeP (hB:Bulk bulk):∀ n,Opens enc prog w base spare held bulk B n 100 NodeTy.c (λx=>x.w.length<=B)
 | 0=>Opens.zero
 | n+1=>(eX hB underlying100 en (bH (op9 hB n) (bH (LL n) (bH (op4 n) (bH (aiB hB n) gH))))).map (λp=>⟨p.1,p.2.1,p.2.2.1,p.2.2.2.1⟩) (λp=>rfl) (λp h=>h.2.2.2.1.1)
theorem aiN (hB:Bulk bulk):∀ n,Opens enc prog w base spare held bulk B n 22 (λl:List NodeTy=>[D.list (l.map NodeTy.c)]) (λl=>l.length<=B/\∀ a∈l,(λx=>x.w.length<=B) a)
 | 0=>Opens.zero
 | n+1=>jO hB underlying22 (aeP hB n)
theorem aeM (hB:Bulk bulk):∀ n,Opens enc prog w base spare held bulk B n 109 EdgeTy.c (λ_=>True)
 | 0=>Opens.zero
 | n+1=>(eX hB underlying109 en (bH (op9 hB n) (bH (LL n) (bH (LL n) (bH (LL n) (bH (LL n) (bH (LL n) (bH (LL n) gH)))))))).map (λp=>⟨p.1,p.2.1,p.2.2.1,p.2.2.2.1,p.2.2.2.2.1,p.2.2.2.2.2.1,p.2.2.2.2.2.2.1⟩) (λp=>rfl) (λp h=>trivial)
theorem aiM (hB:Bulk bulk):∀ n,Opens enc prog w base spare held bulk B n 23 (λl:List EdgeTy=>[D.list (l.map EdgeTy.c)]) (λl=>l.length<=B/\∀ a∈l,(λ_=>True) a)
 | 0=>Opens.zero
 | n+1=>jO hB underlying23 (aeM hB n)
theorem aiL (hB:Bulk bulk):∀ n,Opens enc prog w base spare held bulk B n 25 Types.c (λx=>x.i.length<=B/\x.j.length<=B/\∀ n∈x.i,n.w.length<=B)
 | 0=>Opens.zero
 | n+1=>(eX hB underlying25 en (bH (aiN hB n) (bH (aiM hB n) gH))).map (λp=>⟨p.1,p.2.1⟩) (λp=>rfl) (λp h=>⟨h.1.1,h.2.1.1,h.1.2⟩)
theorem U4 (hB:Bulk bulk):∀ n,Opens enc prog w base spare held bulk B n 27 (λl:Xa0=>[D.list (l.map cI)]) (λl=>l.length<=B/\∀ a∈l,(λ_=>True) a)
 | 0=>Opens.zero
 | n+1=>jO hB underlying27 (LL n)
theorem aeL (hB:Bulk bulk):∀ n,Opens enc prog w base spare held bulk B n 124 Edge.c (λ_=>True)
 | 0=>Opens.zero
 | n+1=>(eX hB underlying124 en (bH (LL n) (bH (LL n) (bH (LL n) gH)))).map (λp=>⟨p.1,p.2.1,p.2.2.1⟩) (λp=>rfl) (λp h=>trivial)
theorem aiJ (hB:Bulk bulk):∀ n,Opens enc prog w base spare held bulk B n 28 (λl:List Edge=>[D.list (l.map Edge.c)]) (λl=>l.length<=B/\∀ a∈l,(λ_=>True) a)
 | 0=>Opens.zero
 | n+1=>jO hB underlying28 (aeL hB n)
theorem aeI (hB:Bulk bulk):∀ n,Opens enc prog w base spare held bulk B n 30 Graph.c (λx=>x.i.length<=B/\x.j.length<=B)
 | 0=>Opens.zero
 | n+1=>(eX hB underlying30 en (bH (U4 hB n) (bH (aiJ hB n) gH))).map (λp=>⟨p.1,p.2.1⟩) (λp=>rfl) (λp h=>⟨h.1.1,h.2.1.1⟩)
theorem Wy (hB:Bulk bulk):∀ n,Opens enc prog w base spare held bulk B n 221 Term.c (λ_=>True)
 | 0=>Opens.zero
 | n+1=>(eX hB underlying221 en (bH (LL n) (bH (LL n) gH))).map (λp=>⟨p.1,p.2.1⟩) (λp=>rfl) (λp h=>trivial)
theorem aeK (hB:Bulk bulk):∀ n,Opens enc prog w base spare held bulk B n 223 Slot.c (λ_=>True)
 | 0=>Opens.zero
 | n+1=>(eX hB underlying223 en (bH (LL n) (bH (LL n) (bH (Wy hB n) gH)))).map (λp=>⟨p.1,p.2.1,p.2.2.1⟩) (λp=>by simp [Slot.c,Term.c,cI,dI]) (λp h=>trivial)
theorem aiF (hB:Bulk bulk):∀ n,Opens enc prog w base spare held bulk B n 49 (λl:List Slot=>[D.list (l.map Slot.c)]) (λl=>l.length<=B/\∀ a∈l,(λ_=>True) a)
 | 0=>Opens.zero
 | n+1=>jO hB underlying49 (aeK hB n)
theorem aeJ (hB:Bulk bulk):∀ n,Opens enc prog w base spare held bulk B n 282 Test.c (λ_=>True)
 | 0=>Opens.zero
 | n+1=>(eX hB underlying282 en (bH (LL n) (bH (Wy hB n) (bH (Wy hB n) gH)))).map (λp=>⟨p.1,p.2.1,p.2.2.1⟩) (λp=>by simp [Test.c,Term.c,cI,dI]) (λp h=>trivial)
theorem aiE (hB:Bulk bulk):∀ n,Opens enc prog w base spare held bulk B n 50 (λl:List Test=>[D.list (l.map Test.c)]) (λl=>l.length<=B/\∀ a∈l,(λ_=>True) a)
 | 0=>Opens.zero
 | n+1=>jO hB underlying50 (aeJ hB n)
theorem aaE (hB:Bulk bulk):∀ n,Opens enc prog w base spare held bulk B n 52 Pattern.c (λ_=>True)
 | 0=>Opens.zero
 | n+1=>(eX hB underlying52 en (bH (aeI hB n) (bH (aiF hB n) (bH (LL n) (bH (aiE hB n) gH))))).map (λp=>⟨p.1,p.2.1,p.2.2.1,p.2.2.2.1⟩) (λp=>by simp [Pattern.c,Graph.c,cI,dI]) (λp h=>trivial)
theorem aiD (hB:Bulk bulk):∀ n,Opens enc prog w base spare held bulk B n 54 Part.c (λx=>x.i.length<=B/\x.j.length<=B)
 | 0=>Opens.zero
 | n+1=>(eX hB underlying54 en (bH (U4 hB n) (bH (U4 hB n) gH))).map (λp=>⟨p.1,p.2.1⟩) (λp=>rfl) (λp h=>⟨h.1.1,h.2.1.1⟩)
theorem aeH (hB:Bulk bulk):∀ n,Opens enc prog w base spare held bulk B n 55 Part.c (λx=>x.i.length<=B/\x.j.length<=B)
 | 0=>Opens.zero
 | n+1=>(eX hB underlying55 en (bH (U4 hB n) (bH (U4 hB n) gH))).map (λp=>⟨p.1,p.2.1⟩) (λp=>rfl) (λp h=>⟨h.1.1,h.2.1.1⟩)
theorem aeG (hB:Bulk bulk):∀ n,Opens enc prog w base spare held bulk B n 58 Cond.c (λc=>c.bj B)
 | 0=>Opens.zero
 | n+1 =>
  have hk:Opens enc prog w base spare held bulk B n 56 (λl:List Cond=>[D.list (l.map Cond.c)]) (λl=>l.length<=B/\∀ a∈l,Cond.bj B a):=match n with
   | 0=>Opens.zero
   | m+1=>jO hB underlying56 ((aeG hB (m+1)).mono (Nat.le_succ m))
  (eX hB underlying58 en (bH (LL n) (bH hk (bH (aeH hB n) (bH (aaE hB n) gH))))).map (λp=>Cond.mk p.1 p.2.1 p.2.2.1 p.2.2.2.1) (λp=>by simp [Cond.c,Cond.be,Part.c,Pattern.c,cI,dI]) (λp h=>(EF B _).2 ⟨h.2.2.1,h.2.1.2⟩)
theorem aiC (hB:Bulk bulk):∀ n,Opens enc prog w base spare held bulk B n 60 Rule.c (λx=>(x.G.i.length<=B/\x.G.j.length<=B)/\(x.O.i.length<=B/\x.O.j.length<=B)/\x.cond.bj B)
 | 0=>Opens.zero
 | n+1=>(eX hB underlying60 en (bH (op9 hB n) (bH (aaE hB n) (bH (aaE hB n) (bH (aiD hB n) (bH (aeH hB n) (bH (op4 n) (bH (aeG hB n) gH)))))))).map (λp=>⟨p.1,p.2.1,p.2.2.1,p.2.2.2.1,p.2.2.2.2.1,p.2.2.2.2.2.1,p.2.2.2.2.2.2.1⟩) (λp=>by simp [Rule.c,Pattern.c,Part.c,Cond.F,cS,cI,dI]) (λp h=>⟨h.2.2.2.1,h.2.2.2.2.1,h.2.2.2.2.2.2.1⟩)
theorem aiI (hB:Bulk bulk):∀ n,Opens enc prog w base spare held bulk B n 31 (λl:Yb=>[D.list (l.map (λl:Xa0=>[D.list (l.map cI)]))]) (λl=>l.length<=B/\∀ a∈l,(λl=>l.length<=B/\∀ a∈l,(λ_=>True) a) a)
 | 0=>Opens.zero
 | n+1=>jO hB underlying31 (U4 hB n)
theorem aiH (hB:Bulk bulk):∀ n,Opens enc prog w base spare held bulk B n 33 Host.c (λ_=>True)
 | 0=>Opens.zero
 | n+1=>(eX hB underlying33 en (bH (aeI hB n) (bH (aiI hB n) gH))).map (λp=>⟨p.1,p.2.1⟩) (λp=>rfl) (λp h=>trivial)
end
mutual
def oT:Cond→Bool
 | .mk k l m p=>DQ l&&decide ((p.o.i.length:Int)+p.o.j.length≤6)
def DQ:List Cond→Bool
 | []=>true
 | c :: l=>oT c&&DQ l
end
theorem PZ (l:List Cond):DQ l=l.all oT:=by
 induction l with
 | nil=>simp [DQ]
 | cons a l ih=>simp [DQ,ih]
theorem CV (c:Cond):oT c=(c.y.all oT&&decide ((c.u.o.i.length:Int)+c.u.o.j.length<=6)):=by
 cases c;simp only [oT,PZ,Cond.y,Cond.u];try rfl
theorem xN {α:Type}(l:List α)(p:α->Bool){i:Nat}(h:i<l.length):(l.take (i+1)).all p=((l.take i).all p&&p l[i]):=by
 rw [aD h,pC];simp
theorem Nr:∀ c:Cond,c.ok->Pua 93 [.agg c.c] (.bool (oT c)):=by
 refine lU λc m o=>?_;obtain ⟨k,n⟩:=(w4 c).1 o;have p1:=k.p1;have p2:=k.p2;refine Tz.p0 func93 rfl λQ l _=>?_;have Y:=@Cond.F;refine wv (h:=bA (λi e H=>(e 1=.adr c.c/\e 3=dI i)/\(i<=c.y.length)/\((c.y.take i).all oT=true)) (λi=>c.y.length - i) 0 ⟨wg,wi,(by rfl)⟩ λr f i e H b=>?_);obtain ⟨p,q,d⟩:=b;have Y:=wa Y p;refine wv (h:=?_);repeat first|intro _|refine ⟨iV,?_⟩
 refine wq (λa=>?_) λa=>?_
 .have Y:=xa1 Y a (aA a);refine wo (h:=aB ((by have:=m _ (aC a) (n _ (aC a));rwa [Cond.F] at this)) wl ?_);refine dZ (λj=>?_) λj=>?_
  .refine wv (h:=?_);have g:oT c=false:=by
    have:c.y.all oT=false:=by
     rw [bP];intro h;exact absurd (cF.1 h _ (aC a)) (cG j)
    rw [CV,this];rfl
   exact l _ _ (eD g)
  .exact wo (h:=wx f (i+1) ⟨wg,wj,(by rw [xN _ _ a,d];simpa using j)⟩)
 .have hA:c.y.all oT=true:=by rw [aH bL] at d;exact d
  have g:oT c=decide ((c.u.o.i.length:Int)+c.u.o.j.length<=6):=by rw [CV,hA];rfl
  exact wo (h:=l _ _ (eD g))
def adC (p q:Pattern):Int:=((14 ^ (q.o.i.length - p.o.i.length) * 18 ^ (q.o.j.length - p.o.j.length):Nat):Int)
def LQ (k:Int)(p' p:Pattern):Pattern:=if k=5 then p' else p
mutual
def oI:Cond→Pattern→Bool
 | .mk k l m p',p=>JU l (LQ k p' p)&&decide (adC p (LQ k p' p)≤5000)
def JU:List Cond→Pattern→Bool
 | [],_=>true
 | c :: l,q=>oI c q&&JU l q
end
theorem SZ (l:List Cond)(q:Pattern):JU l q=l.all λc=>oI c q:=by
 induction l with
 | nil=>simp [JU]
 | cons a l ih=>simp [JU,ih]
theorem B1 (c:Cond)(p:Pattern):oI c p=((c.y.all λk=>oI k (LQ c.kind c.u p))&&decide (adC p (LQ c.kind c.u p)<=5000)):=by
 cases c;simp only [oI,SZ,Cond.y,Cond.u,Cond.kind];try rfl
theorem t7 {a j:Nat}(ha:1<=a)(hj:j<=6):a ^ j<=a ^ 6/\1<=a ^ j:=⟨Nat.pow_le_pow_right ha hj,by first|exact Nat.one_le_pow _ _ ha|exact Nat.pow_pos ha|exact Nat.pos_pow_of_pos _ ha⟩
theorem MZ (q:Pattern):q.c.take 5=q.c:=rfl
theorem KA:∀ c:Cond,c.ok->oT c=true->∀ p:Pattern,p.o.i.length<=1000000->p.o.j.length<=1000000->Pua 94 [p.d,.agg c.c,dI 14,dI 18] (.bool (oI c p)):=by
 refine lU λc Z hc O p a1 a0=>?_;obtain ⟨hs,hk⟩:=(w4 c).1 hc;have q1:=hs.p1;have q2:=hs.p2;rw [CV] at O;simp only [aR,decide_eq_true_eq,cF] at O;obtain ⟨q,D⟩:=dY (LQ c.kind c.u p);have m:q.o.i.length - p.o.i.length<=6/\q.o.j.length - p.o.j.length<=6/\q.o.i.length<=1000000/\q.o.j.length<=1000000:=by
  rw [<- D];unfold LQ;split<;>omega
 refine Tz.pK ⟨λt=>t==9,λ_=>[]⟩ func94 rfl (λQ P=>?_);have Y:=@Cond.F;refine dD (λU=>?_) λU=>?_
 .have hqc:c.u=q:=by rw [<- D];exact (if_pos U).symm
  refine wp (h:=bA (λi e H=>∃ w:Nat,(e 4=.adr p.c/\e 5=.adr c.c/\e 2=dI 14/\e 3=dI 18/\e 9=.ptr 0 1 0 0/\e 10=dI w/\e 11=dI i)/\(H.get 0=some ⟨52,5,[q.c],false⟩)/\(0<H.next)/\(p.o.i.length<=i)/\(i<=q.o.i.length\/i=p.o.i.length)/\(w=14 ^ (i - p.o.i.length))) (λi=>q.o.i.length - i) p.o.i.length ⟨1,wg,(by simp [go_sem,hqc,MZ]),wn,wi,wi,(by simp)⟩ λI0 K i e H F=>?_);obtain ⟨w,X,A,r,hi,s,B⟩:=F;have Y:=xa2 Y X A (bU r);refine wv (h:=?_);repeat first|intro _|refine ⟨fY,?_⟩
  refine wq (λN=>?_) λN=>?_
  .have f:=(t7 (a:=14) (j:=i - p.o.i.length) bL bL).1;rw [<- B] at f;have g:w<=7529536:=f;have Y:=wa Y N;exact wp (h:=wx K (i+1) ⟨(w * 14),wg,cl,wn,wj,wj,(by rw [(bL:i+1 - p.o.i.length=(i - p.o.i.length)+1),Nat.pow_succ,B])⟩)
  .have hw':w=14 ^ (q.o.i.length - p.o.i.length):=by rw [B];congr 1;omega
   have f:=(t7 (a:=14) (j:=q.o.i.length - p.o.i.length) bL m.1).1;rw [<- hw'] at f;have g:w<=7529536:=f;refine wp (h:=bA (λk e H=>∃ v:Nat,(e 4=.adr p.c/\e 5=.adr c.c/\e 2=dI 14/\e 3=dI 18/\e 9=.ptr 0 1 0 0/\e 10=dI v/\e 12=dI k)/\(H.get 0=some ⟨52,5,[q.c],false⟩)/\(0<H.next)/\(p.o.j.length<=k)/\(k<=q.o.j.length\/k=p.o.j.length)/\(v=w * 18 ^ (k - p.o.j.length))) (λk=>q.o.j.length - k) p.o.j.length ⟨w,wg,cl,wn,wi,wi,(by simp)⟩ λI2 J k e H s=>?_);obtain ⟨v,W,z,o,T,S,C⟩:=s;have Y:=xa2 Y W z (bU o);refine wv (h:=?_);repeat first|intro _|refine ⟨fY,?_⟩
   refine wq (λu=>?_) λu=>?_
   .have hvb:=(t7 (a:=18) (j:=k - p.o.j.length) bL bL).1;have M:v<=7529536 * 34012224:=by rw [C];exact iY g hvb
    have Y:=wa Y u;exact wp (h:=wx J (k+1) ⟨(v * 18),wg,cl,wn,wj,wj,(by rw [(bL:k+1 - p.o.j.length=(k - p.o.j.length)+1),Nat.pow_succ,C,CD])⟩)
   .have hv':v=w * 18 ^ (q.o.j.length - p.o.j.length):=by rw [C];congr 2;omega
    refine wv (h:=bA (λj e H=>(e 4=.adr p.c/\e 5=.adr c.c/\e 2=dI 14/\e 3=dI 18/\e 9=.ptr 0 1 0 0/\e 10=dI v/\e 13=dI j)/\(H.get 0=some ⟨52,5,[q.c],false⟩)/\(0<H.next)/\(j<=c.y.length)/\((c.y.take j).all (λx=>oI x q)=true)) (λj=>c.y.length - j) 0 ⟨wg,cl,wn,wi,(by rfl)⟩ λI4 I j e H E=>?_);obtain ⟨V,y,n,hj,G⟩:=E;have Y:=xa2 Y V y (bU n);refine wv (h:=?_);repeat first|intro _|refine ⟨fY,?_⟩
    refine wq (λb=>?_) λb=>?_
    .have Y:=xa2 Y b (aA b) @MZ;refine wp (h:=aJ ((by have R:=Z _ (aC b) (hk _ (aC b)) (O.1 _ (aC b)) q m.2.2.1 m.2.2.2;rwa [Cond.F] at R)) wl ?_);refine jH (λl=>?_) λl=>?_
     .refine wv (h:=?_);have L:oI c p=false:=by
       have:(c.y.all λx=>oI x q)=false:=by
        rw [bP];intro h;exact absurd (cF.1 h _ (aC b)) (cG l)
       rw [B1,D,this];rfl
      exact P _ _ (eD L)
     .exact wp (h:=wx I (j+1) ⟨wg,cl,wn,wj,(by rw [xN _ _ b,G];simpa using l)⟩)
    .have hA:(c.y.all λx=>oI x q)=true:=by rw [aH bL] at G;exact G
     have L:oI c p=decide ((v:Int)<=5000):=by rw [B1,D,hA,hv',hw'];rfl
     exact wv (h:=P _ _ (eD L))
 .have hqc:p=q:=by rw [<- D];exact (if_neg U).symm
  refine wp (h:=bA (λi e H=>∃ w:Nat,(e 4=.adr p.c/\e 5=.adr c.c/\e 2=dI 14/\e 3=dI 18/\e 9=.ptr 0 1 0 0/\e 10=dI w/\e 11=dI i)/\(H.get 0=some ⟨52,5,[q.c],false⟩)/\(0<H.next)/\(p.o.i.length<=i)/\(i<=q.o.i.length\/i=p.o.i.length)/\(w=14 ^ (i - p.o.i.length))) (λi=>q.o.i.length - i) p.o.i.length ⟨1,wg,(by simp [go_sem,hqc,MZ]),wn,wi,wi,(by simp)⟩ λI0 K i e H F=>?_);obtain ⟨w,X,A,r,hi,s,B⟩:=F;have Y:=xa2 Y X A (bU r);refine wv (h:=?_);repeat first|intro _|refine ⟨fY,?_⟩
  refine wq (λN=>?_) λN=>?_
  .have f:=(t7 (a:=14) (j:=i - p.o.i.length) bL bL).1;rw [<- B] at f;have g:w<=7529536:=f;have Y:=wa Y N;exact wp (h:=wx K (i+1) ⟨(w * 14),wg,cl,wn,wj,wj,(by rw [(bL:i+1 - p.o.i.length=(i - p.o.i.length)+1),Nat.pow_succ,B])⟩)
  .have hw':w=14 ^ (q.o.i.length - p.o.i.length):=by rw [B];congr 1;omega
   have f:=(t7 (a:=14) (j:=q.o.i.length - p.o.i.length) bL m.1).1;rw [<- hw'] at f;have g:w<=7529536:=f;refine wp (h:=bA (λk e H=>∃ v:Nat,(e 4=.adr p.c/\e 5=.adr c.c/\e 2=dI 14/\e 3=dI 18/\e 9=.ptr 0 1 0 0/\e 10=dI v/\e 12=dI k)/\(H.get 0=some ⟨52,5,[q.c],false⟩)/\(0<H.next)/\(p.o.j.length<=k)/\(k<=q.o.j.length\/k=p.o.j.length)/\(v=w * 18 ^ (k - p.o.j.length))) (λk=>q.o.j.length - k) p.o.j.length ⟨w,wg,cl,wn,wi,wi,(by simp)⟩ λI2 J k e H s=>?_);obtain ⟨v,W,z,o,T,S,C⟩:=s;have Y:=xa2 Y W z (bU o);refine wv (h:=?_);repeat first|intro _|refine ⟨fY,?_⟩
   refine wq (λu=>?_) λu=>?_
   .have hvb:=(t7 (a:=18) (j:=k - p.o.j.length) bL bL).1;have M:v<=7529536 * 34012224:=by rw [C];exact iY g hvb
    have Y:=wa Y u;exact wp (h:=wx J (k+1) ⟨(v * 18),wg,cl,wn,wj,wj,(by rw [(bL:k+1 - p.o.j.length=(k - p.o.j.length)+1),Nat.pow_succ,C,CD])⟩)
   .have hv':v=w * 18 ^ (q.o.j.length - p.o.j.length):=by rw [C];congr 2;omega
    refine wv (h:=bA (λj e H=>(e 4=.adr p.c/\e 5=.adr c.c/\e 2=dI 14/\e 3=dI 18/\e 9=.ptr 0 1 0 0/\e 10=dI v/\e 13=dI j)/\(H.get 0=some ⟨52,5,[q.c],false⟩)/\(0<H.next)/\(j<=c.y.length)/\((c.y.take j).all (λx=>oI x q)=true)) (λj=>c.y.length - j) 0 ⟨wg,cl,wn,wi,(by rfl)⟩ λI4 I j e H E=>?_);obtain ⟨V,y,n,hj,G⟩:=E;have Y:=xa2 Y V y (bU n);refine wv (h:=?_);repeat first|intro _|refine ⟨fY,?_⟩
    refine wq (λb=>?_) λb=>?_
    .have Y:=xa2 Y b (aA b) @MZ;refine wp (h:=aJ ((by have R:=Z _ (aC b) (hk _ (aC b)) (O.1 _ (aC b)) q m.2.2.1 m.2.2.2;rwa [Cond.F] at R)) wl ?_);refine jH (λl=>?_) λl=>?_
     .refine wv (h:=?_);have L:oI c p=false:=by
       have:(c.y.all λx=>oI x q)=false:=by
        rw [bP];intro h;exact absurd (cF.1 h _ (aC b)) (cG l)
       rw [B1,D,this];rfl
      exact P _ _ (eD L)
     .exact wp (h:=wx I (j+1) ⟨wg,cl,wn,wj,(by rw [xN _ _ b,G];simpa using l)⟩)
    .have hA:(c.y.all λx=>oI x q)=true:=by rw [aH bL] at G;exact G
     have L:oI c p=decide ((v:Int)<=5000):=by rw [B1,D,hA,hv',hw'];rfl
     exact wv (h:=P _ _ (eD L))
def Hw (t:Types)(p:Pattern)(c:Cond)(h:Host):Bool:=fewC c&&fewP p&&yU h&&(decide (condF t p c≠0)||(light21 t p h&&oT c&&decide ((h.o.i.length:Int)<=6)&&decide ((h.o.j.length:Int)<=8)&&oI c p))
theorem Pj (t:Types)(m:t.ok)(p:Pattern)(c:Cond)(o:c.le)(h:Host):Pua 47 [t.d,p.d,.agg c.c,h.d] (.bool (Hw t p c h)):=by
 refine Tz.p0 func47 rfl λQ n _=>?_;have Y:=xa1 @Host.c.eq_1 @Pattern.c.eq_1 @Cond.F;refine wo (h:=aB ((by have b:=Ly c o;rwa [Cond.F] at b)) wl ?_);refine wo (h:=aN (λa=>yD p) (λa=>wl) ?_);refine wo (h:=aN (λa=>Fg h) (λa=>wl) ?_);refine dZ (λl=>?_) λl=>?_
 .have hF:(fewC c&&fewP p&&yU h)=false:=by cases k:fewC c<;>cases j:fewP p<;>cases i:yU h<;>simp [k,j,i] at l<;>rfl
  exact wv (h:=n _ _ (by simp [go_sem,Hw,hF]))
 .have hF:fewC c=true/\fewP p=true/\yU h=true:=by cases k:fewC c<;>cases j:fewP p<;>cases i:yU h<;>simp [k,j,i] at l<;>exact ⟨rfl,rfl,rfl⟩
  have f:c.ok/\c.size<=1000000:=by
   have g:=hF.1;simp [fewC] at g;have q:=DT c 40 bL g;exact ⟨q.1,bL⟩
  have e:p.o.i.length<=1000000/\p.o.j.length<=1000000:=by
   have g:=hF.2.1;simp [fewP,fewG] at g;omega
  refine wo (h:=aB ((by have b:=Gh t m p c f.1 f.2;rwa [Cond.F] at b)) wl ?_);refine wo (h:=aN (λa=>Pm t m p h) (λa=>wl) ?_);refine wo (h:=aN (λa=>(by have b:=Nr c f.1;rwa [Cond.F] at b)) (λa=>wl) ?_);refine wo (h:=aN (λa=>(by have b:=KA c f.1 (by simp at a;simp_all) p e.1 e.2;rwa [Cond.F] at b)) (λa=>wl) ?_);exact wo (h:=n _ _ (by simp [go_sem,Hw,hF.1,hF.2.1,hF.2.2]))
def light26 (t:Types)(r:Rule)(h:Host):Bool:=u0 t&&fewR r&&Hw t r.left r.cond h
theorem Pd (t:Types)(e:t.ok)(r:Rule)(f:r.le)(h:Host):Pua 18 [t.d,.agg r.c,h.d] (.bool (light26 t r h)):=by
 refine Tz.p0 func18 rfl λQ i _=>?_;have Y:=xa1 @Host.c.eq_1 @Rule.c.eq_1 @Cond.F;refine wo (h:=aB (Fh t (λn g=>dA (e.i n g).bi bL)) wl ?_);refine wo (h:=aN (λb=>(by have a:=Lx r f;simpa [Rule.d,Rule.c,Cond.F,go_sem] using a)) (λb=>wl) ?_);refine wo (h:=aN (λb=>(by have a:=Pj t e r.left r.cond f.cond h;rwa [Cond.F] at a)) (λb=>wl) ?_);have Y:=wa Y @light26.eq_1;exact wo (h:=i _ _ wy)
theorem I7 {t:Types}(d:t.vl0):∀ c:Nat,c<t.i.length->∀ (b:Nat) (a:Int),mem (t.ao c) (b:Int)=true->mem (t.ao b) a=true->mem (t.ao c) a=true:=by
 intro c;induction c using Nat.strongRecOn with
 | _ c ih =>
 intro g b a hb h;have f:=d.I c _ (aA g);have e:=Bh t c g (d.an c);rw [e,yM,cX] at hb;rcases hb with hb|hb
 .by_cases h0:0<=t.i[c].I
  .rw [if_pos h0] at hb;rw [e,yM,cX,if_pos h0];exact .inl (ih _ bL bL b a hb h)
  .rw [if_neg h0,DR] at hb;cases hb
 .have:b=c:=by simp at hb;omega
  subst this;exact h
theorem Vw {t:Types}(i:(cW t).2=0){ty a b e d:Int}(h:qF t ty a b=true)(g:Ab t a e=true)(f:Ab t b d=true)(k:0<=e/\e<t.i.length)(j:0<=d/\d<t.i.length):qF t ty e d=true:=by
 have c:=pD i;unfold qF at h ⊢;simp only [aR,decide_eq_true_eq] at h ⊢;obtain ⟨⟨o,n⟩,m,l⟩:=h;obtain ⟨_,q,p⟩:=sX o;unfold Ab at g f;rw [show a=((a.toNat:Nat):Int) by omega] at g;rw [show b=((b.toNat:Nat):Int) by omega] at f;refine ⟨⟨?_,n⟩,I7 c _ bL a.toNat _ g m,I7 c _ bL b.toNat _ f l⟩;simp [given2F,i,insideF,k,j]
section
variable {t:Types} {r:Rule} {h:Host} {m:Mat}
theorem YQ {l a:Xa0}{es:List Edge}{g:Graph}{n:Int}(d:0<=n)(c:n<l.length)(b:g.i=l++a):gN g n=l[n.toNat]?.getD 0:=by
 unfold gN;rw [b,aY bL]
theorem StepIn.du (S:StepIn t r h m):∀ x∈(dM t r h m).o.j,((0<=x.type/\x.type<t.j.length)/\(0<=x.from_/\x.from_<(dM t r h m).o.i.length)/\(0<=x.L/\x.L<(dM t r h m).o.i.length)) /\
  qF t x.type (gN (dM t r h m).o x.from_) (gN (dM t r h m).o x.L)=true:=λx hx=>by
 have hbN:=S.bl;have hbin:=S.di;rw [S.cN,aQ,aS,aS] at hx;rcases hx with ⟨k,hk,rfl⟩|⟨k,hk,rfl⟩
 .have hr:=S.c4 k hk;have hy:=abH hr.1 hr.2;obtain ⟨e1,e2⟩:=S.ho.ed _ hy;have hgi:=(eI S.ho.gg).2 _ hy;obtain ⟨s1,s2⟩:=OQ S.sub hk;obtain ⟨p1,p2,_⟩:=Wt S.bs s1;obtain ⟨q1,q2,_⟩:=Wt S.bs s2;have key:∀ v:Int,v∈(dB r h m).i->yI (dB r h m).i v<(dB r h m).i.length->iA (dB r h m).i (yI (dB r h m).i v)=v->gN (dM t r h m).o (yI (dB r h m).i v)=gN h.o v:=λv hv hp hi=>by
   rw [YQ (es:=[]) bL (cG hp) hbN,show ((yI (dB r h m).i v:Nat):Int).toNat=yI (dB r h m).i v by omega,aW];unfold iA at hi;rw [show ((yI (dB r h m).i v:Nat):Int).toNat=yI (dB r h m).i v by omega,aA hp,aF] at hi;rw [aA hp,fS,aF,hi]
  have hl:(dM t r h m).o.i.length=(dB r h m).i.length+r.ac.length:=by rw [hbN];simp
  rw [aa8];refine ⟨⟨⟨hgi.1.1,e1⟩,⟨by simp only;omega,by simp only;omega⟩,by simp only;omega,by simp only;omega⟩,?_⟩;simp only;rw [key _ s1 p1 p2,key _ s2 q1 q2];exact e2
 .have hr:=mL hk;have hk2:k.toNat<r.right.o.j.length:=bL;have hy:=(p9 S.hR.gr S.hR.tr).2 _ (aC hk2);rw [aA hk2,aF];obtain ⟨y,hye⟩:=cY (r.right.o.j[k.toNat]);rw [<- hye] at hy ⊢;have hf:y.from_.toNat<r.right.o.i.length:=bL;have ht:y.L.toNat<r.right.o.i.length:=bL;obtain ⟨n1,c1,l1,b1⟩:=S.dg hf;obtain ⟨n2,c2,l2,b2⟩:=S.dg ht;unfold freshE;rw [c1,c2];simp only [aF];have hfit:qF t y.type r.right.o.i[y.from_.toNat] r.right.o.i[y.L.toNat]=true:=by
   have:=S.hR.d3;unfold Bf at this;rw [aR,b7,b7,iP,iP] at this;have h1:=this.2 k hk;unfold unfitB at h1;rw [aA hk2,aF,<- hye] at h1;unfold gN at h1;rw [aA hf,aA ht] at h1;simpa using h1
  have e1:gN (dM t r h m).o (n1:Int)=(dM t r h m).o.i[n1]:=by simp [gN,aA l1]
  have e2:gN (dM t r h m).o (n2:Int)=(dM t r h m).o.i[n2]:=by simp [gN,aA l2]
  refine ⟨⟨⟨hy.1.1,hy.1.2⟩,⟨bL,bL⟩,bL,bL⟩,?_⟩;rw [e1,e2];exact Vw S.hR.vf hfit b1 b2 (hbin _ (aC l1)) (hbin _ (aC l2))
theorem W7 {x:Host}(f:(cW t).2=0)(h:x.o.i.length<=40)(l:x.o.j.length<=80)(s:x.values.length=x.o.i.length)(m:∀ a∈x.o.i,0<=a/\a<t.i.length)
  (d:∀ (n:Nat) (p:n<x.o.i.length) (w:n<x.values.length),iW t x.o.i[n] x.values[n]=0)
  (c:∀ y∈x.o.j,((0<=y.type/\y.type<t.j.length)/\(0<=y.from_/\y.from_<x.o.i.length)/\(0<=y.L/\y.L<x.o.i.length))/\qF t y.type (gN x.o y.from_) (gN x.o y.L)=true):dH t x=0:=by
 have v:=(pD f).bh;have k:=(pD f).cz;have u:graphF x.o=0:=Vv h l (λa o=>by have:=m a o;omega) λy g=>by
  obtain ⟨⟨r,e,q⟩,_⟩:=c y g;exact ⟨bL,e,q⟩
 have p:(iJ (Jq t x) 0 x.o.i.length).2=0:=by
  rw [wS];refine rY _ _ λj _ i=>?_;have b:j<x.o.i.length:=bL;unfold Jq;rw [aA b,aA (bL:j<x.values.length),aF,aF];exact d j b bL
 unfold dH oZ;rw [if_neg bL,if_neg bL,if_neg bL,if_neg bL,wS];refine rY _ _ λj _ i=>?_;have b:j<x.o.j.length:=bL;obtain ⟨r,e⟩:=c _ (aC b);unfold Vt;rw [aA b,aF,if_neg bL,if_pos e]
theorem To {g:Graph}{c:Part}{vs:Xa0}:∀ (l:List Slot) (vals:Yb),vals.length=g.i.length->(∀ (n:Nat) (h1:n<g.i.length) (h2:n<vals.length),iW t g.i[n] vals[n]=0) ->
  (∀ s∈l,Ba t g c vs s=false)->(∀ s∈l,0<=s.Q)->∀ (n:Nat) (h1:n<g.i.length) (h2:n<(xE c vs l vals).length),iW t g.i[n] (xE c vs l vals)[n]=0
 | [],vals,_,hx,_,_=>λn h1 h2=>hx n h1 h2
 | s :: l,vals,hl,hx,ho,ha=>by
  refine To l (vals.set (f9 c s) ((vals[f9 c s]?.getD []).set s.Q.toNat (dJ s.E vs))) (by rw [iZ];exact hl) (λn h1 h2=>?_) (λs hs=>ho s (fg hs)) (λs hs=>ha s (fg hs));rw [iZ] at h2;have hI:=hx n h1 h2;rw [B8];split
  .rename_i hs';subst hs';rw [aA h2,aF];obtain ⟨a1,a2,a3,a4⟩:=uY hI;unfold iW;rw [if_neg bL,if_neg (by rw [a2];simp),if_neg (by rw [iZ];omega)];refine rY _ _ λj _ hj=>?_;have hja:j<(bZ t g.i[f9 c s]).length:=bL;unfold DS;rw [aA hja,aF];by_cases hj2:s.Q.toNat=j
   .have e:((vals[f9 c s]).set s.Q.toNat (dJ s.E vs))[j]?=some (dJ s.E vs):=by rw [<- hj2];exact MO bL
    rw [e,aF,if_neg];have hO:=ho s bS;unfold Ba at hO;rw [aA h1,aF,hj2,aA hja,aF,Ci,decide_eq_false_iff_not,decide_eq_false_iff_not] at hO;omega
   .rw [List.getElem?_set_ne hj2,aA (bL:j<(vals[f9 c s]).length),aF,if_neg];have:=a4 j bL hja;omega
  .exact hI
theorem StepIn.after (S:StepIn t r h m)(a:xF t (dM t r h m).o (r4 r h m) m.vars r.right.q=0)(e:(dM t r h m).o.i.length<=40)(f:(dM t r h m).o.j.length<=80):dH t (xO t r h m)=0:=by
 have d:∀ s∈r.right.q,Ba t (dM t r h m).o (r4 r h m) m.vars s=false:=by
  unfold xF at a;split at a
  .cases a
  .split at a
   .cases a
   .rename_i b;rw [Bool.not_eq_true,iP] at b;exact λs c=>by simpa using b s c
 exact W7 S.hR.vf e f (by show (xE _ _ _ _).length=_;rw [(uQ _ _ _ _).1];exact S.cu) S.di (λn g b=>To _ _ S.cu S.node d (λs c=>(S.hR.q s c).2.1.1) n g b) S.du
end
section
variable {t:Types} {r:Rule} {h:Host} {m:Mat}
end
structure StepOk (t:Types) (r:Rule) (h:Host) (m:Mat):Prop where
 S:StepIn t r h m
 db:tA t r h m=0
 sol:eJ t r.left h m.m=(m.vars,0)
 put:xF t (dM t r h m).o (r4 r h m) m.vars r.right.q=0
 nn:(dM t r h m).o.i.length<=40
 ne:(dM t r h m).o.j.length<=80
theorem ZU {t:Types}{r:Rule}{h:Host}{m:Mat}(f:RuleV t r)(e:HostOk t h)(c:iT t r h m=0):StepOk t r h m:=by
 unfold iT at c;split at c
 .contradiction
 .rename_i h1;have d:mK t r h m=0:=by simpa using h1
  unfold mK at d;split at d
  .contradiction
  .rename_i h2;have a:tA t r h m=0:=by simpa using h2
   have b:eJ t r.left h m.m=(m.vars,0):=by
    unfold tA at a;split at a
    .cases a
    .split at a
     .contradiction
     .rename_i h4;split at a
      .cases a
      .rename_i h5;exact Prod.ext (cG h5) (cG h4)
   split at c
   .contradiction
   .rename_i h3;split at c
    .cases c
    .rename_i h4;exact ⟨Rq f e a,a,b,by simpa using h3,bL,bL⟩
theorem StepOk.after {t:Types}{r:Rule}{h:Host}{m:Mat}(S:StepOk t r h m):dH t (xO t r h m)=0:=S.S.after S.put S.nn S.ne
structure Stp26.le (s:Stp26):Prop where
 r:s.V.le
 m:s.d4.m.le
 t:s.cv.le
 c:s.cb.le
theorem Un {t:Types}{g:Graph}(c:∀ a∈g.i,a<t.i.length)(d:∀ x∈g.j,x.type<t.j.length):iB t g=true:=by
 unfold iB;rw [aR,b7,b7,iP,iP];exact ⟨λa e=>by have:=c a e;simpa using this,λx b=>by have:=d x b;simpa using this⟩
section
variable {g:Graph} {p:Part} {more:Graph} {kept:Part} {im:Xa0}
end
theorem Xg {g:Graph}{i:Nat}(h:i<g.j.length):eA g i=g.j[i]:=by unfold eA;simp [h]
section
variable {t:Types} {a b:Rule} {o:Ovl}
end
section
variable {g:Graph} {p q:Xa0}
end
section
variable {t:Types} {g:Graph} {d:Dr24}
structure GrOk (t:Types) (g G:Graph):Prop where
 ok:graphF G=0
 ty:iB t G=true
 no:∀ i:Int,0<=i->i<g.i.length->gN G i=gN g i
 ed:∀ k:Int,0<=k->k<g.j.length->eA G k=eA g k
 fi:∀ k:Int,g.j.length<=k->k<G.j.length->qF t (eA G k).type (gN G (eA G k).from_) (gN G (eA G k).L)=true
 ln:g.i.length<=G.i.length
 le:g.j.length<=G.j.length
end
theorem jU {l:Xa0}{i:Nat}(h:i<l.length):iA l i=l[i]:=by simp [iA,h]
def Cg (i j:Int)(x:Edge):Bool:=decide (x.from_=i)&&decide (x.L=j)
def AG (g:Graph)(i j:Int)(k:Nat):Xa0:=((g.j.take k).filter (Cg i j)).map Edge.type
def gJ (g:Graph)(i j:Int):Xa0:=pR (AG g i j g.j.length)
@[go_sem] theorem ac5 (g:Graph)(i j:Int):AG g i j 0=[]:=by simp [AG]
theorem MB {g:Graph}{i j:Int}{k:Nat}(h:k<g.j.length):AG g i j (k+1)=AG g i j k++if Cg i j g.j[k]=true then [g.j[k].type] else []:=by
 unfold AG;rw [aD h,eU,List.map_append];split<;>rename_i a<;>simp [a]
theorem zY (g:Graph)(y:g.j.length<=1000000)(a b:Int):Pua 183 [g.d,dI a,dI b] (dLI (gJ g a b)):=by
 have f:∀ k,(AG g a b k).length<=k:=λk=>by unfold AG;rw [bR];exact dA (iC _ _) et
 refine Tz.pK ⟨λt=>t==7||t==9,λ_=>[]⟩ func183 rfl (λQ v=>?_);have Y:=trivial;refine wp (h:=bA (λi e H=>(e 1=dI a/\e 2=dI b/\e 3=.adr g.c/\e 11=.list (g.j.map Edge.c)/\e 12=dI g.j.length/\e 7=.own 0 (AG g a b i).length/\e 13=dI i)/\(H.get 0=some ⟨3,1,(AG g a b i).map cI,false⟩)/\(0<H.next)/\(i<=g.j.length)) (λi=>g.j.length - i) 0 ⟨wg,(by simp [go_sem,AG]),wn,wi⟩ λz n i e H q=>?_);obtain ⟨w,l,m,u⟩:=q;have Y:=xa2 Y w l (bU m);refine dD (λo=>?_) λo=>?_
 .have hSt:=MB (i:=a) (j:=b) o;have x:=f i;have s:=Yy H.next;have Y:=xa3 Y o s (aA o) @Edge.c.eq_1;refine jH (λr=>?_) λr=>?_
  .have hb:Cg a b g.j[i]=true:=by unfold Cg;simpa using r
   rw [if_pos hb] at hSt;have p:(AG g a b (i+1)).length=(AG g a b i).length+1:=by rw [hSt];simp
   have Y:=wa Y p;exact wp (h:=wx n (i+1) ⟨wg,(by simp [go_sem,Y,hSt,cI]),wn,wj⟩)
  .have hb:Cg a b g.j[i]=false:=by unfold Cg;simpa using r
   rw [if_neg (by rw [hb];simp),dG] at hSt;have Y:=wa Y hSt;exact wp (h:=wx n (i+1) ⟨wg,(by simp [go_sem,Y,hSt,cI]),wn,wj⟩)
 .have hie:i=g.j.length:=bL;subst hie;refine wv (h:=?_);unfold dQ;refine H6 (ty:=3) (xs:=AG g a b g.j.length) (by exact l) (by have:=f g.j.length;omega) ?_;exact wv (h:=v _ _ (by simp [go_sem,Y,gJ,dLI,lV]))
def jS (g:Graph)(k:Int):Int:=(eA g k).type
def vV (g:Graph)(v:Int)(o:Xa0):Nat->Nat
 | 0=>0
 | k+1=>if v<jS g (iA o k) then vV g v o k else k+1
def Jf (g:Graph)(o:Xa0)(i:Nat):Xa0:=o.take (vV g (jS g i) o o.length)++[(i:Int)]++o.drop (vV g (jS g i) o o.length)
def qL (g:Graph)(i j:Int):Nat->Xa0
 | 0=>[]
 | n+1=>if Cg i j (eA g n)=true then Jf g (qL g i j n) n else qL g i j n
def KI (g:Graph)(l:Xa0):Xa0:=(l.length:Int) :: l.map (jS g)
theorem NM (g:Graph)(v:Int)(o:Xa0):∀ k,vV g v o k<=k
 | 0=>aT _
 | k+1=>by
  have:=NM g v o k;simp only [vV];split<;>omega
theorem TP {g:Graph}{v:Int}{o:Xa0}:∀ {k j:Nat},vV g v o k<=j->j<k->v<jS g (iA o j)
 | 0,j,_,h=>absurd h (De _)
 | k+1,j,h1,h2=>by
  simp only [vV] at h1;split at h1
  .rename_i h;rcases bD j k with hc|hc
   .exact TP h1 hc
   .rw [(bL:j=k)];exact h
  .omega
theorem TO {g:Graph}{v:Int}{o:Xa0}:∀ {k:Nat},0<vV g v o k->jS g (iA o ((vV g v o k - 1:Nat):Int))<=v
 | 0,h=>absurd h (j4 _)
 | k+1,h=>by
  simp only [vV] at h ⊢;split
  .rename_i hc;rw [if_pos hc] at h;exact TO h
  .rename_i hc;rw [(bL:k+1 - 1=k)];omega
theorem WZ (g:Graph)(o:Xa0)(i:Nat):(Jf g o i).length=o.length+1:=by
 have:=NM g (jS g i) o o.length;unfold Jf;simp;omega
theorem Es (g:Graph)(i j:Int):∀ n,(qL g i j n).length<=n
 | 0=>aT _
 | n+1=>by
  have:=Es g i j n;simp only [qL];split
  .rw [WZ];omega
  .omega
theorem WY {g:Graph}{o:Xa0}{i:Nat}{x:Int}:x∈Jf g o i↔x=(i:Int)\/x∈o:=by
 unfold Jf;rw [aQ,aQ,aX];constructor
 .rintro ((h|h)|h)
  .exact .inr (bJ h)
  .exact .inl h
  .exact .inr (cQ h)
 .rintro (h|h)
  .exact .inl (.inr h)
  .rw [<- List.take_append_drop (vV g (jS g i) o o.length) o,aQ] at h;rcases h with h|h
   .exact .inl (.inl h)
   .exact .inr h
theorem Er {g:Graph}{i j:Int}:∀ {n:Nat} {x:Int},x∈qL g i j n↔∃ k:Nat,k<n/\x=(k:Int)/\Cg i j (eA g k)=true
 | 0,x=>by simp [qL]
 | n+1,x=>by
  simp only [qL];split
  .rename_i h;rw [WY,Er];constructor
   .rintro (rfl|⟨k,hk,e,hb⟩)
    .exact ⟨n,bL,rfl,h⟩
    .exact ⟨k,bL,e,hb⟩
   .rintro ⟨k,hk,e,hb⟩;rcases bD k n with hc|hc
    .exact .inr ⟨k,hc,e,hb⟩
    .left;rw [e,(bL:k=n)]
  .rename_i h;rw [Er];constructor
   .rintro ⟨k,hk,e,hb⟩;exact ⟨k,bL,e,hb⟩
   .rintro ⟨k,hk,e,hb⟩;rcases bD k n with hc|hc
    .exact ⟨k,hc,e,hb⟩
    .rw [(bL:k=n)] at hb;exact absurd hb h
theorem GI (g:Graph)(i j:Int):∀ n,((qL g i j n).map (jS g)).Pairwise (·<=·)
 | 0=>List.Pairwise.nil
 | n+1=>by
  have ih:=GI g i j n;simp only [qL];split
  .generalize hv:jS g (n:Int)=v;generalize qL g i j n=o at ih ⊢;rw [kW] at ih ⊢;unfold Jf;rw [hv];obtain ⟨k,hk⟩:=cY (vV g v o o.length);have hle:k<=o.length:=hk ▸ NM g v o o.length;have hlo:∀ x∈o.take k,jS g x<=v:=λx hx=>by
    obtain ⟨p,hp,rfl⟩:=aM hx;rw [bT] at hp;rw [mR];have h0:=TO (g:=g) (v:=v) (o:=o) (k:=o.length) bL;rw [<- hk,jU bL] at h0;rcases bD p (k - 1) with hc|hc
    .have:=cA.1 ih p (k - 1) bL bL hc;omega
    .have e:p=k - 1:=bL;subst e;exact h0
   have hhi:∀ x∈o.drop k,v<jS g x:=λx hx=>by
    obtain ⟨p,hp,rfl⟩:=aM hx;rw [dV] at hp;rw [HD];have:=TP (g:=g) (v:=v) (o:=o) (k:=o.length) (j:=k+p) bL bL;rwa [jU bL] at this
   rw [<- hk,List.append_assoc,List.singleton_append,kA];refine ⟨ih.sublist (List.take_sublist k o),?_,λa ha b hb=>?_⟩
   .rw [rI];exact ⟨λa ha=>by have:=hhi a ha;omega,ih.sublist (List.drop_sublist k o)⟩
   .have h1:=hlo a ha;rcases aP.1 hb with rfl|hb
    .omega
    .have:=hhi b hb;omega
  .exact ih
theorem MC {g:Graph}(i j:Int):∀ n,n<=g.j.length->((qL g i j n).map (jS g)).Perm (AG g i j n)
 | 0,_=>by simp [qL,AG]
 | n+1,hn=>by
  have ih:=MC (g:=g) i j n bL;have hx:n<g.j.length:=bL;rw [MB hx];simp only [qL];have e:eA g (n:Int)=g.j[n]:=Xg hx;rw [e];split
  .have ht:jS g (n:Int)=g.j[n].type:=by unfold jS;rw [e]
   unfold Jf;rw [List.map_append,List.map_append,List.map_singleton,ht,List.append_assoc];refine (List.perm_append_comm_assoc _ _ _).trans ?_;rw [<- List.map_append,List.take_append_drop,List.singleton_append];exact (List.Perm.cons _ ih).trans (List.perm_append_singleton _ _).symm
  .rw [dG];exact ih
theorem UV {l m:Xa0}(hl:l.Pairwise (·<=·))(hm:m.Pairwise (·<=·))(h:l.Perm m):l=m:=HE (le:=λa b=>a<=b) (λa b _ _ h1 h2=>by omega) hl hm h
theorem vD (g:Graph)(i j:Int):(qL g i j g.j.length).map (jS g)=gJ g i j:=by
 refine UV (GI g i j _) (Ln _) ((MC i j _ (aT _)).trans ?_);exact (List.mergeSort_perm _ _).symm
theorem lstR_eq {a b:Graph}{i j x y:Int}:KI a (qL a i j a.j.length)=KI b (qL b x y b.j.length)↔gJ a i j=gJ b x y:=by
 unfold KI;rw [vD,vD];constructor
 .intro h;exact (List.cons.inj h).2
 .intro h;have d:(qL a i j a.j.length).length=(gJ a i j).length:=by rw [<- vD,bR]
  have c:(qL b x y b.j.length).length=(gJ b x y).length:=by rw [<- vD,bR]
  rw [d,c,h]
end Go.Abs
end
