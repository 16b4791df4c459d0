/- Hosts and matches of the reference: Valid, Back, distinct, m -/
import Derived.Test.YtbgbahlipnaflaaGreatZuAG
import Derived.Test.YtbgbahlipnaflaaGreatZuAL
import Derived.Test.YtbgbahlipnaflaaGreatZuAA
import Derived.Test.YtbgbahlipnaflaaGreatZuAK
set_option linter.unusedVariables false
set_option linter.unusedSimpArgs false
section
set_option maxRecDepth 100000
set_option maxHeartbeats 4000000
open Go Go.Proofs Tryz
namespace Go.Abs
def C6 (l:List Attr)(vs:V2)(k:Nat):Int:=if vs[k]?.getD 0<(l[k]?.getD nJ).ap\/(l[k]?.getD nJ).a8<vs[k]?.getD 0 then 6 else 0
def i5 (t:Types)(kind:Int)(vs:V2):Int :=
 if (t.h.length:Int)<=kind then 6 else if xO t kind.toNat=true then 13 else if vs.length≠(bQ t kind).length then 20 else bV (C6 (bQ t kind) vs) 0 (bQ t kind).length
theorem Qv (t:Types)(q:t.ok)(a:Int)(y:0<=a)(vs:V2):Pua 107 [t.d,dI a,dLI vs] (dI (i5 t a vs)):=by
 refine Tz.p0 func107 rfl λQ i Y=>?_;refine eJ (λw=>?_) λw=>?_
 .have hE:i5 t a vs=6:=by unfold i5;rw [if_pos aD]
  exact wv (h:=i _ _ (by simp [go_sem,hE]))
 .have hkn:a.toNat<t.h.length:=aD;have u:xO t a.toNat=t.h[a.toNat].e7:=by simp [xO,aA hkn]
  have b:i5 t a vs=if xO t a.toNat=true then 13 else if vs.length≠(bQ t a).length then 20 else bV (C6 (bQ t a) vs) 0 (bQ t a).length:=by unfold i5;rw [if_neg aD]
  rw [u] at b;have Y:=xa1 Y (aA hkn) @NodeTy.c.eq_1;refine eJ (λn=>?_) λn=>?_
  .rw [if_pos (bZ n)] at b;exact wv (h:=i _ _ (by simp [go_sem,b]))
  .rw [if_neg (bZ n)] at b;refine wv (h:=aB (pL t q a) wl ?_);refine eJ (λv=>?_) λv=>?_
   .rw [if_pos aD] at b;exact wv (h:=i _ _ (by simp [go_sem,b]))
   .rw [if_neg aD] at b;have r:vs.length=(bQ t a).length:=aD;refine wv (h:=bC (λk e H=>(e 3=.adr t.c/\e 2=dLI vs/\e 7=.list ((bQ t a).map Attr.c)/\e 9=dI k)/\(k<=(bQ t a).length)/\(bV (C6 (bQ t a) vs) k ((bQ t a).length - k)=i5 t a vs)) (λk=>(bQ t a).length - k) 0 ⟨wg,wi,(by exact b.symm)⟩ λz m k e H l=>?_);obtain ⟨x,s,p⟩:=l;have Y:=wa Y x;refine wv (h:=?_);repeat first|intro _|refine ⟨iI,?_⟩
    refine wq (λj=>?_) λj=>?_
    .have hv:k<vs.length:=aD;have f:=fN (C6 (bQ t a) vs) j;rw [p] at f;have g:C6 (bQ t a) vs k=if vs[k]<(bQ t a)[k].ap\/(bQ t a)[k].a8<vs[k] then 6 else 0:=by simp only [C6,aA hv,aA j,Option.getD_some]
     have Y:=xa3 Y j (aA hv) (aA j) @Attr.c.eq_1;refine eJ (λo=>?_) λo=>?_
     .rw [if_pos aD] at g;rw [g,if_pos aD] at f;exact wv (h:=i _ _ (by simp [go_sem,f]))
     .rw [if_neg aD] at g;rw [g,if_neg aD] at f;exact wo (h:=wx m (k+1) ⟨wg,wj,(by exact f.symm)⟩)
    .have hZ:i5 t a vs=0:=by rw [<- p,(aD:(bQ t a).length - k=0)];rfl
     exact wv (h:=i _ _ (by simp [go_sem,hZ]))
def iK (f:Nat->Int):Nat->Nat->Int × Int
 | k,0=>(-1,0)
 | k,n+1=>if f k≠0 then ((k:Int),f k) else iK f (k+1) n
theorem s8 (f:Nat->Int){k n:Nat}(h:k<n):iK f k (n - k)=if f k≠0 then ((k:Int),f k) else iK f (k+1) (n - (k+1)):=by
 obtain ⟨m,a⟩:∃ m,n - k=m+1:=⟨n - k - 1,aD⟩;rw [a,(aD:n - (k+1)=m)];rfl
theorem vJ (f:Nat->Int):∀ n k,(iK f k n).2=bV f k n
 | 0,k=>rfl
 | n+1,k=>by simp only [iK,bV];split<;>simp_all [vJ f n]
def FW (t:Types)(h:Host)(i:Nat):Int:=i5 t (h.i.h[i]?.getD 0) (h.k[i]?.getD [])
def Tx (t:Types)(h:Host)(i:Nat):Int:=if (t.j.length:Int)<=(h.i.j[i]?.getD cY).type then 6 else
 if pP t (h.i.j[i]?.getD cY).type (gN h.i (h.i.j[i]?.getD cY).w) (gN h.i (h.i.j[i]?.getD cY).M)=true then 0 else 13
def l5 (t:Types)(h:Host):Int × Int :=
 if (dA t).2≠0 then (-1,(dA t).2) else if graphF h.i≠0 then (-1,graphF h.i) else if h.k.length≠h.i.h.length then (-1,20)
 else if (iK (FW t h) 0 h.i.h.length).2≠0 then iK (FW t h) 0 h.i.h.length else iK (Tx t h) 0 h.i.j.length
def fM (t:Types)(h:Host):Int:=(l5 t h).2
theorem jH (t:Types)(y:t.ok)(h:Host):Pua 47 [t.d,h.d] (.tup [dI (l5 t h).1,dI (l5 t h).2]):=by
 refine Tz.pK ⟨λt=>t==12,λ_=>[]⟩ func47 rfl (λQ l=>?_);have Y:=wa @Host.d.eq_1 @Host.c.eq_1;refine wv (h:=aB (pJ t y) wl ?_);refine dR (λE=>?_) λE=>?_
 .have hE:l5 t h=(-1,(dA t).2):=by unfold l5;rw [if_pos (bZ E)]
  exact wv (h:=l _ _ (by simp [go_sem,hE]))
 .have hE0:l5 t h=if graphF h.i≠0 then (-1,graphF h.i) else if h.k.length≠h.i.h.length then (-1,20) else if (iK (FW t h) 0 h.i.h.length).2≠0 then iK (FW t h) 0 h.i.h.length else iK (Tx t h) 0 h.i.j.length:=by unfold l5;rw [if_neg (bZ E)]
  refine wv (h:=aB (mM h.i) wl ?_);refine dR (λs=>?_) λs=>?_
  .rw [if_pos (bZ s)] at hE0;exact wv (h:=l _ _ (by simp [go_sem,hE0]))
  .rw [if_neg (bZ s)] at hE0;have q:graphF h.i=0:=by simpa using s
   have p:=dX q;have L:=bI q;refine eJ (λM=>?_) λM=>?_
   .rw [if_pos aD] at hE0;exact wv (h:=l _ _ (by simp [go_sem,hE0]))
   .rw [if_neg aD] at hE0;refine wv (h:=bC (λi e H=>(e 2=.adr t.c/\e 3=.adr h.c/\e 9=dI i)/\(i<=h.i.h.length)/\(iK (FW t h) i (h.i.h.length - i)=iK (FW t h) 0 h.i.h.length)) (λi=>h.i.h.length - i) 0 ⟨wg,wi,(by rfl)⟩ λU D i e H B=>?_);obtain ⟨O,R,I⟩:=B;have Y:=wa Y O;refine eJ (λg=>?_) λg=>?_
    .have hv:i<h.k.length:=aD;have z:0<=h.i.h[i]:=(p.1 _ (aC g)).1;have a:=s8 (FW t h) g;rw [I] at a;have r:FW t h i=i5 t h.i.h[i] h.k[i]:=by simp only [FW,aA hv,aA g,Option.getD_some]
     have Y:=xa3 Y g (aA hv) (aA g) @cL.eq_1;refine wo (h:=aI (Qv t y h.i.h[i] z h.k[i]) wl ?_);refine eJ (λk=>?_) λk=>?_
     .rw [r,if_pos (bZ k)] at a;rw [a,if_pos (bZ k)] at hE0;exact wv (h:=l _ _ (by simp [go_sem,hE0]))
     .rw [r,if_neg (bZ k)] at a;exact wo (h:=wx D (i+1) ⟨wg,wj,(a.symm)⟩)
    .have hN0:iK (FW t h) 0 h.i.h.length=(-1,0):=by rw [<- I,(aD:h.i.h.length - i=0)];rfl
     rw [hN0,if_neg aE] at hE0;refine wv (h:=bC (λj e H=>(e 2=.adr t.c/\e 3=.adr h.c/\e 11=dI j)/\(j<=h.i.j.length)/\(iK (Tx t h) j (h.i.j.length - j)=l5 t h)) (λj=>h.i.j.length - j) 0 ⟨wg,wi,(hE0.symm)⟩ λT C j e H A=>?_);obtain ⟨N,P,G⟩:=A;have Y:=wa Y N;refine eJ (λf=>?_) λf=>?_
     .obtain ⟨x,w⟩:=c6 (h.i.j[j]);have v:=(p.2 _ (aC f)).2;rw [<- w] at v;have o:x.w.toNat<h.i.h.length:=aD;have n:x.M.toNat<h.i.h.length:=aD;have a:=s8 (Tx t h) f;rw [G] at a;have b:Tx t h j=if (t.j.length:Int)<=x.type then 6 else if pP t x.type h.i.h[x.w.toNat] h.i.h[x.M.toNat]=true then 0 else 13:=by simp only [Tx,gN,aA f,Option.getD_some,<- w,aA o,aA n]
      have Y:=xa4 Y f (aA f) (Eq.symm w) (aA o) (aA n);refine eJ (λF=>?_) λF=>?_
      .rw [if_pos aD] at b;rw [b,if_pos aD] at a;exact wv (h:=l _ _ (by simp [go_sem,a]))
      .rw [if_neg aD] at b;refine wo (h:=aI (Hr t y x.type h.i.h[x.w.toNat] h.i.h[x.M.toNat]) wl ?_);refine eJ (λm=>?_) λm=>?_
       .rw [if_neg (bZ m)] at b;rw [b,if_pos aD] at a;exact wv (h:=l _ _ (by simp [go_sem,a]))
       .rw [if_pos (bZ m)] at b;rw [b,if_neg aD] at a;exact wo (h:=wx C (j+1) ⟨wg,wj,(a.symm)⟩)
     .have hZ:l5 t h=(-1,0):=by rw [<- G,(aD:h.i.j.length - j=0)];rfl
      exact wv (h:=l _ _ (by simp [go_sem,hZ]))
theorem z8 (l:V2):Pua 337 [dLI l] (.bool (decide l.Nodup)):=by
 refine Tz.p0 func337 rfl λQ u Y=>?_;refine wv (h:=bC (λi e H=>(e 0=dLI l/\e 3=dI i)/\(i<=l.length)/\((l.take i).Nodup)) (λi=>l.length - i) 0 ⟨wg,wi,(by simp)⟩ λD q i e H n=>?_);obtain ⟨z,B,r⟩:=n;have Y:=wa Y z;refine wv (h:=?_);repeat first|intro _|refine ⟨iI,?_⟩
 refine wq (λd=>?_) λd=>?_
 .have Y:=xa1 Y d (aA d);refine wv (h:=bC (λk e H=>(e 0=dLI l/\e 3=dI i/\e 4=dI k)/\(k<=i)/\(∀ j,j<k->∀ g:j<l.length,l[j]≠l[i])) (λk=>i - k) 0 ⟨wg,wi,(by intro j g;omega)⟩ λC p k e H m=>?_);obtain ⟨y,A,c⟩:=m;have Y:=wa Y y;refine dR (λv=>?_) λv=>?_
  .have hkl:k<l.length:=aD;have Y:=xa1 Y v (aA hkl);refine eJ (λs=>?_) λs=>?_
   .have hnd:¬ l.Nodup:=λo=>by
     have:=(jZ (h₀:=d) (h₁:=hkl) o).1 s;omega
    exact wv (h:=u _ _ (by simp [go_sem,hnd]))
   .exact wo (h:=wx p (k+1) ⟨wg,wj,(by intro j g f;rcases bX j k with hjk|hjk;exact c j hjk f;(obtain rfl:j=k:=aD;exact λw=>s w.symm))⟩)
  .have hD2:(l.take (i+1)).Nodup:=by
    rw [List.take_succ_eq_append_getElem d,oU];refine ⟨r,by simp,λa x b t=>?_⟩;rw [bP] at t;subst t;obtain ⟨j,g,rfl⟩:=Fy.1 x;exact c j aD _
   exact wo (h:=wx q (i+1) ⟨wg,wj,(by exact hD2)⟩)
 .have o:l.Nodup:=by rw [aG aD] at r;exact r
  exact wv (h:=u _ _ (by simp [go_sem,o]))
structure G17 (t:Types) (p g:Graph):Prop where
 v:t.a7
 gp:graphF p=0
 gg:graphF g=0
 tp:∀ a∈p.h,0<=a/\a<t.h.length
 tg:∀ a∈g.h,0<=a/\a<t.h.length
theorem GG {t:Types}{g:Graph}(h:mR t g=true):∀ a∈g.h,0<=a/\a<t.h.length:=λa ha=>by
 simp only [mR,aL,cX,fZ,insideF] at h;have:=h.1 a ha;simpa using this
theorem nX {t:Types}{p g:Graph}(h:eL t p g=0):G17 t p g:=by
 unfold eL at h;split at h
 .exact absurd h (by assumption)
 .rename_i h1;split at h
  .exact absurd h (by assumption)
  .rename_i h2;split at h
   .exact absurd h (by assumption)
   .rename_i h3;split at h
    .cases h
    .rename_i h4;simp only [c7,cX,not_or,Bool.not_eq_false] at h4;exact ⟨mX (bZ h1),by simpa using h2,by simpa using h3,GG h4.1,GG h4.2⟩
def mNE (t:Types)(p g:Graph)(m:Part)(i:Nat):Int :=
 if m.h[i]?.getD 0<0\/(g.h.length:Int)<=m.h[i]?.getD 0 then 6
 else if uT t (p.h[i]?.getD 0) (g.h[(m.h[i]?.getD 0).toNat]?.getD 0)=true then 0 else 13
def matchE (t:Types)(p g:Graph)(m:Part)(inj:Bool):Int :=
 if m.h.length≠p.h.length\/m.j.length≠p.j.length then 20
 else if bV (mNE t p g m) 0 p.h.length≠0 then bV (mNE t p g m) 0 p.h.length
 else if bV (mapEE p g m) 0 p.j.length≠0 then bV (mapEE p g m) 0 p.j.length
 else if inj=true/\(¬ m.h.Nodup\/¬ m.j.Nodup) then 5 else 0
def checkE (t:Types)(p g:Graph)(m:Part)(inj:Bool):Int:=if eL t p g≠0 then eL t p g else matchE t p g m inj
theorem Bv (t:Types)(c:t.a7)(a b:Int)(f:0<=a)(g:a<t.h.length)(e:0<=b):Pua 136 [t.d,dI a,dI b] (.bool (uT t b a)):=by
 have:=x8 t c b e a.toNat aD;rw [Int.toNat_of_nonneg f] at this;exact this
theorem N9 (t:Types)(p g:Graph)(s:G17 t p g)(m:Part)(f:Bool):Pua 260 [t.d,p.d,g.d,m.d,.bool f] (dI (matchE t p g m f)):=by
 have T:=bI s.gp;have S:=bI s.gg;have A:=(dX s.gp).2;refine Tz.pK ⟨λt=>t==13||t==14,λr=>match r with|15=>[(0,14),(1,14),(3,14),(4,14),(5,14),(6,14),(7,14),(8,14),(10,14),(11,14),(12,14),(13,14),(0,15),(1,15),(3,15),(4,15),(5,15),(6,15),(7,15),(8,15),(10,15),(11,15),(12,15),(13,15),(14,15),(5,16),(6,16),(7,16),(8,16),(10,16),(11,16),(12,16),(13,16)]|_=>[]⟩ func260 rfl (λQ n=>?_);have Y:=trivial;refine eJ (λV=>?_) λV=>?_
 .have hM:matchE t p g m f=20:=by unfold matchE;rw [if_pos aD]
  exact wv (h:=n _ _ (by simp [go_sem,hM]))
 .have hM:matchE t p g m f=(if bV (mNE t p g m) 0 p.h.length≠0 then bV (mNE t p g m) 0 p.h.length else if bV (mapEE p g m) 0 p.j.length≠0 then bV (mapEE p g m) 0 p.j.length else if f=true/\(¬ m.h.Nodup\/¬ m.j.Nodup) then 5 else 0):=by unfold matchE;rw [if_neg aD]
  have R:m.h.length=p.h.length:=aD;have P:m.j.length=p.j.length:=aD;refine wv (h:=bC (λi e H=>(e 5=.adr t.c/\e 6=.adr p.c/\e 7=.adr g.c/\e 8=.adr m.c/\e 4=.bool f/\e 11=dI i)/\(i<=m.h.length)/\(bV (mNE t p g m) i (p.h.length - i)=bV (mNE t p g m) 0 p.h.length)) (λi=>m.h.length - i) 0 ⟨wg,wi,(by rfl)⟩ λI0 G i e H C=>?_);obtain ⟨X,hi,L⟩:=C;have Y:=wa Y X;refine eJ (λy=>?_) λy=>?_
  .have hn:i<p.h.length:=aD;have a:=fN (mNE t p g m) hn;rw [L] at a;have j:mNE t p g m i=(if m.h[i]<0\/(g.h.length:Int)<=m.h[i] then 6 else if uT t p.h[i] (g.h[m.h[i].toNat]?.getD 0)=true then 0 else 13):=by simp only [mNE,aA y,aA hn,Option.getD_some]
   have E:=s.tp _ (aC hn);have Y:=xa2 Y y (aA y) (aA hn);refine eJ (λU=>?_) λU=>?_
   .rw [if_pos aD] at j;rw [j,if_pos aD] at a;rw [a,if_pos aD] at hM;exact wv (h:=n _ _ (by simp [go_sem,hM]))
   .have hkb:m.h[i].toNat<g.h.length:=aD;rw [if_neg aD,aA hkb,Option.getD_some] at j;have x:=s.tg _ (aC hkb);have Y:=wa Y (aA hkb);refine wo (h:=aI ((Bv t s.v g.h[m.h[i].toNat] p.h[i] x.1 x.2 E.1)) wl ?_);refine eJ (λI=>?_) λI=>?_
    .rw [if_neg (bZ I)] at j;rw [j,if_pos aD] at a;rw [a,if_pos aD] at hM;exact wv (h:=n _ _ (by simp [go_sem,hM]))
    .rw [if_pos (bZ I)] at j;rw [j,if_neg aD] at a;exact wo (h:=wx G (i+1) ⟨wg,wj,(a.symm)⟩)
  .have hN0:bV (mNE t p g m) 0 p.h.length=0:=by rw [<- L,(aD:p.h.length - i=0)];rfl
   rw [hN0,if_neg aD] at hM;refine wv (h:=bC (λk e H=>(e 5=.adr t.c/\e 6=.adr p.c/\e 7=.adr g.c/\e 8=.adr m.c/\e 4=.bool f/\e 12=dI k)/\(k<=m.j.length)/\(bV (mapEE p g m) k (p.j.length - k)=bV (mapEE p g m) 0 p.j.length)) (λk=>m.j.length - k) 0 ⟨wg,wi,(by rfl)⟩ λI2 F k e H B=>?_);obtain ⟨W,hk,M⟩:=B;have Y:=wa Y W;refine eJ (λl=>?_) λl=>?_
   .have hn:k<p.j.length:=aD;have a:=fN (mapEE p g m) hn;rw [M] at a;have Z:=A _ (aC hn);have w:p.j[k].w.toNat<m.h.length:=aD;have u:p.j[k].M.toNat<m.h.length:=aD;have b:mapEE p g m k=(if m.j[k]<0\/(g.j.length:Int)<=m.j[k] then 6 else if p.j[k].type≠(g.j[m.j[k].toNat]?.getD cY).type then 13 else if m.h[p.j[k].w.toNat]≠(g.j[m.j[k].toNat]?.getD cY).w\/m.h[p.j[k].M.toNat]≠(g.j[m.j[k].toNat]?.getD cY).M then 11 else 0):=by
     simp only [mapEE,aA l,aA hn,Option.getD_some,aA w,aA u]
    have Y:=xa4 Y l (aA l) (aA hn) (aA w) (aA u);refine eJ (λK=>?_) λK=>?_
    .rw [if_pos aD] at b;rw [b,if_pos aD] at a;rw [a,if_pos aD] at hM;exact wv (h:=n _ _ (by simp [go_sem,hM]))
    .have hkb:m.j[k].toNat<g.j.length:=aD;rw [if_neg aD,aA hkb,Option.getD_some] at b;have Y:=wa Y (aA hkb);refine eJ (λq=>?_) λq=>?_
     .rw [if_pos q] at b;rw [b,if_pos aD] at a;rw [a,if_pos aD] at hM;exact wv (h:=n _ _ (by simp [go_sem,hM]))
     .rw [if_neg (bZ q)] at b;refine eJ (λJ=>?_) λJ=>?_
      .rw [if_pos aD] at b;rw [b,if_pos aD] at a;rw [a,if_pos aD] at hM;exact wv (h:=n _ _ (by simp [go_sem,hM]))
      .rw [if_neg aD] at b;rw [b,if_neg aD] at a;exact wo (h:=wx F (k+1) ⟨wg,wj,(a.symm)⟩)
   .have hE0:bV (mapEE p g m) 0 p.j.length=0:=by rw [<- M,(aD:p.j.length - k=0)];rfl
    rw [hE0,if_neg aD] at hM;refine wo (h:=aH (λD=>z8 m.h) (λD=>wl) ?_);refine wo (h:=aH (λD=>z8 m.j) (λD=>wl) ?_);refine eJ (λo=>?_) λo=>?_
    .rw [if_pos (by simpa [pZ] using o)] at hM;exact wv (h:=n _ _ (by simp [go_sem,hM]))
    .rw [if_neg (by simpa [pZ] using o)] at hM;exact wv (h:=n _ _ (by simp [go_sem,hM]))
theorem Aa (t:Types)(e:t.ok)(p g:Graph)(m:Part)(a:Bool):Pua 169 [t.d,p.d,g.d,m.d,.bool a] (dI (checkE t p g m a)):=by
 refine Tz.p0 func169 rfl λQ c Y=>?_;refine wv (h:=aB (u5 t e p g) wl ?_);refine dR (λb=>?_) λb=>?_
 .exact wv (h:=c _ _ (by simp [go_sem,checkE,b]))
 .refine wv (h:=aB (N9 t p g (nX (bZ b)) m a) wl ?_);exact wv (h:=c _ _ (by simp [go_sem,checkE,b]))
/-! ### the search -/
def Srch.cells (S:Srch)(most:Int)(fd:D):UN:=[.list (S.t.h.map NodeTy.c),.list (S.t.j.map EdgeTy.c),dLI S.p.h,.list (S.p.j.map Edge.c),dLI S.g.h,.list (S.g.j.map Edge.c),dLI S.pn,dLI S.pe,.bool S.inj,dI most,fd]
theorem Hi (S:Srch)(a:Int)(f:D)(o:f.Q=true)(l:V2)(n:Int):Pua 384 [.adr (S.cells a f),dLI l,dI n] (.bool (S.inj&&mem l n)):=by
 refine Tz.p0 func384 rfl λQ s _=>?_;have v:∀ b:Bool,D.J (S.cells a f)=true:=λ_=>by simp [go_sem,Srch.cells,o]
 have Y:=@Srch.cells.eq_1;refine wv (h:=bC (λi e H=>(e 0=.adr (S.cells a f)/\e 1=dLI l/\e 2=dI n/\e 7=dI i)/\(i<=l.length)/\(∀ j,j<i->∀ d:j<l.length,l[j]≠n)) (λi=>l.length - i) 0 ⟨wg,wi,(by intro j d;omega)⟩ λy p i e H m=>?_);obtain ⟨w,x,t⟩:=m;have Y:=wa Y w;refine wv (h:=?_);repeat first|intro _|refine ⟨iI,?_⟩
 refine wq (λc=>?_) λc=>?_
 .have hil:i<l.length:=c.1;have Y:=xa1 Y c (aA hil);refine eJ (λr=>?_) λr=>?_
  .have g:mem l n=true:=(mem_iff _ _).2 (r ▸ aC hil);have q:S.inj=true:=c.2;exact wv (h:=s _ _ (by simp [go_sem,g,q]))
  .exact wo (h:=wx p (i+1) ⟨wg,wj,(by intro j d k;rcases bX j i with hji|hji;exact t j hji k;(obtain rfl:j=i:=aD;exact r))⟩)
 .have hR:(S.inj&&mem l n)=false:=by
   cases q:S.inj
   .rfl
   .simp [q] at c;rw [iH,bK];intro g;obtain ⟨j,d,u⟩:=aN ((mem_iff _ _).1 g);exact t j aD d u
  exact wv (h:=s _ _ (by simp [go_sem,hR]))
theorem Db (a b:Int):(a==b)=decide (a=b):=by rw [aT];simp
theorem AB (f:Nat->Bool)(k:Nat):(List.range (k+1)).any f=((List.range k).any f||f k):=by rw [dO,Cn];simp
theorem Qu (S:Srch)(L:graphF S.p=0)(P:graphF S.g=0)(d:Int)(y:D)(R:y.Q=true)(l:V2):Pua 382 [.adr (S.cells d y),dLI l] (.bool (v8 S l)):=by
 have A:=(dX L).2;have O:=bI L;have N:=bI P;refine Tz.pK ⟨λt=>t==6||t==9,λ_=>[]⟩ func382 rfl (λQ M=>?_);have Y:=@Srch.cells.eq_1;refine wv (h:=bC (λi e H=>(e 0=.adr (S.cells d y)/\e 1=dLI l/\e 5=dI i)/\(i<=S.p.j.length)/\(∀ j,j<i->BR S l j=true)) (λi=>S.p.j.length - i) 0 ⟨wg,wi,(by intro j C;omega)⟩ λZ s i e H F=>?_);obtain ⟨V,W,I⟩:=F;have Y:=wa Y V;refine eJ (λm=>?_) λm=>?_
 .obtain ⟨x,v⟩:=c6 (S.p.j[i]);have z:=(A _ (aC m)).2;rw [<- v] at z;have f:BR S l i=(decide ((l.length:Int)<=x.w)||decide ((l.length:Int)<=x.M)||(List.range S.g.j.length).any (Aq S l i)):=by unfold BR;rw [aA m,Option.getD_some,<- v]
  have Y:=xa3 Y m (aA m) (Eq.symm v) @Edge.c.eq_1;refine eJ (λK=>?_) λK=>?_
  .have hKi:BR S l i=true:=by rw [f];rcases K with h|h<;>simp<;>omega
   exact wo (h:=wx s (i+1) ⟨wg,wj,(by intro j C;rcases bX j i with hji|hji;exact I j hji;(obtain rfl:j=i:=aD;exact hKi))⟩)
  .have hf:x.w.toNat<l.length:=aD;have r:x.M.toNat<l.length:=aD;have T:∀ k (B:k<S.g.j.length),Aq S l i k=(decide (x.type=S.g.j[k].type)&&(decide (S.g.j[k].w=l[x.w.toNat])&&decide (S.g.j[k].M=l[x.M.toNat]))):=λk B=>by
    simp only [Aq,Yk,Vc,aA B,aA m,Option.getD_some,<- v,aA hf,aA r];simp [eq_comm (a:=x.type)]
   have Y:=xa2 Y K (aA hf) (aA r);refine wv (h:=bC (λk e H=>∃ q:Nat,∃ b:Bool,(e 0=.adr (S.cells d y)/\e 1=dLI l/\e 5=dI i/\e 6=.ptr q 1 0 0/\e 7=.bool b/\e 8=dI k)/\(H.get q=some ⟨145,3,[[dI x.type,dI x.w,dI x.M]],false⟩)/\(q<H.next)/\(k<=S.g.j.length)/\(b=(List.range k).any (Aq S l i))) (λk=>S.g.j.length - k) 0 ⟨H.next,false,wg,wn,wn,wi,(by rfl)⟩ λX J k e H E=>?_);obtain ⟨q,b,U,u,o,B,G⟩:=E;have Y:=xa2 Y U u (cW o);refine eJ (λw=>?_) λw=>?_
   .have hHk:=T k w;have Y:=xa4 Y w (aA w) hHk @Db @kY;exact wo (h:=wx J (k+1) ⟨q,((b||Aq S l i k)),wg,wn,wn,wj,(by rw [AB,<- G])⟩)
   .refine eJ (λn=>?_) λn=>?_
    .have hR:v8 S l=false:=by
      simp only [v8,sK,aW];refine ⟨i,m,?_⟩;rw [f,<- show k=S.g.j.length by omega,<- G];simp [n];omega
     exact wv (h:=M _ _ (by simp [go_sem,hR]))
    .have hKi:BR S l i=true:=by rw [f,<- show k=S.g.j.length by omega,<- G];simp [n]
     exact wo (h:=wx s (i+1) ⟨wg,wj,(by intro j C;rcases bX j i with hji|hji;exact I j hji;(obtain rfl:j=i:=aD;exact hKi))⟩)
 .have hR:v8 S l=true:=by
   simp only [v8,b9,aW];exact λj C=>I j aD
  exact wv (h:=M _ _ (by simp [go_sem,hR]))
structure SrS (f o:Nat) (S:Srch) (most:Nat) (out:List Part) (H:AHeap):Prop where
 bf:H.get f=some ⟨365,11,[S.cells most (.own o out.length)],false⟩
 bo:H.get o=some ⟨36,2,out.map Part.c,false⟩
 le:out.length<=most+1
@[go_sem] theorem wV (l:List Part):D.R (l.map Part.c)=true:=dY _ (λp=>by simp [Part.c,D.J,qO]) l
theorem Oa (S:Srch)(hp:graphF S.p=0)(hg:graphF S.g=0)(b4:S.pe.length=S.p.j.length)(i:Nat)(b7:i<=5000)(ns:V2)(b6:ns.length=S.p.h.length)(f o:Nat)(hd:f≠o) :
  ∀ (d:Nat) (es:V2) (m:List Part) (G:AHeap) (Q:D->AHeap->Prop),es.length+d=S.p.j.length->f<G.next->o<G.next->SrS f o S i m G ->
  (∀ H',SrS f o S i (Ja S (i+1) ns d es m) H'->(∀ j,j≠f->j≠o->j<G.next->H'.get j=G.get j)->G.next<=H'.next->Q (.tup []) H')->ACalls prog 383 [.ptr f 1 0 0,dLI ns,dLI es] G Q:=by
 have b9:=bI hp;have b8:=bI hg;have a4:∀ x∈S.p.j,(0<=x.w/\x.w<S.p.h.length)/\(0<=x.M/\x.M<S.p.h.length):=λx hx=>((dX hp).2 x hx).2;intro d;induction d using Nat.strongRecOn with
 | _ d ih =>
 intro es m G Q hk a6 a2 hF hQ;obtain ⟨gf,go,P⟩:=hF;have a7:=hd.symm;have ff:=cW a6;have fo:=cW a2;refine (Tz.cK ⟨λt=>t==7||t==9||t==35||t==38||t==128,λr=>match r with|3=>[(2,5),(3,5),(4,5),(2,7),(3,7),(4,7),(2,8),(3,8),(4,8),(5,8),(7,8),(2,10),(3,10),(4,10),(2,12),(3,12),(4,12)]|_=>[]⟩ func383 rfl ?_);have Y:=xa6 gf go hd a7 ff fo @Part.c.eq_1 @Srch.cells.eq_1;refine mA (λh0=>?_) λh0=>?_
 .have hfull:i+1<=m.length:=aD;refine wv (h:=?_);exact hQ _ (by rw [GR _ _ _ hfull];exact ⟨gf,go,P⟩) (by intro j _ _ _;rfl) (by first|exact bF _|exact Nat.le_add_right _ _)
 .have hnf:¬ i+1<=m.length:=aD;refine mA (λs=>?_) λs=>?_
  .have hk0:d=0:=aD;subst hk0;refine wp (h:=?_);exact hQ _ (by simp only [Ja];rw [if_neg hnf];exact ⟨by simp [go_sem,Y],by simp [go_sem,Y],by simp;omega⟩) (by intro j v s z;simp [go_sem,v,s,cW z]) (by first|exact bF _|(simp [go_sem]<;>omega)|(simp only [go_sem];split<;>omega))
  .obtain ⟨J,rfl⟩:∃ J,d=J+1:=⟨d - 1,aD⟩;have F:es.length<S.p.j.length:=aD;have N:es.length<S.pe.length:=aD;have V:=a4 _ (aC F);have U:S.p.j[es.length].w.toNat<ns.length:=aD;have R:S.p.j[es.length].M.toNat<ns.length:=aD;have O:∀ j (hj:j<S.g.j.length),RN S ns es j=((decide (S.pe[es.length]<0)||decide (S.pe[es.length]=(j:Int)))&&(!(S.inj&&mem es j)&&(decide (S.p.j[es.length].type=S.g.j[j].type)&&(decide (S.g.j[j].w=ns[S.p.j[es.length].w.toNat])&&decide (S.g.j[j].M=ns[S.p.j[es.length].M.toNat]))))):=λj hj=>by
    simp only [RN,At,Aq,Yk,Vc,aA hj,aA F,aA N,Option.getD_some,aA U,aA R];simp [eq_comm (a:=S.p.j[es.length].type)]
   have Y:=xa3 Y (aA F) (aA N) (aA U) (aA R);refine wp (h:=bC (λj e H=>∃ w:Nat,∃ u:List Part,(e 0=.ptr f 1 0 0/\e 1=dLI ns/\e 2=dLI es/\e 6=dI es.length/\e 7=.ptr w 1 0 0/\e 8=dI j)/\(H.get f=some ⟨365,11,[S.cells i (.own o u.length)],false⟩)/\(f<H.next)/\(H.get o=some ⟨36,2,u.map Part.c,false⟩)/\(o<H.next)/\(H.get w=some ⟨145,3,[S.p.j[es.length].c],false⟩)/\(w<H.next)/\(w=G.next+10)/\(j<=S.g.j.length)/\(u.length<=i+1)/\(u=(List.range j).foldl (λu k=>if RN S ns es k=true then Ja S (i+1) ns J (es++[(k:Int)]) u else u) m)/\(∀ q,q≠f->q≠o->q<G.next->H.get q=G.get q)/\(G.next+1<=H.next)) (λj=>S.g.j.length - j) 0 ⟨(G.next+10),m,wg,wn,wn,wn,wn,wn,wn,(by rfl),wi,(by exact P),(by rfl),(by intro q v s z;simp [go_sem,v,s,cW z]),(by simp [go_sem])⟩ λI0 W j e H a5=>?_);obtain ⟨w,u,E0,a1,L,a0,K,I,C,M,hj,n,E,y,b5⟩:=a5;have b2:=xa1 (dZ (aD:w≠o)) (dZ (aD:w≠f)) (dZ (aD:o≠f));have Y:=xa8 Y E0 a1 (cW L) a0 (cW K) I (cW C) @Edge.c.eq_1 b2;refine mA (λh6=>?_) λh6=>?_
   .have hEj:=O j h6;have c1:=V.1;have c0:=V.2;have o1:(0<=S.pe[es.length]->S.pe[es.length]=(j:Int))->(S.inj=true->mem es (j:Int)=false)->(S.pe[es.length]<0\/S.pe[es.length]=(j:Int))/\(S.inj=false\/mem es (j:Int)=false):=λa b=>⟨aD,by cases hI:S.inj;exact .inl rfl;exact .inr (b hI)⟩;have o2:(S.pe[es.length]<0\/S.pe[es.length]=(j:Int))->(S.inj=false\/mem es (j:Int)=false)->S.p.j[es.length].type=S.g.j[j].type->0<=S.p.j[es.length].w/\S.p.j[es.length].w<(ns.length:Int):=λ_ _ _=>by omega
    have o3:(0<=S.pe[es.length]->S.pe[es.length]=(j:Int))->(S.inj=true->mem es (j:Int)=false)->S.p.j[es.length].type=S.g.j[j].type->((S.pe[es.length]<0\/S.pe[es.length]=(j:Int))/\(S.inj=false\/mem es (j:Int)=false))/\S.p.j[es.length].type=S.g.j[j].type:=λa b c=>⟨o1 a b,c⟩;have o4:(S.pe[es.length]<0\/S.pe[es.length]=(j:Int))->(S.inj=false\/mem es (j:Int)=false)->S.p.j[es.length].type=S.g.j[j].type->S.g.j[j].w=ns[S.p.j[es.length].w.toNat]->0<=S.p.j[es.length].M/\S.p.j[es.length].M<(ns.length:Int):=λ_ _ _ _=>by omega
    have o5:(0<=S.pe[es.length]->S.pe[es.length]=(j:Int))->(S.inj=true->mem es (j:Int)=false)->S.p.j[es.length].type=S.g.j[j].type->S.g.j[j].w=ns[S.p.j[es.length].w.toNat]->(((S.pe[es.length]<0\/S.pe[es.length]=(j:Int))/\(S.inj=false\/mem es (j:Int)=false))/\S.p.j[es.length].type=S.g.j[j].type)/\S.g.j[j].w=ns[S.p.j[es.length].w.toNat]:=λa b c d=>⟨⟨o1 a b,c⟩,d⟩;have Y:=xa1 Y h6 (aA h6);refine wp (h:=wA (λhg=>Hi S i (.list (u.map Part.c)) (by simp [D.Q,wV]) es j) Zr (λhg=>wl) (λhg=> rfl) rfl wdq ?_);refine mA (λh9=>?_) λh9=>?_
    .have hE:RN S ns es j=false:=by
      rw [hEj,bK];intro hT;simp at hT;obtain ⟨a,b,c,d,e⟩:=hT;rcases h9 with (((h|h)|h)|h)|h
      .omega
      .rcases b with b|b
       .rw [b] at h;cases h.1
       .rw [b] at h;cases h.2
      .exact h c
      .exact h d
      .exact h e
     obtain ⟨B,l⟩:∃ x,x=u:=⟨_,rfl⟩;have Y:=xa2 Y @Part.c.eq_1 @Edge.c.eq_1 l;exact wp (h:=wx W (j+1) ⟨w,B,wg,wn,wn,wn,wn,wn,wn,(by exact M),wj,(by rw [l];first|exact n|exact D0 _ _ _ _ _ n|exact D0 _ _ _ _ n),(by rw [eV,<- E];first|exact l|(rw [l];first|rw [if_pos hE]|rw [if_neg (by rw [hE];simp)])),(by first|exact A|(intro q v s z;simp [go_sem,v,s,cW (aD:q<H.next)];exact y q v s z)),(by first|omega|(simp [go_sem];omega))⟩)
    .have hE:RN S ns es j=true:=by
      obtain ⟨⟨⟨⟨a,b⟩,c⟩,d⟩,e⟩:=h9;rw [hEj];simp [c,d,e];exact ⟨aD,by cases hI:S.inj;exact .inl rfl;exact .inr (b hI)⟩
     obtain ⟨B,l⟩:∃ x,x=Ja S (i+1) ns J (es++[(j:Int)]) u:=⟨_,rfl⟩;have Y:=xa2 Y @Part.c.eq_1 @Edge.c.eq_1 h9;refine wp (h:=?_);refine Lf (args':=[.ptr f 1 0 0,dLI ns,dLI (es++[(j:Int)])]) (by simp [go_sem,Y,dLI]) rfl ?_;unfold f7;refine ih J aD (es++[(j:Int)]) u _ _ (by simp;omega) (by simp [go_sem];omega) (by simp [go_sem];omega) ⟨by simp [go_sem,Y],by simp [go_sem,Y],n⟩ (λH3 X T a3=>?_);rw [<- l] at X;obtain ⟨b0,a9,b3⟩:=X;have Z:=T w aD aD (by simp [go_sem];omega);simp [go_sem,Y] at Z;simp [go_sem] at a3;have A:∀ j,j≠f->j≠o->j<G.next->H3.get j=G.get j:=λj v s z=>by
      have e1:=cW (aD:j<H.next);rw [T j v s (by simp [go_sem];omega)];simp [go_sem,v,s,e1];exact y j v s z
     have b1:=xa1 (cW (aD:f<H3.next)) (cW (aD:o<H3.next)) (cW (aD:w<H3.next));have Y:=xa3 Y b0 a9 Z b1;exact wp (h:=wx W (j+1) ⟨w,B,wg,wn,wn,wn,wn,wn,wn,(by exact M),wj,(by rw [l];first|exact n|exact D0 _ _ _ _ _ n|exact D0 _ _ _ _ n),(by rw [eV,<- E];first|exact l|(rw [l];first|rw [if_pos hE]|rw [if_neg (by rw [hE];simp)])),(by first|exact A|(intro q v s z;simp [go_sem,v,s,cW (aD:q<H.next)];exact y q v s z)),(by first|omega|(simp [go_sem];omega))⟩)
   .have hJ:j=S.g.j.length:=aD;have a8:Ja S (i+1) ns (J+1) es m=u:=by simp only [Ja];rw [if_neg hnf,E,hJ]
    refine wv (h:=?_);exact hQ _ (by rw [a8];exact ⟨by assumption,by assumption,n⟩) y aD
theorem N8 (S:Srch)(y:G17 S.t S.p S.g)(b3:S.pn.length=S.p.h.length)(a1:S.pe.length=S.p.j.length)(i:Nat)(a3:i<=5000)(f o:Nat)(hd:f≠o) :
  ∀ (d:Nat) (ns:V2) (l:List Part) (G:AHeap) (Q:D->AHeap->Prop),ns.length+d=S.p.h.length->f<G.next->o<G.next->SrS f o S i l G ->
  (∀ H',SrS f o S i (P9 S (i+1) d ns l) H'->(∀ j,j≠f->j≠o->j<G.next->H'.get j=G.get j)->G.next<=H'.next->Q (.tup []) H')->ACalls prog 335 [.ptr f 1 0 0,dLI ns] G Q:=by
 have b5:=bI y.gp;have b4:=bI y.gg;intro d;induction d using Nat.strongRecOn with
 | _ d ih =>
 intro ns l G Q hk L I hF hQ;obtain ⟨gf,go,J⟩:=hF;have a5:=hd.symm;have ff:=cW L;have fo:=cW I;refine (Tz.cK ⟨λt=>t==97,λ_=>[]⟩ func335 rfl ?_);have Y:=xa6 gf go hd a5 ff fo @Part.c.eq_1 @Srch.cells.eq_1;refine wp (h:=wA (λK=>Qu S y.gp y.gg i (.list (l.map Part.c)) (by simp [D.Q,wV]) ns) Zr (λK=>wl) (λK=> rfl) rfl wdq ?_);refine mA (λh0=>?_) λh0=>?_
 .have hX:P9 S (i+1) d ns l=l:=by
   cases d<;>(simp only [P9];rw [if_pos];rcases h0 with h|h;exact .inl aD;exact .inr (bZ h))
  refine wv (h:=?_);exact hQ _ (by rw [hX];exact ⟨gf,go,J⟩) (by intro j _ _ _;rfl) (by first|exact bF _|exact Nat.le_add_right _ _)
 .have hnf:¬ (i+1<=l.length\/v8 S ns=false):=by rintro (h|h);(omega);(simp [h] at h0)
  refine mA (λn=>?_) λn=>?_
  .have hk0:d=0:=aD;subst hk0;refine wv (h:=?_);refine Py (args':=[.ptr f 1 0 0,dLI ns,dLI []]) (by simp [go_sem,Y,dLI,Te]) ?_;unfold f7;refine Oa S y.gp y.gg a1 i a3 ns aD f o hd S.p.j.length [] l _ _ aE (by first|exact L|exact Nat.lt_add_right _ L) (by first|exact I|exact Nat.lt_add_right _ I) ⟨gf,go,J⟩ (λH3 A M z=>?_);refine wv (h:=?_);exact hQ _ (by simp only [P9];rw [if_neg hnf];exact A) (λj w n B=>M j w n (by first|exact B|exact Nat.lt_add_right _ B)) (by first|exact z|exact fB (Nat.le_add_right _ _) z)
  .obtain ⟨O,rfl⟩:∃ O,d=O+1:=⟨d - 1,aD⟩;have N:ns.length<S.p.h.length:=aD;have T:ns.length<S.pn.length:=aD;have a6:=y.tp _ (aC N);have U:∀ j (hj:j<S.g.h.length),Kt S ns j=((decide (S.pn[ns.length]<0)||decide (S.pn[ns.length]=(j:Int)))&&(!(S.inj&&mem ns j)&&uT S.t S.p.h[ns.length] S.g.h[j])):=λj hj=>by
    simp only [Kt,At,aA hj,aA N,aA T,Option.getD_some]
   have Y:=xa1 Y (aA N) (aA T);refine wv (h:=bC (λj e H=>∃ r:List Part,(e 0=.ptr f 1 0 0/\e 1=dLI ns/\e 4=dI ns.length/\e 5=dI j)/\(H.get f=some ⟨365,11,[S.cells i (.own o r.length)],false⟩)/\(f<H.next)/\(H.get o=some ⟨36,2,r.map Part.c,false⟩)/\(o<H.next)/\(j<=S.g.h.length)/\(r.length<=i+1)/\(r=(List.range j).foldl (λr k=>if Kt S ns k=true then P9 S (i+1) O (ns++[(k:Int)]) r else r) l)/\(∀ q,q≠f->q≠o->q<G.next->H.get q=G.get q)/\(G.next<=H.next)) (λj=>S.g.h.length - j) 0 ⟨l,wg,wn,wn,wn,wn,wi,(by exact J),(by rfl),(by intro q w n B;rfl),(by simp [go_sem])⟩ λI0 W j e H a4=>?_);obtain ⟨r,E0,a0,R,Z,P,hj,s,F,u,a2⟩:=a4;have b1:=dZ (aD:o≠f);have Y:=xa5 Y E0 a0 (cW R) Z (cW P) b1;refine mA (λX=>?_) λX=>?_
   .have hEj:=U j X;have o1:(0<=S.pn[ns.length]->S.pn[ns.length]=(j:Int))->(S.inj=true->mem ns (j:Int)=false)->(S.pn[ns.length]<0\/S.pn[ns.length]=(j:Int))/\(S.inj=false\/mem ns (j:Int)=false):=λa b=>⟨aD,by cases hI:S.inj;exact .inl rfl;exact .inr (b hI)⟩;have V:=y.tg _ (aC X);have Y:=xa1 Y X (aA X);refine wp (h:=wA (λK=>Hi S i (.list (r.map Part.c)) (by simp [D.Q,wV]) ns j) Zr (λK=>wl) (λK=> rfl) rfl wdq ?_);refine wp (h:=dJ (λK=>(by have hq:=Bv S.t y.v S.g.h[j] S.p.h[ns.length] V.1 V.2 a6.1;unfold Types.d Types.c dI at hq;exact hq)) (λK=>wl) ?_);refine mA (λh7=>?_) λh7=>?_
    .have hE:Kt S ns j=false:=by
      rw [hEj,bK];intro hT;simp at hT;obtain ⟨a,b,c⟩:=hT;rcases h7 with (h|h)|h
      .omega
      .rcases b with b|b
       .rw [b] at h;cases h.1
       .rw [b] at h;cases h.2
      .rw [c] at h;cases h
     obtain ⟨E,m⟩:∃ x,x=r:=⟨_,rfl⟩;have Y:=xa1 Y @Part.c.eq_1 m;exact wp (h:=wx W (j+1) ⟨E,wg,wn,wn,wn,wn,wj,(by rw [m];first|exact s|exact Uj y.gp _ _ s),(by rw [eV,<- F,m];first|rw [if_pos hE]|rw [if_neg (by rw [hE];simp)]),(by first|exact C|exact u|(intro q w n B;simp [go_sem,w,n,cW (aD:q<H.next)];exact u q w n B)),(by first|omega|(simp [go_sem];omega))⟩)
    .have hE:Kt S ns j=true:=by
      obtain ⟨⟨a,b⟩,c⟩:=h7;rw [hEj];simp [c];exact ⟨aD,by cases hI:S.inj;exact .inl rfl;exact .inr (b hI)⟩
     obtain ⟨E,m⟩:∃ x,x=P9 S (i+1) O (ns++[(j:Int)]) r:=⟨_,rfl⟩;have Y:=xa1 Y @Part.c.eq_1 h7;refine wp (h:=?_);refine Lf (args':=[.ptr f 1 0 0,dLI (ns++[(j:Int)])]) (by simp [go_sem,Y,dLI]) rfl ?_;unfold f7;refine ih O aD (ns++[(j:Int)]) r _ _ (by simp;omega) (by simp [go_sem];omega) (by simp [go_sem];omega) ⟨by simp [go_sem,Y],by simp [go_sem,Y],s⟩ (λH3 A M z=>?_);rw [<- m] at A;obtain ⟨a9,a8,b2⟩:=A;simp [go_sem] at z;have C:∀ j,j≠f->j≠o->j<G.next->H3.get j=G.get j:=λj w n B=>by
      have e1:=cW (aD:j<H.next);rw [M j w n (by simp [go_sem];omega)];simp [go_sem,w,n,e1];exact u j w n B
     have b0:=xa0 (cW (aD:f<H3.next)) (cW (aD:o<H3.next));have Y:=xa2 Y a9 a8 b0;exact wp (h:=wx W (j+1) ⟨E,wg,wn,wn,wn,wn,wj,(by rw [m];first|exact s|exact Uj y.gp _ _ s),(by rw [eV,<- F,m];first|rw [if_pos hE]|rw [if_neg (by rw [hE];simp)]),(by first|exact C|exact u|(intro q w n B;simp [go_sem,w,n,cW (aD:q<H.next)];exact u q w n B)),(by first|omega|(simp [go_sem];omega))⟩)
   .have hJ:j=S.g.h.length:=aD;have a7:P9 S (i+1) (O+1) ns l=r:=by simp only [P9];rw [if_neg hnf,F,hJ]
    refine wv (h:=?_);exact hQ _ (by rw [a7];exact ⟨by assumption,by assumption,s⟩) u a2
@[go_sem] theorem abP {n:Nat}{c:UN}(h:D.J c=true):D.R (List.replicate n c)=true:=by
 induction n with
 | zero=>rfl
 | succ n ih=>simp [pV,D.R,h,ih]
def PT (n i:Nat):V2:=List.replicate i (-1)++List.replicate (n - i) 0
theorem Gl {n i:Nat}(h:i<=n):(PT n i).length=n:=by simp [PT];omega
theorem RL {n i:Nat}(h:i<n):(PT n i).set i (-1)=PT n (i+1):=by
 unfold PT;rw [nI _ _ aE,fI,uV,show n - i=(n - (i+1))+1 by omega,pV,Bd];simp
theorem RM (n:Nat):PT n n=List.replicate n (-1):=by simp [PT]
theorem OG (n:Nat):PT n 0=List.replicate n 0:=by simp [PT]
theorem Qt (p:Graph)(M:p.h.length<=100000)(P:p.j.length<=100000):Pua 257 [p.d] (.agg [dLI (List.replicate p.h.length (-1)),dLI (List.replicate p.j.length (-1))]):=by
 refine Tz.pK ⟨λt=>t==2||t==3,λr=>match r with|1=>[(3,4),(3,5),(3,6),(0,7),(1,7),(2,7),(3,7),(0,9),(1,9),(2,9),(3,9),(4,9),(5,9),(6,9),(7,9)]|_=>[]⟩ func257 rfl (λQ L=>?_);have Y:=trivial;refine wp (h:=bC (λi e H=>(e 1=.adr p.c/\e 2=.ptr 0 1 0 0/\e 3=.ptr 10 1 0 0/\e 4=dI i)/\(H.get 0=some ⟨36,2,[[.nil,.nil]],false⟩)/\(0<H.next)/\(H.get 10=some ⟨36,2,[[.own 4 p.h.length,.own 8 p.j.length]],false⟩)/\(10<H.next)/\(H.get 4=some ⟨3,1,(PT p.h.length i).map cI,false⟩)/\(4<H.next)/\(H.get 8=some ⟨3,1,(PT p.j.length 0).map cI,false⟩)/\(8<H.next)/\(i<=p.h.length)/\((PT p.h.length i).length=p.h.length)) (λi=>p.h.length - i) 0 ⟨wg,wn,wn,wn,wn,(by simp [go_sem,OG,cI]),wn,(by simp [go_sem,OG,cI]),wn,wi,(by exact Gl aD)⟩ λS F i e H D=>?_);obtain ⟨K,y,u,l,b,g,q,v,n,O,B⟩:=D;have Y:=xa9 Y K y (cW u) l (cW b) g (cW q) v (cW n) B;refine mA (λI=>?_) λI=>?_
 .have hS:=RL I;have z:i<(PT p.h.length i).length:=aD;have Y:=xa1 Y I (aA z);exact wp (h:=wx F (i+1) ⟨wg,wn,wn,wn,wn,(by simp [go_sem,Y,<- hS,dB,cI]),wn,(by simp [go_sem,Y]),wn,wj,(by exact Gl aD)⟩)
 .have hie:i=p.h.length:=aD;rw [hie,RM] at g;have Y:=xa8 K y (cW u) l (cW b) g (cW q) v (cW n) B;refine wv (h:=bC (λk e H=>(e 1=.adr p.c/\e 2=.ptr 0 1 0 0/\e 3=.ptr 10 1 0 0/\e 5=dI k)/\(H.get 0=some ⟨36,2,[[.nil,.nil]],false⟩)/\(0<H.next)/\(H.get 10=some ⟨36,2,[[.own 4 p.h.length,.own 8 p.j.length]],false⟩)/\(10<H.next)/\(H.get 4=some ⟨3,1,(List.replicate p.h.length (-1:Int)).map cI,false⟩)/\(4<H.next)/\(H.get 8=some ⟨3,1,(PT p.j.length k).map cI,false⟩)/\(8<H.next)/\(k<=p.j.length)/\((PT p.j.length k).length=p.j.length)) (λk=>p.j.length - k) 0 ⟨wg,wn,wn,wn,wn,wn,wn,(by simp [go_sem,Y]),wn,wi,(by exact Gl aD)⟩ λR E k e H C=>?_);obtain ⟨J,x,s,j,a,w,o,f,m,N,A⟩:=C;have Y:=xa9 Y J x (cW s) j (cW a) w (cW o) f (cW m) A;refine mA (λG=>?_) λG=>?_
  .have hS:=RL G;have z:k<(PT p.j.length k).length:=aD;have Y:=xa1 Y G (aA z);exact wp (h:=wx E (k+1) ⟨wg,wn,wn,wn,wn,wn,wn,(by simp [go_sem,Y,<- hS,dB,cI]),wn,wj,(by exact Gl aD)⟩)
  .have hke:k=p.j.length:=aD;rw [hke,RM] at f;have Y:=xa9 B J x (cW s) j (cW a) w (cW o) f (cW m) A;exact wv (h:=L _ _ (by simp [go_sem,Y,dLI]))
theorem OJ (l:List Part):fD (l.map Part.c)=l.map Part.c:=mD λc hc=>by
 rw [aX] at hc;obtain ⟨x,_,rfl⟩:=hc;simp [Part.c,iU,mL,dLI,eY]
theorem SV (S:Srch)(n:G17 S.t S.p S.g)(f:S.pn.length=S.p.h.length)(i:S.pe.length=S.p.j.length)(a:Nat)(j:a<=5000) :
  Pua 256 [S.t.d,S.p.d,S.g.d,.agg [dLI S.pn,dLI S.pe],.bool S.inj,dI a] (.list (((yR S).take (a+1)).map Part.c)):=by
 have b:P9 S (a+1) S.p.h.length [] []=(yR S).take (a+1):=by rw [P8 n.gp (a+1) _ _ _ aE];simp [yR]
 obtain ⟨L,s⟩:=c6 ((yR S).take (a+1));rw [<- s] at b ⊢;refine vY (by first|rfl|(simp [go_sem];done)) (λQ r=>(Tz.cK ⟨λt=>t==21,λ_=>[]⟩ func256 rfl ?_));have Y:=trivial;refine wv (h:=?_);refine yO (.step (.refl _) 0 0 10 36 2 _ _ (by simp [go_sem];rfl) rfl rfl rfl) ?_;simp [go_sem];refine Py (args':=[.ptr 0 1 0 0,dLI []]) (by simp [go_sem,dLI,Te]) ?_;unfold f7;refine N8 S n f i a j 0 1 aD S.p.h.length [] [] _ _ aE (by simp [go_sem]) (by simp [go_sem]) ⟨by simp [go_sem,Srch.cells,Types.c,Graph.c,dLI,dI],by simp [go_sem],by simp⟩ (λu e q o=>?_);rw [b] at e;obtain ⟨l,k,m⟩:=e;have Y:=xa2 Y l k @Srch.cells.eq_1;refine wv (h:=?_);exact r _ _ (by simp [go_sem,Y,mL,OJ])
def dM (x:Term)(vs:V2):Int:=if x.O<0 then x.add else vs[x.O.toNat]?.getD 0+x.add
def Sm (vs:V2):Prop:=∀ v∈vs,-4000000<=v/\v<=4000000
theorem Sm.get {vs:V2}(h:Sm vs){k:Nat}(hk:k<vs.length) : -4000000<=vs[k]/\vs[k]<=4000000:=h _ (aC hk)
def qV (x:Term)(n:Nat):Prop:=(-1<=x.O/\x.O<n)/\(-1000000<=x.add/\x.add<=1000000)
theorem r7 (x:Term)(vs:V2)(e:qV x vs.length)(f:Sm vs):Pua 258 [.agg x.c,dLI vs] (dI (dM x vs)):=by
 have a:=e;obtain ⟨⟨l,k⟩,j,i⟩:=a;refine Tz.p0 func258 rfl λQ b _=>?_;have Y:=@Term.c.eq_1;refine dR (λd=>?_) λd=>?_
 .exact wv (h:=b _ _ (by simp [go_sem,dM,d]))
 .have hk:x.O.toNat<vs.length:=aD;have g:=f.get hk;have Y:=wa Y (aA hk);exact wo (h:=b _ _ (by simp [go_sem,dM,(aD:¬ x.O<0),aA hk]))
theorem kI (x:Term)(vs:V2)(d:qV x vs.length)(f:Sm vs):Pua 178 [.agg x.c,dLI vs] (.tup [dI (dM x vs),dI 0]):=by
 have a:=d;obtain ⟨⟨k,j⟩,i,g⟩:=a;refine Tz.p0 func178 rfl λQ e _=>?_;have Y:=@Term.c.eq_1;refine eJ (λb=>?_) λb=>?_
 .have Y:=wa Y b;exact wv (h:=e _ _ wy)
 .refine wv (h:=aB (r7 x vs d f) wl ?_);have Y:=wa Y b;exact wv (h:=e _ _ wy)
theorem E8 (x:Term)(vs:V2)(f:qV x vs.length)(g:Sm vs):Pua 336 [.agg x.c,dLI vs] (.tup [dI (dM x vs),.bool true]):=by
 have a:=f;obtain ⟨⟨m,l⟩,k,j⟩:=a;refine Tz.p0 func336 rfl λQ b _=>?_;have Y:=@Term.c.eq_1;refine dR (λd=>?_) λd=>?_
 .exact wv (h:=b _ _ (by simp [go_sem,dM,d]))
 .refine eJ (λe=>?_) λe=>?_
  .have Y:=xa1 Y d e;exact wv (h:=b _ _ wy)
  .have hk:x.O.toNat<vs.length:=aD;have i:=g.get hk;have Y:=wa Y (aA hk);exact wo (h:=b _ _ (by simp [go_sem,dM,aA hk];omega))
def A6 (x:Test)(vs:V2):Bool:=(decide (x.B=1)&&decide (dM x.left vs<=dM x.right vs))||(decide (x.B=2)&&decide (dM x.left vs=dM x.right vs))
def IQ (x:Test)(n:Nat):Prop:=(x.B=1\/x.B=2)/\qV x.left n/\qV x.right n
theorem Oq (x:Test)(vs:V2)(b:IQ x vs.length)(a:Sm vs):Pua 259 [.agg x.c,dLI vs] (.bool (A6 x vs)):=by
 obtain ⟨g,e,d⟩:=b;refine Tz.p0 func259 rfl λQ f _=>?_;have Y:=@Test.c.eq_1;refine wv (h:=?_);refine aB (E8 x.left vs e a) wl ?_;refine wv (h:=?_);refine aB (E8 x.right vs d a) wl ?_;refine wv (h:=?_);repeat first|intro _|refine ⟨iI,?_⟩
 exact f _ _ (by simp [go_sem,A6,Db])
def haveV (h:Host)(m:Part)(s:Slot):Int:=(h.k[(m.h[s.node.toNat]?.getD 0).toNat]?.getD [])[s.H.toNat]?.getD 0
def lT (st:V2 × List Bool)(s:Slot):Bool:=decide (0<=s.y.O)&&!(st.2[s.y.O.toNat]?.getD false)
def lX (h:Host)(m:Part)(st:V2 × List Bool)(s:Slot):V2 × List Bool :=
 if lT st s=true then (st.1.set s.y.O.toNat (haveV h m s - s.y.add),st.2.set s.y.O.toNat true) else st
def slotsV (h:Host)(m:Part):V2 × List Bool->List Slot->Option (V2 × List Bool)
 | st,[]=>some st
 | st,s :: l=>if dM s.y (lX h m st s).1=haveV h m s then slotsV h m (lX h m st s) l else none
theorem zT (h:Host)(m:Part)(s:Slot):∀ (l:List Slot) (st:V2 × List Bool),slotsV h m st (l++[s])=(slotsV h m st l).bind λq=>if dM s.y (lX h m q s).1=haveV h m s then some (lX h m q s) else none
 | [],st=>by simp [slotsV]
 | a :: l,st=>by
  simp only [dN,slotsV];split
  .exact zT h m s l _
  .rfl
theorem EK (h:Host)(m:Part):∀ (l r:List Slot) (st:V2 × List Bool),slotsV h m st l=none->slotsV h m st (l++r)=none
 | [],r,st,hn=>by simp [slotsV] at hn
 | a :: l,r,st,hn=>by
  simp only [dN,slotsV] at hn ⊢;split at hn
  .rename_i he;rw [if_pos he];exact EK h m l r _ hn
  .rename_i he;rw [if_neg he]
theorem uY {h:Host}{m:Part}{l:List Slot}{i:Nat}(d:i<l.length){a q:V2 × List Bool}(c:slotsV h m a (l.take i)=some q) :
  (dM l[i].y (lX h m q l[i]).1=haveV h m l[i]->slotsV h m a (l.take (i+1))=some (lX h m q l[i]))/\(dM l[i].y (lX h m q l[i]).1≠haveV h m l[i]->slotsV h m a l=none):=by
 have e:l.take (i+1)=l.take i++[l[i]]:=List.take_succ_eq_append_getElem d;refine ⟨λb=>?_,λb=>?_⟩
 .rw [e,zT,c];simp [b]
 .have hn:slotsV h m a (l.take (i+1))=none:=by rw [e,zT,c];simp [b]
  have:=EK h m _ (l.drop (i+1)) a hn;rw [List.take_append_drop] at this;exact this
def eX (p:Pattern)(h:Host)(m:Part)(vs:V2):V2 × Int :=
 match slotsV h m (vs++List.replicate (p.vars.toNat - vs.length) 0,List.replicate vs.length true++List.replicate (p.vars.toNat - vs.length) false) p.o with
 | none=>([],11)
 | some q=>if p.E.all (λx=>A6 x q.1)=true then (q.1,0) else ([],16)
structure SmallA (x:Attr):Prop where
 lo : -1000000<=x.ap
 hi:x.a8<=1000000
 le:x.ap<=x.a8
theorem Gb {x:Attr}{b:List Attr}(h:d8 x b=0):SmallA x:=by
 unfold d8 at h;split at h<;>try (cases h;done)
 split at h<;>try (cases h;done)
 split at h
 .exact absurd h (by assumption)
 .rename_i h3;split at h
  .rename_i h4;split at h
   .rename_i h5;have a:x.af.length<=20:=by
     refine aY λc=>h3 ?_;unfold pF;rw [if_pos aD];decide
    simp at h5;exact ⟨aD,aD,aD⟩
   .cases h
  .split at h
   .rename_i h5;simp at h5;exact ⟨aD,aD,aD⟩
   .cases h
theorem OM {t:Types}{a:Nat}(b:a<t.h.length)(h:iV t a=0):∀ k,(t.r a).length - t.h[a].r.length<=k->∀ hk:k<(t.r a).length,SmallA (t.r a)[k]:=by
 rw [C3 t a b] at h;split at h<;>try (cases h;done)
 split at h<;>try (cases h;done)
 split at h<;>try (cases h;done)
 split at h<;>try (cases h;done)
 split at h<;>try (cases h;done)
 intro k c hk;have:=eZ _ _ h k c aD;unfold BB at this;rw [aA hk] at this;exact Gb this
theorem PH {t:Types}(g:(dA t).2=0):∀ a:Nat,a<t.h.length->∀ x∈t.r a,SmallA x:=by
 have c:=mX g;have f:∀ j,j<t.h.length->iV t j=0:=by
  have h:=g;unfold dA at h;split at h
  .simp at h
  .split at h
   .simp at h
   .obtain ⟨f,_⟩:=s7 _ _ h;exact λj p=>f j aD aD
 intro a;induction a using Nat.strongRecOn with
 | _ a ih =>
 intro e x m;have b:=Ev t a e (c.au a);have i:=c.C a _ (aA e);obtain ⟨k,l,rfl⟩:=aN m;by_cases q:k<(t.r a).length - t.h[a].r.length
 .by_cases hp:0<=t.h[a].C
  .rw [if_pos hp] at b;have n:(t.r a).length=(t.r t.h[a].C.toNat).length+t.h[a].r.length:=by rw [b];simp
   have d:k<(t.r t.h[a].C.toNat).length:=aD;have o:(t.r a)[k]=(t.r t.h[a].C.toNat)[k]:=by
    have:(t.r a)[k]?=(t.r t.h[a].C.toNat)[k]?:=by rw [b,aS d]
    rw [aA l,aA d] at this;exact Option.some.inj this
   rw [o];exact ih _ aD aD _ (aC d)
  .rw [if_neg hp] at b;have n:(t.r a).length=t.h[a].r.length:=by rw [b];simp
   omega
 .exact OM e (f a e) k aD l
theorem Lm {t:Types}(c:t.a7):∀ b:Nat,b<t.h.length->∀ a:Nat,mem (t.aw b) (a:Int)=true->∃ r,t.r b=t.r a++r:=by
 intro b;induction b using Nat.strongRecOn with
 | _ b ih =>
 intro d a hm;have e:=c.C b _ (aA d);rw [Am t b d (c.au b),wY,c7] at hm;rcases hm with hm|hm
 .by_cases h0:0<=t.h[b].C
  .rw [if_pos h0] at hm;obtain ⟨r,f⟩:=ih t.h[b].C.toNat aD aD a hm;exact ⟨r++t.h[b].r,by rw [Ev t b d (c.au b),if_pos h0,f,List.append_assoc]⟩
  .rw [if_neg h0,AP] at hm;cases hm
 .simp at hm;have:a=b:=aD;subst this;exact ⟨[],by simp⟩
structure SOk (p:Pattern) (h:Host) (m:Part):Prop where
 vars:0<=p.vars/\p.vars<=12
 node:∀ s∈p.o,0<=s.node/\s.node<m.h.length
 bO:∀ k∈m.h,0<=k/\k<h.k.length
 H:∀ s∈p.o,0<=s.H/\s.H<(h.k[(m.h[s.node.toNat]?.getD 0).toNat]?.getD []).length
 gc:∀ l∈h.k,∀ v∈l,-1000000<=v/\v<=1000000
 y:∀ s∈p.o,qV s.y p.vars.toNat
 d2:∀ x∈p.E,IQ x p.vars.toNat
def g6 (im keep:V2):V2:=((List.range im.length).filter λ(i:Nat)=>!mem keep i).map λi=>im[i]?.getD 0
def xH (g:Graph)(me gone:V2)(k:Nat):Bool:=!mem me k&&(mem gone (g.j[k]?.getD cY).w||mem gone (g.j[k]?.getD cY).M)
def vN (g:Graph)(me gone:V2):V2:=((List.range g.j.length).filter (xH g me gone)).map λ(b:Nat)=>(b:Int)
def sQ (im keep:V2)(i k:Nat):Bool:=decide (im[i]?.getD 0=im[k]?.getD 0)&&(!mem keep i||!mem keep k)
def mF (im keep:V2)(i j:Nat):List (Nat × Nat):=((List.range j).filter λb=>sQ im keep i (i+1+b)).map λb=>(i,i+1+b)
def En (im keep:V2)(n:Nat):List (Nat × Nat):=(List.range n).flatMap λi=>mF im keep i (im.length - (i+1))
def nZ (im keep:V2):List (Nat × Nat):=En im keep im.length
def cPr (p:Nat × Nat):UN:=[dI p.1,dI p.2]
@[go_sem] theorem Yt (p:Nat × Nat):D.J (cPr p)=true:=rfl
@[go_sem] theorem ad8 (l:List (Nat × Nat)):D.R (l.map cPr)=true:=dY _ Yt l
theorem Pj (a keep:V2)(i j:Nat):mF a keep i (j+1)=mF a keep i j++(if sQ a keep i (i+1+j)=true then [(i,i+1+j)] else []):=by
 unfold mF;rw [dO,fJ,List.map_append];grind
theorem Em (a keep:V2)(n:Nat):En a keep (n+1)=En a keep n++mF a keep n (a.length - (n+1)):=by
 unfold En;rw [dO,List.flatMap_append];simp
theorem Ca (a keep:V2)(i j:Nat):(mF a keep i j).length<=j:=by
 unfold mF;rw [aR];exact fB (jF _ _) aE
theorem xE (im keep:V2):∀ n,(En im keep n).length<=n * im.length
 | 0=>by simp [En]
 | n+1=>by
  have h1:=xE im keep n;have h2:=Ca im keep n (im.length - (n+1));rw [Em,aQ,Nat.add_mul];omega
theorem rJ (a keep:V2){i:Nat}(h:i<a.length):((List.range (i+1)).filter λ(i:Nat)=>!mem keep i).map (λi=>a[i]?.getD 0)=((List.range i).filter λ(i:Nat)=>!mem keep i).map (λi=>a[i]?.getD 0)++(if (!mem keep i)=true then [a[i]] else []):=by
 rw [dO,fJ,List.map_append];grind
theorem rK {a keep:V2}{x:Int}:x∈g6 a keep↔∃ i:Nat,i<a.length/\mem keep i=false/\a[i]?=some x:=by
 unfold g6;grind
def compG (l g:Graph)(keep m:Part):Int:=if eK l g m≠0 then eK l g m else subF l keep
def oN (l g:Graph)(keep m:Part):Int :=
 if compG l g keep m≠0 then compG l g keep m
 else if 0<(nZ m.h keep.h).length+(nZ m.j keep.j).length then 15
 else if 0<(vN g m.j (g6 m.h keep.h)).length then 14 else 0
def uD (l g:Graph)(keep m:Part):Part:=if oN l g keep m=0 then ⟨bG (g6 m.h keep.h) g.h.length,bG (g6 m.j keep.j) g.j.length⟩ else ⟨[],[]⟩
theorem rA (l:V2)(v:Int):Pua 338 [dLI l,dI v] (.bool (mem l v)):=by
 refine Tz.p0 func338 rfl λQ m Y=>?_;refine wv (h:=bC (λi e H=>(e 0=dLI l/\e 1=dI v/\e 5=dI i)/\(i<=l.length)/\(∀ j,j<i->l[j]?≠some v)) (λi=>l.length - i) 0 ⟨wg,wi,(by intro j k;omega)⟩ λu f i e H d=>?_);obtain ⟨p,s,a⟩:=d;have Y:=wa Y p;refine wv (h:=?_);repeat first|intro _|refine ⟨t,?_⟩
 refine wq (λb=>?_) λb=>?_
 .have Y:=wa Y b;refine wv (h:=?_);refine wq (λg=>?_) λg=>?_
  .refine wv (h:=?_);have c:mem l v=true:=(mem_iff l v).2 (g ▸ aC b);exact m _ _ (by simp [go_sem,c])
  .exact wo (h:=wx f (i+1) ⟨wg,wj,(lM a (by rw [aA b];simpa using g))⟩)
 .refine wv (h:=?_);have c:mem l v=false:=by rw [bK];intro h;obtain ⟨j,k,o⟩:=aN ((mem_iff l v).1 h);exact a j aD (by rw [aA k,o])
  exact m _ _ (by simp [go_sem,c])
theorem Hn (l:V2)(n:Nat)(v:n<=1000000):Pua 264 [dI n,dLI l] (dLI (bG l n)):=by
 refine Tz.pK ⟨λt=>t==5,λ_=>[]⟩ func264 rfl (λQ r=>?_);have Y:=trivial;refine wv (h:=bC (λi e H=>∃ a:V2,(e 1=dLI l/\e 0=dI n/\e 5=.own 0 a.length/\e 6=dI i)/\(H.get 0=some ⟨3,1,a.map cI,false⟩)/\(0<H.next)/\(i<=n)/\(a.length<=i)/\(a=((List.range i).filter λ(b:Nat)=>!mem l b).map (λ(b:Nat)=>(b:Int)))) (λi=>n - i) 0 ⟨([]),wg,wn,wn,wi,aE,(by rfl)⟩ λz f i e H k=>?_);obtain ⟨a,s,g,d,x,w,j⟩:=k;have Y:=xa2 Y s g (cW d);refine dR (λp=>?_) λp=>?_
 .have Y:=wa Y p;refine wo (h:=aB (rA l i) wl ?_);refine eJ (λm=>?_) λm=>?_
  .have Y:=wa Y m;exact wo (h:=wx f (i+1) ⟨(a++(if (!mem l i)=true then [(i:Int)] else [])),wg,wn,wn,wj,(by rw [aQ];split<;>simp<;>omega),(by rw [dW,<- j])⟩)
  .have Y:=wa Y m;exact wo (h:=wx f (i+1) ⟨(a++(if (!mem l i)=true then [(i:Int)] else [])),wg,wn,wn,wj,(by rw [aQ];split<;>simp<;>omega),(by rw [dW,<- j])⟩)
 .exact wv (h:=r _ _ (by simp [go_sem,Y,bG];rw [j,(aD:i=n)];simp))
theorem BL (a keep:V2)(v:a.length<=1000000):Pua 265 [dLI a,dLI keep] (dLI (g6 a keep)):=by
 refine Tz.pK ⟨λt=>t==5,λ_=>[]⟩ func265 rfl (λQ r=>?_);have Y:=trivial;refine wv (h:=bC (λi e H=>∃ c:V2,(e 0=dLI a/\e 1=dLI keep/\e 5=.own 0 c.length/\e 6=dI i)/\(H.get 0=some ⟨3,1,c.map cI,false⟩)/\(0<H.next)/\(i<=a.length)/\(c.length<=i)/\(c=((List.range i).filter λ(b:Nat)=>!mem keep b).map (λi=>a[i]?.getD 0))) (λi=>a.length - i) 0 ⟨([]),wg,wn,wn,wi,aE,(by rfl)⟩ λz g i e H m=>?_);obtain ⟨c,s,k,f,x,w,l⟩:=m;have Y:=xa2 Y s k (cW f);refine eJ (λj=>?_) λj=>?_
 .have Y:=xa1 Y j (aA j);refine wo (h:=aB (rA keep i) wl ?_);refine eJ (λn=>?_) λn=>?_
  .have Y:=wa Y n;exact wo (h:=wx g (i+1) ⟨(c++(if (!mem keep i)=true then [a[i]] else [])),wg,wn,wn,wj,(by rw [aQ];split<;>simp<;>omega),(by rw [rJ _ _ j,<- l])⟩)
  .have Y:=wa Y n;exact wo (h:=wx g (i+1) ⟨(c++(if (!mem keep i)=true then [a[i]] else [])),wg,wn,wn,wj,(by rw [aQ];split<;>simp<;>omega),(by rw [rJ _ _ j,<- l])⟩)
 .refine wv (h:=?_);have q:g6 a keep=c:=by rw [l,(aD:i=a.length)];rfl
  exact r _ _ (by simp [go_sem,Y,q])
theorem Pm {g:Graph}{me gone:V2}{k:Nat}(h:k<g.j.length):xH g me gone k=(!mem me k&&(mem gone g.j[k].w||mem gone g.j[k].M)):=by
 unfold xH;rw [aA h];rfl
theorem Ho (l g:Graph)(keep m:Part)(y:m.h.length<=1000000)(p:g.j.length<=1000000):Pua 263 [l.d,g.d,keep.d,m.d] (dLI (vN g m.j (g6 m.h keep.h))):=by
 obtain ⟨f,u⟩:=dF (g6 m.h keep.h);refine Tz.pK ⟨λt=>t==9,λ_=>[]⟩ func263 rfl (λQ A=>?_);have Y:=u;refine wv (h:=aB (BL m.h keep.h y) wl ?_);refine wv (h:=bC (λk e H=>∃ a:V2,(e 5=.adr g.c/\e 7=.adr m.c/\e 10=dLI f/\e 9=.own 0 a.length/\e 11=dI k)/\(H.get 0=some ⟨3,1,a.map cI,false⟩)/\(0<H.next)/\(k<=g.j.length)/\(a.length<=k)/\(a=((List.range k).filter (xH g m.j f)).map (λ(b:Nat)=>(b:Int)))) (λk=>g.j.length - k) 0 ⟨([]),wg,wn,wn,wi,aE,(by rfl)⟩ λJ n k e H s=>?_);obtain ⟨a,D,o,j,G,F,r⟩:=s;have Y:=xa2 Y D o (cW j);refine eJ (λq=>?_) λq=>?_
 .have hdb:=Pm (me:=m.j) (gone:=f) q;have C:=rA f g.j[k].w;have B:=rA f g.j[k].M;have Y:=xa2 Y q (aA q) hdb;refine wo (h:=aB (rA m.j k) wl ?_);refine wo (h:=aH (λp=>C) (λp=>wl) ?_);refine wo (h:=aH (λp=>B) (λp=>wl) ?_);refine eJ (λv=>?_) λv=>?_
  .have Y:=wa Y v;exact wo (h:=wx n (k+1) ⟨(a++(if xH g m.j f k=true then [(k:Int)] else [])),wg,wn,wn,wj,(by rw [aQ];split<;>simp<;>omega),(by rw [dW,<- r])⟩)
  .have Y:=wa Y v;exact wo (h:=wx n (k+1) ⟨(a++(if xH g m.j f k=true then [(k:Int)] else [])),wg,wn,wn,wj,(by rw [aQ];split<;>simp<;>omega),(by rw [dW,<- r])⟩)
 .refine wv (h:=?_);have z:vN g m.j f=a:=by rw [r,(aD:k=g.j.length)];rfl
  exact A _ _ (by simp [go_sem,Y,z])
theorem Oi (l g:Graph)(keep m:Part)(c:keep.h.length<=1000000):Pua 261 [l.d,g.d,keep.d,m.d] (dI (compG l g keep m)):=by
 refine Tz.p0 func261 rfl λQ b Y=>?_;refine wv (h:=aB (u9 l g m) wl ?_);refine dR (λa=>?_) λa=>?_
 .have Y:=xa1 Y a @compG.eq_1;exact wv (h:=b _ _ wy)
 .refine wv (h:=aB (Ad l keep) wl ?_);have Y:=xa1 Y a @compG.eq_1;exact wv (h:=b _ _ wy)
end Go.Abs
end
