/- The matches of a pattern in a graph: the plain law of the se -/
import Derived.Test.YthlnbehgghjppaaGreatZrAO
import Derived.Test.YthlnbehgghjppaaGreatZrAG
import Derived.Test.YthlnbehgghjppaaGreatZrAA
set_option linter.unusedVariables false
set_option linter.unusedSimpArgs false
section
set_option maxRecDepth 100000
set_option maxHeartbeats 4000000
open Go Go.Proofs Tryz
namespace Go.Abs
structure Srch where
 t:Types
 p:Graph
 g:Graph
 pn:Xa0
 pe:Xa0
 inj:Bool
def Vm (y:Edge):Xa0:=[y.type,y.B,y.O]
def AT (l:Xa0)(i k:Nat):Bool:=decide (l[i]?.getD (-1)<0)||decide (l[i]?.getD (-1)=(k:Int))
def wO (t:Types)(a b:Int):Bool:=mem (t.ao b.toNat) a
def Zc (p:Graph)(ns:Xa0)(i:Nat):Edge:=⟨(p.i[i]?.getD bX).type,ns[(p.i[i]?.getD bX).B.toNat]?.getD 0,ns[(p.i[i]?.getD bX).O.toNat]?.getD 0⟩
def AO (S:Srch)(ns:Xa0)(i k:Nat):Bool:=decide (Vm (S.g.i[k]?.getD bX)=Vm (Zc S.p ns i))
def KO (S:Srch)(l:Xa0)(k:Nat):Bool:=AT S.pn l.length k&&(!(S.inj&&mem l k)&&wO S.t (S.p.h[l.length]?.getD 0) (S.g.h[k]?.getD 0))
def R9 (S:Srch)(ns l:Xa0)(k:Nat):Bool:=AT S.pe l.length k&&(!(S.inj&&mem l k)&&AO S ns l.length k)
def Jt (S:Srch)(N:Nat)(ns:Xa0):Nat->Xa0->List Part->List Part
 | 0,l,ou=>if N<=ou.length then ou else ou++[⟨ns,l⟩]
 | d+1,l,ou=>if N<=ou.length then ou else (List.range S.g.i.length).foldl (λou k=>if R9 S ns l k=true then Jt S N ns d (l++[(k:Int)]) ou else ou) ou
def Cp (S:Srch)(l:Xa0)(i:Nat):Bool:=decide ((l.length:Int)<=(S.p.i[i]?.getD bX).B)||decide ((l.length:Int)<=(S.p.i[i]?.getD bX).O)||(List.range S.g.i.length).any (AO S l i)
def wJ (S:Srch)(l:Xa0):Bool:=(List.range S.p.i.length).all (Cp S l)
def HO (S:Srch)(l:Xa0)(i:Nat):Bool:=decide (max (S.p.i[i]?.getD bX).B (S.p.i[i]?.getD bX).O≠(l.length:Int) - 1)||(List.range S.g.i.length).any λk=>AT S.pe i k&&AO S l i k
def vK (S:Srch)(l:Xa0):Bool:=(List.range S.p.i.length).all (HO S l)
def Qr (S:Srch)(N:Nat):Nat->Xa0->List Part->List Part
 | 0,l,ou=>if N<=ou.length\/wJ S l=false then ou else Jt S N l S.p.i.length [] ou
 | d+1,l,ou=>if N<=ou.length\/wJ S l=false then ou else (List.range S.g.h.length).foldl (λou k=>if KO S l k=true then Qr S N d (l++[(k:Int)]) ou else ou) ou
def R0 (S:Srch)(N:Nat):Nat->Xa0->List Part->List Part
 | 0,l,ou=>if N<=ou.length then ou else Jt S N l S.p.i.length [] ou
 | d+1,l,ou=>if N<=ou.length then ou else (List.range S.g.h.length).foldl (λou k=>if (KO S l k&&vK S (l++[(k:Int)]))=true then R0 S N d (l++[(k:Int)]) ou else ou) ou
/-! ### all matches -/
def Gt (S:Srch)(ns:Xa0):Nat->Xa0->Yb
 | 0,l=>[l]
 | d+1,l=>((List.range S.g.i.length).filter (R9 S ns l)).flatMap λ(k:Nat)=>Gt S ns d (l++[(k:Int)])
def DK (S:Srch):Nat->Xa0->List Part
 | 0,l=>(Gt S l S.p.i.length []).map λes=>⟨l,es⟩
 | d+1,l=>((List.range S.g.h.length).filter (KO S l)).flatMap λ(k:Nat)=>DK S d (l++[(k:Int)])
def CI (S:Srch):List Part:=DK S S.p.h.length []
theorem Ek {α:Type}(N:Nat)(a b:List α):((a.take N)++b).take N=(a++b).take N:=by
 rw [Bw,Bw,List.take_take,Nat.min_self];grind
theorem xU {α:Type}(N:Nat)(ok:Nat->Bool)(f:Nat->List α->List α)(x:Nat->List α)(hf:∀ k ou,ou.length<=N->f k ou=(ou++x k).take N) :
  ∀ (l:List Nat) (ou:List α),ou.length<=N->l.foldl (λou k=>if ok k=true then f k ou else ou) ou=(ou++(l.filter ok).flatMap x).take N
 | [],ou,h=>by simp [aH h]
 | k :: l,ou,h=>by
  rw [wW];by_cases hk:ok k=true
  .rw [if_pos hk,hf k ou h,xU N ok f x hf l _ (by simp;omega),Ek,List.filter_cons_of_pos hk,zX,List.append_assoc]
  .rw [if_neg hk,xU N ok f x hf l _ h,List.filter_cons_of_neg hk]
theorem tW {α:Type}{N:Nat}{a x:List α}(h:a.length<=N)(b:N<=a.length):a=(a++x).take N:=by grind
theorem L4 (S:Srch)(N:Nat)(ns:Xa0):∀ (d:Nat) (l:Xa0) (ou:List Part),ou.length<=N->Jt S N ns d l ou=(ou++(Gt S ns d l).map λes=>(⟨ns,es⟩:Part)).take N
 | 0,l,ou,h=>by
  simp only [Jt,Gt];split
  .rename_i h2;exact tW h h2
  .rw [aH (by simp;omega)];rfl
 | d+1,l,ou,h=>by
  simp only [Jt,Gt];split
  .rename_i h2;exact tW h h2
  .rw [xU N (R9 S ns l) (λk ou=>Jt S N ns d (l++[(k:Int)]) ou) (λk=>(Gt S ns d (l++[(k:Int)])).map λes=>(⟨ns,es⟩:Part)) (λk ou ho=>L4 S N ns d _ ou ho) _ _ h,List.map_flatMap]
theorem IC {S:Srch}{ns:Xa0}:∀ (d:Nat) (l es:Xa0),es∈Gt S ns d l->∀ i,l.length<=i->i<l.length+d->∃ k,k<S.g.i.length/\AT S.pe i k=true/\AO S ns i k=true
 | 0,l,es,_,i,h1,h2=>by omega
 | d+1,l,es,h,i,h1,h2=>by
  simp only [Gt,cD,f7,bY] at h;obtain ⟨k,⟨hk,ho⟩,hr⟩:=h;by_cases hi:i=l.length
  .simp only [R9,aL] at ho;exact ⟨k,hk,hi ▸ ho.1,hi ▸ ho.2.2⟩
  .exact IC d _ es hr i (by simp;omega) (by simp;omega)
theorem AW {S:Srch}:∀ (d:Nat) (l:Xa0) (m:Part),m∈DK S d l->(∃ r,m.h=l++r)/\m.i∈Gt S m.h S.p.i.length []
 | 0,l,m,h=>by
  simp only [DK,aV] at h;obtain ⟨es,he,rfl⟩:=h;exact ⟨⟨[],by simp⟩,he⟩
 | d+1,l,m,h=>by
  simp only [DK,cD,f7,bY] at h;obtain ⟨k,_,hr⟩:=h;obtain ⟨⟨r,hr1⟩,hr2⟩:=AW d _ m hr;exact ⟨⟨(k:Int) :: r,by rw [hr1];simp⟩,hr2⟩
theorem Sy {p:Graph}{l r:Xa0}{i:Nat}(b:(p.i[i]?.getD bX).B.toNat<l.length)(a:(p.i[i]?.getD bX).O.toNat<l.length):Zc p (l++r) i=Zc p l i:=by
 unfold Zc;rw [aR b,aR a]
theorem IB {S:Srch}(q:graphF S.p=0)(d:Nat)(l:Xa0)(h:wJ S l=false):DK S d l=[]:=by
 rw [pM];intro m s;obtain ⟨⟨r,o⟩,t⟩:=AW d l m s;simp only [wJ,GV,bY] at h;obtain ⟨i,e,j⟩:=h;have y:=((dO q).2 _ (aC e)).2;simp only [Cp,aA e,aD,c5,decide_eq_true_eq,not_or,bF,bY,not_exists,not_and,Int.not_le] at j;obtain ⟨⟨x,w⟩,n⟩:=j;obtain ⟨k,v,B,g⟩:=IC _ _ _ t i (d9 _) (eL e);apply n k v;unfold AO at g ⊢;rw [o,Sy (by rw [aA e,aD];omega) (by rw [aA e,aD];omega)] at g;exact g
theorem TP {S:Srch}(s:graphF S.p=0)(d:Nat)(l:Xa0)(h:vK S l=false):DK S d l=[]:=by
 rw [pM];intro m t;obtain ⟨⟨r,q⟩,u⟩:=AW d l m t;simp only [vK,GV,bY] at h;obtain ⟨i,e,n⟩:=h;have z:=((dO s).2 _ (aC e)).2;simp only [HO,aA e,aD,c5,decide_eq_true_eq,not_or,bF,bY,not_exists,not_and,ne_eq,kU,aL] at n;obtain ⟨y,o⟩:=n;obtain ⟨k,x,w,j⟩:=IC _ _ _ u i (d9 _) (eL e);refine o k x w ?_;unfold AO at j ⊢;rw [q,Sy (by rw [aA e,aD];omega) (by rw [aA e,aD];omega)] at j;exact j
theorem Qq {S:Srch}(hp:graphF S.p=0)(N:Nat):∀ (d:Nat) (l:Xa0) (ou:List Part),ou.length<=N->Qr S N d l ou=(ou++DK S d l).take N
 | 0,l,ou,h=>by
  simp only [Qr];split
  .rename_i h2;rcases h2 with h2|h2
   .exact tW h h2
   .rw [IB hp 0 l h2,cZ,aH h]
  .rw [L4 S N l _ _ _ h];rfl
 | d+1,l,ou,h=>by
  simp only [Qr];split
  .rename_i h2;rcases h2 with h2|h2
   .exact tW h h2
   .rw [IB hp _ l h2,cZ,aH h]
  .rw [xU N (KO S l) (λk ou=>Qr S N d (l++[(k:Int)]) ou) (λk=>DK S d (l++[(k:Int)])) (λk ou ho=>Qq hp N d _ ou ho) _ _ h];rfl
theorem FU {α:Type}(ok po:Nat->Bool)(x:Nat->List α)(h:∀ k,po k=false->x k=[]):∀ l:List Nat,(l.filter λk=>ok k&&po k).flatMap x=(l.filter ok).flatMap x
 | []=>rfl
 | k :: l=>by
  cases h1:ok k<;>cases h2:po k<;>simp [h1,h2,FU ok po x h l,h k]
theorem QO {S:Srch}(hp:graphF S.p=0)(N:Nat):∀ (d:Nat) (l:Xa0) (ou:List Part),ou.length<=N->R0 S N d l ou=(ou++DK S d l).take N
 | 0,l,ou,h=>by
  simp only [R0];split
  .rename_i h2;exact tW h h2
  .rw [L4 S N l _ _ _ h];rfl
 | d+1,l,ou,h=>by
  simp only [R0];split
  .rename_i h2;exact tW h h2
  .rw [xU N (λk=>KO S l k&&vK S (l++[(k:Int)])) (λk ou=>R0 S N d (l++[(k:Int)]) ou) (λk=>DK S d (l++[(k:Int)])) (λk ou ho=>QO hp N d _ ou ho) _ _ h];rw [FU (KO S l) (λk=>vK S (l++[(k:Int)])) _ λk hk=>TP hp d _ hk];rfl
theorem En (S:Srch){N:Nat}(ns:Xa0)(d:Nat)(l:Xa0){a:List Part}(h:a.length<=N):(Jt S N ns d l a).length<=N:=by
 rw [L4 S N ns d l a h];exact List.length_take_le _ _
theorem Uq {S:Srch}(b:graphF S.p=0){N:Nat}(d:Nat)(l:Xa0){a:List Part}(h:a.length<=N):(Qr S N d l a).length<=N:=by
 rw [Qq b N d l a h];exact List.length_take_le _ _
theorem QN {S:Srch}(b:graphF S.p=0){N:Nat}(d:Nat)(l:Xa0){a:List Part}(h:a.length<=N):(R0 S N d l a).length<=N:=by
 rw [QO b N d l a h];exact List.length_take_le _ _
theorem G9 {S:Srch}{N:Nat}(ns:Xa0)(d:Nat)(l:Xa0){a:List Part}(h:N<=a.length):Jt S N ns d l a=a:=by cases d<;>simp only [Jt,if_pos h]
def Dt (l:List Attr)(vs:Xa0)(k:Nat):Int:=if vs[k]?.getD 0<(l[k]?.getD qB).ax\/(l[k]?.getD qB).ay<vs[k]?.getD 0 then 6 else 0
def i4 (t:Types)(kind:Int)(vs:Xa0):Int :=
 if (t.h.length:Int)<=kind then 6 else if zT t kind.toNat=true then 13 else if vs.length≠(bV t kind).length then 20 else bS (Dt (bV t kind) vs) 0 (bV t kind).length
theorem QK (t:Types)(q:t.ok)(a:Int)(y:0<=a)(vs:Xa0):Pua 247 [t.d,dI a,dLI vs] (dI (i4 t a vs)):=by
 refine Tz.p0 func247 rfl λQ i Y=>?_;refine dW (λw=>?_) λw=>?_
 .have hE:i4 t a vs=6:=by unfold i4;rw [if_pos bZ]
  exact wv (h:=i _ _ (by simp [go_sem,hE]))
 .have hkn:a.toNat<t.h.length:=bZ;have u:zT t a.toNat=t.h[a.toNat].d2:=by simp [zT,aA hkn]
  have b:i4 t a vs=if zT t a.toNat=true then 13 else if vs.length≠(bV t a).length then 20 else bS (Dt (bV t a) vs) 0 (bV t a).length:=by unfold i4;rw [if_neg bZ]
  rw [u] at b;have Y:=xa1 Y (aA hkn) @NodeTy.c.eq_1;refine dW (λn=>?_) λn=>?_
  .rw [if_pos (eL n)] at b;exact wv (h:=i _ _ (by simp [go_sem,b]))
  .rw [if_neg (eL n)] at b;refine wv (h:=aB (sA t q a) wl ?_);refine dW (λv=>?_) λv=>?_
   .rw [if_pos bZ] at b;exact wv (h:=i _ _ (by simp [go_sem,b]))
   .rw [if_neg bZ] at b;have r:vs.length=(bV t a).length:=bZ;refine wv (h:=bC (λk e H=>(e 3=.adr t.c/\e 2=dLI vs/\e 7=.list ((bV t a).map Attr.c)/\e 9=dI k)/\(k<=(bV t a).length)/\(bS (Dt (bV t a) vs) k ((bV t a).length - k)=i4 t a vs)) (λk=>(bV t a).length - k) 0 ⟨wg,wi,(by exact b.symm)⟩ λz m k e H l=>?_);obtain ⟨x,s,p⟩:=l;have Y:=wa Y x;refine wv (h:=?_);repeat first|intro _|refine ⟨iF,?_⟩
    refine wq (λj=>?_) λj=>?_
    .have hv:k<vs.length:=bZ;have f:=fE (Dt (bV t a) vs) j;rw [p] at f;have g:Dt (bV t a) vs k=if vs[k]<(bV t a)[k].ax\/(bV t a)[k].ay<vs[k] then 6 else 0:=by simp only [Dt,aA hv,aA j,aD]
     have Y:=xa3 Y j (aA hv) (aA j) @Attr.c.eq_1;refine dW (λo=>?_) λo=>?_
     .rw [if_pos bZ] at g;rw [g,if_pos bZ] at f;exact wv (h:=i _ _ (by simp [go_sem,f]))
     .rw [if_neg bZ] at g;rw [g,if_neg bZ] at f;exact wo (h:=wx m (k+1) ⟨wg,wj,(by exact f.symm)⟩)
    .have hZ:i4 t a vs=0:=by rw [<- p,(bZ:(bV t a).length - k=0)];rfl
     exact wv (h:=i _ _ (by simp [go_sem,hZ]))
def iM (f:Nat->Int):Nat->Nat->Int × Int
 | k,0=>(-1,0)
 | k,n+1=>if f k≠0 then ((k:Int),f k) else iM f (k+1) n
theorem tI (f:Nat->Int){k n:Nat}(h:k<n):iM f k (n - k)=if f k≠0 then ((k:Int),f k) else iM f (k+1) (n - (k+1)):=by
 obtain ⟨m,a⟩:∃ m,n - k=m+1:=⟨n - k - 1,bZ⟩;rw [a,(bZ:n - (k+1)=m)];rfl
theorem vS (f:Nat->Int):∀ n k,(iM f k n).2=bS f k n
 | 0,k=>rfl
 | n+1,k=>by simp only [iM,bS];split<;>simp_all [vS f n]
def Io (t:Types)(h:Host)(i:Nat):Int:=i4 t (h.j.h[i]?.getD 0) (h.k[i]?.getD [])
def TJ (t:Types)(h:Host)(i:Nat):Int:=if (t.i.length:Int)<=(h.j.i[i]?.getD bX).type then 6 else
 if oR t (h.j.i[i]?.getD bX).type (gN h.j (h.j.i[i]?.getD bX).B) (gN h.j (h.j.i[i]?.getD bX).O)=true then 0 else 13
def pR (t:Types)(h:Host):Int × Int :=
 if (cQ t).2≠0 then (-1,(cQ t).2) else if graphF h.j≠0 then (-1,graphF h.j) else if h.k.length≠h.j.h.length then (-1,20)
 else if (iM (Io t h) 0 h.j.h.length).2≠0 then iM (Io t h) 0 h.j.h.length else iM (TJ t h) 0 h.j.i.length
def jB (t:Types)(h:Host):Int:=(pR t h).2
theorem Aw (t:Types)(y:t.ok)(h:Host):Pua 166 [t.d,h.d] (.tup [dI (pR t h).1,dI (pR t h).2]):=by
 refine Tz.pK ⟨λt=>t==12,λ_=>[]⟩ func166 rfl (λQ l=>?_);have Y:=wa @Host.d.eq_1 @Host.c.eq_1;refine wv (h:=aB (nY t y) wl ?_);refine c8 (λE=>?_) λE=>?_
 .have hE:pR t h=(-1,(cQ t).2):=by unfold pR;rw [if_pos (eL E)]
  exact wv (h:=l _ _ (by simp [go_sem,hE]))
 .have hE0:pR t h=if graphF h.j≠0 then (-1,graphF h.j) else if h.k.length≠h.j.h.length then (-1,20) else if (iM (Io t h) 0 h.j.h.length).2≠0 then iM (Io t h) 0 h.j.h.length else iM (TJ t h) 0 h.j.i.length:=by unfold pR;rw [if_neg (eL E)]
  refine wv (h:=aB (mF h.j) wl ?_);refine c8 (λs=>?_) λs=>?_
  .rw [if_pos (eL s)] at hE0;exact wv (h:=l _ _ (by simp [go_sem,hE0]))
  .rw [if_neg (eL s)] at hE0;have q:graphF h.j=0:=by simpa using s
   have p:=dO q;have L:=aY q;refine dW (λM=>?_) λM=>?_
   .rw [if_pos bZ] at hE0;exact wv (h:=l _ _ (by simp [go_sem,hE0]))
   .rw [if_neg bZ] at hE0;refine wv (h:=bC (λi e H=>(e 2=.adr t.c/\e 3=.adr h.c/\e 9=dI i)/\(i<=h.j.h.length)/\(iM (Io t h) i (h.j.h.length - i)=iM (Io t h) 0 h.j.h.length)) (λi=>h.j.h.length - i) 0 ⟨wg,wi,(by rfl)⟩ λU D i e H B=>?_);obtain ⟨O,R,I⟩:=B;have Y:=wa Y O;refine dW (λg=>?_) λg=>?_
    .have hv:i<h.k.length:=bZ;have z:0<=h.j.h[i]:=(p.1 _ (aC g)).1;have a:=tI (Io t h) g;rw [I] at a;have r:Io t h i=i4 t h.j.h[i] h.k[i]:=by simp only [Io,aA hv,aA g,aD]
     have Y:=xa3 Y g (aA hv) (aA g) @cL.eq_1;refine wo (h:=aI (QK t y h.j.h[i] z h.k[i]) wl ?_);refine dW (λk=>?_) λk=>?_
     .rw [r,if_pos (eL k)] at a;rw [a,if_pos (eL k)] at hE0;exact wv (h:=l _ _ (by simp [go_sem,hE0]))
     .rw [r,if_neg (eL k)] at a;exact wo (h:=wx D (i+1) ⟨wg,wj,(a.symm)⟩)
    .have hN0:iM (Io t h) 0 h.j.h.length=(-1,0):=by rw [<- I,(bZ:h.j.h.length - i=0)];rfl
     rw [hN0,if_neg eG] at hE0;refine wv (h:=bC (λj e H=>(e 2=.adr t.c/\e 3=.adr h.c/\e 11=dI j)/\(j<=h.j.i.length)/\(iM (TJ t h) j (h.j.i.length - j)=pR t h)) (λj=>h.j.i.length - j) 0 ⟨wg,wi,(hE0.symm)⟩ λT C j e H A=>?_);obtain ⟨N,P,G⟩:=A;have Y:=wa Y N;refine dW (λf=>?_) λf=>?_
     .obtain ⟨x,w⟩:=fH (h.j.i[j]);have v:=(p.2 _ (aC f)).2;rw [<- w] at v;have o:x.B.toNat<h.j.h.length:=bZ;have n:x.O.toNat<h.j.h.length:=bZ;have a:=tI (TJ t h) f;rw [G] at a;have b:TJ t h j=if (t.i.length:Int)<=x.type then 6 else if oR t x.type h.j.h[x.B.toNat] h.j.h[x.O.toNat]=true then 0 else 13:=by simp only [TJ,gN,aA f,aD,<- w,aA o,aA n]
      have Y:=xa4 Y f (aA f) (Eq.symm w) (aA o) (aA n);refine dW (λF=>?_) λF=>?_
      .rw [if_pos bZ] at b;rw [b,if_pos bZ] at a;exact wv (h:=l _ _ (by simp [go_sem,a]))
      .rw [if_neg bZ] at b;refine wo (h:=aI (HJ t y x.type h.j.h[x.B.toNat] h.j.h[x.O.toNat]) wl ?_);refine dW (λm=>?_) λm=>?_
       .rw [if_neg (eL m)] at b;rw [b,if_pos bZ] at a;exact wv (h:=l _ _ (by simp [go_sem,a]))
       .rw [if_pos (eL m)] at b;rw [b,if_neg bZ] at a;exact wo (h:=wx C (j+1) ⟨wg,wj,(a.symm)⟩)
     .have hZ:pR t h=(-1,0):=by rw [<- G,(bZ:h.j.i.length - j=0)];rfl
      exact wv (h:=l _ _ (by simp [go_sem,hZ]))
theorem Au (l:Xa0):Pua 319 [dLI l] (.bool (decide l.Nodup)):=by
 refine Tz.p0 func319 rfl λQ u Y=>?_;refine wv (h:=bC (λi e H=>(e 0=dLI l/\e 3=dI i)/\(i<=l.length)/\((l.take i).Nodup)) (λi=>l.length - i) 0 ⟨wg,wi,(by simp)⟩ λD q i e H n=>?_);obtain ⟨z,B,r⟩:=n;have Y:=wa Y z;refine wv (h:=?_);repeat first|intro _|refine ⟨iF,?_⟩
 refine wq (λd=>?_) λd=>?_
 .have Y:=xa1 Y d (aA d);refine wv (h:=bC (λk e H=>(e 0=dLI l/\e 3=dI i/\e 4=dI k)/\(k<=i)/\(∀ j,j<k->∀ g:j<l.length,l[j]≠l[i])) (λk=>i - k) 0 ⟨wg,wi,(by intro j g;omega)⟩ λC p k e H m=>?_);obtain ⟨y,A,c⟩:=m;have Y:=wa Y y;refine c8 (λv=>?_) λv=>?_
  .have hkl:k<l.length:=bZ;have Y:=xa1 Y v (aA hkl);refine dW (λs=>?_) λs=>?_
   .have hnd:¬ l.Nodup:=λo=>by
     have:=(j9 (h₀:=d) (h₁:=hkl) o).1 s;omega
    exact wv (h:=u _ _ (by simp [go_sem,hnd]))
   .exact wo (h:=wx p (k+1) ⟨wg,wj,(by intro j g f;rcases bT j k with hjk|hjk;exact c j hjk f;(obtain rfl:j=k:=bZ;exact λw=>s w.symm))⟩)
  .have hD2:(l.take (i+1)).Nodup:=by
    rw [aF d,sQ];refine ⟨r,by simp,λa x b t=>?_⟩;rw [bU] at t;subst t;obtain ⟨j,g,rfl⟩:=Gb.1 x;exact c j bZ _
   exact wo (h:=wx q (i+1) ⟨wg,wj,(by exact hD2)⟩)
 .have o:l.Nodup:=by rw [aH bZ] at r;exact r
  exact wv (h:=u _ _ (by simp [go_sem,o]))
structure G17 (t:Types) (p g:Graph):Prop where
 v:t.av
 gp:graphF p=0
 gg:graphF g=0
 tp:∀ a∈p.h,0<=a/\a<t.h.length
 tg:∀ a∈g.h,0<=a/\a<t.h.length
theorem G1 {t:Types}{g:Graph}(h:nJ t g=true):∀ a∈g.h,0<=a/\a<t.h.length:=λa ha=>by
 simp only [nJ,aL,b7,iK,insideF] at h;have:=h.1 a ha;simpa using this
theorem rO {t:Types}{p g:Graph}(h:gF t p g=0):G17 t p g:=by
 unfold gF at h;split at h
 .exact absurd h (by assumption)
 .rename_i h1;split at h
  .exact absurd h (by assumption)
  .rename_i h2;split at h
   .exact absurd h (by assumption)
   .rename_i h3;split at h
    .cases h
    .rename_i h4;simp only [c5,b7,not_or,Bool.not_eq_false] at h4;exact ⟨oZ (eL h1),by simpa using h2,by simpa using h3,G1 h4.1,G1 h4.2⟩
def K7 (t:Types)(p g:Graph)(m:Part)(i:Nat):Int :=
 if m.h[i]?.getD 0<0\/(g.h.length:Int)<=m.h[i]?.getD 0 then 6
 else if wO t (p.h[i]?.getD 0) (g.h[(m.h[i]?.getD 0).toNat]?.getD 0)=true then 0 else 13
def iZ (t:Types)(p g:Graph)(m:Part)(inj:Bool):Int :=
 if m.h.length≠p.h.length\/m.i.length≠p.i.length then 20
 else if bS (K7 t p g m) 0 p.h.length≠0 then bS (K7 t p g m) 0 p.h.length
 else if bS (jA p g m) 0 p.i.length≠0 then bS (jA p g m) 0 p.i.length
 else if inj=true/\(¬ m.h.Nodup\/¬ m.i.Nodup) then 5 else 0
def fP (t:Types)(p g:Graph)(m:Part)(inj:Bool):Int:=if gF t p g≠0 then gF t p g else iZ t p g m inj
theorem BU (t:Types)(c:t.av)(a b:Int)(f:0<=a)(g:a<t.h.length)(e:0<=b):Pua 270 [t.d,dI a,dI b] (.bool (wO t b a)):=by
 have:=tE t c b e a.toNat bZ;rw [Int.toNat_of_nonneg f] at this;exact this
theorem Oj (t:Types)(p g:Graph)(s:G17 t p g)(m:Part)(f:Bool):Pua 249 [t.d,p.d,g.d,m.d,.bool f] (dI (iZ t p g m f)):=by
 have T:=aY s.gp;have S:=aY s.gg;have A:=(dO s.gp).2;refine Tz.pK ⟨λt=>t==13||t==14,λr=>match r with|15=>[(0,14),(1,14),(3,14),(4,14),(5,14),(6,14),(7,14),(8,14),(10,14),(11,14),(12,14),(13,14),(0,15),(1,15),(3,15),(4,15),(5,15),(6,15),(7,15),(8,15),(10,15),(11,15),(12,15),(13,15),(14,15),(5,16),(6,16),(7,16),(8,16),(10,16),(11,16),(12,16),(13,16)]|_=>[]⟩ func249 rfl (λQ n=>?_);have Y:=trivial;refine dW (λV=>?_) λV=>?_
 .have hM:iZ t p g m f=20:=by unfold iZ;rw [if_pos bZ]
  exact wv (h:=n _ _ (by simp [go_sem,hM]))
 .have hM:iZ t p g m f=(if bS (K7 t p g m) 0 p.h.length≠0 then bS (K7 t p g m) 0 p.h.length else if bS (jA p g m) 0 p.i.length≠0 then bS (jA p g m) 0 p.i.length else if f=true/\(¬ m.h.Nodup\/¬ m.i.Nodup) then 5 else 0):=by unfold iZ;rw [if_neg bZ]
  have R:m.h.length=p.h.length:=bZ;have P:m.i.length=p.i.length:=bZ;refine wv (h:=bC (λi e H=>(e 5=.adr t.c/\e 6=.adr p.c/\e 7=.adr g.c/\e 8=.adr m.c/\e 4=.bool f/\e 11=dI i)/\(i<=m.h.length)/\(bS (K7 t p g m) i (p.h.length - i)=bS (K7 t p g m) 0 p.h.length)) (λi=>m.h.length - i) 0 ⟨wg,wi,(by rfl)⟩ λI0 G i e H C=>?_);obtain ⟨X,hi,L⟩:=C;have Y:=wa Y X;refine dW (λy=>?_) λy=>?_
  .have hn:i<p.h.length:=bZ;have a:=fE (K7 t p g m) hn;rw [L] at a;have j:K7 t p g m i=(if m.h[i]<0\/(g.h.length:Int)<=m.h[i] then 6 else if wO t p.h[i] (g.h[m.h[i].toNat]?.getD 0)=true then 0 else 13):=by simp only [K7,aA y,aA hn,aD]
   have E:=s.tp _ (aC hn);have Y:=xa2 Y y (aA y) (aA hn);refine dW (λU=>?_) λU=>?_
   .rw [if_pos bZ] at j;rw [j,if_pos bZ] at a;rw [a,if_pos bZ] at hM;exact wv (h:=n _ _ (by simp [go_sem,hM]))
   .have hkb:m.h[i].toNat<g.h.length:=bZ;rw [if_neg bZ,aA hkb,aD] at j;have x:=s.tg _ (aC hkb);have Y:=wa Y (aA hkb);refine wo (h:=aI ((BU t s.v g.h[m.h[i].toNat] p.h[i] x.1 x.2 E.1)) wl ?_);refine dW (λI=>?_) λI=>?_
    .rw [if_neg (eL I)] at j;rw [j,if_pos bZ] at a;rw [a,if_pos bZ] at hM;exact wv (h:=n _ _ (by simp [go_sem,hM]))
    .rw [if_pos (eL I)] at j;rw [j,if_neg bZ] at a;exact wo (h:=wx G (i+1) ⟨wg,wj,(a.symm)⟩)
  .have hN0:bS (K7 t p g m) 0 p.h.length=0:=by rw [<- L,(bZ:p.h.length - i=0)];rfl
   rw [hN0,if_neg bZ] at hM;refine wv (h:=bC (λk e H=>(e 5=.adr t.c/\e 6=.adr p.c/\e 7=.adr g.c/\e 8=.adr m.c/\e 4=.bool f/\e 12=dI k)/\(k<=m.i.length)/\(bS (jA p g m) k (p.i.length - k)=bS (jA p g m) 0 p.i.length)) (λk=>m.i.length - k) 0 ⟨wg,wi,(by rfl)⟩ λI2 F k e H B=>?_);obtain ⟨W,hk,M⟩:=B;have Y:=wa Y W;refine dW (λl=>?_) λl=>?_
   .have hn:k<p.i.length:=bZ;have a:=fE (jA p g m) hn;rw [M] at a;have Z:=A _ (aC hn);have w:p.i[k].B.toNat<m.h.length:=bZ;have u:p.i[k].O.toNat<m.h.length:=bZ;have b:jA p g m k=(if m.i[k]<0\/(g.i.length:Int)<=m.i[k] then 6 else if p.i[k].type≠(g.i[m.i[k].toNat]?.getD bX).type then 13 else if m.h[p.i[k].B.toNat]≠(g.i[m.i[k].toNat]?.getD bX).B\/m.h[p.i[k].O.toNat]≠(g.i[m.i[k].toNat]?.getD bX).O then 11 else 0):=by
     simp only [jA,aA l,aA hn,aD,aA w,aA u]
    have Y:=xa4 Y l (aA l) (aA hn) (aA w) (aA u);refine dW (λK=>?_) λK=>?_
    .rw [if_pos bZ] at b;rw [b,if_pos bZ] at a;rw [a,if_pos bZ] at hM;exact wv (h:=n _ _ (by simp [go_sem,hM]))
    .have hkb:m.i[k].toNat<g.i.length:=bZ;rw [if_neg bZ,aA hkb,aD] at b;have Y:=wa Y (aA hkb);refine dW (λq=>?_) λq=>?_
     .rw [if_pos q] at b;rw [b,if_pos bZ] at a;rw [a,if_pos bZ] at hM;exact wv (h:=n _ _ (by simp [go_sem,hM]))
     .rw [if_neg (eL q)] at b;refine dW (λJ=>?_) λJ=>?_
      .rw [if_pos bZ] at b;rw [b,if_pos bZ] at a;rw [a,if_pos bZ] at hM;exact wv (h:=n _ _ (by simp [go_sem,hM]))
      .rw [if_neg bZ] at b;rw [b,if_neg bZ] at a;exact wo (h:=wx F (k+1) ⟨wg,wj,(a.symm)⟩)
   .have hE0:bS (jA p g m) 0 p.i.length=0:=by rw [<- M,(bZ:p.i.length - k=0)];rfl
    rw [hE0,if_neg bZ] at hM;refine wo (h:=aG (λD=>Au m.h) (λD=>wl) ?_);refine wo (h:=aG (λD=>Au m.i) (λD=>wl) ?_);refine dW (λo=>?_) λo=>?_
    .rw [if_pos (by simpa [qA] using o)] at hM;exact wv (h:=n _ _ (by simp [go_sem,hM]))
    .rw [if_neg (by simpa [qA] using o)] at hM;exact wv (h:=n _ _ (by simp [go_sem,hM]))
theorem Av (t:Types)(e:t.ok)(p g:Graph)(m:Part)(a:Bool):Pua 167 [t.d,p.d,g.d,m.d,.bool a] (dI (fP t p g m a)):=by
 refine Tz.p0 func167 rfl λQ c Y=>?_;refine wv (h:=aB (At t e p g) wl ?_);refine c8 (λb=>?_) λb=>?_
 .exact wv (h:=c _ _ (by simp [go_sem,fP,b]))
 .refine wv (h:=aB (Oj t p g (rO (eL b)) m a) wl ?_);exact wv (h:=c _ _ (by simp [go_sem,fP,b]))
/-! ### the search -/
def Srch.cells (S:Srch)(most:Int)(fd:D):Xa2:=[.list (S.t.h.map NodeTy.c),.list (S.t.i.map EdgeTy.c),dLI S.p.h,.list (S.p.i.map Edge.c),dLI S.g.h,.list (S.g.i.map Edge.c),dLI S.pn,dLI S.pe,.bool S.inj,dI most,fd]
theorem Hy (S:Srch)(a:Int)(f:D)(o:f.W=true)(l:Xa0)(n:Int):Pua 414 [.adr (S.cells a f),dLI l,dI n] (.bool (S.inj&&mem l n)):=by
 refine Tz.p0 func414 rfl λQ s _=>?_;have v:∀ b:Bool,D.N (S.cells a f)=true:=λ_=>by simp [go_sem,Srch.cells,o]
 have Y:=@Srch.cells.eq_1;refine wv (h:=bC (λi e H=>(e 0=.adr (S.cells a f)/\e 1=dLI l/\e 2=dI n/\e 7=dI i)/\(i<=l.length)/\(∀ j,j<i->∀ d:j<l.length,l[j]≠n)) (λi=>l.length - i) 0 ⟨wg,wi,(by intro j d;omega)⟩ λy p i e H m=>?_);obtain ⟨w,x,t⟩:=m;have Y:=wa Y w;refine wv (h:=?_);repeat first|intro _|refine ⟨iF,?_⟩
 refine wq (λc=>?_) λc=>?_
 .have hil:i<l.length:=c.1;have Y:=xa1 Y c (aA hil);refine dW (λr=>?_) λr=>?_
  .have g:mem l n=true:=(mem_iff _ _).2 (r ▸ aC hil);have q:S.inj=true:=c.2;exact wv (h:=s _ _ (by simp [go_sem,g,q]))
  .exact wo (h:=wx p (i+1) ⟨wg,wj,(by intro j d k;rcases bT j i with hji|hji;exact t j hji k;(obtain rfl:j=i:=bZ;exact r))⟩)
 .have hR:(S.inj&&mem l n)=false:=by
   cases q:S.inj
   .rfl
   .simp [q] at c;rw [iL,aW];intro g;obtain ⟨j,d,u⟩:=aO ((mem_iff _ _).1 g);exact t j bZ d u
  exact wv (h:=s _ _ (by simp [go_sem,hR]))
theorem Dy (a b:Int):(a==b)=decide (a=b):=by rw [aU];simp
theorem A7 (f:Nat->Bool)(k:Nat):(List.range (k+1)).any f=((List.range k).any f||f k):=by rw [dM,CL];simp
theorem QJ (S:Srch)(L:graphF S.p=0)(P:graphF S.g=0)(d:Int)(y:D)(R:y.W=true)(l:Xa0):Pua 412 [.adr (S.cells d y),dLI l] (.bool (wJ S l)):=by
 have A:=(dO L).2;have O:=aY L;have N:=aY P;refine Tz.pK ⟨λt=>t==6||t==9,λ_=>[]⟩ func412 rfl (λQ M=>?_);have Y:=@Srch.cells.eq_1;refine wv (h:=bC (λi e H=>(e 0=.adr (S.cells d y)/\e 1=dLI l/\e 5=dI i)/\(i<=S.p.i.length)/\(∀ j,j<i->Cp S l j=true)) (λi=>S.p.i.length - i) 0 ⟨wg,wi,(by intro j C;omega)⟩ λZ s i e H F=>?_);obtain ⟨V,W,I⟩:=F;have Y:=wa Y V;refine dW (λm=>?_) λm=>?_
 .obtain ⟨x,v⟩:=fH (S.p.i[i]);have z:=(A _ (aC m)).2;rw [<- v] at z;have f:Cp S l i=(decide ((l.length:Int)<=x.B)||decide ((l.length:Int)<=x.O)||(List.range S.g.i.length).any (AO S l i)):=by unfold Cp;rw [aA m,aD,<- v]
  have Y:=xa3 Y m (aA m) (Eq.symm v) @Edge.c.eq_1;refine dW (λK=>?_) λK=>?_
  .have hKi:Cp S l i=true:=by rw [f];rcases K with h|h<;>simp<;>omega
   exact wo (h:=wx s (i+1) ⟨wg,wj,(by intro j C;rcases bT j i with hji|hji;exact I j hji;(obtain rfl:j=i:=bZ;exact hKi))⟩)
  .have hf:x.B.toNat<l.length:=bZ;have r:x.O.toNat<l.length:=bZ;have T:∀ k (B:k<S.g.i.length),AO S l i k=(decide (x.type=S.g.i[k].type)&&(decide (S.g.i[k].B=l[x.B.toNat])&&decide (S.g.i[k].O=l[x.O.toNat]))):=λk B=>by
    simp only [AO,Zc,Vm,aA B,aA m,aD,<- v,aA hf,aA r];simp [eq_comm (a:=x.type)]
   have Y:=xa2 Y K (aA hf) (aA r);refine wv (h:=bC (λk e H=>∃ q:Nat,∃ b:Bool,(e 0=.adr (S.cells d y)/\e 1=dLI l/\e 5=dI i/\e 6=.ptr q 1 0 0/\e 7=.bool b/\e 8=dI k)/\(H.get q=some ⟨153,3,[[dI x.type,dI x.B,dI x.O]],false⟩)/\(q<H.next)/\(k<=S.g.i.length)/\(b=(List.range k).any (AO S l i))) (λk=>S.g.i.length - k) 0 ⟨H.next,false,wg,wn,wn,wi,(by rfl)⟩ λX J k e H E=>?_);obtain ⟨q,b,U,u,o,B,G⟩:=E;have Y:=xa2 Y U u (bP o);refine dW (λw=>?_) λw=>?_
   .have hHk:=T k w;have Y:=xa4 Y w (aA w) hHk @Dy @gA;exact wo (h:=wx J (k+1) ⟨q,((b||AO S l i k)),wg,wn,wn,wj,(by rw [A7,<- G])⟩)
   .refine dW (λn=>?_) λn=>?_
    .have hR:wJ S l=false:=by
      simp only [wJ,GV,bY];refine ⟨i,m,?_⟩;rw [f,<- show k=S.g.i.length by omega,<- G];simp [n];omega
     exact wv (h:=M _ _ (by simp [go_sem,hR]))
    .have hKi:Cp S l i=true:=by rw [f,<- show k=S.g.i.length by omega,<- G];simp [n]
     exact wo (h:=wx s (i+1) ⟨wg,wj,(by intro j C;rcases bT j i with hji|hji;exact I j hji;(obtain rfl:j=i:=bZ;exact hKi))⟩)
 .have hR:wJ S l=true:=by
   simp only [wJ,b6,bY];exact λj C=>I j bZ
  exact wv (h:=M _ _ (by simp [go_sem,hR]))
structure SrS (f o:Nat) (S:Srch) (most:Nat) (out:List Part) (H:AHeap):Prop where
 bf:H.get f=some ⟨391,11,[S.cells most (.own o out.length)],false⟩
 bo:H.get o=some ⟨36,2,out.map Part.c,false⟩
 le:out.length<=most+1
@[go_sem] theorem xE (l:List Part):D.V (l.map Part.c)=true:=dU _ (λp=>by simp [Part.c,D.N,qU]) l
theorem Ok (S:Srch)(hp:graphF S.p=0)(hg:graphF S.g=0)(b4:S.pe.length=S.p.i.length)(i:Nat)(b7:i<=5000)(ns:Xa0)(b6:ns.length=S.p.h.length)(f o:Nat)(hd:f≠o) :
  ∀ (d:Nat) (es:Xa0) (m:List Part) (G:AHeap) (Q:D->AHeap->Prop),es.length+d=S.p.i.length->f<G.next->o<G.next->SrS f o S i m G ->
  (∀ H',SrS f o S i (Jt S (i+1) ns d es m) H'->(∀ j,j≠f->j≠o->j<G.next->H'.get j=G.get j)->G.next<=H'.next->Q (.tup []) H')->ACalls prog 413 [.ptr f 1 0 0,dLI ns,dLI es] G Q:=by
 have b9:=aY hp;have b8:=aY hg;have a4:∀ x∈S.p.i,(0<=x.B/\x.B<S.p.h.length)/\(0<=x.O/\x.O<S.p.h.length):=λx hx=>((dO hp).2 x hx).2;intro d;induction d using Nat.strongRecOn with
 | _ d ih =>
 intro es m G Q hk a6 a2 hF hQ;obtain ⟨gf,go,P⟩:=hF;have a7:=hd.symm;have ff:=bP a6;have fo:=bP a2;refine (Tz.cK ⟨λt=>t==7||t==9||t==35||t==38||t==128,λr=>match r with|3=>[(2,5),(3,5),(4,5),(2,7),(3,7),(4,7),(2,8),(3,8),(4,8),(5,8),(7,8),(2,10),(3,10),(4,10),(2,12),(3,12),(4,12)]|_=>[]⟩ func413 rfl ?_);have Y:=xa6 gf go hd a7 ff fo @Part.c.eq_1 @Srch.cells.eq_1;refine kI (λh0=>?_) λh0=>?_
 .have hfull:i+1<=m.length:=bZ;refine wv (h:=?_);exact hQ _ (by rw [G9 _ _ _ hfull];exact ⟨gf,go,P⟩) (by intro j _ _ _;rfl) (by first|exact bD _|exact Nat.le_add_right _ _)
 .have hnf:¬ i+1<=m.length:=bZ;refine kI (λs=>?_) λs=>?_
  .have hk0:d=0:=bZ;subst hk0;refine wp (h:=?_);exact hQ _ (by simp only [Jt];rw [if_neg hnf];exact ⟨by simp [go_sem,Y],by simp [go_sem,Y],by simp;omega⟩) (by intro j v s z;simp [go_sem,v,s,bP z]) (by first|exact bD _|(simp [go_sem]<;>omega)|(simp only [go_sem];split<;>omega))
  .obtain ⟨J,rfl⟩:∃ J,d=J+1:=⟨d - 1,bZ⟩;have F:es.length<S.p.i.length:=bZ;have N:es.length<S.pe.length:=bZ;have V:=a4 _ (aC F);have U:S.p.i[es.length].B.toNat<ns.length:=bZ;have R:S.p.i[es.length].O.toNat<ns.length:=bZ;have O:∀ j (hj:j<S.g.i.length),R9 S ns es j=((decide (S.pe[es.length]<0)||decide (S.pe[es.length]=(j:Int)))&&(!(S.inj&&mem es j)&&(decide (S.p.i[es.length].type=S.g.i[j].type)&&(decide (S.g.i[j].B=ns[S.p.i[es.length].B.toNat])&&decide (S.g.i[j].O=ns[S.p.i[es.length].O.toNat]))))):=λj hj=>by
    simp only [R9,AT,AO,Zc,Vm,aA hj,aA F,aA N,aD,aA U,aA R];simp [eq_comm (a:=S.p.i[es.length].type)]
   have Y:=xa3 Y (aA F) (aA N) (aA U) (aA R);refine wp (h:=bC (λj e H=>∃ w:Nat,∃ u:List Part,(e 0=.ptr f 1 0 0/\e 1=dLI ns/\e 2=dLI es/\e 6=dI es.length/\e 7=.ptr w 1 0 0/\e 8=dI j)/\(H.get f=some ⟨391,11,[S.cells i (.own o u.length)],false⟩)/\(f<H.next)/\(H.get o=some ⟨36,2,u.map Part.c,false⟩)/\(o<H.next)/\(H.get w=some ⟨153,3,[S.p.i[es.length].c],false⟩)/\(w<H.next)/\(w=G.next+10)/\(j<=S.g.i.length)/\(u.length<=i+1)/\(u=(List.range j).foldl (λu k=>if R9 S ns es k=true then Jt S (i+1) ns J (es++[(k:Int)]) u else u) m)/\(∀ q,q≠f->q≠o->q<G.next->H.get q=G.get q)/\(G.next+1<=H.next)) (λj=>S.g.i.length - j) 0 ⟨(G.next+10),m,wg,wn,wn,wn,wn,wn,wn,(by rfl),wi,(by exact P),(by rfl),(by intro q v s z;simp [go_sem,v,s,bP z]),(by simp [go_sem])⟩ λI0 W j e H a5=>?_);obtain ⟨w,u,E0,a1,L,a0,K,I,C,M,hj,n,E,y,b5⟩:=a5;have b2:=xa1 (dE (bZ:w≠o)) (dE (bZ:w≠f)) (dE (bZ:o≠f));have Y:=xa8 Y E0 a1 (bP L) a0 (bP K) I (bP C) @Edge.c.eq_1 b2;refine kI (λh6=>?_) λh6=>?_
   .have hEj:=O j h6;have c1:=V.1;have c0:=V.2;have o1:(0<=S.pe[es.length]->S.pe[es.length]=(j:Int))->(S.inj=true->mem es (j:Int)=false)->(S.pe[es.length]<0\/S.pe[es.length]=(j:Int))/\(S.inj=false\/mem es (j:Int)=false):=λa b=>⟨bZ,by cases hI:S.inj;exact .inl rfl;exact .inr (b hI)⟩;have o2:(S.pe[es.length]<0\/S.pe[es.length]=(j:Int))->(S.inj=false\/mem es (j:Int)=false)->S.p.i[es.length].type=S.g.i[j].type->0<=S.p.i[es.length].B/\S.p.i[es.length].B<(ns.length:Int):=λ_ _ _=>by omega
    have o3:(0<=S.pe[es.length]->S.pe[es.length]=(j:Int))->(S.inj=true->mem es (j:Int)=false)->S.p.i[es.length].type=S.g.i[j].type->((S.pe[es.length]<0\/S.pe[es.length]=(j:Int))/\(S.inj=false\/mem es (j:Int)=false))/\S.p.i[es.length].type=S.g.i[j].type:=λa b c=>⟨o1 a b,c⟩;have o4:(S.pe[es.length]<0\/S.pe[es.length]=(j:Int))->(S.inj=false\/mem es (j:Int)=false)->S.p.i[es.length].type=S.g.i[j].type->S.g.i[j].B=ns[S.p.i[es.length].B.toNat]->0<=S.p.i[es.length].O/\S.p.i[es.length].O<(ns.length:Int):=λ_ _ _ _=>by omega
    have o5:(0<=S.pe[es.length]->S.pe[es.length]=(j:Int))->(S.inj=true->mem es (j:Int)=false)->S.p.i[es.length].type=S.g.i[j].type->S.g.i[j].B=ns[S.p.i[es.length].B.toNat]->(((S.pe[es.length]<0\/S.pe[es.length]=(j:Int))/\(S.inj=false\/mem es (j:Int)=false))/\S.p.i[es.length].type=S.g.i[j].type)/\S.g.i[j].B=ns[S.p.i[es.length].B.toNat]:=λa b c d=>⟨⟨o1 a b,c⟩,d⟩;have Y:=xa1 Y h6 (aA h6);refine wp (h:=wK (λhg=>Hy S i (.list (u.map Part.c)) (by simp [D.W,xE]) es j) wrq (λhg=>wl) (λhg=> rfl) rfl wdq ?_);refine kI (λh9=>?_) λh9=>?_
    .have hE:R9 S ns es j=false:=by
      rw [hEj,aW];intro hT;simp at hT;obtain ⟨a,b,c,d,e⟩:=hT;rcases h9 with (((h|h)|h)|h)|h
      .omega
      .rcases b with b|b
       .rw [b] at h;cases h.1
       .rw [b] at h;cases h.2
      .exact h c
      .exact h d
      .exact h e
     obtain ⟨B,l⟩:∃ x,x=u:=⟨_,rfl⟩;have Y:=xa2 Y @Part.c.eq_1 @Edge.c.eq_1 l;exact wp (h:=wx W (j+1) ⟨w,B,wg,wn,wn,wn,wn,wn,wn,(by exact M),wj,(by rw [l];first|exact n|exact En _ _ _ _ _ n|exact En _ _ _ _ n),(by rw [dN,<- E];first|exact l|(rw [l];first|rw [if_pos hE]|rw [if_neg (by rw [hE];simp)])),(by first|exact A|(intro q v s z;simp [go_sem,v,s,bP (bZ:q<H.next)];exact y q v s z)),(by first|omega|(simp [go_sem];omega))⟩)
    .have hE:R9 S ns es j=true:=by
      obtain ⟨⟨⟨⟨a,b⟩,c⟩,d⟩,e⟩:=h9;rw [hEj];simp [c,d,e];exact ⟨bZ,by cases hI:S.inj;exact .inl rfl;exact .inr (b hI)⟩
     obtain ⟨B,l⟩:∃ x,x=Jt S (i+1) ns J (es++[(j:Int)]) u:=⟨_,rfl⟩;have Y:=xa2 Y @Part.c.eq_1 @Edge.c.eq_1 h9;refine wp (h:=?_);refine tY (args':=[.ptr f 1 0 0,dLI ns,dLI (es++[(j:Int)])]) (by simp [go_sem,Y,dLI]) rfl ?_;unfold e8;refine ih J bZ (es++[(j:Int)]) u _ _ (by simp;omega) (by simp [go_sem];omega) (by simp [go_sem];omega) ⟨by simp [go_sem,Y],by simp [go_sem,Y],n⟩ (λH3 X T a3=>?_);rw [<- l] at X;obtain ⟨b0,a9,b3⟩:=X;have Z:=T w bZ bZ (by simp [go_sem];omega);simp [go_sem,Y] at Z;simp [go_sem] at a3;have A:∀ j,j≠f->j≠o->j<G.next->H3.get j=G.get j:=λj v s z=>by
      have e1:=bP (bZ:j<H.next);rw [T j v s (by simp [go_sem];omega)];simp [go_sem,v,s,e1];exact y j v s z
     have b1:=xa1 (bP (bZ:f<H3.next)) (bP (bZ:o<H3.next)) (bP (bZ:w<H3.next));have Y:=xa3 Y b0 a9 Z b1;exact wp (h:=wx W (j+1) ⟨w,B,wg,wn,wn,wn,wn,wn,wn,(by exact M),wj,(by rw [l];first|exact n|exact En _ _ _ _ _ n|exact En _ _ _ _ n),(by rw [dN,<- E];first|exact l|(rw [l];first|rw [if_pos hE]|rw [if_neg (by rw [hE];simp)])),(by first|exact A|(intro q v s z;simp [go_sem,v,s,bP (bZ:q<H.next)];exact y q v s z)),(by first|omega|(simp [go_sem];omega))⟩)
   .have hJ:j=S.g.i.length:=bZ;have a8:Jt S (i+1) ns (J+1) es m=u:=by simp only [Jt];rw [if_neg hnf,E,hJ]
    refine wv (h:=?_);exact hQ _ (by rw [a8];exact ⟨by assumption,by assumption,n⟩) y bZ
theorem Oi (S:Srch)(y:G17 S.t S.p S.g)(b3:S.pn.length=S.p.h.length)(a1:S.pe.length=S.p.i.length)(i:Nat)(a3:i<=5000)(f o:Nat)(hd:f≠o) :
  ∀ (d:Nat) (ns:Xa0) (l:List Part) (G:AHeap) (Q:D->AHeap->Prop),ns.length+d=S.p.h.length->f<G.next->o<G.next->SrS f o S i l G ->
  (∀ H',SrS f o S i (Qr S (i+1) d ns l) H'->(∀ j,j≠f->j≠o->j<G.next->H'.get j=G.get j)->G.next<=H'.next->Q (.tup []) H')->ACalls prog 408 [.ptr f 1 0 0,dLI ns] G Q:=by
 have b5:=aY y.gp;have b4:=aY y.gg;intro d;induction d using Nat.strongRecOn with
 | _ d ih =>
 intro ns l G Q hk L I hF hQ;obtain ⟨gf,go,J⟩:=hF;have a5:=hd.symm;have ff:=bP L;have fo:=bP I;refine (Tz.cK ⟨λt=>t==97,λ_=>[]⟩ func408 rfl ?_);have Y:=xa6 gf go hd a5 ff fo @Part.c.eq_1 @Srch.cells.eq_1;refine wp (h:=wK (λK=>QJ S y.gp y.gg i (.list (l.map Part.c)) (by simp [D.W,xE]) ns) wrq (λK=>wl) (λK=> rfl) rfl wdq ?_);refine kI (λh0=>?_) λh0=>?_
 .have hX:Qr S (i+1) d ns l=l:=by
   cases d<;>(simp only [Qr];rw [if_pos];rcases h0 with h|h;exact .inl bZ;exact .inr (eL h))
  refine wv (h:=?_);exact hQ _ (by rw [hX];exact ⟨gf,go,J⟩) (by intro j _ _ _;rfl) (by first|exact bD _|exact Nat.le_add_right _ _)
 .have hnf:¬ (i+1<=l.length\/wJ S ns=false):=by rintro (h|h);(omega);(simp [h] at h0)
  refine kI (λn=>?_) λn=>?_
  .have hk0:d=0:=bZ;subst hk0;refine wv (h:=?_);refine D1 (args':=[.ptr f 1 0 0,dLI ns,dLI []]) (by simp [go_sem,Y,dLI,QU]) ?_;unfold e8;refine Ok S y.gp y.gg a1 i a3 ns bZ f o hd S.p.i.length [] l _ _ eG (by first|exact L|exact Nat.lt_add_right _ L) (by first|exact I|exact Nat.lt_add_right _ I) ⟨gf,go,J⟩ (λH3 A M z=>?_);refine wv (h:=?_);exact hQ _ (by simp only [Qr];rw [if_neg hnf];exact A) (λj w n B=>M j w n (by first|exact B|exact Nat.lt_add_right _ B)) (by first|exact z|exact eI (Nat.le_add_right _ _) z)
  .obtain ⟨O,rfl⟩:∃ O,d=O+1:=⟨d - 1,bZ⟩;have N:ns.length<S.p.h.length:=bZ;have T:ns.length<S.pn.length:=bZ;have a6:=y.tp _ (aC N);have U:∀ j (hj:j<S.g.h.length),KO S ns j=((decide (S.pn[ns.length]<0)||decide (S.pn[ns.length]=(j:Int)))&&(!(S.inj&&mem ns j)&&wO S.t S.p.h[ns.length] S.g.h[j])):=λj hj=>by
    simp only [KO,AT,aA hj,aA N,aA T,aD]
   have Y:=xa1 Y (aA N) (aA T);refine wv (h:=bC (λj e H=>∃ r:List Part,(e 0=.ptr f 1 0 0/\e 1=dLI ns/\e 4=dI ns.length/\e 5=dI j)/\(H.get f=some ⟨391,11,[S.cells i (.own o r.length)],false⟩)/\(f<H.next)/\(H.get o=some ⟨36,2,r.map Part.c,false⟩)/\(o<H.next)/\(j<=S.g.h.length)/\(r.length<=i+1)/\(r=(List.range j).foldl (λr k=>if KO S ns k=true then Qr S (i+1) O (ns++[(k:Int)]) r else r) l)/\(∀ q,q≠f->q≠o->q<G.next->H.get q=G.get q)/\(G.next<=H.next)) (λj=>S.g.h.length - j) 0 ⟨l,wg,wn,wn,wn,wn,wi,(by exact J),(by rfl),(by intro q w n B;rfl),(by simp [go_sem])⟩ λI0 W j e H a4=>?_);obtain ⟨r,E0,a0,R,Z,P,hj,s,F,u,a2⟩:=a4;have b1:=dE (bZ:o≠f);have Y:=xa5 Y E0 a0 (bP R) Z (bP P) b1;refine kI (λX=>?_) λX=>?_
   .have hEj:=U j X;have o1:(0<=S.pn[ns.length]->S.pn[ns.length]=(j:Int))->(S.inj=true->mem ns (j:Int)=false)->(S.pn[ns.length]<0\/S.pn[ns.length]=(j:Int))/\(S.inj=false\/mem ns (j:Int)=false):=λa b=>⟨bZ,by cases hI:S.inj;exact .inl rfl;exact .inr (b hI)⟩;have V:=y.tg _ (aC X);have Y:=xa1 Y X (aA X);refine wp (h:=wK (λK=>Hy S i (.list (r.map Part.c)) (by simp [D.W,xE]) ns j) wrq (λK=>wl) (λK=> rfl) rfl wdq ?_);refine wp (h:=fX (λK=>(by have hq:=BU S.t y.v S.g.h[j] S.p.h[ns.length] V.1 V.2 a6.1;unfold Types.d Types.c dI at hq;exact hq)) (λK=>wl) ?_);refine kI (λh7=>?_) λh7=>?_
    .have hE:KO S ns j=false:=by
      rw [hEj,aW];intro hT;simp at hT;obtain ⟨a,b,c⟩:=hT;rcases h7 with (h|h)|h
      .omega
      .rcases b with b|b
       .rw [b] at h;cases h.1
       .rw [b] at h;cases h.2
      .rw [c] at h;cases h
     obtain ⟨E,m⟩:∃ x,x=r:=⟨_,rfl⟩;have Y:=xa1 Y @Part.c.eq_1 m;exact wp (h:=wx W (j+1) ⟨E,wg,wn,wn,wn,wn,wj,(by rw [m];first|exact s|exact Uq y.gp _ _ s),(by rw [dN,<- F,m];first|rw [if_pos hE]|rw [if_neg (by rw [hE];simp)]),(by first|exact C|exact u|(intro q w n B;simp [go_sem,w,n,bP (bZ:q<H.next)];exact u q w n B)),(by first|omega|(simp [go_sem];omega))⟩)
    .have hE:KO S ns j=true:=by
      obtain ⟨⟨a,b⟩,c⟩:=h7;rw [hEj];simp [c];exact ⟨bZ,by cases hI:S.inj;exact .inl rfl;exact .inr (b hI)⟩
     obtain ⟨E,m⟩:∃ x,x=Qr S (i+1) O (ns++[(j:Int)]) r:=⟨_,rfl⟩;have Y:=xa1 Y @Part.c.eq_1 h7;refine wp (h:=?_);refine tY (args':=[.ptr f 1 0 0,dLI (ns++[(j:Int)])]) (by simp [go_sem,Y,dLI]) rfl ?_;unfold e8;refine ih O bZ (ns++[(j:Int)]) r _ _ (by simp;omega) (by simp [go_sem];omega) (by simp [go_sem];omega) ⟨by simp [go_sem,Y],by simp [go_sem,Y],s⟩ (λH3 A M z=>?_);rw [<- m] at A;obtain ⟨a9,a8,b2⟩:=A;simp [go_sem] at z;have C:∀ j,j≠f->j≠o->j<G.next->H3.get j=G.get j:=λj w n B=>by
      have e1:=bP (bZ:j<H.next);rw [M j w n (by simp [go_sem];omega)];simp [go_sem,w,n,e1];exact u j w n B
     have b0:=xa0 (bP (bZ:f<H3.next)) (bP (bZ:o<H3.next));have Y:=xa2 Y a9 a8 b0;exact wp (h:=wx W (j+1) ⟨E,wg,wn,wn,wn,wn,wj,(by rw [m];first|exact s|exact Uq y.gp _ _ s),(by rw [dN,<- F,m];first|rw [if_pos hE]|rw [if_neg (by rw [hE];simp)]),(by first|exact C|exact u|(intro q w n B;simp [go_sem,w,n,bP (bZ:q<H.next)];exact u q w n B)),(by first|omega|(simp [go_sem];omega))⟩)
   .have hJ:j=S.g.h.length:=bZ;have a7:Qr S (i+1) (O+1) ns l=r:=by simp only [Qr];rw [if_neg hnf,F,hJ]
    refine wv (h:=?_);exact hQ _ (by rw [a7];exact ⟨by assumption,by assumption,s⟩) u a2
@[go_sem] theorem adF {n:Nat}{c:Xa2}(h:D.N c=true):D.V (List.replicate n c)=true:=by
 induction n with
 | zero=>rfl
 | succ n ih=>simp [p5,D.V,h,ih]
theorem OO (l:List Part):eU (l.map Part.c)=l.map Part.c:=jL λc hc=>by
 rw [aV] at hc;obtain ⟨x,_,rfl⟩:=hc;simp [Part.c,jM,mM,dLI,c7]
theorem Tf (S:Srch)(n:G17 S.t S.p S.g)(f:S.pn.length=S.p.h.length)(i:S.pe.length=S.p.i.length)(a:Nat)(j:a<=5000) :
  Pua 397 [S.t.d,S.p.d,S.g.d,.agg [dLI S.pn,dLI S.pe],.bool S.inj,dI a] (.list (((CI S).take (a+1)).map Part.c)):=by
 have b:Qr S (a+1) S.p.h.length [] []=(CI S).take (a+1):=by rw [Qq n.gp (a+1) _ _ _ eG];simp [CI]
 obtain ⟨L,s⟩:=fH ((CI S).take (a+1));rw [<- s] at b ⊢;refine pH (by first|rfl|(simp [go_sem];done)) (λQ r=>(Tz.cK ⟨λt=>t==21,λ_=>[]⟩ func397 rfl ?_));have Y:=trivial;refine wv (h:=?_);refine tK (.step (.refl _) 0 0 10 36 2 _ _ (by simp [go_sem];rfl) rfl rfl rfl) ?_;simp [go_sem];refine D1 (args':=[.ptr 0 1 0 0,dLI []]) (by simp [go_sem,dLI,QU]) ?_;unfold e8;refine Oi S n f i a j 0 1 bZ S.p.h.length [] [] _ _ eG (by simp [go_sem]) (by simp [go_sem]) ⟨by simp [go_sem,Srch.cells,Types.c,Graph.c,dLI,dI],by simp [go_sem],by simp⟩ (λu e q o=>?_);rw [b] at e;obtain ⟨l,k,m⟩:=e;have Y:=xa2 Y l k @Srch.cells.eq_1;refine wv (h:=?_);exact r _ _ (by simp [go_sem,Y,mM,OO])
def dH (x:Term)(vs:Xa0):Int:=if x.R<0 then x.add else vs[x.R.toNat]?.getD 0+x.add
def Sm (vs:Xa0):Prop:=∀ v∈vs,-4000000<=v/\v<=4000000
theorem Sm.get {vs:Xa0}(h:Sm vs){k:Nat}(hk:k<vs.length) : -4000000<=vs[k]/\vs[k]<=4000000:=h _ (aC hk)
def q7 (x:Term)(n:Nat):Prop:=(-1<=x.R/\x.R<n)/\(-1000000<=x.add/\x.add<=1000000)
theorem r9 (x:Term)(vs:Xa0)(e:q7 x vs.length)(f:Sm vs):Pua 254 [.agg x.c,dLI vs] (dI (dH x vs)):=by
 have a:=e;obtain ⟨⟨l,k⟩,j,i⟩:=a;refine Tz.p0 func254 rfl λQ b _=>?_;have Y:=@Term.c.eq_1;refine c8 (λd=>?_) λd=>?_
 .exact wv (h:=b _ _ (by simp [go_sem,dH,d]))
 .have hk:x.R.toNat<vs.length:=bZ;have g:=f.get hk;have Y:=wa Y (aA hk);exact wo (h:=b _ _ (by simp [go_sem,dH,(bZ:¬ x.R<0),aA hk]))
theorem kK (x:Term)(vs:Xa0)(d:q7 x vs.length)(f:Sm vs):Pua 177 [.agg x.c,dLI vs] (.tup [dI (dH x vs),dI 0]):=by
 have a:=d;obtain ⟨⟨k,j⟩,i,g⟩:=a;refine Tz.p0 func177 rfl λQ e _=>?_;have Y:=@Term.c.eq_1;refine dW (λb=>?_) λb=>?_
 .have Y:=wa Y b;exact wv (h:=e _ _ wy)
 .refine wv (h:=aB (r9 x vs d f) wl ?_);have Y:=wa Y b;exact wv (h:=e _ _ wy)
theorem FD (x:Term)(vs:Xa0)(f:q7 x vs.length)(g:Sm vs):Pua 366 [.agg x.c,dLI vs] (.tup [dI (dH x vs),.bool true]):=by
 have a:=f;obtain ⟨⟨m,l⟩,k,j⟩:=a;refine Tz.p0 func366 rfl λQ b _=>?_;have Y:=@Term.c.eq_1;refine c8 (λd=>?_) λd=>?_
 .exact wv (h:=b _ _ (by simp [go_sem,dH,d]))
 .refine dW (λe=>?_) λe=>?_
  .have Y:=xa1 Y d e;exact wv (h:=b _ _ wy)
  .have hk:x.R.toNat<vs.length:=bZ;have i:=g.get hk;have Y:=wa Y (aA hk);exact wo (h:=b _ _ (by simp [go_sem,dH,aA hk];omega))
def By (x:Test)(vs:Xa0):Bool:=(decide (x.F=1)&&decide (dH x.left vs<=dH x.right vs))||(decide (x.F=2)&&decide (dH x.left vs=dH x.right vs))
def Jh (x:Test)(n:Nat):Prop:=(x.F=1\/x.F=2)/\q7 x.left n/\q7 x.right n
theorem Oz (x:Test)(vs:Xa0)(b:Jh x vs.length)(a:Sm vs):Pua 320 [.agg x.c,dLI vs] (.bool (By x vs)):=by
 obtain ⟨g,e,d⟩:=b;refine Tz.p0 func320 rfl λQ f _=>?_;have Y:=@Test.c.eq_1;refine wv (h:=?_);refine aB (FD x.left vs e a) wl ?_;refine wv (h:=?_);refine aB (FD x.right vs d a) wl ?_;refine wv (h:=?_);repeat first|intro _|refine ⟨iF,?_⟩
 exact f _ _ (by simp [go_sem,By,Dy])
def mH (h:Host)(m:Part)(s:Slot):Int:=(h.k[(m.h[s.node.toNat]?.getD 0).toNat]?.getD [])[s.P.toNat]?.getD 0
def lS (st:Xa0 × List Bool)(s:Slot):Bool:=decide (0<=s.C.R)&&!(st.2[s.C.R.toNat]?.getD false)
def mY (h:Host)(m:Part)(st:Xa0 × List Bool)(s:Slot):Xa0 × List Bool :=
 if lS st s=true then (st.1.set s.C.R.toNat (mH h m s - s.C.add),st.2.set s.C.R.toNat true) else st
def j6 (h:Host)(m:Part):Xa0 × List Bool->List Slot->Option (Xa0 × List Bool)
 | st,[]=>some st
 | st,s :: l=>if dH s.C (mY h m st s).1=mH h m s then j6 h m (mY h m st s) l else none
theorem Ai (h:Host)(m:Part)(s:Slot):∀ (l:List Slot) (st:Xa0 × List Bool),j6 h m st (l++[s])=(j6 h m st l).bind λq=>if dH s.C (mY h m q s).1=mH h m s then some (mY h m q s) else none
 | [],st=>by simp [j6]
 | a :: l,st=>by
  simp only [dP,j6];split
  .exact Ai h m s l _
  .rfl
theorem Fi (h:Host)(m:Part):∀ (l r:List Slot) (st:Xa0 × List Bool),j6 h m st l=none->j6 h m st (l++r)=none
 | [],r,st,hn=>by simp [j6] at hn
 | a :: l,r,st,hn=>by
  simp only [dP,j6] at hn ⊢;split at hn
  .rename_i he;rw [if_pos he];exact Fi h m l r _ hn
  .rename_i he;rw [if_neg he]
theorem u9 {h:Host}{m:Part}{l:List Slot}{i:Nat}(d:i<l.length){a q:Xa0 × List Bool}(c:j6 h m a (l.take i)=some q) :
  (dH l[i].C (mY h m q l[i]).1=mH h m l[i]->j6 h m a (l.take (i+1))=some (mY h m q l[i]))/\(dH l[i].C (mY h m q l[i]).1≠mH h m l[i]->j6 h m a l=none):=by
 have e:l.take (i+1)=l.take i++[l[i]]:=aF d;refine ⟨λb=>?_,λb=>?_⟩
 .rw [e,Ai,c];simp [b]
 .have hn:j6 h m a (l.take (i+1))=none:=by rw [e,Ai,c];simp [b]
  have:=Fi h m _ (l.drop (i+1)) a hn;rw [List.take_append_drop] at this;exact this
def fK (p:Pattern)(h:Host)(m:Part)(vs:Xa0):Xa0 × Int :=
 match j6 h m (vs++List.replicate (p.vars.toNat - vs.length) 0,List.replicate vs.length true++List.replicate (p.vars.toNat - vs.length) false) p.q with
 | none=>([],11)
 | some q=>if p.I.all (λx=>By x q.1)=true then (q.1,0) else ([],16)
structure Mat where
 m:Part
 vars:Xa0
def Mat.c (x:Mat):Xa2:=[dLI x.m.h,dLI x.m.i,dLI x.vars]
def Mat.d (x:Mat):D:=.agg x.c
@[go_sem] theorem Mat.W (x:Mat):D.N x.c=true:=by simp [Mat.c,D.N,qU]
@[go_sem] theorem aeW (l:List Mat):D.V (l.map Mat.c)=true:=dU _ Mat.W l
def Pu (l:List Part):List Part × Int:=if 5000<(l.take 5001).length then ([],3) else (l.take 5001,0)
def Dl (n:Int)(l:Xa0)(i:Nat):Int:=if l[i]?.getD 0 < -1\/n<=l[i]?.getD 0 then 6 else 0
def oQ (l:Xa0)(n:Int):Int:=bS (Dl n l) 0 l.length
def oV (t:Types)(p g:Graph)(q:Part)(inj:Bool):List Part × Int :=
 if gF t p g≠0 then ([],gF t p g)
 else if q.h.length≠p.h.length\/q.i.length≠p.i.length then ([],20)
 else if oQ q.h g.h.length≠0 then ([],oQ q.h g.h.length)
 else if oQ q.i g.i.length≠0 then ([],oQ q.i g.i.length)
 else Pu (CI ⟨t,p,g,q.h,q.i,inj⟩)
def AC (n:Nat)(at_ im:Xa0):Xa0:=(List.range at_.length).foldl (λacc i=>acc.set (at_[i]?.getD 0).toNat (im[i]?.getD 0)) (List.replicate n (-1))
def qI (c:Part)(q:Pattern)(m:Part):Part:=⟨AC q.j.h.length c.h m.h,AC q.j.i.length c.i m.i⟩
def BL (q:Pattern)(h:Host)(vars:Xa0)(l:List Part):List Mat:=l.filterMap λx=>if (fK q h x vars).2=0 then some ⟨x,(fK q h x vars).1⟩ else none
def z7 (t:Types)(c:Part)(q:Pattern)(h:Host)(m:Mat)(inj:Bool):List Mat × Int :=
 if (oV t q.j h.j (qI c q m.m) inj).2≠0 then ([],(oV t q.j h.j (qI c q m.m) inj).2)
 else (BL q h m.vars (oV t q.j h.j (qI c q m.m) inj).1,0)
/-! ### conditions: the first witness -/
inductive Prf where
 | mk (choice:Int) (m:Mat) (kids:List Prf)
mutual
def Prf.c:Prf→Xa2
 | .mk ch m l=>[dI ch,dLI m.m.h,dLI m.m.i,dLI m.vars,.list (Prf.cs l)]
def Prf.cs:List Prf→Xa1
 | []=>[]
 | p :: l=>p.c :: Prf.cs l
end
theorem Prf.bv (l:List Prf):Prf.cs l=l.map Prf.c:=by
 induction l with
 | nil=>simp [Prf.cs]
 | cons a l ih=>simp [Prf.cs,ih]
theorem Prf.E (a:Int)(m:Mat)(l:List Prf):(Prf.mk a m l).c=[dI a,dLI m.m.h,dLI m.m.i,dLI m.vars,.list (l.map Prf.c)]:=by simp [Prf.c,Prf.bv]
mutual
theorem Prf.W:∀ x:Prf,D.N x.c=true
 | .mk ch m l=>by
  have:=Prf.cV l;simp [Prf.c,D.N,D.W,dI,qU,this]
theorem Prf.cV:∀ l:List Prf,D.V (Prf.cs l)=true
 | []=>by simp [Prf.cs,D.V]
 | c :: l=>by simp [Prf.cs,D.V,Prf.W c,Prf.cV l]
end
attribute [go_sem] Prf.W
@[go_sem] theorem aeG (l:List Prf):D.V (l.map Prf.c)=true:=by rw [<- Prf.bv];exact Prf.cV l
mutual
theorem Prf.nz:∀ x:Prf,jM x.c=x.c
 | .mk ch m l=>by
  have:=Nm l;simp [Prf.c,jM,mM,dI,dLI,c7,this]
theorem Nm:∀ l:List Prf,eU (Prf.cs l)=Prf.cs l
 | []=>by simp [Prf.cs,eU]
 | c :: l=>by simp [Prf.cs,eU,Prf.nz c,Nm l]
end
theorem gC (l:List Prf):eU (l.map Prf.c)=l.map Prf.c:=by rw [<- Prf.bv];exact Nm l
def fZ:Mat:=⟨⟨[],[]⟩,[]⟩
def kL:Prf:=.mk 0 fZ []
def WF (e:Int):Int:=if e=0 then 10 else if e=10 then 0 else e
def Nf:List (Prf × Int)->List Prf->Prf × Int
 | [],acc=>(.mk 0 fZ acc,0)
 | (p,e) :: l,acc=>if e≠0 then (kL,e) else Nf l (acc++[p])
def Ww:List (Prf × Int)->Nat->Prf × Int
 | [],_=>(kL,10)
 | (p,e) :: l,i=>if e≠10 then (.mk i fZ [p],e) else Ww l (i+1)
def WZ:List (Mat × (Prf × Int))->Prf × Int
 | []=>(kL,10)
 | (m,(p,e)) :: l=>if e≠10 then (.mk 0 m [p],e) else WZ l
def Pb (fs:List (Mat->Prf × Int)):Mat->Prf × Int:=fs.head?.getD λ_=>(kL,0)
mutual
def p8 (t:Types)(h:Host)(inj:Bool):Cond→Mat→Prf × Int
 | .mk k l mp q=>fun m =>
  if k=2 then (kL,WF (Pb (Fe t h inj l) m).2)
  else if k=3 then Nf ((Fe t h inj l).map fun f=>f m) []
  else if k=4 then Ww ((Fe t h inj l).map fun f=>f m) 0
  else if k=5 then (if (z7 t mp q h m inj).2≠0 then (kL,(z7 t mp q h m inj).2) else WZ ((z7 t mp q h m inj).1.map fun x=>(x,Pb (Fe t h inj l) x)))
  else (kL,0)
def Fe (t:Types)(h:Host)(inj:Bool):List Cond→List (Mat→Prf × Int)
 | []=>[]
 | c :: l=>p8 t h inj c :: Fe t h inj l
end
theorem Uh (t:Types)(h:Host)(b:Bool)(l:List Cond):Fe t h b l=l.map (p8 t h b):=by
 induction l with
 | nil=>simp [Fe]
 | cons a l ih=>simp [Fe,ih]
theorem LR (t:Types)(h:Host)(a:Bool)(c:Cond)(m:Mat):p8 t h a c m =
  if c.F=2 then (kL,WF (Pb (c.w.map (p8 t h a)) m).2)
  else if c.F=3 then Nf (c.w.map λk=>p8 t h a k m) []
  else if c.F=4 then Ww (c.w.map λk=>p8 t h a k m) 0
  else if c.F=5 then (if (z7 t c.map c.n h m a).2≠0 then (kL,(z7 t c.map c.n h m a).2) else WZ ((z7 t c.map c.n h m a).1.map λx=>(x,Pb (c.w.map (p8 t h a)) x)))
  else (kL,0):=by
 cases c;simp only [p8,Uh,Cond.F,Cond.w,Cond.map,Cond.n,List.map_map];rfl
def Ui (t:Types)(h:Host)(inj:Bool)(c:Cond)(m:Mat):Int:=(p8 t h inj c m).2
def o7 (t:Types)(h:Host)(inj:Bool)(c:Cond)(m:Mat):Bool × Int:=if Ui t h inj c m=10 then (false,0) else (decide (Ui t h inj c m=0),Ui t h inj c m)
/-! ### a step -/
def eH (t:Types)(p:Pattern)(h:Host)(m:Part):Xa0 × Int :=
 if c6 t p≠0 then ([],c6 t p) else if jB t h≠0 then ([],jB t h) else if fP t p.j h.j m false≠0 then ([],fP t p.j h.j m false) else fK p h m []
def sG (p g:Graph)(m:Part):Graph:=⟨m.h.map (gN g),p.i⟩
def rK (t:Types)(r:Rule)(h:Host)(m:Mat):Int :=
 if fP t r.left.j h.j m.m r.inj≠0 then 1
 else if (eH t r.left h m.m).2≠0 then (eH t r.left h m.m).2
 else if (eH t r.left h m.m).1≠m.vars then 11
 else jC (sG r.left.j h.j m.m) h.j r.u m.m
def mG (t:Types)(r:Rule)(h:Host)(m:Mat):Int :=
 if rK t r h m≠0 then rK t r h m
 else if (o7 t h r.inj r.cond m).2≠0 then (o7 t h r.inj r.cond m).2
 else if (o7 t h r.inj r.cond m).1=false then 16 else 0
def cN (r:Rule)(h:Host)(m:Mat):Part:=j4 (sG r.left.j h.j m.m) h.j r.u m.m
def iQ (l:Xa0)(n:Nat)(v:Int):Int:=(List.range n).foldl (λacc (k:Nat)=>if l[k]?.getD (-1)=v then (k:Int) else acc) (-1)
def mA (l:Xa0)(n:Nat):Xa0:=(List.range n).map λ(v:Nat)=>iQ l l.length v
def Cl (into:Xa0)(i:Nat):Nat:=((List.range i).filter λ(j:Nat)=>decide (iQ into into.length j<0)).length
def IQ (keep into at_:Xa0)(remain:Nat)(i:Nat):Int:=if 0<=iQ into into.length i then at_[(keep[(iQ into into.length i).toNat]?.getD 0).toNat]?.getD 0 else ((remain+Cl into i:Nat):Int)
def B5 (keep into at_:Xa0)(right remain:Nat):Xa0:=(List.range right).map (IQ keep into at_ remain)
def rF (d:Xa0)(n:Nat):Xa0:=mA d n
def lB (r:Rule)(h:Host)(m:Mat):Part:=⟨rF (cN r h m).h h.j.h.length,rF (cN r h m).i h.j.i.length⟩
def p9 (l tr:Xa0):Xa0:=l.map λk=>tr[k.toNat]?.getD 0
def lL (r:Rule)(h:Host)(m:Mat):Part :=
 ⟨B5 r.u.h r.A.h (p9 m.m.h (lB r h m).h) r.right.j.h.length (cN r h m).h.length,B5 r.u.i r.A.i (p9 m.m.i (lB r h m).i) r.right.j.i.length (cN r h m).i.length⟩
def oU (t:Types)(k:Int):Xa0:=(bV t k).map λa=>a.ax
def freshE (c:Part)(y:Edge):Edge:=⟨y.type,c.h[y.B.toNat]?.getD 0,c.h[y.O.toNat]?.getD 0⟩
def kP (t:Types)(r:Rule)(c:Part)(x:Host):Host :=
 ⟨⟨x.j.h++r.Y.map (gN r.right.j),x.j.i++r.am.map (λk=>freshE c (r.right.j.i[k.toNat]?.getD bX))⟩,x.k++r.Y.map (λk=>oU t (gN r.right.j k))⟩
def c9 (t:Types)(r:Rule)(h:Host)(m:Mat):Host:=kP t r (lL r h m) ⟨bG h.j (cN r h m),(cN r h m).h.map λk=>h.k[k.toNat]?.getD []⟩
def fU (c:Part)(s:Slot):Nat:=(c.h[s.node.toNat]?.getD 0).toNat
def ER (c:Part)(vs:Xa0)(a b:Slot):Bool:=decide (fU c a=fU c b)&&(decide (a.P=b.P)&&decide (dH a.C vs≠dH b.C vs))
def zA (c:Part)(vs:Xa0)(l:List Slot):Bool:=(List.range l.length).any λi=>(List.range i).any λk=>match l[k]?,l[i]? with|some a,some b=>ER c vs a b|_,_=>false
def AD (t:Types)(g:Graph)(c:Part)(vs:Xa0)(s:Slot):Bool :=
 let a:=(bV t (g.h[fU c s]?.getD 0))[s.P.toNat]?.getD qB
 decide (dH s.C vs<a.ax)||decide (a.ay<dH s.C vs)
def wH (t:Types)(g:Graph)(c:Part)(vs:Xa0)(l:List Slot):Int:=if zA c vs l=true then 11 else if l.any (AD t g c vs)=true then 6 else 0
def wG (c:Part)(vs:Xa0)(l:List Slot)(vals:Yb):Yb:=l.foldl (λvals s=>vals.set (fU c s) ((vals[fU c s]?.getD []).set s.P.toNat (dH s.C vs))) vals
def lD (t:Types)(r:Rule)(h:Host)(m:Mat):Host:=⟨(c9 t r h m).j,wG (lL r h m) m.vars r.right.q (c9 t r h m).k⟩
def l6 (t:Types)(r:Rule)(h:Host)(m:Mat):Int :=
 if mG t r h m≠0 then mG t r h m
 else if wH t (c9 t r h m).j (lL r h m) m.vars r.right.q≠0 then wH t (c9 t r h m).j (lL r h m) m.vars r.right.q
 else if 40<(c9 t r h m).j.h.length\/80<(c9 t r h m).j.i.length then 3 else 0
structure Stp26 where
 x:Rule
 X:Mat
 D:Host
 after:Host
 Q:Part
 M:Part
def Stp26.c (s:Stp26):Xa2:=s.x.c++s.X.c++s.D.c++s.after.c++[dLI s.Q.h,dLI s.Q.i,dLI s.M.h,dLI s.M.i]
def jU (t:Types)(r:Rule)(h:Host):Int:=if ruleF t r≠0 then ruleF t r else jB t h
def oB (t:Types)(r:Rule)(h:Host)(m:Mat):Int:=if jU t r h≠0 then jU t r h else l6 t r h m
def uA (t:Types)(r:Rule)(h:Host)(m:Mat):Stp26:=⟨r,m,h,lD t r h m,lB r h m,lL r h m⟩
end Go.Abs
end
