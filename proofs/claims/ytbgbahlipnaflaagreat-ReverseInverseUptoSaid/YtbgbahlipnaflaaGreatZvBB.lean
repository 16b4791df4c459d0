/- Layer 15, reference: find. · Layer 15, reference: Find. · La -/
import Derived.Test.YtbgbahlipnaflaaGreatZvAG
import Derived.Test.YtbgbahlipnaflaaGreatZvBA
import Derived.Test.YtbgbahlipnaflaaGreatZvAA
import Derived.Test.YtbgbahlipnaflaaGreatZvAY
import Derived.Test.YtbgbahlipnaflaaGreatZvAR
import Derived.Test.YtbgbahlipnaflaaGreatZvAS
import Derived.Test.YtbgbahlipnaflaaGreatZvAW
import Derived.Test.YtbgbahlipnaflaaGreatZvAZ
import Derived.Test.YtbgbahlipnaflaaGreatRows
import Derived.OpenShut
set_option linter.unusedVariables false
set_option linter.unusedSimpArgs false
section
set_option maxRecDepth 100000
set_option maxHeartbeats 4000000
open Go Go.Proofs Tryz
namespace Go.Abs
def RU (g:Graph)(i j:Int):V2:=rD g i j g.i.length
structure FnC (a b:Host):Prop where
 cv:∀ (i j:Nat) (h1:i<a.k.length) (h2:j<b.k.length),KN a.k[i] b.k[j]
 Q:∀ i j x y:Int,KN (Fr a.j (RU a.j i j)) (Fr b.j (RU b.j x y))
 ae:a.j.i.length<=100000
 be:b.j.i.length<=100000
def Se (a b:Host)(m:Nat):Prop:=∀ l:V2,l.length+m=a.j.h.length ->
 Pure prog 48 [a.d,b.d,dLI l] (.tup [dLI ((jZ a b m l).getD []),.bool (jZ a b m l).isSome])
theorem v6 (g:Graph)(hl:g.i.length<=100000)(a b:Int):Pua 109 [g.d,dLI (RU g a b)] (dLI (Fr g (RU g a b))) :=
 Oh g _ (λx hx=>by have:=EC hx;omega) (by have:=EB g a b g.i.length;unfold RU;omega)
theorem Qm (a b:Host):Se a b 0:=by
 intro l e;have c:l.length=a.j.h.length:=aD;refine Tz.pK ⟨λt=>t==64,λ_=>[]⟩ func48 rfl (λQ d=>?_);try simp [go_sem,seval,c]
 repeat first|intro _|refine ⟨fK,?_⟩
 exact d _ _ (by first|(left;(simp [go_sem,jZ]);done)|(right;(simp [go_sem,jZ]);done))
theorem Ql (a b:Host)(U:FhG a b)(hC:FnC a b)(m:Nat)(ih:Se a b m):Se a b (m+1):=by
 intro l hm;unfold Se at ih;have s:l.length<a.j.h.length:=aD;have q:l.length<a.k.length:=by rw [U.av];exact s
 have g:((l.length:Int)==(a.j.h.length:Int))=false:=by rw [beq_eq_false_iff_ne];omega
 have f:¬ ((l.length:Int)=(a.j.h.length:Int)):=aD;have d:¬ (l.length=a.j.h.length):=aD;have c8:l.length<=100000:=by have:=U.an;omega
 have c6:=U.bn;have c5:=U.bv;have L:=hC.ae;have K:=hC.be;have hR:jZ a b (m+1) l=(List.range b.j.h.length).findSome? λ(k:Nat)=>if CY a b l k=true then jZ a b m (l++[(k:Int)]) else none:=rfl
 refine Tz.pK ⟨λt=>t==64,λ_=>[]⟩ func48 rfl (λQ hQ=>?_);try simp [go_sem,seval,g,f,d,Host.c,aA s,aA q,cL]
 repeat first|intro _|refine ⟨fK,?_⟩
 obtain ⟨I0,J⟩:∃ I0:Nat->eF->AHeap->Prop,∀ (i:Nat) (e:eF) (H:AHeap),I0 i e H↔((e 2=dLI l)/\(e 3=.adr a.c)/\(e 4=.adr b.c)/\(e 8=dI l.length)/\(e 9=dI i)/\(i<=b.j.h.length)/\(∀ j,j<i->(if CY a b l j=true then jZ a b m (l++[(j:Int)]) else none)=none)):=⟨λi e H=>_,λ_ _ _=>Iff.rfl⟩;refine Aa I0 (λi=>b.j.h.length - i) (0) ((J _ _ _).2 ⟨?_,?_,?_,?_,?_,(by first|assumption|omega|(simp [go_sem,g,f,d,Host.c,aA s,aA q,cL];done)|(simp_all;done)),(by exact λj h=>absurd h aD)⟩) ?_;iterate 5 (first|omega|(simp [go_sem,seval,g,f,d,Host.c,aA s,aA q,cL]<;>omega))
 intro i e H b6;obtain ⟨a6,a4,a2,a0,Y,hi,G⟩:=(J _ _ _).1 b6;have E:=xa3 a6 a4 a2 a0 Y;try simp [go_sem,seval,g,f,d,Host.c,aA s,aA q,cL,E]
 repeat first|intro _|refine ⟨fK,?_⟩
 refine bB (λn=>?_) (λn=>?_)
 .try simp [go_sem] at n
  have u:i<b.k.length:=aD;obtain ⟨c0,b9,b3⟩:=hC.cv l.length i q u;have U:CY a b l i=(!(mem l i)&&(decide (a.j.h[l.length]=b.j.h[i])&&(decide (a.k[l.length]=b.k[i])&&(List.range (l.length+1)).all (Hi a b l i)))):=by
   unfold CY gN;simp [aA s,aA n,aA q,aA u]
  try simp [go_sem,seval,g,f,d,Host.c,aA s,aA q,cL,E,n,aA n,aA u]
  repeat first|intro _|refine ⟨fK,?_⟩
  refine aH (VM l i) ((by first|rfl|(simp [go_sem,<- List.map_take,<- List.map_drop,g,f,d,Host.c,aA s,aA q,cL,E,n,aA n,aA u];done))) ?_;try simp [go_sem,seval,g,f,d,Host.c,aA s,aA q,cL,E,n,aA n,aA u]
  repeat first|intro _|refine ⟨fK,?_⟩
  refine dM (λI=>b9) (λI=>(by first|rfl|(simp [go_sem,<- List.map_take,<- List.map_drop,g,f,d,Host.c,aA s,aA q,cL,E,n,aA n,aA u];done))) ?_;try simp [go_sem,seval,g,f,d,Host.c,aA s,aA q,cL,E,n,aA n,aA u]
  repeat first|intro _|refine ⟨fK,?_⟩
  refine bB (λz=>?_) (λz=>?_)
  .try simp [go_sem] at z
   have V:CY a b l i=false:=by
    rw [U,bJ];intro hT;simp at hT z;obtain ⟨q1,q2,q3,_⟩:=hT;simp_all
   have hK:(if CY a b l i=true then jZ a b m (l++[(i:Int)]) else none)=none:=by rw [V];rfl
   try simp [go_sem,seval,g,f,d,Host.c,aA s,aA q,cL,E,n,aA n,aA u]
   repeat first|intro _|refine ⟨fK,?_⟩
   refine iO (i+1) aD ((J _ _ _).2 ⟨?_,?_,?_,?_,?_,(by first|assumption|omega|(simp [go_sem,g,f,d,Host.c,aA s,aA q,cL,E,n,aA n,aA u,z];done)|(simp_all<;>omega)),(by exact λj hj=>if hji:j<i then G j hji else (aD:i=j) ▸ hK)⟩)<;>first|omega|(simp [go_sem,seval,g,f,d,Host.c,aA s,aA q,cL,E,n,aA n,aA u]<;>omega)
  .try simp [go_sem] at z
   have a8:CY a b l i=(List.range (l.length+1)).all (Hi a b l i):=by
    obtain ⟨⟨q1,q2⟩,q3⟩:=z;have b0:a.k[l.length]=b.k[i]:=by first|exact b3.1 q3|exact q3|(simp_all)
    rw [U,q1,decide_eq_true q2,decide_eq_true b0];rfl
   obtain ⟨M,C⟩:∃ x,x=l++[(i:Int)]:=⟨_,rfl⟩;have c4:M.length=l.length+1:=by rw [C];simp
   try simp [go_sem,seval,g,f,d,Host.c,aA s,aA q,cL,E,n,aA n,aA u,z,C]
   repeat first|intro _|refine ⟨fK,?_⟩
   obtain ⟨I2,T⟩:∃ I2:Nat->eF->AHeap->Prop,∀ (j:Nat) (e:eF) (H:AHeap),I2 j e H↔(∃ W:Bool,(e 2=dLI l)/\(e 3=.adr a.c)/\(e 4=.adr b.c)/\(e 8=dI l.length)/\(e 9=dI i)/\(e 10=dLI M)/\(e 11=.bool W)/\(e 12=dI j)/\(j<=l.length+1)/\(W=(List.range j).all (Hi a b l i))):=⟨λj e H=>_,λ_ _ _=>Iff.rfl⟩;refine XV 10 (H.next+32) (l.length+1) ⟨3,1,M.map cI,false⟩ (by simp [go_sem,g,f,d,Host.c,aA s,aA q,cL,E,n,aA n,aA u,z,C]) (by simp [go_sem,g,f,d,Host.c,aA s,aA q,cL,E,n,aA n,aA u,z,C]) (by simp [go_sem,g,f,d,Host.c,aA s,aA q,cL,E,n,aA n,aA u,z,C]) I2 (λj=>l.length+1 - j) (0) ((T _ _ _).2 ⟨(true),?_,?_,?_,?_,?_,?_,?_,?_,(by first|assumption|omega|(simp [go_sem,g,f,d,Host.c,aA s,aA q,cL,E,n,aA n,aA u,z,C];done)|(simp_all;done)),(by rfl)⟩) ?_;iterate 8 (first|omega|(simp [go_sem,seval,g,f,d,Host.c,aA s,aA q,cL,E,n,aA n,aA u,z,C]<;>omega))
   intro j e H b5;obtain ⟨W,a5,a3,a1,Z,X,R,P,O,hj,hF⟩:=(T _ _ _).1 b5;have A:=xa6 a5 a3 a1 Z X R P O;try simp [go_sem,seval,g,f,d,Host.c,aA s,aA q,cL,n,aA n,aA u,z,A]
   repeat first|intro _|refine ⟨fK,?_⟩
   refine bB (λp=>?_) (λp=>?_)
   .try simp [go_sem] at p
    have a7:j<M.length:=aD;obtain ⟨v,hv⟩:=c7 (M[j]);have b4:iA (l++[(i:Int)]) j=v:=by rw [<- C];unfold iA;rw [hv];simp [aA a7]
    have o:M[j]?=some v:=by rw [aA a7,hv]
    obtain ⟨c1,b8,b2⟩:=hC.Q j l.length v i;obtain ⟨c2,b7,b1⟩:=hC.Q l.length j i v;have D:Hi a b l i j=(decide (c1=0)&&decide (c2=0)):=by
     unfold Hi;rw [b4];congr 1
     .exact decide_eq_decide.2 (lstR_eq.symm.trans b2.symm)
     .exact decide_eq_decide.2 (lstR_eq.symm.trans b1.symm)
    obtain ⟨f2,w⟩:∃ x,x=Hi a b l i j:=⟨_,rfl⟩;have c3:f2=(List.range (j+1)).all (Hi a b l i):=by
     rw [bR,sK,<- hF,w];simp_all
    have y:(c2==0)=decide (c2=0):=by by_cases h:c2=0<;>simp [h]
    try simp [go_sem,seval,g,f,d,Host.c,aA s,aA q,cL,n,aA n,aA u,z,A,p,o,w,D,y]
    repeat first|intro _|refine ⟨fK,?_⟩
    refine aH (nK a.j L j l.length) ((by first|rfl|(simp [go_sem,<- List.map_take,<- List.map_drop,g,f,d,Host.c,aA s,aA q,cL,n,aA n,aA u,z,A,p,o,w,D,y];done))) ?_;try simp [go_sem,seval,g,f,d,Host.c,aA s,aA q,cL,n,aA n,aA u,z,A,p,o,w,D,y]
    repeat first|intro _|refine ⟨fK,?_⟩
    refine aH (v6 a.j L j l.length) ((by first|rfl|(simp [go_sem,<- List.map_take,<- List.map_drop,g,f,d,Host.c,aA s,aA q,cL,n,aA n,aA u,z,A,p,o,w,D,y];done))) ?_;try simp [go_sem,seval,g,f,d,Host.c,aA s,aA q,cL,n,aA n,aA u,z,A,p,o,w,D,y]
    repeat first|intro _|refine ⟨fK,?_⟩
    refine aH (nK b.j K v i) ((by first|rfl|(simp [go_sem,<- List.map_take,<- List.map_drop,g,f,d,Host.c,aA s,aA q,cL,n,aA n,aA u,z,A,p,o,w,D,y];done))) ?_;try simp [go_sem,seval,g,f,d,Host.c,aA s,aA q,cL,n,aA n,aA u,z,A,p,o,w,D,y]
    repeat first|intro _|refine ⟨fK,?_⟩
    refine aH (v6 b.j K v i) ((by first|rfl|(simp [go_sem,<- List.map_take,<- List.map_drop,g,f,d,Host.c,aA s,aA q,cL,n,aA n,aA u,z,A,p,o,w,D,y];done))) ?_;try simp [go_sem,seval,g,f,d,Host.c,aA s,aA q,cL,n,aA n,aA u,z,A,p,o,w,D,y]
    repeat first|intro _|refine ⟨fK,?_⟩
    refine aH (b8) ((by first|rfl|(simp [go_sem,<- List.map_take,<- List.map_drop,g,f,d,Host.c,aA s,aA q,cL,n,aA n,aA u,z,A,p,o,w,D,y];done))) ?_;try simp [go_sem,seval,g,f,d,Host.c,aA s,aA q,cL,n,aA n,aA u,z,A,p,o,w,D,y]
    repeat first|intro _|refine ⟨fK,?_⟩
    refine dM (λI=>nK a.j L l.length j) (λI=>(by first|rfl|(simp [go_sem,<- List.map_take,<- List.map_drop,g,f,d,Host.c,aA s,aA q,cL,n,aA n,aA u,z,A,p,o,w,D,y];done))) ?_;try simp [go_sem,seval,g,f,d,Host.c,aA s,aA q,cL,n,aA n,aA u,z,A,p,o,w,D,y]
    repeat first|intro _|refine ⟨fK,?_⟩
    refine dM (λI=>v6 a.j L l.length j) (λI=>(by first|rfl|(simp [go_sem,<- List.map_take,<- List.map_drop,g,f,d,Host.c,aA s,aA q,cL,n,aA n,aA u,z,A,p,o,w,D,y];done))) ?_;try simp [go_sem,seval,g,f,d,Host.c,aA s,aA q,cL,n,aA n,aA u,z,A,p,o,w,D,y]
    repeat first|intro _|refine ⟨fK,?_⟩
    refine dM (λI=>nK b.j K i v) (λI=>(by first|rfl|(simp [go_sem,<- List.map_take,<- List.map_drop,g,f,d,Host.c,aA s,aA q,cL,n,aA n,aA u,z,A,p,o,w,D,y];done))) ?_;try simp [go_sem,seval,g,f,d,Host.c,aA s,aA q,cL,n,aA n,aA u,z,A,p,o,w,D,y]
    repeat first|intro _|refine ⟨fK,?_⟩
    refine dM (λI=>v6 b.j K i v) (λI=>(by first|rfl|(simp [go_sem,<- List.map_take,<- List.map_drop,g,f,d,Host.c,aA s,aA q,cL,n,aA n,aA u,z,A,p,o,w,D,y];done))) ?_;try simp [go_sem,seval,g,f,d,Host.c,aA s,aA q,cL,n,aA n,aA u,z,A,p,o,w,D,y]
    repeat first|intro _|refine ⟨fK,?_⟩
    refine dM (λI=>b7) (λI=>(by first|rfl|(simp [go_sem,<- List.map_take,<- List.map_drop,g,f,d,Host.c,aA s,aA q,cL,n,aA n,aA u,z,A,p,o,w,D,y];done))) ?_;try simp [go_sem,seval,g,f,d,Host.c,aA s,aA q,cL,n,aA n,aA u,z,A,p,o,w,D,y]
    repeat first|intro _|refine ⟨fK,?_⟩
    refine iO (j+1) aD ((T _ _ _).2 ⟨(f2),?_,?_,?_,?_,?_,?_,?_,?_,(by first|assumption|omega|(simp [go_sem,g,f,d,Host.c,aA s,aA q,cL,n,aA n,aA u,z,A,p,o,w,D,y];done)|(simp_all<;>omega)),(by exact c3)⟩)<;>first|omega|(simp [go_sem,seval,g,f,d,Host.c,aA s,aA q,cL,n,aA n,aA u,z,A,p,o,w,D,y]<;>omega)
   .try simp [go_sem] at p
    have a9:(List.range (l.length+1)).all (Hi a b l i)=W:=by
     rcases bX l.length j with hlj|hlj
     .rw [hF,(aD:j=l.length+1)]
     .have hfb:W=false:=by revert p;cases W<;>simp<;>omega
      rw [hfb] at hF;rw [hfb,bJ];intro hT;rw [cF] at hT;have:(List.range j).all (Hi a b l i)=true:=cF.2 λx hx=>hT x (aV.2 (by have:=aV.1 hx;omega));rw [this] at hF;cases hF
    try simp [go_sem,seval,g,f,d,Host.c,aA s,aA q,cL,n,aA n,aA u,z,A]
    repeat first|intro _|refine ⟨fK,?_⟩
    refine bB (λB=>?_) (λB=>?_)
    .try simp [go_sem] at B
     have V:CY a b l i=false:=by rw [a8,a9];simpa using B
     have hK:(if CY a b l i=true then jZ a b m (l++[(i:Int)]) else none)=none:=by rw [V];rfl
     try simp [go_sem,seval,g,f,d,Host.c,aA s,aA q,cL,n,aA n,aA u,z,A]
     repeat first|intro _|refine ⟨fK,?_⟩
     refine iO (i+1) aD ((J _ _ _).2 ⟨?_,?_,?_,?_,?_,(by first|assumption|omega|(simp [go_sem,g,f,d,Host.c,aA s,aA q,cL,n,aA n,aA u,z,A,p,B];done)|(simp_all<;>omega)),(by exact λj hj=>if hji:j<i then G j hji else (aD:i=j) ▸ hK)⟩)<;>first|omega|(simp [go_sem,seval,g,f,d,Host.c,aA s,aA q,cL,n,aA n,aA u,z,A]<;>omega)
    .try simp [go_sem] at B
     have N:CY a b l i=true:=by rw [a8,a9];simpa using B
     try simp [go_sem,seval,g,f,d,Host.c,aA s,aA q,cL,n,aA n,aA u,z,A,B]
     refine aB (ih M aD) ((by first|rfl|(simp [go_sem,<- List.map_take,<- List.map_drop,g,f,d,Host.c,aA s,aA q,cL,n,aA n,aA u,z,A,B];done))) ?_;try simp [go_sem,seval,g,f,d,Host.c,aA s,aA q,cL,n,aA n,aA u,z,A,B]
     refine bB (λF=>?_) (λF=>?_)
     .try simp [go_sem] at F
      obtain ⟨r,hr⟩:=gZ.1 F;rw [C] at hr;have hE:jZ a b (m+1) l=some r:=by rw [hR];exact GE n G (by rw [if_pos N];exact hr)
      have S:jZ a b m M=some r:=by rw [C];exact hr
      try simp [go_sem,seval,g,f,d,Host.c,aA s,aA q,cL,n,aA n,aA u,z,A,B,S]
      exact hQ _ _ (by first|(left;(simp [go_sem,hE,S]);done)|(right;(simp [go_sem,hE,S]);done))
     .try simp [go_sem] at F
      have hr:jZ a b m (l++[(i:Int)])=none:=by rw [<- C];simpa using F
      have hK:(if CY a b l i=true then jZ a b m (l++[(i:Int)]) else none)=none:=by rw [if_pos N];exact hr
      try simp [go_sem,seval,g,f,d,Host.c,aA s,aA q,cL,n,aA n,aA u,z,A,B]
      repeat first|intro _|refine ⟨fK,?_⟩
      refine iO (i+1) aD ((J _ _ _).2 ⟨?_,?_,?_,?_,?_,(by first|assumption|omega|(simp [go_sem,g,f,d,Host.c,aA s,aA q,cL,n,aA n,aA u,z,A,B,p,F];done)|(simp_all<;>omega)),(by exact λj hj=>if hji:j<i then G j hji else (aD:i=j) ▸ hK)⟩)<;>first|omega|(simp [go_sem,seval,g,f,d,Host.c,aA s,aA q,cL,n,aA n,aA u,z,A,B]<;>omega)
 .try simp [go_sem] at n
  have hE:jZ a b (m+1) l=none:=by rw [hR];exact Cs λj hj=>G j aD
  try simp [go_sem,seval,g,f,d,Host.c,aA s,aA q,cL,E]
  exact hQ _ _ (by first|(left;(simp [go_sem,hE]);done)|(right;(simp [go_sem,hE]);done))
theorem IR (a b:Host)(hG:FhG a b)(hC:FnC a b):∀ m,Se a b m
 | 0=>Qm a b
 | m+1=>Ql a b hG hC m (IR a b hG hC m)
def Zd (es:V2)(p:Int × Int):V2:=es.set p.1.toNat p.2
def Xm (a b:Host)(r:V2)(i:Nat)(es:V2)(k:Nat):V2:=((RU a.j i k).zip (RU b.j (iA r i) (iA r k))).foldl Zd es
def abE (a b:Host)(r:V2)(es:V2)(i:Nat):V2:=(List.range r.length).foldl (Xm a b r i) es
def agP (a b:Host)(r:V2):V2:=(List.range r.length).foldl (abE a b r) (List.replicate a.j.i.length 0)
theorem yF {α:Type}(f:α->Nat->α)(x:α)(i:Nat):(List.range (i+1)).foldl f x=f ((List.range i).foldl f x) i:=by rw [bR,iL];rfl
theorem Hg {α β:Type}(f:β->α->β)(x:β){l:List α}{i:Nat}(h:i<l.length):(l.take (i+1)).foldl f x=f ((l.take i).foldl f x) l[i]:=by rw [List.take_succ_eq_append_getElem h,iL];rfl
theorem Qq (t:Types)(h:t.ok)(a b:Host)(j:fG t a=0)(i:fG t b=0)(l:8<a.j.h.length\/8<b.j.h.length):Pua 12 [t.d,a.d,b.d] (.tup [(Part.mk [] []).d,dI 3]):=by
 have f:(mI t a).2=0:=j;have e:(mI t b).2=0:=i;have g:(decide ((8:Int)<(a.j.h.length:Int))||decide ((8:Int)<(b.j.h.length:Int)))=true:=by rw [c8,decide_eq_true_eq,decide_eq_true_eq];omega
 refine Tz.pK ⟨λt=>t==6,λ_=>[]⟩ func12 rfl (λQ k=>?_);try simp [go_sem,seval,f,e,g]
 refine aB (jO t h a) ((by first|rfl|(simp [go_sem,<- List.map_take,<- List.map_drop,f,e,g];done))) ?_;try simp [go_sem,seval,f,e,g]
 refine aB (jO t h b) ((by first|rfl|(simp [go_sem,<- List.map_take,<- List.map_drop,f,e,g];done))) ?_;try simp [go_sem,seval,f,e,g]
 repeat first|intro _|refine ⟨iS,?_⟩
 exact k _ _ (by first|(left;(simp [go_sem,f,e,g,Part.d,Part.c,dLI,Pg,mK,iI,pF]);done)|(right;(simp [go_sem,f,e,g,Part.d,Part.c,dLI,Pg,mK,iI,pF]);done))
theorem AO (a b:Host)(hG:FhG a b)(hC:FnC a b):Pua 48 [a.d,b.d,.nil] (.tup [dLI ((jZ a b a.j.h.length []).getD []),.bool (jZ a b a.j.h.length []).isSome]) :=
 Sc (by simp [go_sem,WY,Host.d,Host.c,Graph.d,Graph.c,dLI]) (IR a b hG hC a.j.h.length [] aE)
theorem Oj (t:Types)(i:t.ok)(a b:Host)(m:fG t a=0)(l:fG t b=0)(p:a.j.h.length<=8)(o:b.j.h.length<=8)(q:FhG a b)(r:FnC a b)
  (k:jZ a b a.j.h.length []=none):Pua 12 [t.d,a.d,b.d] (.tup [(Part.mk [] []).d,dI 10]):=by
 have f:(mI t a).2=0:=m;have e:(mI t b).2=0:=l;have j:=AO a b q r;rw [k] at j;have h:¬ (8:Int)<(a.j.h.length:Int):=aD;have g:¬ (8:Int)<(b.j.h.length:Int):=aD;refine Tz.pK ⟨λt=>t==6,λ_=>[]⟩ func12 rfl (λQ n=>?_);try simp [go_sem,seval,f,e,h,g]
 refine aB (jO t i a) ((by first|rfl|(simp [go_sem,<- List.map_take,<- List.map_drop,f,e,h,g];done))) ?_;try simp [go_sem,seval,f,e,h,g]
 refine aB (jO t i b) ((by first|rfl|(simp [go_sem,<- List.map_take,<- List.map_drop,f,e,h,g];done))) ?_;try simp [go_sem,seval,f,e,h,g]
 repeat first|intro _|refine ⟨iS,?_⟩
 refine aB (j) ((by first|rfl|(simp [go_sem,<- List.map_take,<- List.map_drop,f,e,h,g];done))) ?_;try simp [go_sem,seval,f,e,h,g]
 repeat first|intro _|refine ⟨iS,?_⟩
 exact n _ _ (by first|(left;(simp [go_sem,f,e,h,g,Part.d,Part.c,dLI,Pg,mK,iI,pF]);done)|(right;(simp [go_sem,f,e,h,g,Part.d,Part.c,dLI,Pg,mK,iI,pF]);done))
theorem Oi (t:Types)(l:t.ok)(a b:Host)(p:fG t a=0)(o:fG t b=0)(u:a.j.h.length<=8)(s:b.j.h.length<=8)(v:FhG a b)(w:FnC a b)
  (r:V2) (n:jZ a b a.j.h.length []=some r) (e:a.j.h.length≠b.j.h.length):Pua 12 [t.d,a.d,b.d] (.tup [(Part.mk [] []).d,dI 10]):=by
 have i:(mI t a).2=0:=p;have h:(mI t b).2=0:=o;have m:=AO a b v w;rw [n] at m;have k:¬ (8:Int)<(a.j.h.length:Int):=aD;have j:¬ (8:Int)<(b.j.h.length:Int):=aD;have g:¬ ((a.j.h.length:Int)=(b.j.h.length:Int)):=aD;have f:((a.j.h.length:Int) != (b.j.h.length:Int))=true:=by rw [bne_iff_ne];omega
 refine Tz.pK ⟨λt=>t==6,λ_=>[]⟩ func12 rfl (λQ q=>?_);try simp [go_sem,seval,i,h,k,j,g,f,e]
 refine aB (jO t l a) ((by first|rfl|(simp [go_sem,<- List.map_take,<- List.map_drop,i,h,k,j,g,f,e];done))) ?_;try simp [go_sem,seval,i,h,k,j,g,f,e]
 refine aB (jO t l b) ((by first|rfl|(simp [go_sem,<- List.map_take,<- List.map_drop,i,h,k,j,g,f,e];done))) ?_;try simp [go_sem,seval,i,h,k,j,g,f,e]
 repeat first|intro _|refine ⟨iS,?_⟩
 refine aB (m) ((by first|rfl|(simp [go_sem,<- List.map_take,<- List.map_drop,i,h,k,j,g,f,e];done))) ?_;try simp [go_sem,seval,i,h,k,j,g,f,e]
 repeat first|intro _|refine ⟨iS,?_⟩
 exact q _ _ (by first|(left;(simp [go_sem,i,h,k,j,g,f,e,Part.d,Part.c,dLI,Pg,mK,iI,pF]);done)|(right;(simp [go_sem,i,h,k,j,g,f,e,Part.d,Part.c,dLI,Pg,mK,iI,pF]);done))
theorem Qp (t:Types)(ht:t.ok)(a b:Host)(ha:fG t a=0)(hb:fG t b=0)(f0:a.j.h.length<=8)(l:b.j.h.length=a.j.h.length)(hG:FhG a b)(hC:FnC a b)
  (r:V2) (hr:jZ a b a.j.h.length []=some r) (e7:r.length=a.j.h.length)
  (hB:∀ i k:Nat,i<r.length->k<r.length->(RU a.j i k).length=(RU b.j (iA r i) (iA r k)).length):Pua 12 [t.d,a.d,b.d] (.tup [(Part.mk r (agP a b r)).d,dI 0]):=by
 have o:(mI t a).2=0:=ha;have m:(mI t b).2=0:=hb;have hF:=AO a b hG hC;rw [hr] at hF;have e5:=hC.ae;have e4:=hC.be;have p:¬ (8:Int)<(a.j.h.length:Int):=aD;refine Tz.pK ⟨λt=>t==6||t==14||t==78,λ_=>[]⟩ func12 rfl (λQ hQ=>?_);try simp [go_sem,seval,o,m,l,p]
 refine aB (jO t ht a) ((by first|rfl|(simp [go_sem,<- List.map_take,<- List.map_drop,o,m,l,p];done))) ?_;try simp [go_sem,seval,o,m,l,p]
 refine aB (jO t ht b) ((by first|rfl|(simp [go_sem,<- List.map_take,<- List.map_drop,o,m,l,p];done))) ?_;try simp [go_sem,seval,o,m,l,p]
 repeat first|intro _|refine ⟨fK,?_⟩
 refine aB (hF) ((by first|rfl|(simp [go_sem,<- List.map_take,<- List.map_drop,o,m,l,p];done))) ?_;try simp [go_sem,seval,o,m,l,p]
 repeat first|intro _|refine ⟨fK,?_⟩
 obtain ⟨I0,a4⟩:∃ I0:Nat->eF->AHeap->Prop,∀ (i:Nat) (e:eF) (H:AHeap),I0 i e H↔(∃ J:V2,(e 3=.adr t.c)/\(e 4=.adr a.c)/\(e 5=.adr b.c)/\(e 6=.ptr 0 1 0 0)/\(e 12=dLI r)/\(e 14=.ptr 2 1 0 0)/\(e 15=dI i)/\(H.get 0=some ⟨36,2,[[.nil,.nil]],false⟩)/\(0<H.next)/\(H.get 1=some ⟨3,1,J.map cI,false⟩)/\(1<H.next)/\(H.get 2=some ⟨36,2,[[dLI r,.own 1 a.j.i.length]],false⟩)/\(2<H.next)/\(i<=r.length)/\(J=(List.range i).foldl (abE a b r) (List.replicate a.j.i.length 0))/\(J.length=a.j.i.length)):=⟨λi e H=>_,λ_ _ _=>Iff.rfl⟩;refine Aa I0 (λi=>r.length - i) (0) ((a4 _ _ _).2 ⟨((List.replicate a.j.i.length 0)),?_,?_,?_,?_,?_,?_,?_,?_,?_,(by simp [go_sem,o,m,l,p]),?_,?_,?_,(by first|assumption|omega|(simp [go_sem,o,m,l,p];done)|(simp_all;done)),(by rfl),(by simp)⟩) ?_;iterate 12 (first|omega|(simp [go_sem,seval,o,m,l,p]<;>omega))
 intro i e H e3;obtain ⟨J,b6,b3,b0,a7,a0,W,T,d6,c5,d3,c2,d0,b9,hi,hx,a1⟩:=(a4 _ _ _).1 e3;have x0:=bS c5;have x1:=bS c2;have x2:=bS b9;have K:=xa0 b6 (xb0 b3 b0 a7 a0 W T d6 d3 d0 x0 x1 x2);try simp [go_sem,seval,o,m,l,p,K]
 repeat first|intro _|refine ⟨fK,?_⟩
 refine bB (λf=>?_) (λf=>?_)
 .try simp [go_sem] at f
  try simp [go_sem,seval,o,m,l,p,K,f]
  obtain ⟨I2,a3⟩:∃ I2:Nat->eF->AHeap->Prop,∀ (k:Nat) (e:eF) (H:AHeap),I2 k e H↔(∃ D:V2,(e 3=.adr t.c)/\(e 4=.adr a.c)/\(e 5=.adr b.c)/\(e 6=.ptr 0 1 0 0)/\(e 12=dLI r)/\(e 14=.ptr 2 1 0 0)/\(e 15=dI i)/\(e 16=dI k)/\(H.get 0=some ⟨36,2,[[.nil,.nil]],false⟩)/\(0<H.next)/\(H.get 1=some ⟨3,1,D.map cI,false⟩)/\(1<H.next)/\(H.get 2=some ⟨36,2,[[dLI r,.own 1 a.j.i.length]],false⟩)/\(2<H.next)/\(k<=r.length)/\(D=(List.range k).foldl (Xm a b r i) J)/\(D.length=a.j.i.length)):=⟨λk e H=>_,λ_ _ _=>Iff.rfl⟩;refine Aa I2 (λk=>r.length - k) (0) ((a3 _ _ _).2 ⟨(J),?_,?_,?_,?_,?_,?_,?_,?_,?_,?_,(by simp [go_sem,o,m,l,p,K,f]),?_,?_,?_,(by first|assumption|omega|(simp [go_sem,o,m,l,p,K,f];done)|(simp_all;done)),(by rfl),(by exact a1)⟩) ?_;iterate 13 (first|omega|(simp [go_sem,seval,o,m,l,p,K,f]<;>omega))
  intro k e H e2;obtain ⟨D,b5,b2,a9,a6,Z,V,S,P,d5,c4,d2,c1,c9,b8,hk,hy,c6⟩:=(a3 _ _ _).1 e2;have x0:=bS c4;have x1:=bS c1;have x2:=bS b8;have C:=xa1 b5 b2 (xb0 a9 a6 Z V S P d5 d2 c9 x0 x1 x2);try simp [go_sem,seval,o,m,l,p,f,C]
  repeat first|intro _|refine ⟨fK,?_⟩
  refine bB (λh=>?_) (λh=>?_)
  .try simp [go_sem] at h
   obtain ⟨v,hv⟩:=c7 (r[i]);obtain ⟨w,hw⟩:=c7 (r[k]);have u:=hv.symm;have s:=hw.symm;obtain ⟨X,hX⟩:=c7 (RU a.j i k);obtain ⟨E,hY⟩:=c7 (RU b.j v w);have e9:X.length=E.length:=by
    rw [hX,hY,hB i k f h,iK f,iK h,<- hv,<- hw]
   have hS:Xm a b r i D k=(X.zip E).foldl Zd D:=by unfold Xm;rw [iK f,iK h,<- hv,<- hw,<- hX,<- hY]
   have q:rD a.j i k a.j.i.length=X:=hX.symm;have y:rD b.j v w b.j.i.length=E:=hY.symm;try simp [go_sem,seval,o,m,l,p,f,C,h,u,s,aA f,aA h,q,y]
   repeat first|intro _|refine ⟨fK,?_⟩
   refine aH (nK a.j e5 i k) ((by first|rfl|(simp [go_sem,<- List.map_take,<- List.map_drop,o,m,l,p,f,C,h,u,s,aA f,aA h,q,y];done))) ?_;try simp [go_sem,seval,o,m,l,p,f,C,h,u,s,aA f,aA h,q,y]
   repeat first|intro _|refine ⟨fK,?_⟩
   refine aH (nK b.j e4 v w) ((by first|rfl|(simp [go_sem,<- List.map_take,<- List.map_drop,o,m,l,p,f,C,h,u,s,aA f,aA h,q,y];done))) ?_;try simp [go_sem,seval,o,m,l,p,f,C,h,u,s,aA f,aA h,q,y]
   repeat first|intro _|refine ⟨fK,?_⟩
   obtain ⟨I4,a2⟩:∃ I4:Nat->eF->AHeap->Prop,∀ (j:Nat) (e:eF) (H:AHeap),I4 j e H↔(∃ I:V2,(e 3=.adr t.c)/\(e 4=.adr a.c)/\(e 5=.adr b.c)/\(e 6=.ptr 0 1 0 0)/\(e 12=dLI r)/\(e 14=.ptr 2 1 0 0)/\(e 15=dI i)/\(e 16=dI k)/\(e 17=dLI X)/\(e 18=dLI E)/\(e 19=dI j)/\(H.get 0=some ⟨36,2,[[.nil,.nil]],false⟩)/\(0<H.next)/\(H.get 1=some ⟨3,1,I.map cI,false⟩)/\(1<H.next)/\(H.get 2=some ⟨36,2,[[dLI r,.own 1 a.j.i.length]],false⟩)/\(2<H.next)/\(j<=X.length)/\(I=((X.zip E).take j).foldl Zd D)/\(I.length=a.j.i.length)):=⟨λj e H=>_,λ_ _ _=>Iff.rfl⟩;refine Aa I4 (λj=>X.length - j) (0) ((a2 _ _ _).2 ⟨(D),?_,?_,?_,?_,?_,?_,?_,?_,?_,?_,?_,?_,?_,(by simp [go_sem,o,m,l,p,f,C,h,u,s,aA f,aA h,q,y]),?_,?_,?_,(by first|assumption|omega|(simp [go_sem,o,m,l,p,f,C,h,u,s,aA f,aA h,q,y];done)|(simp_all;done)),(by rfl),(by exact c6)⟩) ?_;iterate 16 (first|omega|(simp [go_sem,seval,o,m,l,p,f,C,h,u,s,aA f,aA h,q,y]<;>omega))
   intro j e H e1;obtain ⟨I,b4,b1,a8,a5,Y,U,R,O,N,M,L,d4,c3,d1,c0,c8,b7,hj,hz,B⟩:=(a2 _ _ _).1 e1;have x0:=bS c3;have x1:=bS c0;have x2:=bS b7;have G:=xa4 b4 b1 a8 a5 Y (xb0 U R O N M L d4 d1 c8 x0 x1 x2);try simp [go_sem,seval,o,m,l,p,f,h,u,s,aA f,aA h,q,y,G]
   repeat first|intro _|refine ⟨fK,?_⟩
   refine bB (λz=>?_) (λz=>?_)
   .try simp [go_sem] at z
    have F:j<E.length:=aD;have d7:j<(X.zip E).length:=by rw [List.length_zip];omega
    have d8:(X.zip E)[j]=(X[j],E[j]):=List.getElem_zip ..;have e8:=EC (g:=a.j) (i:=i) (j:=k) (n:=a.j.i.length) (x:=X[j]) (by rw [q];exact aC z);have A:X[j].toNat<I.length:=aD;have e6:X[j].toNat<a.j.i.length:=aD;try simp [go_sem,seval,o,m,l,p,f,h,u,s,aA f,aA h,q,y,G,z,aA z,aA F,aA A,B]
    repeat first|intro _|refine ⟨fK,?_⟩
    refine iO (j+1) aD ((a2 _ _ _).2 ⟨((I.set X[j].toNat E[j])),?_,?_,?_,?_,?_,?_,?_,?_,?_,?_,?_,?_,?_,(by simp [go_sem,o,m,l,p,f,h,u,s,aA f,aA h,q,y,G,z,aA z,aA F,aA A,B,cW]),?_,?_,?_,(by first|assumption|omega|(simp [go_sem,o,m,l,p,f,h,u,s,aA f,aA h,q,y,G,z,aA z,aA F,aA A,B];done)|(simp_all<;>omega)),(by rw [Hg Zd D d7,<- hz,d8];rfl),(by rw [f9];exact B)⟩)<;>first|omega|(simp [go_sem,seval,o,m,l,p,f,h,u,s,aA f,aA h,q,y,G,z,aA z,aA F,aA A,B]<;>omega)
   .try simp [go_sem] at z
    have d9:I=(List.range (k+1)).foldl (Xm a b r i) J:=by
     rw [yF,<- hy,hS,hz,aG (by rw [List.length_zip];omega)]
    try simp [go_sem,seval,o,m,l,p,f,h,u,s,aA f,aA h,q,y,G]
    repeat first|intro _|refine ⟨fK,?_⟩
    refine iO (k+1) aD ((a3 _ _ _).2 ⟨(I),?_,?_,?_,?_,?_,?_,?_,?_,?_,?_,(by simp [go_sem,o,m,l,p,f,h,u,s,aA f,aA h,q,y,G]),?_,?_,?_,(by first|assumption|omega|(simp [go_sem,o,m,l,p,f,h,u,s,aA f,aA h,q,y,G,z];done)|(simp_all<;>omega)),(by exact d9),(by exact B)⟩)<;>first|omega|(simp [go_sem,seval,o,m,l,p,f,h,u,s,aA f,aA h,q,y,G]<;>omega)
  .try simp [go_sem] at h
   have e0:D=(List.range (i+1)).foldl (abE a b r) (List.replicate a.j.i.length 0):=by
    rw [yF,<- hx,hy,(aD:k=r.length)];rfl
   try simp [go_sem,seval,o,m,l,p,f,C]
   repeat first|intro _|refine ⟨fK,?_⟩
   refine iO (i+1) aD ((a4 _ _ _).2 ⟨(D),?_,?_,?_,?_,?_,?_,?_,?_,?_,(by simp [go_sem,o,m,l,p,f,C]),?_,?_,?_,(by first|assumption|omega|(simp [go_sem,o,m,l,p,f,C,h];done)|(simp_all<;>omega)),(by exact e0),(by exact c6)⟩)<;>first|omega|(simp [go_sem,seval,o,m,l,p,f,C]<;>omega)
 .try simp [go_sem] at f
  have hU:J=agP a b r:=by rw [hx,(aD:i=r.length)];rfl
  try simp [go_sem,seval,o,m,l,p,K]
  exact hQ _ _ (by first|(left;(simp [go_sem,o,m,l,p,K,a1,<- hU,Part.d,Part.c,dLI]);done)|(right;(simp [go_sem,o,m,l,p,K,a1,<- hU,Part.d,Part.c,dLI]);done))
theorem UH {l:V2}{k:Int}{j:Nat}(h:j<l.length):iA (l++[k]) j=iA l j:=by
 unfold iA;rw [Int.toNat_natCast,aS h]
theorem ZJ (l:V2)(k:Int):iA (l++[k]) (l.length:Int)=k:=by
 unfold iA;rw [Int.toNat_natCast];simp
theorem Na {a b:Host}:∀ {m:Nat} {l r:V2},jZ a b m l=some r->(∀ i k:Nat,i<l.length->k<l.length->yS a.j i k=yS b.j (iA l i) (iA l k)) ->
  ∀ i k:Nat,i<r.length->k<r.length->yS a.j i k=yS b.j (iA r i) (iA r k)
 | 0,l,r,h,hl=>by simp only [jZ,bI] at h;subst h;exact hl
 | m+1,l,r,h,hl=>by
  simp only [jZ] at h;obtain ⟨k,hk,hf⟩:=List.exists_of_findSome?_eq_some h;split at hf
  .rename_i hfit;refine Na hf λi j hi hj=>?_;unfold CY at hfit;simp only [aM,decide_eq_true_eq] at hfit;have hall:=cF.1 hfit.2.2.2;have hJ:∀ j:Nat,j<l.length+1->yS a.j j l.length=yS b.j (iA (l++[(k:Int)]) j) k/\yS a.j l.length j=yS b.j k (iA (l++[(k:Int)]) j):=λj hj=>by
    have h1:=hall j (aV.2 hj);unfold Hi at h1;rw [aM,decide_eq_true_eq,decide_eq_true_eq] at h1;exact h1
   have hkk:=ZJ l (k:Int);rw [aI,nW] at hi hj;by_cases hil:i=l.length
   .subst hil;rw [hkk];exact (hJ j hj).2
   .by_cases hjl:j=l.length
    .subst hjl;rw [hkk];exact (hJ i hi).1
    .rw [UH aD,UH aD];exact hl i j aD aD
  .cases hf
theorem Wy {a b:Host}{m:Nat}{r:V2}(h:jZ a b m []=some r)(i k:Nat)(c:i<r.length)(d:k<r.length):(RU a.j i k).length=(RU b.j (iA r i) (iA r k)).length:=by
 have f:=Na h (λi k c=>absurd c aE) i k c d;have e:=congrArg List.length ((r8 a.j i k).trans (f.trans (r8 b.j (iA r i) (iA r k)).symm));unfold RU;simpa using e
def Nb (a b:Host):Int:=if 8<a.j.h.length\/8<b.j.h.length then 3 else if (jZ a b a.j.h.length []).isSome=true/\a.j.h.length=b.j.h.length then 0 else 10
theorem Qr (t:Types)(f:t.ok)(a b:Host)(i:fG t a=0)(g:fG t b=0)(k:FhG a b)(l:FnC a b) :
  ∃ p:Part,Pua 12 [t.d,a.d,b.d] (.tup [p.d,dI (Nb a b)]):=by
 unfold Nb;split
 .rename_i hL;exact ⟨_,Qq t f a b i g hL⟩
 .rename_i hL;cases e:jZ a b a.j.h.length [] with
  | none =>
   rw [if_neg aE];exact ⟨_,Oj t f a b i g aD aD k l e⟩
  | some r =>
   by_cases c:a.j.h.length=b.j.h.length
   .rw [if_pos ⟨rfl,c⟩];have j:=FB e;simp only [jW] at j;exact ⟨_,Qp t f a b i g aD c.symm k l r e aD (Wy e)⟩
   .rw [if_neg (λh=>c h.2)];exact ⟨_,Oi t f a b i g aD aD k l r e c⟩
theorem Wz {a b:Host}{s:Part}(I:HIso a b s)(d:graphF a.j=0)(f:a.j.h.length<=8)(e:b.j.h.length=a.j.h.length):Nb a b=0:=by
 obtain ⟨r,c,_⟩:=I.gn d;unfold Nb;rw [if_neg aD,c,if_pos ⟨rfl,e.symm⟩]
theorem HI {g:Graph}(b:graphF g=0)(i j:Int):(∀ x∈Fr g (RU g i j),W1 x)/\(Fr g (RU g i j)).length<=1000:=by
 have d:=(bK b).2;have h:(RU g i j).length<=g.i.length:=EB g i j g.i.length;refine ⟨λx hx=>?_,by unfold Fr;simp;omega⟩;unfold Fr at hx;rcases aW.1 hx with rfl|hx
 .unfold W1;omega
 .obtain ⟨y,c,rfl⟩:=aT.1 hx;have e:=EC (g:=g) (i:=i) (j:=j) (n:=g.i.length) c;have a:y.toNat<g.i.length:=aD;have f:pU g y=g.i[y.toNat].type:=by unfold pU eA;rw [aA a];rfl
  have:=((dY b).2 _ (aC a)).1;rw [f];unfold W1;omega
def valsI (h:Host):Prop:=∀ v∈h.k,v.length<=1000000000000000/\∀ x∈v,W1 x
theorem fnC {a b:Host}(ha:graphF a.j=0)(hb:graphF b.j=0)(va:valsI a)(vb:valsI b):FnC a b where
 cv i j h1 h2:=RL (va _ (aC h1)).2 (vb _ (aC h2)).2 (va _ (aC h1)).1 (vb _ (aC h2)).1
 Q i j x y:=RL (HI ha i j).1 (HI hb x y).1 (by have:=(HI ha i j).2;omega) (by have:=(HI hb x y).2;omega)
 ae:=by have:=(bK ha).2;omega
 be:=by have:=(bK hb).2;omega
theorem fhG {t:Types}{a b:Host}(ha:HostOk t a)(hb:HostOk t b):FhG a b where
 av:=ha.vl
 bv:=hb.vl
 an:=by have:=(bK ha.gg).1;omega
 bn:=by have:=(bK hb.gg).1;omega
 ae:=by have:=(bK ha.gg).2;omega
 be:=by have:=(bK hb.gg).2;omega
theorem HostOk.valsI {t:Types}{h:Host}(ho:HostOk t h):Go.Abs.valsI h:=λv hv=>⟨by have:=(ho.row v hv).1;omega,λx hx=>by have:=(ho.row v hv).2 x hx;unfold W1;omega⟩
theorem WA {r:Rule}(h:fewR r=true):r.b3:=by
 simp only [fewR,fewP,aM,decide_eq_true_eq] at h;exact ⟨aD,aD,aD⟩
theorem JD {t:Types}{r:Rule}{h:Host}(a:light26 t r h=true):r.b3:=by
 refine WA ?_;unfold light26 at a;simp only [aM] at a;exact a.1.2
theorem JL (xs:List Stp26)(g:FuncId)(a:UN)(p:Stp26->Bool)(t:D.L a=true)(s:∀ x∈xs,Pure prog g (.agg x.c :: a) (.bool (p x))) :
  Pua 57 [.list (xs.map Stp26.c),.fn g a] (dI (Ed xs p)):=by
 refine aX (Tz.c0 func57 rfl ?_);simp [go_sem,seval,dI,dLI];intro o;refine gH (ι:=Nat) (λi e H=>H=.as/\i<=xs.length/\e 0=.list (xs.map Stp26.c)/\e 1=.fn g a/\e 7=dI xs.length/\e 8=dI i/\(∀ j x,j<i->xs[j]?=some x->p x=false)) (λi=>xs.length - i) 0 ii ?_;intro i e H ⟨u,v,l,k,f,d,n⟩;subst u;simp [go_sem,seval,l,k,f,d,dI,dLI];refine gK (λb=>?_) (λr=>?_)
 .have hgx:=s xs[i] (aC b);simp [go_sem,seval,l,k,f,d,dI,dLI,b,Stp26.c,Rule.c,Mat.c,Host.c] at hgx ⊢;refine aB hgx (iq t) ?_;simp [go_sem,seval,l,k,f,d,dI,dLI];refine bB (λh=>?_) (λh=>?_)
  .simp [go_sem,seval,l,k,f,d,dI,dLI];rw [pY n b h]
  .simp [go_sem,seval,l,k,f,d,dI,dLI];refine ⟨dW aD aD,i+1,aD,aD,aD,λj x q m=>?_⟩;rcases bX j i with hj'|hj'
   .exact n j x hj' m
   .have:j=i:=aD;subst this;rw [aA b] at m;cases m;exact h
 .simp [go_sem,seval,l,k,f,d,dI,dLI];rw [pZ λj x q=>n j x aD]
theorem Ep (xs:List Stp26)(g:FuncId)(a:UN)(p:Stp26->Bool)(b:D.L a=true)(d:D.Q (.list (xs.map Stp26.c))=true)(e:∀ x∈xs,Pure prog g (.agg x.c :: a) (.bool (p x))) :
  Pua 16 [.list (xs.map Stp26.c),.fn g a] (.bool (xs.any p)):=by
 refine aX (Tz.c0 func16 rfl ?_);simp [go_sem,seval];refine aB (JL xs g a p b e) (by simp only [D.L,d,gW];simp [D.Q,b]) ?_;simp [go_sem,seval,dI,sU]
theorem JI (t:Types)(x s:Stp26)(p:Part)(e:Int)(b:Pua 12 [t.d,x.C.d,s.C.d] (.tup [p.d,dI e])) :
  Pua 17 [.agg x.c,.adr t.c,.adr s.c] (.bool (decide (e=0))):=by
 refine Tz.pK ⟨λt=>t==5,λ_=>[]⟩ func17 rfl (λQ a=>?_);have Y:=xa4 @Stp26.c.eq_1 @Mat.c.eq_1 @Rule.c.eq_1 @Host.c.eq_1 @Part.d.eq_1 @Part.c.eq_1;refine wv (h:=aB (b) wl ?_);exact wv (h:=a _ _ wy)
def JV (t:Types)(s:Stp26)(x:Int):Prop :=
 gN s.C.j (iA s.U.m.h x)=gN s.x.left.j x/\s.C.k[(iA s.U.m.h x).toNat]?.getD []=iP t (gN s.C.j (iA s.U.m.h x))
structure InvK (t:Types) (s:Stp26) (D:V2):Prop where
 ht:t.ok
 dl:∀ x∈D,0<=x/\x<s.x.left.j.h.length
 ml:s.U.m.h.length=s.x.left.j.h.length
 mr:∀ x∈s.U.m.h,0<=x/\x<s.C.j.h.length
 ho:HostOk t s.C
theorem JH (d:Dr27)(t:Types)(l L:List Stp26)(g:Bool)(s:Stp26)(q:Rule)(X er z:Int)(D E2:V2)
  (cM:Pua 13 [.agg d.c] (.tup [t.d,.list (l.map Stp26.c),.bool g]))
  (hs:∀ h:0<l.length,l[0]=s)
  (cI:g=true->0<l.length->Pua 7 [t.d,s.x.d] (.tup [q.d,dI X]))
  (cD:g=true->0<l.length->Pua 14 [t.d,s.x.d] (.tup [dLI D,dLI E2,dI z]))
  (hK:g=true->0<l.length->InvK t s D)
  (cB:g=true->0<l.length->Pua 8 [t.d,s.x.d,s.after.d] (.tup [.list (L.map Stp26.c),dI er]))
  (he:g=true->0<l.length->X=0->(∀ x∈D,JV t s x)->er=0\/er=3)
  (cC:g=true->0<l.length->X=0->er=0->s.C.j.h.length<=8->(∀ x∈D,JV t s x) ->
   Pua 16 [.list (L.map Stp26.c),.fn 17 [.adr t.c,.adr s.c]] (.bool true)) :
  Pua 4 [.agg d.c] (.bool true):=by
 refine Tz.pK ⟨λt=>t==3||t==6||t==7||t==18,λ_=>[]⟩ func4 rfl (λQ I=>?_);have Y:=xa8 @Dr27.c.eq_1 @Dr26.c.eq_1 @Dr24.c.eq_1 @Dr15.c.eq_1 @Host.d.eq_1 @Host.c.eq_1 @Mat.c.eq_1 @Rule.c.eq_1 @Stp26.c.eq_1 @Part.c.eq_1;refine j4 (h:=aB ((by have hz:=cM;simp only [Dr27.c,Dr26.c,Dr24.c,Dr15.c,dP,dS] at hz;exact hz)) wl ?_);refine j4 (h:=?_);repeat first|intro _|refine ⟨fK,?_⟩
 refine aB (Gv) wl ?_;refine j4 (h:=?_);repeat first|intro _|refine ⟨fK,?_⟩
 refine wq (λf=>?_) λf=>?_
 .refine j4 (h:=aB (Gv) wl ?_);have Y:=wa Y f;exact j4 (h:=I _ _ wy)
 .have hok:g=true:=by cases g<;>simp at f ⊢
  have a:0<l.length:=by cases l<;>simp [hok] at f ⊢
  have a3:=hs a;obtain ⟨kt,kd,km,kr,ko⟩:=hK hok a;have Y:=xa2 Y (aA a) a3 a;refine j4 (h:=?_);repeat first|intro _|refine ⟨fK,?_⟩
  refine aB (cI hok a) wl ?_;refine j4 (h:=?_);repeat first|intro _|refine ⟨fK,?_⟩
  refine wq (λC=>?_) λC=>?_
  .have Y:=xa1 Y f C;exact j4 (h:=I _ _ wy)
  .have hie:X=0:=by simpa using C
   refine j4 (h:=aB (cD hok a) wl ?_);refine j4 (h:=?_);repeat first|intro _|refine ⟨fK,?_⟩
   refine bA (λi e H=>(e 3=.ptr 0 1 0 0/\e 6=.ptr 1 1 0 0/\e 59=dLI D/\e 60=dI D.length/\e 61=dI i)/\(H.get 0=some ⟨25,2,[[.list (t.h.map NodeTy.c),.list (t.i.map EdgeTy.c)]],false⟩)/\(0<H.next)/\(H.get 1=some ⟨57,38,[s.c],false⟩)/\(1<H.next)/\(i<=D.length)/\(∀ j (h:j<D.length),j<i->JV t s D[j])) (λi=>D.length - i) 0 ⟨wg,wn,wn,cl,wn,wi,(by exact λj _ h=>absurd h aD)⟩ λI0 b1 i e H a6=>?_;obtain ⟨E0,W,N,U,K,hi,hG⟩:=a6;have Y:=xa4 Y E0 W (bS N) U (bS K);refine j4 (h:=wq (λb=>?_) λb=>?_)
   .obtain ⟨x,R⟩:=c7 (D[i]);have a0:=kd D[i] (aC b);rw [<- R] at a0;have r:x.toNat<s.U.m.h.length:=aD;have P:x.toNat<s.x.left.j.h.length:=aD;obtain ⟨k,hk⟩:=c7 (s.U.m.h[x.toNat]);have a4:=kr _ (aC r);rw [<- hk] at a4;have B:k.toNat<s.C.j.h.length:=aD;have w:k.toNat<s.C.k.length:=by have:=ko.vl;omega
    obtain ⟨y,Z⟩:=c7 (s.C.j.h[k.toNat]);obtain ⟨y2,O⟩:∃ y,y=s.x.left.j.h[x.toNat]:=⟨_,rfl⟩;obtain ⟨o,u⟩:∃ y,y=s.C.k[k.toNat]:=⟨_,rfl⟩;have v:=pJ (ko.nd k.toNat B w);rw [<- Z,<- u] at v;obtain ⟨A,hA⟩:=c7 (bL t y);have S:=lQ t kt y;rw [<- hA] at S v;have a1:o.length=A.length:=v.2.2.1;have g1:iA s.U.m.h x=k:=by unfold iA;rw [aA r,<- hk];rfl
    have g2:gN s.C.j k=y:=by unfold gN;rw [aA B,<- Z];rfl
    have g3:gN s.x.left.j x=y2:=by unfold gN;rw [aA P,<- O];rfl
    have g4:s.C.k[k.toNat]?.getD []=o:=by rw [aA w,<- u];rfl
    have Y:=xa0 Y (xb0 b (aA b) (Eq.symm R) (aA r) (Eq.symm hk) (aA B) (Eq.symm Z) (aA P) (Eq.symm O) (aA w) (Eq.symm u) @cL.eq_1);refine j4 (h:=?_);repeat first|intro _|refine ⟨fK,?_⟩
    refine aH (S) wl ?_;refine j4 (h:=?_);repeat first|intro _|refine ⟨fK,?_⟩
    refine bA (λj e H=>(e 3=.ptr 0 1 0 0/\e 6=.ptr 1 1 0 0/\e 13=dI x/\e 14=dI k/\e 59=dLI D/\e 60=dI D.length/\e 61=dI i/\e 84=.list (A.map Attr.c)/\e 85=dI A.length/\e 86=dI j)/\(H.get 0=some ⟨25,2,[[.list (t.h.map NodeTy.c),.list (t.i.map EdgeTy.c)]],false⟩)/\(0<H.next)/\(H.get 1=some ⟨57,38,[s.c],false⟩)/\(1<H.next)/\(j<=A.length)/\(∀ p (h1:p<o.length) (f:p<A.length),p<j->o[p]=A[p].ao)) (λj=>A.length - j) 0 ⟨wg,wn,wn,cl,wn,wi,(by exact λp _ _ h=>absurd h aD)⟩ λI2 b0 j e H a5=>?_;obtain ⟨E2,V,M,T,J,hj,hV⟩:=a5;have Y:=xa4 Y E2 V (bS M) T (bS J);refine j4 (h:=wq (λn=>?_) λn=>?_)
    .have hjv:j<o.length:=aD;have Y:=xa3 Y n (aA n) (aA hjv) @Attr.c.eq_1;refine j4 (h:=?_);repeat first|intro _|refine ⟨fK,?_⟩
     refine wq (λG=>?_) λG=>?_
     .have Y:=xa2 Y f C G;exact j4 (h:=I _ _ wy)
     .have hvj:o[j]=A[j].ao:=by simpa using G
      refine j4 (h:=?_);repeat first|intro _|refine ⟨fK,?_⟩
      exact wx b0 (j+1) ⟨wg,wn,wn,cl,wn,wj,(by exact λp h1 f hp=>if hpj:p<j then hV p h1 f hpj else (aD:j=p) ▸ hvj)⟩
    .have hrow:o=iP t y:=by
      rw [Wm,<- hA];exact Xt a1 λp p1 p2=>hV p p1 p2 aD
     refine j4 (h:=?_);repeat first|intro _|refine ⟨fK,?_⟩
     refine wq (λF=>?_) λF=>?_
     .have Y:=xa3 Y f C n F;exact j4 (h:=I _ _ wy)
     .have hyy:y=y2:=by simpa using F
      have a7:JV t s D[i]:=by
       rw [<- R];unfold JV;rw [g1,g2,g3,g4];exact ⟨hyy,hrow⟩
      refine j4 (h:=?_);repeat first|intro _|refine ⟨fK,?_⟩
      exact wx b1 (i+1) ⟨wg,wn,wn,cl,wn,wj,(by exact λj h hj=>if hji:j<i then hG j h hji else (aD:i=j) ▸ a7)⟩
   .have hall:∀ x∈D,JV t s x:=λx R=>by
     obtain ⟨j,hj,rfl⟩:=aO R;exact hG j hj aD
    have a8:=he hok a hie hall;refine j4 (h:=aB (cB hok a) wl ?_);refine j4 (h:=?_);repeat first|intro _|refine ⟨fK,?_⟩
    refine wq (λE=>?_) λE=>?_
    .skip
     refine j4 (h:=?_);repeat first|intro _|refine ⟨fK,?_⟩
     have Y:=xa3 Y f C b E;exact I _ _ wy
    .have he0:er=0:=by first|omega|(rcases a8 with h|h<;>simp_all)
     have a2:s.C.j.h.length<=8:=by first|omega|(simp_all<;>omega)
     have a9:=cC hok a hie he0 a2 hall;refine j4 (h:=s4 (a9) wr wl rfl ?_);have Y:=xa3 Y f C b E;exact j4 (h:=I _ _ wy)
theorem ac4 {t:Types}{r:Rule}{h:Host}{m:Mat}(j:r.ok)(f:jJ t r h m=0):(mU t r h).2=0\/(mU t r h).2=3:=by
 have d:=(kD j f).ey;have c:eH t r.left.j h.j=0:=by
  unfold o7 at d;split at d
  .cases d
  .rename_i q;have e:checkE t r.left.j h.j m.m r.inj=0:=by simpa using q
   unfold checkE at e;split at e
   .rename_i q;exact absurd e q
   .rename_i q;simpa using q
 have g:fW t r h=0:=by
  unfold jJ at f;split at f
  .contradiction
  .rename_i q;simpa using q
 obtain ⟨a,i⟩:=uG g;have b:c9 t r.left=0:=by
  unfold ruleF at a;split at a
  .rename_i q;exact absurd a q
  .split at a
   .cases a
   .split at a
    .rename_i q;exact absurd a q
    .rename_i q;simpa using q
 have k:(eX t r.left h r.inj).2=0\/(eX t r.left h r.inj).2=3:=by
  unfold eX;rw [if_neg (by rw [b];simp),if_neg (by rw [i];simp)];have:(kC t r.left.j h.j r.inj).2=0\/(kC t r.left.j h.j r.inj).2=3:=by
   unfold kC;rw [if_neg (by rw [c];simp),UX];split<;>simp
  rcases this with h|h
  .rw [if_neg (by rw [h];simp)];exact .inl rfl
  .rw [if_pos (by rw [h];simp)];exact .inr h
 unfold mU;rw [if_neg (by rw [g];simp)];rcases k with h|h
 .rw [if_neg (by rw [h];simp)];exact .inl rfl
 .rw [if_pos (by rw [h];simp)];exact .inr h
theorem Xp {t:Types}{rs:List Rule}{h:Host}{codes:List UInt8}:∀ s∈Iz t rs h codes,s.x∈rs:=by
 have f:∀ (l:List UInt8) (b:Host × List Stp26),(∀ s∈b.2,s.x∈rs)->∀ s∈(l.foldl (AH t rs) b).2,s.x∈rs:=λl=>by
  induction l with
  | nil=>exact λb h=>h
  | cons c l ih =>
   intro b d;rw [pD];refine ih _ ?_;unfold AH;split
   .exact d
   .rename_i hne;have a:=QP hne c;intro s hs;rcases aZ.1 hs with hs|hs
    .exact d s hs
    .rw [bD] at hs;subst hs;generalize QQ (zZ t rs b.1) c=s at a ⊢;unfold zZ at a;obtain ⟨r,g,a⟩:=bQ.1 a;split at a
     .obtain ⟨m,_,e,_⟩:=L8 a;subst e;exact g
     .cases a
 exact f codes (h,[]) aE
theorem Rc (d:Dr27):∃ (T:Types) (M:List Stp26) (ok:Bool),Pua 13 [.agg d.c] (.tup [T.d,.list (M.map Stp26.c),.bool ok]) /\
  (ok=true->T.ok/\(∃ g g',Chn T g M g')/\∀ s∈M,s.x.b3):=by
 have k:(t26 d.first).b6:=Jt _ _;have j:=SS d.first;have i:=IN _ k (Ki d.cg);have b:(r26 d.first).le:=MK _ _;have a:=MK (t26 d.first) (Ki d.cg);obtain ⟨t,u⟩:=c7 (t26 d.first);obtain ⟨r,v⟩:=c7 (r26 d.first);obtain ⟨h,A⟩:=c7 (Rn d.first);rw [<- u,<- v,<- A] at j;rw [<- u] at k i a;rw [<- v] at b;obtain ⟨q,w⟩:=c7 (Fo t (Ki d.cg));rw [<- w] at i a;have l:∀ n∈t.h,n.r.length<=1000000000000000:=λn y=>dZ (k.ok.h n y).cf aD;have p:=y7 t l r b h;have o:=y7 t l q a h;have m:d.b7.length<=4->light26 t r h=true->light26 t q h=true->Pua 53 [t.d,.list [r.c,q.c],h.d,.list (d.b7.map cU)] (.list ((Iz t [r,q] h d.b7).map Stp26.c)):=λB _ _ =>
  VH t l [r,q] (λx hx=>by
   rcases aW.1 hx with rfl|hx
   .exact b
   .rw [bD] at hx;subst hx;exact a) aE h d.b7 aD
 by_cases f:d.bO
 .by_cases hb:light26 t r h=true/\light26 t q h=true
  .refine ⟨t,Iz t [r,q] h d.b7,true,A2 d t t r q h _ _ true _ _ j i p o m (λh=>absurd f h) (λ_ h=>absurd hb h) (λ_ _=>⟨rfl,rfl,rfl⟩),λ_=>?_⟩;refine ⟨(zI hb.1).1,⟨h,(ZW λr _ g z=>(zI z).2).2⟩,λs f=>?_⟩;rcases aW.1 (Xp s f) with e|e
   .rw [e];exact JD hb.1
   .rw [bD] at e;rw [e];exact JD hb.2
  .exact ⟨t,[],false,A2 d t t r q h _ _ false _ _ j i p o m (λh=>absurd f h) (λ_ _=>⟨rfl,rfl,rfl⟩) (λ_ h=>absurd h hb),λh=>by cases h⟩
 .exact ⟨⟨[],[]⟩,[],false,A2 d t _ r q h _ _ false _ _ j i p o m (λ_=>⟨rfl,rfl,rfl⟩) (λh=>absurd h f) (λh=>absurd h f),λh=>by cases h⟩
theorem RQ {t:Types}{s:Stp26}(b:tY t s=true):ruleF t s.x=0/\fG t s.C=0:=by
 have a:=ZX b;unfold jJ at a;split at a
 .contradiction
 .rename_i q;exact uG (bY q)
theorem ac3 {t:Types}{s:Stp26}(b:s.x.ok)(c:tY t s=true)(a:tD t s.x=0)(L:Bq t s.x s.C s.U):Hp t s.x s.after=0\/Hp t s.x s.after=3:=by
 obtain ⟨f,K⟩:=Kt b c;obtain ⟨_,e,_⟩:=Fw a;obtain ⟨k,j,d,i⟩:=CO b a;have g:s.after=bP t s.x s.C s.U:=congrArg Stp26.after f;obtain ⟨h,_⟩:=MQ b a (RQ c).1 K (AS e).2.1 L;unfold Hp;rw [if_neg (by rw [a];simp),g];exact ac4 d h
theorem GB {t:Types}{s:Stp26}(h0:ruleF t s.x=0)(hall:∀ x∈delN t s.x,JV t s x):Bq t s.x s.C s.U:=λi i0 i1 hn=>by
 have hx:i∈delN t s.x:=by unfold delN;rw [if_pos h0];exact dQ.2 ⟨⟨i0,i1⟩,hn⟩
 obtain ⟨g1,g2⟩:=hall i hx;exact ⟨g1,by rw [g2,g1]⟩
theorem A3 (d:Dr27):Pua 4 [.agg d.c] (.bool true):=by
 obtain ⟨t,M,ok,L,F⟩:=Rc d;obtain ⟨s,r⟩:∃ s,∀ h:0<M.length,M[0]=s:=by
  by_cases h:0<M.length
  .exact ⟨M[0],λ_=>rfl⟩
  .exact ⟨mO,λJ=>absurd J h⟩
 have a:ok=true->0<M.length->t.ok/\s.x.ok/\tY t s=true/\s.x.b3:=λe b=>by
  obtain ⟨k,⟨g,P,D⟩,q⟩:=F e;have:=D.at.1 0 b;have hm:=q _ (aC b);rw [r b] at hm;rw [abD b,r b] at this;exact ⟨k,this.2.1,this.2.2,hm⟩
 refine JH d t M (LO t s.x s.after) ok s (Tp t s.x) (tD t s.x) (Hp t s.x s.after) (ruleF t s.x) (delN t s.x) (delE t s.x) L r
  (λe b=>Ln t (a e b).1 s.x (a e b).2.1 (a e b).2.2.2)
  (λe b=>Lo t (a e b).1 s.x (a e b).2.1) (λe b=>?_)
  (λe b=>IH t (a e b).1 s.x (a e b).2.1 (a e b).2.2.2 s.after)
  (λe b z f=>ac3 (a e b).2.1 (a e b).2.2.1 z (GB (RQ (a e b).2.2.1).1 f)) (λe b z H O f=>?_)
 .obtain ⟨o,n,l,_⟩:=a e b;obtain ⟨Q,K⟩:=Kt n l;have S:=K.S;refine ⟨o,λx j=>?_,S.hm.len,λx j=>?_,S.ho⟩
  .unfold delN at j;rw [if_pos (RQ l).1] at j;exact (dQ.1 j).1
  .obtain ⟨i,C,rfl⟩:=aO j;exact (S.hm.b5 i C (by have:=S.hm.len;omega)).1
 .obtain ⟨o,n,l,_⟩:=a e b;obtain ⟨v,u⟩:=RQ l;have ho:=lK u;obtain ⟨x,j,⟨p,I⟩,G⟩:=Wr n l v (GB v f) H;have w:=Ep (LO t s.x s.after) 17 [.adr t.c,.adr s.c] (λx=>decide (Nb x.C s.C=0)) eq eq (λy A=>by
   obtain ⟨N,_⟩:=Z2 n A;have m:=(RQ N).2;obtain ⟨p,B⟩:=Qr t o y.C s.C m u (fhG (lK m) ho) (fnC (lK m).gg ho.gg (lK m).valsI ho.valsI);exact JI t y s p _ B)
  have E:(LO t s.x s.after).any (λx=>decide (Nb x.C s.C=0))=true:=bF.2 ⟨x,j,by
   have:=I.nn;rw [Wz I (lK G).gg aD aD];rfl⟩
  rw [E] at w;exact w
end Go.Abs
end
section
namespace Go.Proofs.YtbgbahlipnaflaaGreat.bulks
open Go.Abs
theorem one_le {H:Type}(d:DataW H):1<=Rows.uptoBulk d:=by
 cases d with
 | lit l=>cases l<;>simp [Rows.uptoBulk]
 | _=>simp [Rows.uptoBulk]
theorem mem_le {H:Type}{d:DataW H}:∀ {l:List (DataW H)},d∈l->Rows.uptoBulk d<=Rows.uptoBulkAll l
 | [],h=>by cases h
 | x :: r,h=>by
  simp only [Rows.uptoBulkAll];rcases aW.1 h with rfl|h
  .omega
  .have:=mem_le h;omega
theorem len_le {H:Type}:∀ l:List (DataW H),l.length<=Rows.uptoBulkAll l
 | []=>by simp [Rows.uptoBulkAll]
 | x :: r=>by have:=one_le x;have:=len_le r;simp only [Rows.uptoBulkAll,eO];omega
theorem ok {H:Type}:Go.Abs.Bulk (Rows.uptoBulk (H:=H)) where
 len e s:=by have:=len_le e;simp only [Rows.uptoBulk];omega
 el e s d h:=by have:=mem_le h;simp only [Rows.uptoBulk];omega
 part l d h:=by have:=mem_le h;simp only [Rows.uptoBulk];omega
 str s:=by simp [Rows.uptoBulk]
theorem bound {H:Type}{l:List (DataW H)}(hk:Rows.uptoSmall H l=true):∀ d∈l,Rows.uptoBulk d<=1048576:=λd hd=>by
 have h:=of_decide_eq_true hk;have:=mem_le hd;omega
end Go.Proofs.YtbgbahlipnaflaaGreat.bulks
end
section
set_option maxRecDepth 100000
set_option maxHeartbeats 4000000
open Go Go.Proofs Tryz
namespace Go.Abs
section
variable {H:Type} {enc:TypeId × Value→H} {P:Program} {w:World} {base:Nat} {spare:Nat→Bool} {held:Bool} {bulk:DataW H→Nat} {B:Nat} {n:Nat} {t:TypeId}
theorem PL {fuel:Nat}{cs:List Value}{e:TypeId}:∀ (k o:Nat),cs.length=(o+k) * P.cellsOf e ->
  (∀ i,o<=i->i<o+k->∃ y,DataW.trod enc P w base spare held fuel e ((cs.drop (i * P.cellsOf e)).take (P.cellsOf e))=some y/\bulk y.1<=B)->Z5 enc P w base spare held bulk B fuel (List.replicate k e) (cs.drop (o * P.cellsOf e))
 | 0,o,hl,_=>by
  show cs.drop _=[];rw [List.drop_eq_nil_iff,hl];simp
 | k+1,o,hl,h=>by
  rw [nE];refine ⟨h o (bC _) aD,?_⟩;rw [List.drop_drop,show o * P.cellsOf e+P.cellsOf e=(o+1) * P.cellsOf e by rw [Nat.succ_mul]];exact PL k (o+1) (by rw [hl];congr 1;omega) λi h1 h2=>h i aD aD
theorem wE (hB:Bulk bulk){k:Nat}{e:TypeId}(ht:P.underlying t=some (.array k e))(hc:P.cellsOf t=k * P.cellsOf e){α:Type}{C:α->UN}{G:α->Prop}(h:KM enc P w base spare held bulk B n (List.replicate k e) C G) :
  Opens enc P w base spare held bulk B (n+1) t C G:=λfuel cs x hf hx hb=>by
 obtain ⟨xs,m,rfl,rfl,hcl,hxl,hfl⟩:=DataW.trod_array ht hx;simp only at hb;have hs:=PL (enc:=enc) (P:=P) (w:=w) (base:=base) (spare:=spare) (held:=held) (bulk:=bulk) (B:=B) (fuel:=m) (cs:=cs) (e:=e) k 0 (by rw [hcl,hc];simp) λi _ hi=>by
  have hfi:=hfl i aD;rw [aA aD] at hfi;exact ⟨_,hfi,dZ (hB.part _ _ (aT.2 ⟨_,aC aD,rfl⟩)) hb⟩
 rw [Nat.zero_mul,List.drop_zero] at hs;exact h m cs aD hs
theorem XC (ht:P.underlying t=some (.int .u8)):Opens enc P w base spare held bulk B n t cU (λ_=>True):=λfuel cs x _ hx _=>by
 obtain ⟨z,rfl,_,hw⟩:=DataW.trod_int ht hx;refine ⟨UInt8.ofNat z.toNat,trivial,?_,by simp [Value.oneCell']⟩;have hz:0<=z/\z<256:=by
  have h1:IntKind.u8.min=0:=by decide
  have h2:IntKind.u8.max=255:=by decide
  simp only [Lit.wf,aM,decide_eq_true_eq,h1,h2] at hw;omega
 have he:(((UInt8.ofNat z.toNat).toNat:Nat):Int)=z:=by simp;omega
 unfold cU;rw [he];exact uT (.int .u8 z)
theorem XD (ht:P.underlying t=some (.int .i8)):Opens enc P w base spare held bulk B n t (λx:Int8=>[D.int .i8 x.toInt]) (λ_=>True):=λfuel cs x _ hx _=>by
 obtain ⟨z,rfl,_,hw⟩:=DataW.trod_int ht hx;refine ⟨Int8.ofInt z,trivial,?_,by simp [Value.oneCell']⟩;have hz : -128<=z/\z<128:=by
  have h1:IntKind.i8.min = -128:=by decide
  have h2:IntKind.i8.max=127:=by decide
  simp only [Lit.wf,aM,decide_eq_true_eq,h1,h2] at hw;omega
 have he:(Int8.ofInt z).toInt=z:=by rw [Int8.toInt_ofInt_of_le]<;>omega
 show RepL Tf jG tB w _ [D.int .i8 (Int8.ofInt z).toInt];rw [he];exact uT (.int .i8 z)
theorem VZ (ht:P.underlying t=some (.int .u64)):Opens enc P w base spare held bulk B n t (λx:UInt64=>[D.int .u64 (x.toNat:Int)]) (λ_=>True):=λfuel cs x _ hx _=>by
 obtain ⟨z,rfl,_,hw⟩:=DataW.trod_int ht hx;refine ⟨UInt64.ofNat z.toNat,trivial,?_,by simp [Value.oneCell']⟩;have hz:0<=z/\z<18446744073709551616:=by
  have h1:IntKind.u64.min=0:=by decide
  have h2:IntKind.u64.max=18446744073709551615:=by decide
  simp only [Lit.wf,aM,decide_eq_true_eq,h1,h2] at hw;omega
 have he:(((UInt64.ofNat z.toNat).toNat:Nat):Int)=z:=by simp;omega
 show RepL Tf jG tB w _ [D.int .u64 (((UInt64.ofNat z.toNat).toNat:Nat):Int)];rw [he];exact uT (.int .u64 z)
end
section
variable {H:Type} {enc:TypeId × Value→H} {w:World} {base:Nat} {spare:Nat→Bool} {held:Bool} {bulk:DataW H→Nat} {B:Nat}
theorem op4:∀ n,Opens enc prog w base spare held bulk B n 4 (λb:Bool=>[D.bool b]) (λ_=>True):=λn=>Td underlying4
theorem YX:∀ n,Opens enc prog w base spare held bulk B n 5 cU (λ_=>True):=λn=>XC underlying5
theorem Ut:∀ n,Opens enc prog w base spare held bulk B n 250 (λx:Int8=>[D.int .i8 x.toInt]) (λ_=>True):=λn=>XD underlying250
theorem ajG:∀ n,Opens enc prog w base spare held bulk B n 69 (λx:UInt64=>[D.int .u64 (x.toNat:Int)]) (λ_=>True):=λn=>VZ underlying69
theorem afQ (hB:Bulk bulk):∀ n,Opens enc prog w base spare held bulk B n 241 cP (λ_=>True)
 | 0=>Opens.zero
 | n+1=>(wE hB (k:=2) underlying241 ia (dB (YX n) (dB (YX n) (l8)))).map (λp=>(p.1,p.2.1)) (λp=>rfl) (λ_ _=>trivial)
theorem afP (hB:Bulk bulk):∀ n,Opens enc prog w base spare held bulk B n 243 cT3 (λ_=>True)
 | 0=>Opens.zero
 | n+1=>(wE hB (k:=3) underlying243 ia (dB (YX n) (dB (YX n) (dB (YX n) (l8))))).map (λp=>(p.1,p.2.1,p.2.2.1)) (λp=>rfl) (λ_ _=>trivial)
theorem ajF (hB:Bulk bulk):∀ n,Opens enc prog w base spare held bulk B n 70 cU4 (λ_=>True)
 | 0=>Opens.zero
 | n+1=>(wE hB (k:=4) underlying70 ia (dB (YX n) (dB (YX n) (dB (YX n) (dB (YX n) (l8)))))).map (λp=>(p.1,p.2.1,p.2.2.1,p.2.2.2.1)) (λp=>rfl) (λ_ _=>trivial)
theorem afO (hB:Bulk bulk):∀ n,Opens enc prog w base spare held bulk B n 251 cT4 (λ_=>True)
 | 0=>Opens.zero
 | n+1=>(wE hB (k:=4) underlying251 ia (dB (Ut n) (dB (Ut n) (dB (Ut n) (dB (Ut n) (l8)))))).map (λp=>(p.1,p.2.1,p.2.2.1,p.2.2.2.1)) (λp=>rfl) (λ_ _=>trivial)
theorem abW (hB:Bulk bulk):∀ n,Opens enc prog w base spare held bulk B n 61 (λl:List B2=>[D.list (l.map cP)]) (λ_=>True)
 | 0=>Opens.zero
 | n+1=>(wD hB underlying61 (afQ hB n)).map id (λ_=>rfl) (λ_ _=>trivial)
theorem XE (hB:Bulk bulk):∀ n,Opens enc prog w base spare held bulk B n 63 (λl:List B3=>[D.list (l.map cT3)]) (λ_=>True)
 | 0=>Opens.zero
 | n+1=>(wD hB underlying63 (afP hB n)).map id (λ_=>rfl) (λ_ _=>trivial)
theorem Zr (hB:Bulk bulk):∀ n,Opens enc prog w base spare held bulk B n 62 (λl:List UInt8=>[D.list (l.map cU)]) (λ_=>True)
 | 0=>Opens.zero
 | n+1=>(wD hB underlying62 (YX n)).map id (λ_=>rfl) (λ_ _=>trivial)
theorem ajI (hB:Bulk bulk):∀ n,Opens enc prog w base spare held bulk B n 66 (λl:List T4=>[D.list (l.map cT4)]) (λ_=>True)
 | 0=>Opens.zero
 | n+1=>(wD hB underlying66 (afO hB n)).map id (λ_=>rfl) (λ_ _=>trivial)
theorem ajJ (hB:Bulk bulk):∀ n,Opens enc prog w base spare held bulk B n 65 Dr5.c (λ_=>True)
 | 0=>Opens.zero
 | n+1=>(oP hB underlying65 ia (dB (Zr hB n) (dB (XE hB n) (l8)))).map (λp=>⟨p.1,p.2.1⟩) (λp=>rfl) (λ_ _=>trivial)
theorem ajH (hB:Bulk bulk):∀ n,Opens enc prog w base spare held bulk B n 68 Dr21.c (λ_=>True)
 | 0=>Opens.zero
 | n+1=>(oP hB underlying68 ia (dB (ajJ hB n) (dB (XE hB n) (dB (ajI hB n) (l8))))).map (λp=>⟨p.1,p.2.1,p.2.2.1⟩) (λp=>rfl) (λ_ _=>trivial)
theorem afN (hB:Bulk bulk):∀ n,Opens enc prog w base spare held bulk B n 72 Dr24.c (λ_=>True)
 | 0=>Opens.zero
 | n+1=>(oP hB underlying72 ia (dB (ajH hB n) (dB (ajG n) (dB (Zr hB n) (dB (XE hB n) (dB (XE hB n) (dB (op4 n) (dB (op4 n) (dB (ajF hB n) (dB (Zr hB n) (l8))))))))))).map (λp=>⟨p.1,p.2.1,p.2.2.1,p.2.2.2.1,p.2.2.2.2.1,p.2.2.2.2.2.1,p.2.2.2.2.2.2.1,p.2.2.2.2.2.2.2.1,p.2.2.2.2.2.2.2.2.1⟩) (λp=>rfl) (λ_ _=>trivial)
theorem ajE (hB:Bulk bulk):∀ n,Opens enc prog w base spare held bulk B n 74 Dr15.c (λ_=>True)
 | 0=>Opens.zero
 | n+1=>(oP hB underlying74 ia (dB (abW hB n) (dB (XE hB n) (l8)))).map (λp=>⟨p.1,p.2.1⟩) (λp=>rfl) (λ_ _=>trivial)
end
section
variable {H:Type} {enc:TypeId × Value→H} {w:World} {base:Nat} {spare:Nat→Bool} {held:Bool} {bulk:DataW H→Nat} {B:Nat}
theorem ajD (hB:Bulk bulk):∀ n,Opens enc prog w base spare held bulk B n 76 Dr26.c (λ_=>True)
 | 0=>Opens.zero
 | n+1=>(oP hB underlying76 ia (dB (abW hB n) (dB (abW hB n) (dB (afN hB n) (dB (ajE hB n) (l8)))))).map (λp=>⟨p.1,p.2.1,p.2.2.1,p.2.2.2.1⟩) (λp=>by simp [Dr26.c]) (λ_ _=>trivial)
end
section
variable {H:Type} {enc:TypeId × Value→H} {w:World} {base:Nat} {spare:Nat→Bool} {held:Bool} {bulk:DataW H→Nat} {B:Nat}
theorem ajC (hB:Bulk bulk):∀ n,Opens enc prog w base spare held bulk B n 78 Dr27.c (λ_=>True)
 | 0=>Opens.zero
 | n+1=>(oP hB underlying78 ia (dB (ajD hB n) (dB (afN hB n) (dB (Zr hB n) (l8))))).map (λp=>⟨p.1,p.2.1,p.2.2.1⟩) (λp=>by simp [Dr27.c]) (λ_ _=>trivial)
end
end Go.Abs
end
