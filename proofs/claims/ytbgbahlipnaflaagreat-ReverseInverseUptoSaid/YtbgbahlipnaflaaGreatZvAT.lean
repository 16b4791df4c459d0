/- The finder of the program: fits, possible. · The finder of t -/
import Derived.Test.YtbgbahlipnaflaaGreatZvAG
import Derived.Test.YtbgbahlipnaflaaGreatZvAS
import Derived.Test.YtbgbahlipnaflaaGreatZvAA
import Derived.Test.YtbgbahlipnaflaaGreatZvAR
import Derived.RangeFuncBox
import Derived.RangeFuncLeaves
import Derived.Shelf.Abstract
import Derived.WalkKit
import Derived.OwnWalkIn
import Derived.TacticsInMore
import Derived.LoopNIn
import Derived.LoopIn
import Derived.Maps.AppendAt
set_option linter.unusedVariables false
set_option linter.unusedSimpArgs false
section
set_option maxRecDepth 100000
set_option maxHeartbeats 4000000
open Go Go.Proofs Tryz
namespace Go.Abs
def Srch.a7 (S:Srch)(most:Int)(pn pe ns es ou:D):UN:=[dLI S.p.h,.list (S.p.i.map Edge.c),dLI S.g.h,.list (S.g.i.map Edge.c),.list (tK S.t S.t.h.length),pn,pe,.bool S.inj,dI most,ns,es,ou]
def Hh (S:Srch)(l:V2)(i k:Nat):Bool:=yE S.pe i k&&Ar S l i k
theorem F9 (S:Srch)(a:Int)(r pe es s:D)(j:r.Q=true)(q:es.Q=true)(n:s.Q=true)(l:V2)(i k:Nat)(o:i<S.p.i.length)(w:k<S.g.i.length)
  (b:GivD pe S.pe S.p.i.length) (B:0<=S.p.i[i].w) (y:S.p.i[i].w.toNat<l.length) (x:0<=S.p.i[i].M) (e:S.p.i[i].M.toNat<l.length) :
  Pua 405 [.adr (S.a7 a r pe (dLI l) es s),dI i,dI k] (.bool (Hh S l i k)):=by
 have m:=b.1;obtain ⟨v,u⟩:=c7 (S.pe[i]?.getD (-1));have d:=b.2 i o;rw [<- u] at d;have f:yE S.pe i k=(decide (v<0)||decide (v=(k:Int))):=by unfold yE;rw [<- u]
 have C:Ar S l i k=(decide (S.g.i[k].type=S.p.i[i].type)&&(decide (S.g.i[k].w=l[S.p.i[i].w.toNat])&&decide (S.g.i[k].M=l[S.p.i[i].M.toNat]))):=by
  simp only [Ar,edX,WD,aA w,aA o,Option.getD_some,aA y,aA e];simp
 refine Tz.pK ⟨λt=>t==7,λ_=>[]⟩ func405 rfl (λQ z=>?_);have Y:=xa8 @Srch.a7.eq_1 (aA o) (aA w) (aA y) (aA e) @Edge.c.eq_1 j q n m;refine wo (h:=aB (d) wl ?_);refine eP (λA=>?_) λA=>?_
 .have hE:Hh S l i k=false:=by unfold Hh;rw [f,show decide (v<0)=false by simp;omega,show decide (v=(k:Int))=false by simp;omega];rfl
  exact wv (h:=z _ _ (iq hE))
 .have hE:Hh S l i k=Ar S l i k:=by
   unfold Hh;rw [f];rcases Int.lt_or_le v 0 with h|h
   .simp [h]
   .simp [A h]
  exact wo (h:=z _ _ (by simp [go_sem,hE,C,Ea,mW]))
theorem G1 (S:Srch)(L:graphF S.p=0)(U:graphF S.g=0)(a:Int)(r s es u:D)(f:r.Q=true)(n:es.Q=true)(m:u.Q=true)(l:V2)(v:GivD s S.pe S.p.i.length) :
  Pua 404 [.adr (S.a7 a r s (dLI l) es u)] (.bool (wB S l)):=by
 have w:=v.1;have B:=(dY L).2;have T:=bK L;have R:=bK U;have V:D.L (S.a7 a r s (dLI l) es u)=true:=by simp [go_sem,Srch.a7,D.L,f,n,m,w]
 refine Tz.pK ⟨λt=>t==5,λ_=>[]⟩ func404 rfl (λQ O=>?_);have Y:=xa3 @Srch.a7.eq_1 f n m w;refine wo (h:=bA (λi e H=>(e 0=.adr (S.a7 a r s (dLI l) es u)/\e 3=dI ((l.length:Int) - 1)/\e 18=.list (S.p.i.map Edge.c)/\e 19=dI S.p.i.length/\e 20=dI i)/\(i<=S.p.i.length)/\(∀ j,j<i->Jd S l j=true)) (λi=>S.p.i.length - i) 0 ⟨wg,wi,(by intro j C;omega)⟩ λI0 x i e H F=>?_);obtain ⟨Z,hi,I⟩:=F;have Y:=wa Y Z;refine dR (λq=>?_) λq=>?_
 .have hxi:=(B _ (aC q)).2;have o:Jd S l i=(decide (max S.p.i[i].w S.p.i[i].M≠(l.length:Int) - 1)||(List.range S.g.i.length).any (Hh S l i)):=by
   unfold Jd;rw [aA q,Option.getD_some];rfl
  have Y:=xa2 Y q (aA q) @Edge.c.eq_1;refine eP (λP=>?_) λP=>?_
  .have hKi:Jd S l i=true:=by rw [o];simp;omega
   exact wo (h:=wx x (i+1) ⟨wg,wj,(by intro j C;rcases bX j i with hji|hji;exact I j hji;(obtain rfl:j=i:=aD;exact hKi))⟩)
  .have hf:S.p.i[i].w.toNat<l.length:=aD;have G:S.p.i[i].M.toNat<l.length:=aD;have A:=hxi.1.1;have z:=hxi.2.1;have W:=q;have Y:=wa Y P;refine wo (h:=bA (λk e H=>(e 0=.adr (S.a7 a r s (dLI l) es u)/\e 3=dI ((l.length:Int) - 1)/\e 18=.list (S.p.i.map Edge.c)/\e 19=dI S.p.i.length/\e 20=dI i/\e 4=dI i/\e 6=.bool false/\e 37=dI S.g.i.length/\e 38=dI k)/\(k<=S.g.i.length)/\((List.range k).any (Hh S l i)=false)) (λk=>S.g.i.length - k) 0 ⟨wg,wi,(by rfl)⟩ λI2 J k e H E=>?_);obtain ⟨X,hk,N⟩:=E;have Y:=wa Y X;refine dR (λy=>?_) λy=>?_
   .obtain ⟨fb,M⟩:∃ b,b=Hh S l i k:=⟨_,rfl⟩;have Y:=wa Y y;refine wv (h:=aB (F9 S a r s es u f n m l i k W y v A hf z G) wl ?_);refine dR (λd=>?_) λd=>?_
    .have hKi:Jd S l i=true:=by
      rw [o,c8];right;exact bF.2 ⟨k,by simpa using y,by simpa using d⟩
     exact wo (h:=wx x (i+1) ⟨wg,wj,(by intro j C;rcases bX j i with hji|hji;exact I j hji;(obtain rfl:j=i:=aD;exact hKi))⟩)
    .have hfb:Hh S l i k=false:=by simpa using d
     have Y:=wa Y d;exact wo (h:=wx J (k+1) ⟨wg,wj,(by rw [Bm,N,hfb];rfl)⟩)
   .have hb0:(List.range S.g.i.length).any (Hh S l i)=false:=by rw [(aD:S.g.i.length=k)];exact N
    have K:wB S l=false:=by
     simp only [wB,Ap,aV];exact ⟨i,q,by rw [o,hb0];simp;omega⟩
    exact wo (h:=O _ _ (iq K))
 .have K:wB S l=true:=by
   simp only [wB,cF,aV];exact λj C=>I j aD
  exact wv (h:=O _ _ (iq K))
def Nc (S:Srch)(N:Nat)(ns es:V2)(out:List Part):List Part:=if ns.length<S.p.h.length then Um S N (S.p.h.length - ns.length) ns out else K7 S N ns (S.p.i.length - es.length) es out
theorem Xx (S:Srch){N:Nat}(d:Nat)(l:V2){a:List Part}(h:N<=a.length):Um S N d l a=a:=by cases d<;>simp only [Um,if_pos h]
theorem J3 (S:Srch){N:Nat}(ns es:V2){a:List Part}(h:N<=a.length):Nc S N ns es a=a:=by
 unfold Nc;split;exact Xx S _ _ h;exact Ik _ _ _ h
theorem J2 (S:Srch)(N:Nat)(ns:V2)(a:List Part):Nc S N ns [] a=Um S N (S.p.h.length - ns.length) ns a:=by
 unfold Nc;split
 .rfl
 .rename_i h;rw [(aD:S.p.h.length - ns.length=0)];simp only [Um,jW,Nat.sub_zero];split
  .rename_i h2;exact Ik _ _ _ h2
  .rfl
structure FdS (f a b o:Nat) (S:Srch) (N:Nat) (pn pe:D) (ns es:V2) (out:List Part) (H:AHeap):Prop where
 bf:H.get f=some ⟨393,12,[S.a7 N pn pe (.own a ns.length) (.own b es.length) (.own o out.length)],false⟩
 ba:H.get a=some ⟨3,1,ns.map cI,false⟩
 bb:H.get b=some ⟨3,1,es.map cI,false⟩
 bo:H.get o=some ⟨36,2,out.map Part.c,false⟩
 le:out.length<=N
 nf:f<H.next/\a<H.next/\b<H.next/\o<H.next
 d:(f≠a/\f≠b/\f≠o)/\(a≠b/\a≠o)/\b≠o
@[go_sem] theorem acQ (H:AHeap)(i:Nat):(H.drop i).next=H.next:=rfl
@[go_sem] theorem aeD (H:AHeap)(i j:Nat):(H.drop i).get j=if j=i then none else H.get j:=rfl
theorem xO {H:AHeap}{d:D}(h:d.Q=true):f5 H d=d:=by cases d<;>first|rfl|simp [D.Q] at h
def YQ (S:Srch)(N:Nat)(pn pe:D)(f o m:Nat):Prop :=
  ∀ (ns es:V2) (out:List Part) (a b:Nat) (G:AHeap) (Q:D->AHeap->Prop),(S.p.h.length - ns.length)+(S.p.i.length - es.length)=m->ns.length<=S.p.h.length->es.length<=S.p.i.length->(ns.length<S.p.h.length->es=[])->FdS f a b o S N pn pe ns es out G ->
  (∀ a' b' H',FdS f a' b' o S N pn pe ns es (Nc S N ns es out) H'->Q (.tup []) H')->ACalls prog 372 [.ptr f 1 0 0] G Q
theorem NV (S:Srch)(A:G17 S.t S.p S.g)(hv:(dG S.t).2=0)(N:Nat)(hN:N<=5001)(pn E:D)(X:GivD pn S.pn S.p.h.length)(Z:GivD E S.pe S.p.i.length)(f o:Nat)(m:Nat)(ih:∀ k,k<m->YQ S N pn E f o k)(ns es:V2)(i:List Part)(a b:Nat)(G:AHeap)(Q:D->AHeap->Prop)(hm:(S.p.h.length - ns.length)+(S.p.i.length - es.length)=m)(f6:ns.length<=S.p.h.length)(f0:es.length<=S.p.i.length)(c4:ns.length<S.p.h.length->es=[])(hF:FdS f a b o S N pn E ns es i G)
  (hQ:∀ a' b' H',FdS f a' b' o S N pn E ns es (Nc S N ns es i) H'->Q (.tup []) H') (c5:ns.length<S.p.h.length) :
  ACalls prog 372 [.ptr f 1 0 0] G Q:=by
 have f8:=bK A.gp;have f7:=bK A.gg;have f9:∀ x∈S.p.i,(0<=x.w/\x.w<S.p.h.length)/\(0<=x.M/\x.M<S.p.h.length):=λx hx=>((dY A.gp).2 x hx).2;obtain ⟨gf,ga,gb,go,a5,⟨lf,la,lb,lo⟩,⟨d1,d2,d3⟩,⟨d4,d5⟩,d6⟩:=hF;have ff:=bS lf;have fa:=bS la;have fb:=bS lb;have fo:=bS lo;have w:=X.1;have F:=Z.1;have b6:∀ H:AHeap,f5 H pn=pn:=λH=>xO w;have W:∀ H:AHeap,f5 H E=E:=λH=>xO F;refine (Tz.cK ⟨λ_=>false,λr=>match r with|0=>[(2,16),(3,16),(4,16)]|_=>[]⟩ func372 rfl ?_);have e8:=xa4 (dJ (aD:o≠b)) (dJ (aD:o≠a)) (dJ (aD:o≠f)) (dJ (aD:b≠a)) (dJ (aD:b≠f)) (dJ (aD:a≠f));have Y:=xa3 gf ga gb go (xb0 ff fa fb fo @Part.c.eq_1 @Srch.a7.eq_1 w F b6 W c5 e8);refine iY (λh1=>?_) λh1=>?_
 .have hX:Nc S N ns es i=i:=J3 S _ _ aD;refine wv (h:=?_);exact hQ a b _ (by rw [hX];exact ⟨gf,ga,gb,go,a5,⟨by first|exact lf|(simp;omega),by first|exact la|(simp;omega),by first|exact lb|(simp;omega),by first|exact lo|(simp;omega)⟩,⟨d1,d2,d3⟩,⟨d4,d5⟩,d6⟩)
 .have hnf:¬ N<=i.length:=aD;have c9:=c4 aD;subst c9;obtain ⟨U,b9⟩:∃ U,S.p.h.length - ns.length=U+1:=⟨S.p.h.length - ns.length - 1,aD⟩;have C:ns.length<S.p.h.length:=aD;have a7:=A.tp _ (aC C);have b4:=Mi a7;obtain ⟨v,V⟩:=c7 (S.pn[ns.length]?.getD (-1));have a6:=X.2 ns.length C;rw [<- V] at a6;have a0:∀ j (hj:j<S.g.h.length),Ly S ns j=((decide (v<0)||decide (v=(j:Int)))&&(!(S.inj&&mem ns j)&&vO S.t S.p.h[ns.length] S.g.h[j])):=λj hj=>by
   simp only [Ly,yE,<- V,aA hj,aA C,Option.getD_some]
  have Y:=xa1 Y (aA C) b4;refine wp (h:=bA (λj e H=>∃ s:Nat,∃ q:Nat,∃ n:List Part,(e 0=.ptr f 1 0 0/\e 2=dI ns.length/\e 61=dLI S.g.h/\e 62=dI S.g.h.length/\e 63=dI j)/\(H.get f=some ⟨393,12,[S.a7 N pn E (.own s ns.length) (.own q 0) (.own o n.length)],false⟩)/\(f<H.next)/\(H.get s=some ⟨3,1,ns.map cI,false⟩)/\(s<H.next)/\(H.get q=some ⟨3,1,[],false⟩)/\(q<H.next)/\(H.get o=some ⟨36,2,n.map Part.c,false⟩)/\(o<H.next)/\(f≠s)/\(f≠q)/\(s≠q)/\(s≠o)/\(q≠o)/\(j<=S.g.h.length)/\(n.length<=N)/\(n=(List.range j).foldl (λn k=>if (Ly S ns k&&wB S (ns++[(k:Int)]))=true then Um S N U (ns++[(k:Int)]) n else n) i)) (λj=>S.g.h.length - j) 0 ⟨a,b,i,wg,wn,wn,wn,wn,wn,wn,wn,wn,wi,wi,wi,wi,wi,wi,(by exact a5),(by rfl)⟩ λI1 K j e H c0=>?_);obtain ⟨s,q,n,E1,b0,R,O,J,M,I,a9,P,e1,e2,e3,e4,e5,hj,l,B⟩:=c0;have e7:=xa4 (dJ (aD:o≠q)) (dJ (aD:o≠s)) (dJ (aD:o≠f)) (dJ (aD:q≠s)) (dJ (aD:q≠f)) (dJ (aD:s≠f));have Y:=xa9 Y E1 b0 (bS R) O (bS J) M (bS I) a9 (bS P) e7;refine dR (λh5=>?_) λh5=>?_
  .have hEj:=a0 j h5;have c6:=A.tg _ (aC h5);have b5:=PV hv a7 c6;have Y:=xa2 Y h5 (aA h5) b5;refine wp (h:=aB (a6) wl ?_);refine wp (h:=LH (λhg=>gF ns j) wr (λhg=>wl) (λhg=> rfl) rfl wrd ?_);refine iY (λh8=>?_) λh8=>?_
   .have hE:(Ly S ns j&&wB S (ns++[(j:Int)]))=false:=by
     have:Ly S ns j=false:=by
      rw [hEj,bJ];intro hT;simp at hT;obtain ⟨c1,c2,c3⟩:=hT;rcases h8 with (⟨k1,T⟩|k1)|⟨k1,T⟩
      .rcases c1 with c1|c1
       .omega
       .exact T c1
      .rw [k1] at c3;cases c3
      .rcases c2 with c2|c2
       .rw [k1] at c2;cases c2
       .rw [T] at c2;cases c2
     rw [this];rfl
    obtain ⟨u,d⟩:∃ x,x=n:=⟨_,rfl⟩;obtain ⟨a2,z⟩:∃ x,x=s:=⟨_,rfl⟩;obtain ⟨b2,y⟩:∃ x,x=q:=⟨_,rfl⟩;have Y:=xa2 Y d z y;exact wp (h:=wx K (j+1) ⟨a2,b2,u,wg,wn,wn,wn,wn,wn,wn,wn,wn,wj,wj,wj,wj,wj,wj,(by rw [d];first|exact l|exact S9 A.gp _ _ l),(by rw [fA,<- B,d];first|rw [if_pos hE]|rw [if_neg (by rw [hE];simp)])⟩)
   .have hO:Ly S ns j=true:=by
     obtain ⟨⟨k1,T⟩,k3⟩:=h8;have c1:(decide (v<0)||decide (v=(j:Int)))=true:=by simp;omega
     have c2:(S.inj&&mem ns (j:Int))=false:=by cases hI:S.inj;rfl;simp [k3 hI]
     rw [hEj,c1,T,c2];rfl
    have a4:(S.p.h.length - (ns++[(j:Int)]).length)+(S.p.i.length - ([]:V2).length)=m - 1:=by simp at hm ⊢;omega
    obtain ⟨m',b7⟩:∃ x,x=m - 1:=⟨_,rfl⟩;rw [<- b7] at a4;have Y:=wa Y h8;refine wp (h:=GI (G1 S A.gp A.gg N pn E (dLI []) (.list (n.map Part.c)) w (by simp [D.Q,go_sem]) (by simp [D.Q,xW]) (ns++[(j:Int)]) Z) wrq wl rfl ?_);refine iY (λL=>?_) λL=>?_
    .have hE:(Ly S ns j&&wB S (ns++[(j:Int)]))=true:=by rw [hO,L];rfl
     obtain ⟨u,d⟩:∃ x,x=Um S N U (ns++[(j:Int)]) n:=⟨_,rfl⟩;have b8:S.p.h.length - (ns.length+1)=U:=aD;have Y:=xa1 Y b8 (Eq.symm d);refine wv (h:=?_);unfold fT;refine ih m' aD (ns++[(j:Int)]) [] n s q _ _ a4 ie aE (λ_=>rfl) ⟨by simp [go_sem,Y],by simp [go_sem,Y],by simp [go_sem,Y],by simp [go_sem,Y],l,⟨by simp [go_sem];omega,by simp [go_sem];omega,by simp [go_sem];omega,by simp [go_sem];omega⟩,⟨e1,e2,d3⟩,⟨e3,e4⟩,e5⟩ (λa3 b3 H3 a8=>?_);rw [J2] at a8;obtain ⟨d7,d9,d8,d0,e9,⟨f2,f4,f3,f1⟩,⟨x1,x2,x3⟩,⟨x4,x5⟩,x6⟩:=a8;have e0:=xa2 (bS (aD:f<H3.next)) (bS (aD:a3<H3.next)) (bS (aD:b3<H3.next)) (bS (aD:o<H3.next));have e6:=xa4 (dJ (aD:o≠b3)) (dJ (aD:o≠a3)) (dJ (aD:o≠f)) (dJ (aD:b3≠a3)) (dJ (aD:b3≠f)) (dJ (aD:a3≠f));obtain ⟨a2,z⟩:∃ x,x=H3.next:=⟨_,rfl⟩;obtain ⟨b2,y⟩:∃ x,x=b3:=⟨_,rfl⟩;have Y:=xa7 Y d7 d9 d8 d0 e0 e6 z y;exact wp (h:=Jo (Ghosts.trunc (.refl _) f 0 9 a3 ns.length _ _ _ (by simp [go_sem,Y];rfl) rfl rfl (by simp [go_sem,Y];rfl) cl rfl aD) (j+1) aD ((K _ _ _).2 ⟨a2,b2,u,wg,wn,wn,wn,wn,wn,wn,wn,wn,wj,wj,wj,wj,wj,wj,(by rw [d];first|exact l|exact S9 A.gp _ _ l),(by rw [fA,<- B,d];first|rw [if_pos hE]|rw [if_neg (by rw [hE];simp)])⟩))
    .have hE:(Ly S ns j&&wB S (ns++[(j:Int)]))=false:=by rw [hO,L];rfl
     obtain ⟨u,d⟩:∃ x,x=n:=⟨_,rfl⟩;obtain ⟨a2,z⟩:∃ x,x=H.next+41:=⟨_,rfl⟩;obtain ⟨b2,y⟩:∃ x,x=q:=⟨_,rfl⟩;have Y:=xa2 Y d z y;exact wp (h:=Jo (Ghosts.trunc (.refl _) f 0 9 s ns.length _ _ _ (by simp [go_sem,Y];rfl) rfl rfl (by simp [go_sem,Y];rfl) cl rfl aD) (j+1) aD ((K _ _ _).2 ⟨a2,b2,u,wg,wn,wn,wn,wn,wn,wn,wn,wn,wj,wj,wj,wj,wj,wj,(by rw [d];first|exact l|exact S9 A.gp _ _ l),(by rw [fA,<- B,d];first|rw [if_pos hE]|rw [if_neg (by rw [hE];simp)])⟩))
  .have hJ:j=S.g.h.length:=aD;have c8:Nc S N ns [] i=n:=by rw [J2,b9];simp only [Um];rw [if_neg hnf,B,hJ]
   refine wv (h:=?_);exact hQ s q _ (by rw [c8];exact ⟨by assumption,by assumption,by assumption,by assumption,l,⟨by assumption,by assumption,by assumption,by assumption⟩,⟨e1,e2,d3⟩,⟨e3,e4⟩,e5⟩)
theorem ajA (a k:Nat):a+(k+1) - (a+1)=k+1 - 1:=aD
theorem ai9 (a k:Nat):a+(k+1) - (a+1)=k:=aD
theorem ai8 (a k:Nat):a+(k+1) - a=k+1:=aD
theorem NU (S:Srch)(hG:G17 S.t S.p S.g)(hv:(dG S.t).2=0)(N:Nat)(hN:N<=5001)(A pe:D)(b4:GivD A S.pn S.p.h.length)(W:GivD pe S.pe S.p.i.length)(f o:Nat)(m:Nat)(ih:∀ k,k<m->YQ S N A pe f o k)(ns es:V2)(i:List Part)(a b:Nat)(G:AHeap)(Q:D->AHeap->Prop)(hm:(S.p.h.length - ns.length)+(S.p.i.length - es.length)=m)(f2:ns.length<=S.p.h.length)(e7:es.length<=S.p.i.length)(f6:ns.length<S.p.h.length->es=[])(hF:FdS f a b o S N A pe ns es i G)
  (hQ:∀ a' b' H',FdS f a' b' o S N A pe ns es (Nc S N ns es i) H'->Q (.tup []) H') (y:¬ ns.length<S.p.h.length) (c4:es.length<S.p.i.length) :
  ACalls prog 372 [.ptr f 1 0 0] G Q:=by
 have f4:=bK hG.gp;have f3:=bK hG.gg;have b8:∀ x∈S.p.i,(0<=x.w/\x.w<S.p.h.length)/\(0<=x.M/\x.M<S.p.h.length):=λx hx=>((dY hG.gp).2 x hx).2;obtain ⟨gf,ga,gb,go,a4,⟨lf,la,lb,lo⟩,⟨d1,d2,d3⟩,⟨d4,d5⟩,d6⟩:=hF;have ff:=bS lf;have fa:=bS la;have fb:=bS lb;have fo:=bS lo;have u:=b4.1;have B:=W.1;have b0:∀ H:AHeap,f5 H A=A:=λH=>xO u;have V:∀ H:AHeap,f5 H pe=pe:=λH=>xO B;refine (Tz.cK ⟨λ_=>false,λr=>match r with|0=>[(2,16),(3,16),(4,16)]|_=>[]⟩ func372 rfl ?_);have e0:=xa4 (dJ (aD:o≠b)) (dJ (aD:o≠a)) (dJ (aD:o≠f)) (dJ (aD:b≠a)) (dJ (aD:b≠f)) (dJ (aD:a≠f));have Y:=xa4 gf ga gb go ff (xb0 fa fb fo @Part.c.eq_1 @Srch.a7.eq_1 u B b0 V y c4 e0);refine iY (λh1=>?_) λh1=>?_
 .have hX:Nc S N ns es i=i:=J3 S _ _ aD;refine wv (h:=?_);exact hQ a b _ (by rw [hX];exact ⟨gf,ga,gb,go,a4,⟨by first|exact lf|(simp;omega),by first|exact la|(simp;omega),by first|exact lb|(simp;omega),by first|exact lo|(simp;omega)⟩,⟨d1,d2,d3⟩,⟨d4,d5⟩,d6⟩)
 .have hnf:¬ N<=i.length:=aD;obtain ⟨w,a5⟩:∃ w,S.p.i.length - es.length=w+1:=⟨S.p.i.length - es.length - 1,aD⟩;have Z:m=w+1:=by rw [<- hm,Nat.sub_eq_zero_of_le (Nat.not_lt.1 y),fE,a5]
  have J:S.p.i.length=es.length+(w+1):=aD;clear hm a5;have C:es.length<S.p.i.length:=aD;have a6:=b8 _ (aC C);have c3:S.p.i[es.length].w.toNat<ns.length:=aD;have c0:S.p.i[es.length].M.toNat<ns.length:=aD;refine wp (h:=bA (λj e H=>∃ s:Nat,∃ q:Nat,∃ l:List Part,(e 0=.ptr f 1 0 0/\e 6=dI es.length/\e 162=.list (S.g.i.map Edge.c)/\e 163=dI S.g.i.length/\e 164=dI j)/\(H.get f=some ⟨393,12,[S.a7 N A pe (.own s ns.length) (.own q es.length) (.own o l.length)],false⟩)/\(f<H.next)/\(H.get s=some ⟨3,1,ns.map cI,false⟩)/\(s<H.next)/\(H.get q=some ⟨3,1,es.map cI,false⟩)/\(q<H.next)/\(H.get o=some ⟨36,2,l.map Part.c,false⟩)/\(o<H.next)/\(f≠s)/\(f≠q)/\(s≠q)/\(s≠o)/\(q≠o)/\(j<=S.g.i.length)/\(l.length<=N)/\(l=(List.range j).foldl (λl k=>if Te S ns es k=true then K7 S N ns w (es++[(k:Int)]) l else l) i)) (λj=>S.g.i.length - j) 0 ⟨a,b,i,wg,wn,wn,wn,wn,wn,wn,wn,wn,wi,wi,wi,wi,wi,wi,(by exact a4),(by rfl)⟩ λI3 a7 j e H b9=>?_);obtain ⟨s,q,l,E3,a9,T,P,F,O,E,a8,R,e1,e2,e3,e4,e5,hj,n,I⟩:=b9;have d9:=xa4 (dJ (aD:o≠q)) (dJ (aD:o≠s)) (dJ (aD:o≠f)) (dJ (aD:q≠s)) (dJ (aD:q≠f)) (dJ (aD:s≠f));have Y:=xa9 Y E3 a9 (bS T) P (bS F) O (bS E) a8 (bS R) d9;refine dR (λM=>?_) λM=>?_
  .have hEj:Te S ns es j=(Hh S ns es.length j&&!(S.inj&&mem es j)):=by
    simp only [Te,Hh];cases yE S.pe es.length j<;>cases Ar S ns es.length j<;>cases (S.inj&&mem es j)<;>rfl
   have Y:=wa Y M;refine wp (h:=GI (F9 S N A pe (dLI es) (.list (l.map Part.c)) u (by simp [D.Q,go_sem]) (by simp [D.Q,xW]) ns es.length j C M W a6.1.1 c3 a6.2.1 c0) wrq wl rfl ?_);refine wp (h:=ON (λhg=>gF es j) wr (λhg=>wl) (λhg=> rfl) ?_);refine iY (λz=>?_) λz=>?_
   .have hE:Te S ns es j=false:=by
     rw [hEj];rcases z with U|⟨U,k2⟩
     .rw [U];rfl
     .rw [U,k2];simp
    obtain ⟨v,d⟩:∃ x,x=l:=⟨_,rfl⟩;obtain ⟨a2,L⟩:∃ x,x=s:=⟨_,rfl⟩;obtain ⟨b2,K⟩:∃ x,x=q:=⟨_,rfl⟩;have Y:=xa2 Y d L K;exact wp (h:=wx a7 (j+1) ⟨a2,b2,v,wg,wn,wn,wn,wn,wn,wn,wn,wn,wj,wj,wj,wj,wj,wj,(by rw [d];first|exact n|exact E8 _ _ _ _ n),(by rw [fA,<- I,d];first|rw [if_pos hE]|rw [if_neg (by rw [hE];simp)])⟩)
   .have hE:Te S ns es j=true:=by
     obtain ⟨U,k2⟩:=z;have c2:(S.inj&&mem es (j:Int))=false:=by cases hI:S.inj;rfl;simp [k2 hI]
     rw [hEj,U,c2];rfl
    have a0:(S.p.h.length - ns.length)+(S.p.i.length - (es++[(j:Int)]).length)=m - 1:=by
     rw [Nat.sub_eq_zero_of_le (Nat.not_lt.1 y),aI,nW,fE,J,Z];exact ajA _ _
    have X:m - 1<m:=by rw [Z];exact Nat.lt_succ_self w
    obtain ⟨m',b5⟩:∃ x,x=m - 1:=⟨_,rfl⟩;rw [<- b5] at a0 X;obtain ⟨v,d⟩:∃ x,x=K7 S N ns w (es++[(j:Int)]) l:=⟨_,rfl⟩;have c1:Nc S N ns (es++[(j:Int)]) l=v:=by
     have b6:S.p.i.length - (es++[(j:Int)]).length=w:=by
      rw [aI,nW,J];exact ai9 _ _
     rw [d];unfold Nc;rw [if_neg (aD:¬ ns.length<S.p.h.length),b6]
    have Y:=xa1 Y z c1;refine wp (h:=?_);unfold fT;refine ih m' X ns (es++[(j:Int)]) l s q _ _ a0 aD ie (λh=>absurd h aD) ⟨by simp [go_sem,Y],by simp [go_sem,Y],by simp [go_sem,Y],by simp [go_sem,Y],n,⟨by simp [go_sem];omega,by simp [go_sem];omega,by simp [go_sem];omega,by simp [go_sem];omega⟩,⟨e1,e2,d3⟩,⟨e3,e4⟩,e5⟩ (λa3 b3 H3 c6=>?_);obtain ⟨c8,d0,c9,c7,e6,⟨e9,f1,f0,e8⟩,⟨x1,x2,x3⟩,⟨x4,x5⟩,x6⟩:=c6;have d7:=xa2 (bS (aD:f<H3.next)) (bS (aD:a3<H3.next)) (bS (aD:b3<H3.next)) (bS (aD:o<H3.next));have d8:=xa4 (dJ (aD:o≠b3)) (dJ (aD:o≠a3)) (dJ (aD:o≠f)) (dJ (aD:b3≠a3)) (dJ (aD:b3≠f)) (dJ (aD:a3≠f));obtain ⟨a2,L⟩:∃ x,x=a3:=⟨_,rfl⟩;obtain ⟨b2,K⟩:∃ x,x=H3.next:=⟨_,rfl⟩;have Y:=xa7 Y c8 d0 c9 c7 d7 d8 L K;exact wp (h:=Jo (Ghosts.trunc (.refl _) f 0 10 b3 es.length _ _ _ (by simp [go_sem,Y];rfl) rfl rfl (by simp [go_sem,Y];rfl) cl rfl aD) (j+1) aD ((a7 _ _ _).2 ⟨a2,b2,v,wg,wn,wn,wn,wn,wn,wn,wn,wn,wj,wj,wj,wj,wj,wj,(by rw [d];first|exact n|exact E8 _ _ _ _ n),(by rw [fA,<- I,d];first|rw [if_pos hE]|rw [if_neg (by rw [hE];simp)])⟩))
  .have hJ:j=S.g.i.length:=aD;have b7:S.p.i.length - es.length=w+1:=by
    rw [J];exact ai8 _ _
   have c5:Nc S N ns es i=l:=by unfold Nc;rw [if_neg y,b7];simp only [K7];rw [if_neg hnf,I,hJ]
   refine wv (h:=?_);exact hQ s q _ (by rw [c5];exact ⟨by assumption,by assumption,by assumption,by assumption,n,⟨by assumption,by assumption,by assumption,by assumption⟩,⟨e1,e2,d3⟩,⟨e3,e4⟩,e5⟩)
theorem NT (S:Srch)(A:G17 S.t S.p S.g)(hv:(dG S.t).2=0)(N:Nat)(hN:N<=5001)(j l:D)(s:GivD j S.pn S.p.h.length)(u:GivD l S.pe S.p.i.length)(f o:Nat)(m:Nat)(ih:∀ k,k<m->YQ S N j l f o k)(ns es:V2)(d:List Part)(a b:Nat)(G:AHeap)(Q:D->AHeap->Prop)(hm:(S.p.h.length - ns.length)+(S.p.i.length - es.length)=m)(a0:ns.length<=S.p.h.length)(J:es.length<=S.p.i.length)(a4:ns.length<S.p.h.length->es=[])(hF:FdS f a b o S N j l ns es d G)
  (K:∀ a' b' H',FdS f a' b' o S N j l ns es (Nc S N ns es d) H'->Q (.tup []) H') (y:¬ ns.length<S.p.h.length) (w:¬ es.length<S.p.i.length) :
  ACalls prog 372 [.ptr f 1 0 0] G Q:=by
 have a2:=bK A.gp;have a1:=bK A.gg;have a3:∀ x∈S.p.i,(0<=x.w/\x.w<S.p.h.length)/\(0<=x.M/\x.M<S.p.h.length):=λx Z=>((dY A.gp).2 x Z).2;obtain ⟨M,P,O,L,v,⟨E,I,F,C⟩,⟨X,W,V⟩,⟨U,T⟩,R⟩:=hF;have ff:=bS E;have fa:=bS I;have fb:=bS F;have fo:=bS C;have e:=s.1;have i:=u.1;have q:∀ H:AHeap,f5 H j=j:=λH=>xO e;have n:∀ H:AHeap,f5 H l=l:=λH=>xO i;refine (Tz.cK ⟨λ_=>false,λr=>match r with|0=>[(2,16),(3,16),(4,16)]|_=>[]⟩ func372 rfl ?_);have B:=xa4 (dJ (aD:o≠b)) (dJ (aD:o≠a)) (dJ (aD:o≠f)) (dJ (aD:b≠a)) (dJ (aD:b≠f)) (dJ (aD:a≠f));have Y:=xa4 M P O L ff (xb0 fa fb fo @Part.c.eq_1 @Srch.a7.eq_1 e i q n y w B);refine iY (λh1=>?_) λh1=>?_
 .have z:Nc S N ns es d=d:=J3 S _ _ aD;refine wv (h:=?_);exact K a b _ (by rw [z];exact ⟨M,P,O,L,v,⟨by first|exact E|(simp;omega),by first|exact I|(simp;omega),by first|exact F|(simp;omega),by first|exact C|(simp;omega)⟩,⟨X,W,V⟩,⟨U,T⟩,R⟩)
 .have hnf:¬ N<=d.length:=aD;have z:Nc S N ns es d=d++[⟨ns,es⟩]:=by
   unfold Nc;rw [if_neg aD,(aD:S.p.i.length - es.length=0)];simp only [K7];rw [if_neg hnf]
  refine wp (h:=?_);refine lW (gL ns aD) (by simp [go_sem,Y,dLI]) eq (GD _) rfl eq ?_;refine wp (h:=?_);refine lW (gL es aD) (by simp [go_sem,Y,dLI]) eq (GD _) rfl eq ?_;refine wp (h:=?_);exact K a b _ (by rw [z];exact ⟨by simp [go_sem,Y],by simp [go_sem,Y],by simp [go_sem,Y],by simp [go_sem,Y],by simp;omega,⟨by simp [go_sem];omega,by simp [go_sem];omega,by simp [go_sem];omega,by simp [go_sem];omega⟩,⟨X,W,V⟩,⟨U,T⟩,R⟩)
theorem PM (S:Srch)(v:G17 S.t S.p S.g)(q:(dG S.t).2=0)(N:Nat)(u:N<=5001)(l n:D)(e:GivD l S.pn S.p.h.length)(h:GivD n S.pe S.p.i.length)(f o:Nat) :
  ∀ (m:Nat) (ns es:V2) (c:List Part) (a b:Nat) (G:AHeap) (Q:D->AHeap->Prop),(S.p.h.length - ns.length)+(S.p.i.length - es.length)=m->ns.length<=S.p.h.length->es.length<=S.p.i.length->(ns.length<S.p.h.length->es=[])->FdS f a b o S N l n ns es c G ->
  (∀ a' b' H',FdS f a' b' o S N l n ns es (Nc S N ns es c) H'->Q (.tup []) H')->ACalls prog 372 [.ptr f 1 0 0] G Q:=by
 intro m;induction m using Nat.strongRecOn with
 | _ m ih =>
 intro ns es c a b G Q r i d j w s;by_cases k:ns.length<S.p.h.length
 .exact NV S v q N u l n e h f o m ih ns es c a b G Q r i d j w s k
 .by_cases hc2:es.length<S.p.i.length
  .exact NU S v q N u l n e h f o m ih ns es c a b G Q r i d j w s k hc2
  .exact NT S v q N u l n e h f o m ih ns es c a b G Q r i d j w s k hc2
theorem NS (S:Srch)(v:G17 S.t S.p S.g)(x:S.t.ok)(w:(dG S.t).2=0)(N:Nat)(B:N<=5001)(l m:D)(f:GivD l S.pn S.p.h.length)(j:GivD m S.pe S.p.i.length)(n:l.cell=true)(o:m.cell=true){L:List Part}(C:L=(yU S).take N) :
  Pua 319 [S.t.d,S.p.d,S.g.d,.agg [l,m],.bool S.inj,dI N] (.list (L.map Part.c)):=by
 have q:Nc S N [] [] []=L:=by rw [J2,Ta v.gp N _ _ _ aE,C];simp [yU]
 have e:=f.1;have i:=j.1;have a:=n;have b:=o;unfold D.cell at a b;refine qP gt (λQ A=>(Tz.cK ⟨λt=>t==22,λ_=>[]⟩ func319 rfl ?_));have Y:=xa3 e i @belowD.eq_1 a b;refine wv (h:=aH (Dt S.t x) wl ?_);refine wv (h:=?_);refine zR (.step (.step (.step (.refl _) 8 0 9 3 1 _ _ ig rfl rfl rfl) 8 0 10 3 1 _ _ ig rfl rfl rfl) 8 0 11 36 2 _ _ ig rfl rfl rfl) ?_;simp [go_sem];unfold fT;refine PM S v w N B l m f j 8 12 _ [] [] [] 10 11 _ _ rfl aE aE (λ_=>rfl) ⟨by simp [go_sem,Srch.a7,Graph.c,dLI,dI],by simp [go_sem],by simp [go_sem],by simp [go_sem],by simp,by simp [go_sem],by simp,by simp,by simp⟩ (λH G I k=>?_);rw [q] at k;obtain ⟨s,F,E,r,u,y,z⟩:=k;have Y:=xa2 Y s r @Srch.a7.eq_1;refine wv (h:=?_);exact A _ _ (by simp [go_sem,Y,mK,QO])
theorem Iw (t:Types)(y:t.ok)(x:(dG t).2=0)(p g:Graph)(z:G17 t p g)(n r:V2)(inj:Bool)(m o:D)(f:GivD m n p.h.length)(j:GivD o r p.i.length)(k:m.cell=true)(l:o.cell=true){w:List Part × Int}(v:w=En (yU ⟨t,p,g,n,r,inj⟩)) :
  Pua 239 [t.d,p.d,g.d,.agg [m,o],.bool inj] (.tup [.list (w.1.map Part.c),dI w.2]):=by
 obtain ⟨L,u⟩:=c7 ((yU ⟨t,p,g,n,r,inj⟩).take 5001);have q:w=if 5000<L.length then ([],3) else (L,0):=by rw [v];unfold En;rw [<- u]
 have e:=f.1;have i:=j.1;have a:=k;have b:=l;unfold D.cell at a b;refine Tz.p0 func239 rfl λQ s _=>?_;have Y:=xa2 e i a b;refine wv (h:=aB (NS ⟨t,p,g,n,r,inj⟩ z y x 5001 aD m o f j k l u) wl ?_);refine eP (λA=>?_) λA=>?_
 .rw [if_pos aD] at q;exact wv (h:=s _ _ (iq q))
 .rw [if_neg aD] at q;exact wv (h:=s _ _ (iq q))
theorem BF {t:Types}{p g:Graph}(h:eH t p g=0):(dG t).2=0:=by
 unfold eH at h;split at h
 .exact absurd h ic
 .rename_i h1;simpa using h1
theorem SF (t:Types)(f:t.ok)(p g:Graph)(inj:Bool):Pua 151 [t.d,p.d,g.d,.bool inj] (.tup [.list ((kC t p g inj).1.map Part.c),dI (kC t p g inj).2]):=by
 refine Tz.p0 func151 rfl λQ i Y=>?_;refine wv (h:=aB (tS t f p g) wl ?_);refine dR (λa=>?_) λa=>?_
 .have b:kC t p g inj=([],eH t p g):=by unfold kC;rw [if_pos (bY a)]
  exact wv (h:=i _ _ (iq b))
 .have hG:=oB (bY a);have j:=BF (bY a);obtain ⟨w,e⟩:=c7 (En (yU ⟨t,p,g,List.replicate p.h.length (-1),List.replicate p.i.length (-1),inj⟩));have b:kC t p g inj=w:=by unfold kC;rw [if_neg (bY a),e]
  refine wv (h:=aB (Iw t f j p g hG _ _ inj .nil .nil (GivD.nil _) (GivD.nil _) rfl rfl e) wl ?_);exact wv (h:=i _ _ (iq b))
theorem Lb (t:Types)(k:t.ok)(p g:Graph)(q:Part)(inj:Bool):Pua 417 [t.d,p.d,g.d,q.d,.bool inj] (.tup [.list ((pA t p g q inj).1.map Part.c),dI (pA t p g q inj).2]):=by
 refine Tz.p0 func417 rfl λQ f Y=>?_;refine wv (h:=aB (tS t k p g) wl ?_);refine dR (λb=>?_) λb=>?_
 .have a:pA t p g q inj=([],eH t p g):=by unfold pA;rw [if_pos (bY b)]
  exact wv (h:=f _ _ (iq a))
 .have hG:=oB (bY b);have l:=BF (bY b);refine eP (λm=>?_) λm=>?_
  .have a:pA t p g q inj=([],20):=by unfold pA;rw [if_neg (bY b),if_pos aD]
   exact wv (h:=f _ _ (iq a))
  .have hq:q.h.length=p.h.length/\q.i.length=p.i.length:=aD;refine wo (h:=aB (F8 q.h g.h.length) wl ?_);refine eP (λi=>?_) λi=>?_
   .have a:pA t p g q inj=([],oX q.h g.h.length):=by unfold pA;rw [if_neg (bY b),if_neg aD,if_pos (bY i)]
    exact wv (h:=f _ _ (iq a))
   .have h7':oX q.h g.h.length=0:=by simpa using i
    refine wo (h:=aB (F8 q.i g.i.length) wl ?_);refine eP (λe=>?_) λe=>?_
    .have a:pA t p g q inj=([],oX q.i g.i.length):=by unfold pA;rw [if_neg (bY b),if_neg aD,if_neg aD,if_pos (bY e)]
     exact wv (h:=f _ _ (iq a))
    .have h10':oX q.i g.i.length=0:=by simpa using e
     obtain ⟨w,j⟩:=c7 (En (yU ⟨t,p,g,q.h,q.i,inj⟩));have a:pA t p g q inj=w:=by unfold pA;rw [if_neg (bY b),if_neg aD,if_neg aD,if_neg aD,j]
     refine wv (h:=aB (Iw t k l p g hG q.h q.i inj (dLI q.h) (dLI q.i) (hq.1 ▸ GivD.list q.h) (hq.2 ▸ GivD.list q.i) rfl rfl j) wl ?_);exact wv (h:=f _ _ (iq a))
theorem Yj (l:List Edge):∀ d∈(l.map Edge.c).flatten,d.bf=true:=by
 intro d a;rw [j6] at a;obtain ⟨c,b,a⟩:=a;rw [aT] at b;obtain ⟨x,_,rfl⟩:=b;simp only [Edge.c,aW,f7,or_false] at a;rcases a with rfl|rfl|rfl<;>rfl
theorem G2 (t:Types)(B:t.ok)(p g:Graph)(m:Part):Pua 154 [t.d,p.d,g.d,m.d] (.tup [(BV t p g m).d,dI (checkE t p g m false)]):=by
 refine Tz.pK ⟨λt=>t==8||t==12,λr=>match r with|11=>[(0,7),(1,7)]|_=>[]⟩ func154 rfl (λQ y=>?_);have Y:=trivial;refine wv (h:=aB (tS t B p g) wl ?_);refine dR (λf=>?_) λf=>?_
 .have b:checkE t p g m false=eH t p g:=by unfold checkE;rw [if_pos (bY f)]
  have n:BV t p g m=⟨[],[]⟩:=by unfold BV;rw [if_neg (by rw [b];simpa using f)]
  exact wv (h:=y _ _ (iu n b))
 .have hG:=oB (bY f);have D:=BF (bY f);have G:=bK hG.gp;have F:=bK hG.gg;have b:checkE t p g m false=matchE t p g m false:=by unfold checkE;rw [if_neg (bY f)]
  refine wv (h:=aB (Ds t B p g hG D m) wl ?_);refine dR (λA=>?_) λA=>?_
  .have n:BV t p g m=⟨[],[]⟩:=by unfold BV;rw [if_neg (by rw [b];simpa using A)]
   exact wv (h:=y _ _ (iu n b))
  .have hM:matchE t p g m false=0:=by simpa using A
   obtain ⟨⟨J,I⟩,w,E⟩:=BC hM;have n:BV t p g m=lD p g m:=by unfold BV;rw [if_pos (by rw [b];exact hM)]
   refine wv (h:=?_);refine Kv (zP p.i aD) eq eq (Yj _) ?_;refine wp (h:=l9 (Ghosts.step (Ghosts.refl _) 1 0 0 3 1 _ _ (rfl) rfl rfl rfl) (λi e H=>∃ a:V2,(e 4=.adr t.c/\e 5=.adr p.c/\e 6=.adr g.c/\e 7=.adr m.c/\e 8=.ptr 0 1 0 0/\e 12=.ptr 1 1 0 0/\e 37=dLI m.h/\e 38=dI m.h.length/\e 39=dI i)/\(H.get 0=some ⟨29,2,[[.nil,.nil]],false⟩)/\(0<H.next)/\(H.get 1=some ⟨29,2,[[.own 2 a.length,.list (p.i.map Edge.c)]],false⟩)/\(1<H.next)/\(H.get 2=some ⟨3,1,a.map cI,false⟩)/\(2<H.next)/\(i<=m.h.length)/\(a=(m.h.take i).map (gN g))) (λi=>m.h.length - i) 0 ⟨([]),wg,wn,wn,wn,wn,wn,wn,wi,(by rfl)⟩ λN z i e H x=>?_);obtain ⟨a,L,u,l,s,k,q,j,M,v⟩:=x;have Y:=xa6 Y L u (bS l) s (bS k) q (bS j);refine dR (λo=>?_) λo=>?_
   .have hmi:=w _ (aC o);have K:m.h[i].toNat<g.h.length:=aD;have C:a.length=i:=by rw [v];simp;omega
    have Y:=xa3 Y o (aA o) (aA K) @gN.eq_1;exact wp (h:=wx z (i+1) ⟨(a++[gN g m.h[i]]),wg,wn,wn,wn,wn,wn,wn,wj,(by rw [j8 _ o,<- v])⟩)
   .have hX:a=m.h.map (gN g):=by rw [v,lS _ aD]
    exact wv (h:=y _ _ (by simp [go_sem,Y,n,b,hM,lD,Graph.d,Graph.c,hX,dLI]))
end Go.Abs
end
section
set_option maxRecDepth 100000
set_option maxHeartbeats 4000000
namespace Go.Abs
open Go Go.Proofs Go.RowKit Go.Shelf Tryz
attribute [local go_sem] Oper.semAt_some
theorem Ip:(prog.info? 3).map (λi=>(i.zero,i.size,i.bytes))=some (some (.int .i64 0),1,8):=by kernel_rfl
theorem So (F:Fence)(n:Nat)(h7:F.fn 407)(hro:F.round=none)(hn:1<=n)(l n₀:Nat)(a ad:Addr)(cap:Nat)(zs:V2)(hreach:zs.length<=1000000)(hb:zs≠[]->ad.block<n₀)(J Jx:V2->World->Prop)
  (hY:∀ pre x W,J pre W->pre.length<zs.length->YieldAt F (n - 1) prog l #[.int .i64 x] W λe W' =>
   (e=.returned (.bool true)/\J (pre++[x]) W'/\Below n₀ W W')\/(e=.returned (.bool false)/\Jx (pre++[x]) W'))
  (W:World) (hBs:W.cell? a=some (.slice (some ad) zs.length cap)) (hc:∀ j x,zs[j]?=some x->W.cell? (ad.add j)=some (.int .i64 x)) (h0:J [] W) :
  CallsIn F n prog 407 #[.func (.yield l) #[] #[],.pointer (some a)] W λe W'=>(∃ v,e=.returned v) /\
   ((∃ ys,ys=zs/\J ys W')\/(∃ pre,True/\Jx pre W')):=by
 refine callsIn_of_wp func407 rfl h7 ?_ hro;simp only [ntmps407,pB,eO,jW,Nat.reduceAdd,Nat.reduceSub,B8,B7,HP,Df,dS,dP];gi_wp2;gi_loopw [7] (λi wr=>∃ k:Nat,k<=zs.length/\i=.int .i64 k/\J (zs.take k) wr/\Below n₀ W wr)
  (λi _=>zs.length - (RowKit.intOf i).toNat)
 case atStart=>exact ⟨0,eL _,rfl,h0,Below.refl _ _⟩
 case round =>
  obtain ⟨k,hk,rfl,hJs,hnx⟩:=hrel;by_cases hlt:k<zs.length
  .have hcx':wr.cell? (ad.add k)=some (.int .i64 zs[k]):=(hnx.cell (p:=ad.add k) (by rw [jB];exact hb (λe=>by rw [e] at hlt;cases hlt))).trans (hc k _ (aA hlt));obtain ⟨fn,tmps,assign,body,hy,hR⟩:=hY _ zs[k] wr hJs ie;gi_wp2;refine hR.mono ?_;rintro e W3 (⟨rfl,hJ3,hk3⟩|⟨rfl,hJx3⟩)
   .gi_wp2;go_roundw;case rel=>exact ⟨k+1,aD,by simp,by rw [List.take_succ_eq_append_getElem hlt];exact hJ3,hnx.trans hk3⟩
    case measure=>simp [RowKit.intOf];omega
   .gi_wp2;refine bodyPost_ret (results_none rfl _ _ _) rfl ?_;exact ⟨⟨_,rfl⟩,.inr ⟨_,trivial,hJx3⟩⟩
  .obtain rfl:k=zs.length:=aD;gi_wp2;go_end0;exact ⟨⟨_,rfl⟩,.inl ⟨_,rfl,by rw [vK] at hJs;exact hJs⟩⟩
theorem HU (F:Fence)(n:Nat)(g:F.fn 407)(b:F.round=none)(l:Nat)(a:Addr)(J:V2->World->Prop)(W:World)(f:W.cell? a=some (.slice none 0 0))(h:J [] W) :
  CallsIn F n prog 407 #[.func (.yield l) #[] #[],.pointer (some a)] W λe W'=>(∃ v,e=.returned v)/\J [] W':=by
 refine callsIn_of_wp func407 rfl g ?_ b;simp only [ntmps407,pB,eO,jW,Nat.reduceAdd,Nat.reduceSub,B8,B7,HP,Df,dS,dP];gi_wp2;gi_loopw [7] (λi d=>i=.int .i64 0/\J [] d) (λ_ _=>0);case atStart=>exact ⟨rfl,h⟩
 case round =>
  obtain ⟨rfl,c⟩:=hrel;gi_wp2;go_end0;exact ⟨⟨_,rfl⟩,c⟩
def IntsB (n₀:Nat)(W:World)(sv:Value)(zs:V2):Prop :=
 (sv=.slice none 0 0/\zs=[])\/∃ ad cap,sv=.slice (some ad) zs.length cap/\(zs≠[]->ad.block<n₀)/\∀ j x,zs[j]?=some x->W.cell? (ad.add j)=some (.int .i64 x)
theorem IntsB.below {n₀:Nat}{A B:World}(h:Below n₀ A B){sv:Value}{zs:V2}:IntsB n₀ A sv zs->IntsB n₀ B sv zs
 | .inl e=>.inl e
 | .inr ⟨ad,cap,e,hb,hc⟩=>.inr ⟨ad,cap,e,hb,λj x hj=>(h.cell (p:=ad.add j) (by rw [jB];exact hb (λe=>by rw [e] at hj;cases hj))).trans (hc j x hj)⟩
theorem NF (F:Fence)(n:Nat)(h7:F.fn 407)(hro:F.round=none)(hn:1<=n)(a:Addr)(n₀:Nat)(sv:Value)(zs:V2)(hreach:zs.length<=1000000)(w:World)(hBs:a.block<w.heap.size)(hn₀:n₀<=w.heap.size)
  (hc:w.cell? a=some sv) (hI:IntsB n₀ w sv zs) :
  SeqStopsK F n prog 407 #[.pointer (some a)] (λx:Int=>#[Value.int .i64 x]) (Below n₀) (λys=>ys=zs) (λ_=>True) zs.length w:=λl J Jx W hW _ _ hY h0=>by
 have hc':=(hW.cell (p:=a) hBs).trans hc;rcases hI.below (hW.mono hn₀) with ⟨rfl,rfl⟩|⟨ad,cap,rfl,hb,hcs⟩
 .exact (HU F n h7 hro l a J W hc' h0).mono λe W' ⟨he,hj⟩=>⟨he,.inl ⟨_,rfl,hj⟩⟩
 .exact So F n h7 hro hn l n₀ a ad cap zs hreach hb J Jx hY W hc' hcs h0
theorem O3 (F:Fence)(n:Nat)(S:F.fn 415)(H:F.fn 407)(g:F.round=none)(Z:3<=n)(a:Addr)(t:Value)(zs:V2)(m:zs.length<=1000000)(w:World)
  (G:a.block<w.heap.size) (E:w.cell? a=some t) (Q:IntsB w.heap.size w t zs) :
  CallsIn F n prog 415 #[.slice none 0 0,.func (.func 407) #[] #[.pointer (some a)]] w λe W'=>∃ v,e=.returned v/\W'.ownsRow w.heap.size 3 1 v zs.length (zs.map (Value.int .i64))/\Below w.heap.size w W':=by
 have T:1<=n:=aD;obtain ⟨J,N,z,y,u⟩:=info_parts Ip;refine callsIn_of_wp_marks func415 rfl S ?_ g;simp only [ntmps415,pB,eO,jW,Nat.reduceAdd,Nat.reduceSub,B8,B7,HP,Df,dS,dP];gi_wp2;have U:=Boxed.new w 26 (.slice none 0 0);have j:Below w.heap.size w (w.alloc (.cells #[.slice none 0 0] 26)):=(Below.refl _ w).alloc (bC _) _;refine wpIn_rangeFunc_ownG g T (gf:=407) (lb:=#[.pointer (some a)]) rfl H (enters_of func407 ia rfl)
  (NF F (n - 1) H g aD a w.heap.size t zs m _ ie aE ((j.cell (p:=a) G).trans E) (Q.below j)) belowK_t (belowK_b aE) (Below.refl _ _) (λ_=>rfl)
  (λb W=>(∃ v,Boxed W w.heap.size 26 v/\W.ownsRow w.heap.size 3 1 v b.length (b.map (Value.int .i64))/\True)/\Below w.heap.size w W)
  (λ_ _ _=>False)
  (OwnFrom.and (Own.from (holdsRow_own w.heap.size w.heap.size 26 3 1 (λb=>b.length) (λb:V2=>b.map (Value.int .i64)) (λ_ _=>True)) _) (ownFrom_below (bC _) aE))
  (λ_ _ _ _ _ L _ _=>L)
  ⟨⟨_,U,World.ownsRow_nil _ _ _ _,trivial⟩,j⟩
  (λx=>{ tmps:=#[.slice none 0 0,.func (.func 407) #[] #[.pointer (some a)],.pointer (some ⟨w.heap.size,0,none⟩),undef,.slice none 0 0,.int .i64 x,.func (.func 407) #[] #[.pointer (some a)],.int .i64 x,undef,undef,undef,undef,undef],defers:=[] }) ?assign ?body ?done ?stop
 case assign =>
  intro l x W K q;gi_wp2;exact q
 case body =>
  rintro l b x W ⟨⟨v,s,d,_⟩,r⟩ M;have E:=s.cell
  gi_wp2_with (gi_at_builtin;refine wpListIn_append_own _ rfl _ _ 26 rfl w.heap.size 3 J (.int .i64 0) 1 8 underlying26 N z y u rfl (by decide) _ _ _ rfl (d.alloc _) ⟨W.heap.size,0,none⟩ 1 1 [.int .i64 x] rfl rfl (cell_one_new _ _ _) (by simp [Value.oneCell']) (by simp only [maxLen];omega) aD (by have:=r.size;simp;omega) ?_;intro Y X f i _;obtain ⟨g',I,rfl⟩:=ownsRow_succ f;obtain ⟨k,A,B,C,o⟩:=s.appended (by decide) d r.size (bC _) f i;have P:=k.cell;have O:=k.frozen)
  exact ⟨C.from _,o,⟨_,A,by simpa using B,trivial⟩,r.trans o⟩
 case done =>
  rintro D V W R rfl ⟨⟨v,s,d,_⟩,r⟩ q;have E:=s.cell;gi_wp2;refine ⟨by simp,.inl ⟨_,_,rfl,run_takeDeferred q,?_⟩⟩;exact ⟨_,results_tmp rfl _ _ _,v,rfl,ownsRow_putObj d _ q rfl,r.trans (belowK_b (w:=w) (bC _) W D _ _ (by simp at R;omega) q rfl rfl)⟩
 case stop =>
  rintro D c b W _ _ h _;exact h.elim
theorem TH (F:Fence)(n:Nat)(m:F.fn 406)(l:F.fn 415)(k:F.fn 407)(c:F.round=none)(p:4<=n)(a:Addr)(f:Value)(zs:V2)(d:zs.length<=1000000)(w:World)
  (g:a.block<w.heap.size) (h:w.cell? a=some f) (j:IntsB w.heap.size w f zs) :
  CallsIn F n prog 406 #[.func (.func 407) #[] #[.pointer (some a)]] w λe W'=>∃ v,e=.returned v/\W'.ownsRow w.heap.size 3 1 v zs.length (zs.map (Value.int .i64))/\Below w.heap.size w W':=by
 refine callsIn_of_wp func406 rfl m ?_ c;simp only [ntmps406,pB,eO,jW,Nat.reduceAdd,Nat.reduceSub,B8,B7,HP,Df,dS,dP]
 gi_wp2_with (refine ⟨λ_=>by omega,(O3 F (n - 1) l k c aD a f zs d _ g h j).mono ?_⟩;rintro e o ⟨v,rfl,b,i⟩)
 go_ret;exact ⟨v,rfl,b,i⟩
theorem RH (l:V2)(y:l.length<=1000000):Own prog 406 [.fn 407 [.adr [dLI l]]] 3 1 (l.map cI):=by
 refine ⟨⟨Tryz.f406,func406,rfl,rfl⟩,λM w m V P=>?_⟩;obtain ⟨t,s⟩:=P;match m,t with
 | [v],_ =>
  have R:=s 0 v _ rfl rfl;obtain ⟨p,rfl,J⟩:∃ p,v=.func (.func 407) #[] #[p]/\RepV M jG tB w p (.adr [dLI l]):=by
   cases R with
   | fn _ vs _ y s=>match vs,y with
    | [p],_=>exact ⟨p,rfl,s 0 p _ rfl rfl⟩
  obtain ⟨a,b,rfl,A,o⟩:∃ a b,p=.pointer (some a)/\(¬ M a.block/\w.cell? (a.add 0)=some b)/\RepV M jG tB w b (dLI l):=by
   cases J with
   | adr a i _ y J E s=>match i,y with
    | [b],_=>exact ⟨a,b,rfl,E 0 b rfl,s 0 b _ rfl rfl⟩
  have z:=A.2;have f:w.cell? a=some b:=by rw [show a.add 0=a by unfold Addr.add;simp] at z;exact z
  have F:=World.block_lt_of_cell? w _ f;have Q:IntsB w.heap.size w b l:=by
   unfold dLI at o;rcases u3 o with ⟨rfl,C⟩|⟨K,G,T,i,rfl,d,_,h,_,_,_⟩
   .exact .inl ⟨rfl,by simpa using C⟩
   .have hcl:∀ j x,l[j]?=some x->w.cell? (K.add j)=some (.int .i64 x):=λj x H=>by
     have g:=d.len;rw [BG,aR] at g;have N:j<l.length:=(aQ.1 H).1;have n:i[j]?=some i[j]:=aA aD;have I:=d.Z j _ (D.int .i64 x) n (by rw [BG,aN,H];rfl);generalize U:i[j]=q at n I;cases I
     exact (h j _ n).2
    refine .inr ⟨K,G,by simp,λB=>?_,hcl⟩;have L:0<l.length:=g7.2 B;have:=World.block_lt_of_cell? w _ (hcl 0 _ (aA L));rwa [jB] at this
  refine (CallsIn.calls (TH Fence.wide 4 trivial trivial trivial rfl (bC _) a b l y w F f Q) (λk=>room_wide k)).mono λe S ⟨v,C,r,O⟩=>?_;exact ⟨v,_,C,by simpa using r,λu n=>by obtain ⟨x,_,rfl⟩:=aT.1 n;rfl,Bw l,sH l,λc E=>by obtain ⟨x,_,rfl⟩:=aT.1 E;rfl,O⟩
theorem Pk (l:V2):Pua 376 [dLI l] (.fn 407 [.adr [dLI l]]):=by
 refine Tz.p0 func376 rfl λQ a Y=>?_;exact wv (h:=a _ _ wy)
theorem SE (l:V2)(a:l.length<=1000000):Own prog 375 [.fn 407 [.adr [dLI l]]] 3 1 ((i7 l).map cI):=by
 refine Tz.oK ⟨λt=>t==5||t==3||t==2,λ_=>[]⟩ func375 rfl (λQ b=>?_);have Y:=trivial;refine wv (h:=kU (RH l a) wl ?_);refine wv (h:=?_);unfold fT;refine AC (ty:=3) (xs:=l) eq a ?_;refine wv (h:=?_);exact b _ _ _ (by simp [go_sem,Y,kM]) (by simp [go_sem,Y,kM])
end Go.Abs
end
section
set_option maxRecDepth 100000
set_option maxHeartbeats 4000000
open Go Go.Proofs Tryz
namespace Go.Abs
theorem Dr (l:V2)(f:l.length<=1000):Pua 325 [dLI l] (.bool (decide (¬ l.Nodup))):=by
 have a:=kM l;have b:decide (imagesN l<l.length)=decide (¬ l.Nodup):=by
  have c:=A7 l;have g:imagesN l<=l.length:=by unfold imagesN;have:=C7 (i7 l);omega
  rw [aU];simp only [decide_eq_true_eq];constructor
  .intro h hn;have:=c.2 hn;omega
  .intro hn;have:imagesN l≠l.length:=λd=>hn (c.1 d);omega
 unfold imagesN at b;refine Tz.p0 func325 rfl λQ e Y=>?_;refine wo (h:=aB (Pk l) wl ?_);refine wo (h:=kU (SE l aD) wl ?_);refine wo (h:=?_);unfold fT;refine Bi (ty:=3) (xs:=i7 l) eq aD λk=>?_;exact wo (h:=e _ _ (iq b))
theorem Jq (t:Types)(p g:Graph)(m:Part)(inj:Bool):matchE t p g m inj=if matchE t p g m false≠0 then matchE t p g m false else if inj=true/\(¬ m.h.Nodup\/¬ m.i.Nodup) then 5 else 0:=by
 unfold matchE;split
 .simp
 .split
  .simp_all
  .split
   .simp_all
   .simp
theorem y3 (t:Types)(j:t.ok)(p g:Graph)(m:Part)(inj:Bool):Pua 242 [t.d,p.d,g.d,m.d,.bool inj] (dI (checkE t p g m inj)):=by
 refine Tz.p0 func242 rfl λQ c Y=>?_;refine wv (h:=aB (tS t j p g) wl ?_);refine dR (λb=>?_) λb=>?_
 .have a:checkE t p g m inj=eH t p g:=by unfold checkE;rw [if_pos (bY b)]
  exact wv (h:=c _ _ (iq a))
 .have hG:=oB (bY b);have k:=BF (bY b);have l:=bK hG.gp;have a:checkE t p g m inj=matchE t p g m inj:=by unfold checkE;rw [if_neg (bY b)]
  rw [Jq] at a;refine wv (h:=aB (Ds t j p g hG k m) wl ?_);refine dR (λe=>?_) λe=>?_
  .rw [if_pos (bY e)] at a;exact wv (h:=c _ _ (iq a))
  .rw [if_neg (bY e)] at a;have n:=(BC (show matchE t p g m false=0 by simpa using e)).1;refine wo (h:=aK (λf=>Dr m.h aD) (λf=>wl) ?_);refine wo (h:=aK (λf=>Dr m.i aD) (λf=>wl) ?_);refine eP (λi=>?_) λi=>?_
   .rw [if_pos (bY i)] at a;exact wv (h:=c _ _ (iq a))
   .rw [if_neg (bY i)] at a;exact wv (h:=c _ _ (iq a))
theorem Ag (p:Pattern)(h:Host)(m:Part)(N:SOk p h m):Pua 152 [p.d,h.d,m.d] (.tup [dLI (eZ p h m []).1,dI (eZ p h m []).2]):=by
 have hv:=N.vars;have h0:=PF (vs:=[]) hv.1 aE aE;rw [Hy] at h0;refine Tz.pK ⟨λt=>t==11||t==15,λr=>match r with|1=>[(2,3),(2,4),(0,5),(1,5),(2,5)]|_=>[]⟩ func152 rfl (λQ P=>?_);have Y:=xa5 @Pattern.d.eq_1 @Pattern.c.eq_1 @Host.d.eq_1 @Host.c.eq_1 @Part.d.eq_1 @Part.c.eq_1 @Term.c.eq_1;refine wv (h:=?_);repeat first|intro _|refine ⟨fK,?_⟩
 refine bA (λi e H=>∃ l:V2 × List Bool,(e 3=.adr p.c/\e 4=.adr h.c/\e 5=.adr m.c/\e 8=.own 2 p.vars.toNat/\e 9=.own 5 p.vars.toNat/\e 23=.list (p.l.map Slot.c)/\e 24=dI p.l.length/\e 25=dI i)/\(H.get 2=some ⟨3,1,l.1.map cI,false⟩)/\(2<H.next)/\(H.get 5=some ⟨4,1,l.2.map cB,false⟩)/\(5<H.next)/\(i<=p.l.length)/\(StOk p.vars.toNat l)/\(slotsV h m (NM p []) (p.l.take i)=some l)) (λi=>p.l.length - i) 0 ⟨((List.replicate p.vars.toNat 0,List.replicate p.vars.toNat false)),wg,(by simp [go_sem,cI]),wn,(by simp [go_sem,cB]),wn,wi,(by exact h0),(by rw [Hy];rfl)⟩ λI0 C i e H a2=>?_;obtain ⟨l,E0,Z,T,W,R,hi,q,I⟩:=a2;have Y:=xa4 Y E0 Z (bS T) W (bS R);refine dR (λE=>?_) λE=>?_
 .obtain ⟨x,U⟩:=c7 (p.l[i]);have A:x∈p.l:=U ▸ aC E;have hn:=N.node x A;have s:x.node.toNat<m.h.length:=aD;have hk:=N.b5 _ (aC s);have w:(m.h[x.node.toNat]).toNat<h.k.length:=aD;have ha:=N.J x A;rw [aA s,Option.getD_some,aA w,Option.getD_some] at ha;have B:x.J.toNat<(h.k[(m.h[x.node.toNat]).toNat]).length:=aD;have hV:haveV h m x=h.k[(m.h[x.node.toNat]).toNat][x.J.toNat]:=by unfold haveV;rw [aA s,Option.getD_some,aA w,Option.getD_some,aA B];rfl
  have hb:=N.cQ A;have L:=N.y x A;have v:=q.l1;have J:=q.l2;have a5:=L.1;have a6:=L.2;have n:=vS E I;rw [<- U] at n;obtain ⟨o,a⟩:∃ y,y=mF h m l x:=⟨_,rfl⟩;have j:StOk p.vars.toNat o:=a ▸ AE q hb L;rw [<- a] at n;have f:¬ 0<=x.y.O->o=l:=λhn=>by rw [a];unfold mF mB;rw [if_neg (iw hn)]
  have F:0<=x.y.O->x.y.O.toNat<l.2.length:=λhn=>by omega
  obtain ⟨kb,V⟩:=c7 (l.2[x.y.O.toNat]?.getD false);have K:0<=x.y.O\/(¬ 0<=x.y.O/\l.2[x.y.O.toNat]?=none)\/(¬ 0<=x.y.O/\l.2[x.y.O.toNat]?=some kb):=by
   by_cases G:0<=x.y.O
   .exact .inl G
   .right
    cases ho:l.2[x.y.O.toNat]? with
    | none=>exact .inl ⟨G,rfl⟩
    | some b=>rw [ho] at V;exact .inr ⟨G,by rw [V];rfl⟩
  rcases K with hc|hc|hc
  .have Y:=xa3 Y E (aA E) (Eq.symm U) (xb0 (aA s) (aA w) (aA B) (Eq.symm hV) @Slot.c.eq_1 @cL.eq_1 v J @lM @cB.eq_1 hc ((aA (F hc))));refine wv (h:=?_);repeat first|intro _|refine ⟨fK,?_⟩
   refine wq (λh7=>?_) λh7=>?_
   .have hF:mB l x=true:=by simp only [mB,aM,decide_eq_true_eq,cZ];exact ⟨hc,by simpa [aA (F hc)] using h7⟩
    unfold mF at a;rw [if_pos hF] at a;have a0:x.y.O.toNat<l.1.length:=aD;have e1:o.1.map cI=(l.1.map cI).set x.y.O.toNat (cI (haveV h m x - x.y.add)):=by rw [a,cW]
    have e2:o.2.map cB=(l.2.map cB).set x.y.O.toNat (cB true):=by rw [a,cW]
    have a4:D.R ((l.1.map cI).set x.y.O.toNat [D.int .i64 (haveV h m x - x.y.add)])=true:=by have:=sH o.1;rw [e1] at this;exact this
    have Y:=xa5 Y e1 e2 @dLI.eq_1 @cI.eq_1 (aA a0) a4;refine wv (h:=?_);repeat first|intro _|refine ⟨fK,?_⟩
    refine eK (nJ x.y o.1 (by rw [j.l1];exact L) j.bq) wr wl rfl ?_;refine wv (h:=?_);repeat first|intro _|refine ⟨fK,?_⟩
    refine wq (λg=>?_) λg=>?_
    .have hR:=fB (n.2 (by first|simpa using g|simpa [f hc.1] using g|simpa [a] using g));exact wv (h:=P _ _ (iq hR))
    .have hstep:=n.1 (by first|simpa using g|simpa [f hc.1] using g|simpa [a] using g);refine wv (h:=?_);repeat first|intro _|refine ⟨fK,?_⟩
     exact wx C (i+1) ⟨o,wg,cl,wn,cl,wn,wj,(by exact j),(by exact hstep)⟩
   .have hF:¬ mB l x=true:=by simp only [mB,aM,decide_eq_true_eq,cZ];rintro ⟨_,hk⟩;simp [aA (F hc)] at hk;simp [hk] at h7
    unfold mF at a;rw [if_neg hF] at a;have Y:=wa Y a;refine wv (h:=eK (nJ x.y o.1 (by rw [j.l1];exact L) j.bq) wr wl rfl ?_);refine dR (λg=>?_) λg=>?_
    .have hR:=fB (n.2 (by first|simpa using g|simpa [f hc.1] using g|simpa [a] using g));exact wv (h:=P _ _ (iq hR))
    .have hstep:=n.1 (by first|simpa using g|simpa [f hc.1] using g|simpa [a] using g);refine wv (h:=?_);repeat first|intro _|refine ⟨fK,?_⟩
     exact wx C (i+1) ⟨o,wg,cl,wn,cl,wn,wj,(by exact j),(by exact hstep)⟩
  .have Y:=xa4 Y E (aA E) (Eq.symm U) (aA s) (xb0 (aA w) (aA B) (Eq.symm hV) @Slot.c.eq_1 @cL.eq_1 v J @lM @cB.eq_1 hc.1 hc.2 (f hc.1));refine wv (h:=?_);repeat first|intro _|refine ⟨fK,?_⟩
   refine eK (nJ x.y o.1 (by rw [j.l1];exact L) j.bq) wr wl rfl ?_;refine wv (h:=?_);repeat first|intro _|refine ⟨fK,?_⟩
   refine wq (λg=>?_) λg=>?_
   .have hR:=fB (n.2 (by first|simpa using g|simpa [f hc.1] using g|simpa [a] using g));exact wv (h:=P _ _ (iq hR))
   .have hstep:=n.1 (by first|simpa using g|simpa [f hc.1] using g|simpa [a] using g);refine wv (h:=?_);repeat first|intro _|refine ⟨fK,?_⟩
    exact wx C (i+1) ⟨o,wg,cl,wn,cl,wn,wj,(by exact j),(by exact hstep)⟩
  .have Y:=xa4 Y E (aA E) (Eq.symm U) (aA s) (xb0 (aA w) (aA B) (Eq.symm hV) @Slot.c.eq_1 @cL.eq_1 v J @lM @cB.eq_1 hc.1 hc.2 (f hc.1));refine wv (h:=?_);repeat first|intro _|refine ⟨fK,?_⟩
   refine eK (nJ x.y o.1 (by rw [j.l1];exact L) j.bq) wr wl rfl ?_;refine wv (h:=?_);repeat first|intro _|refine ⟨fK,?_⟩
   refine wq (λg=>?_) λg=>?_
   .have hR:=fB (n.2 (by first|simpa using g|simpa [f hc.1] using g|simpa [a] using g));exact wv (h:=P _ _ (iq hR))
   .have hstep:=n.1 (by first|simpa using g|simpa [f hc.1] using g|simpa [a] using g);refine wv (h:=?_);repeat first|intro _|refine ⟨fK,?_⟩
    exact wx C (i+1) ⟨o,wg,cl,wn,cl,wn,wj,(by exact j),(by exact hstep)⟩
 .rw [aG aD] at I;have M:=qH I;have v:=q.l1;have Y:=wa Y v;refine wv (h:=?_);repeat first|intro _|refine ⟨fK,?_⟩
  refine bA (λk e H=>(e 3=.adr p.c/\e 4=.adr h.c/\e 5=.adr m.c/\e 8=.own 2 p.vars.toNat/\e 74=.list (p.G.map Test.c)/\e 75=dI p.G.length/\e 76=dI k)/\(H.get 2=some ⟨3,1,l.1.map cI,false⟩)/\(2<H.next)/\(k<=p.G.length)/\((p.G.take k).all (λx=>BT x l.1)=true)) (λk=>p.G.length - k) 0 ⟨wg,wn,wn,wi,(by rfl)⟩ λI2 a3 k e H a1=>?_;obtain ⟨E2,X,S,hk,z⟩:=a1;have Y:=xa2 Y E2 X (bS S);refine dR (λu=>?_) λu=>?_
  .have Y:=xa2 Y u (aA u) @Test.c.eq_1;refine wv (h:=?_);repeat first|intro _|refine ⟨fK,?_⟩
   refine eK (yM p.G[k] l.1 (by rw [q.l1];exact N.ef _ (aC u)) q.bq) wr wl rfl ?_;refine wv (h:=?_);repeat first|intro _|refine ⟨fK,?_⟩
   refine wq (λO=>?_) λO=>?_
   .have hR:eZ p h m []=([],16):=by
     rw [M,if_neg];intro ha;rw [cF] at ha;have:=ha _ (aC u);simp [this] at O
    exact wv (h:=P _ _ (iq hR))
   .refine wv (h:=?_);repeat first|intro _|refine ⟨fK,?_⟩
    exact wx a3 (k+1) ⟨wg,wn,wn,wj,(by rw [List.take_succ_eq_append_getElem u,sK,z];simp;simpa using O)⟩
  .rw [aG aD] at z;rw [if_pos z] at M;exact wv (h:=P _ _ (by simp [go_sem,Y,M,dLI]))
theorem Ah (t:Types)(b:t.ok)(p:Pattern)(h:Host):Pua 150 [t.d,p.d,h.d] (dI (sW t p h)):=by
 refine Tz.p0 func150 rfl λQ e _=>?_;have Y:=wa @Host.d.eq_1 @Host.c.eq_1;refine wv (h:=aB (pN t b p) wl ?_);refine dR (λa=>?_) λa=>?_
 .exact wv (h:=e _ _ (by simp [go_sem,sW,a]))
 .refine wv (h:=aB (CS t b h) wl ?_);exact wv (h:=e _ _ (by simp [go_sem,sW,a,fG]))
theorem Ai (t:Types)(i:t.ok)(p:Pattern)(h:Host)(m:Part):Pua 243 [t.d,p.d,h.d,m.d] (.tup [dLI (eG t p h m).1,dI (eG t p h m).2]):=by
 refine Tz.p0 func243 rfl λQ g _=>?_;have Y:=xa2 @Pattern.d.eq_1 @Pattern.c.eq_1 @Host.d.eq_1 @Host.c.eq_1;refine wv (h:=aB (Ah t i p h) wl ?_);refine dR (λa=>?_) λa=>?_
 .have e:eG t p h m=([],sW t p h):=by
   unfold eG sW;unfold sW at a;by_cases b:c9 t p=0
   .rw [if_neg aD] at a ⊢;rw [if_pos a,if_neg aD]
   .rw [if_pos b,if_pos b]
  exact wv (h:=g _ _ (iq e))
 .have hp0:c9 t p=0:=by
   unfold sW at a;refine aY λb=>?_;rw [if_pos b] at a;exact b a
  have f:fG t h=0:=by unfold sW at a;rw [if_neg aD] at a;exact a
  refine wv (h:=aB (y3 t i p.j h.j m false) wl ?_);refine dR (λj=>?_) λj=>?_
  .have e:eG t p h m=([],checkE t p.j h.j m false):=by unfold eG;rw [if_neg aD,if_neg aD,if_pos j]
   exact wv (h:=g _ _ (iq e))
  .have h5':checkE t p.j h.j m false=0:=aD;have e:eG t p h m=eZ p h m []:=by unfold eG;rw [if_neg aD,if_neg aD,if_neg aD]
   refine wv (h:=aB (Ag p h m (Zg (Jg (.inr hp0)) (lK f) (rW (oS h5').2))) wl ?_);exact wv (h:=g _ _ (iq e))
theorem EF (t:Types)(E:t.ok)(p:Pattern)(h:Host)(inj:Bool):Pua 84 [t.d,p.d,h.d,.bool inj] (.tup [.list ((eX t p h inj).1.map Mat.c),dI (eX t p h inj).2]):=by
 refine Tz.pK ⟨λt=>t==13||t==15,λ_=>[]⟩ func84 rfl (λQ C=>?_);have Y:=xa2 @Pattern.d.eq_1 @Pattern.c.eq_1 @Host.d.eq_1 @Host.c.eq_1;refine wv (h:=aB (Ah t E p h) wl ?_);refine dR (λb=>?_) λb=>?_
 .have hS:eX t p h inj=([],sW t p h):=by
   unfold eX sW;unfold sW at b;by_cases q:c9 t p=0
   .rw [if_neg aD] at b ⊢;rw [if_pos b,if_neg aD]
   .rw [if_pos q,if_pos q]
  exact wv (h:=C _ _ (iq hS))
 .have hp0:c9 t p=0:=by
   unfold sW at b;refine aY λq=>?_;rw [if_pos q] at b;exact q b
  have B:fG t h=0:=by unfold sW at b;rw [if_neg aD] at b;exact b
  have k:∀ x∈(kC t p.j h.j inj).1,MOk t p.j h.j x:=λx I=>Nx I;refine wv (h:=aB (SF t E p.j h.j inj) wl ?_);refine dR (λG=>?_) λG=>?_
  .have hS:eX t p h inj=([],(kC t p.j h.j inj).2):=by unfold eX;rw [if_neg aD,if_neg aD,if_pos G]
   exact wv (h:=C _ _ (iq hS))
  .have hS:eX t p h inj=(tI p h [] (kC t p.j h.j inj).1,0):=by unfold eX;rw [if_neg aD,if_neg aD,if_neg aD]
   obtain ⟨L,F⟩:=c7 ((kC t p.j h.j inj).1);have l:=KF t p.j h.j inj;rw [<- F] at hS k l;have D:=k;have Y:=wa Y (Eq.symm F);refine wp (h:=bA (λi e H=>∃ j:List Mat,(e 4=.adr t.c/\e 5=.adr p.c/\e 6=.adr h.c/\e 3=.bool inj/\e 38=.list (L.map Part.c)/\e 39=dI L.length/\e 13=.own 0 j.length/\e 40=dI i)/\(H.get 0=some ⟨55,3,j.map Mat.c,false⟩)/\(0<H.next)/\(i<=L.length)/\(j=tI p h [] (L.take i))/\(j.length<=i)/\(L.length<=5000)) (λi=>L.length - i) 0 ⟨([]),wg,wn,wn,wi,(by rfl),(by simp),(by exact l)⟩ λN s i e H A=>?_);obtain ⟨j,K,u,o,M,g,J,r⟩:=A;have Y:=xa2 Y K u (bS o);refine dR (λn=>?_) λn=>?_
   .obtain ⟨v,w⟩:=c7 (eZ p h L[i] []);obtain ⟨f,a⟩:∃ y,y=j++if v.2=0 then [(⟨L[i],v.1⟩:Mat)] else []:=⟨_,rfl⟩
    have Y:=xa2 Y n (aA n) @Part.c.eq_1;refine wp (h:=aB ((by have z:=Ag p h L[i] (Zg (Jg (.inr hp0)) (lK B) (D _ (aC n)));rw [<- w] at z;unfold Pattern.d Pattern.c Host.d Host.c Part.d Part.c dLI dI at z;exact z)) wl ?_);refine iY (λm=>?_) λm=>?_
    .have hm3:f=j++[⟨L[i],v.1⟩]:=by rw [a,if_pos (bY m)]
     have Y:=xa1 Y hm3 @Mat.c.eq_1;exact wp (h:=wx s (i+1) ⟨f,wg,wn,wn,wj,(by rw [List.take_succ_eq_append_getElem n,nY,<- g,<- w];exact a),(by rw [a];split<;>simp<;>omega),(by exact r)⟩)
    .have hm3:f=j:=by rw [a,if_neg (bY m),dU]
     have Y:=wa Y hm3;exact wp (h:=wx s (i+1) ⟨f,wg,wn,wn,wj,(by rw [List.take_succ_eq_append_getElem n,nY,<- g,<- w];exact a),(by rw [a];split<;>simp<;>omega),(by exact r)⟩)
   .rw [aG aD] at g;exact wv (h:=C _ _ (by simp [go_sem,Y,hS,<- g]))
end Go.Abs
end
