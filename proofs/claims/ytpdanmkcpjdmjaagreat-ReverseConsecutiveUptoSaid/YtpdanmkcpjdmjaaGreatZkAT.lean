/- The finder of the program: fits, possible. · The finder of t -/
import Derived.Test.YtpdanmkcpjdmjaaGreatZkAF
import Derived.Test.YtpdanmkcpjdmjaaGreatZkAS
import Derived.Test.YtpdanmkcpjdmjaaGreatZkAA
import Derived.Test.YtpdanmkcpjdmjaaGreatZkAR
import Derived.RangeFuncBox
import Derived.RangeFuncLeaves
import Derived.Shelf.Abstract
import Derived.WalkKit
import Derived.OwnWalkIn
import Derived.TacticsInMore
import Derived.LoopNIn
import Derived.LoopIn
import Derived.Maps.AppendAt
import Derived.Shelf.Spec.SlicesInsert
import Derived.Lib.AppendZerosOnto
import Derived.Shelf.Bits.Mul64
import Derived.Deep.OwnRows
import Derived.Laws.NewBlocks
import Derived.Laws.CopyOwn
set_option linter.unusedVariables false
set_option linter.unusedSimpArgs false
section
set_option maxRecDepth 100000
set_option maxHeartbeats 4000000
open Go Go.Proofs Tryz
namespace Go.Abs
def Srch.aA (S:Srch)(most:Int)(pn pe ns es ou:D):UN:=[dLI S.p.h,.list (S.p.i.map Edge.c),dLI S.g.h,.list (S.g.i.map Edge.c),.list (sU S.t S.t.h.length),pn,pe,.bool S.inj,dI most,ns,es,ou]
def Gt (S:Srch)(l:W3)(i k:Nat):Bool:=AE S.pe i k&&Az S l i k
theorem Fl (S:Srch)(a:Int)(r pe es s:D)(j:r.P=true)(q:es.P=true)(n:s.P=true)(l:W3)(i k:Nat)(o:i<S.p.i.length)(w:k<S.g.i.length)
  (b:GivD pe S.pe S.p.i.length) (B:0<=S.p.i[i].w) (y:S.p.i[i].w.toNat<l.length) (x:0<=S.p.i[i].M) (e:S.p.i[i].M.toNat<l.length) :
  Pua 389 [.adr (S.aA a r pe (dLI l) es s),dI i,dI k] (.bool (Gt S l i k)):=by
 have m:=b.1;obtain ⟨v,u⟩:=fD (S.pe[i]?.getD (-1));have d:=b.2 i o;rw [<- u] at d;have f:AE S.pe i k=(decide (v<0)||decide (v=(k:Int))):=by unfold AE;rw [<- u]
 have C:Az S l i k=(decide (S.g.i[k].type=S.p.i[i].type)&&(decide (S.g.i[k].w=l[S.p.i[i].w.toNat])&&decide (S.g.i[k].M=l[S.p.i[i].M.toNat]))):=by
  simp only [Az,Y6,V6,aA w,aA o,Option.getD_some,aA y,aA e];simp
 refine Tz.pK ⟨λt=>t==7,λ_=>[]⟩ func389 rfl (λQ z=>?_);have Y:=xa8 @Srch.aA.eq_1 (aA o) (aA w) (aA y) (aA e) @Edge.c.eq_1 j q n m;refine wo (h:=aB (d) wl ?_);refine d8 (λA=>?_) λA=>?_
 .have hE:Gt S l i k=false:=by unfold Gt;rw [f,show decide (v<0)=false by simp;omega,show decide (v=(k:Int))=false by simp;omega];rfl
  exact wv (h:=z _ _ (by simp [go_sem,hE]))
 .have hE:Gt S l i k=Az S l i k:=by
   unfold Gt;rw [f];rcases Int.lt_or_le v 0 with h|h
   .simp [h]
   .simp [A h]
  exact wo (h:=z _ _ (by simp [go_sem,hE,C,Dr,qI]))
theorem Gf (S:Srch)(L:graphF S.p=0)(U:graphF S.g=0)(a:Int)(r s es u:D)(f:r.P=true)(n:es.P=true)(m:u.P=true)(l:W3)(v:GivD s S.pe S.p.i.length) :
  Pua 388 [.adr (S.aA a r s (dLI l) es u)] (.bool (u9 S l)):=by
 have w:=v.1;have B:=(dP L).2;have T:=bR L;have R:=bR U;have V:D.L (S.aA a r s (dLI l) es u)=true:=by simp [go_sem,Srch.aA,D.L,f,n,m,w]
 refine Tz.pK ⟨λt=>t==5,λ_=>[]⟩ func388 rfl (λQ O=>?_);have Y:=xa3 @Srch.aA.eq_1 f n m w;refine wo (h:=aY (λi e H=>(e 0=.adr (S.aA a r s (dLI l) es u)/\e 3=dI ((l.length:Int) - 1)/\e 18=.list (S.p.i.map Edge.c)/\e 19=dI S.p.i.length/\e 20=dI i)/\(i<=S.p.i.length)/\(∀ j,j<i->Ic S l j=true)) (λi=>S.p.i.length - i) 0 ⟨wg,wi,(by intro j C;omega)⟩ λI0 x i e H F=>?_);obtain ⟨Z,hi,I⟩:=F;have Y:=wa Y Z;refine dK (λq=>?_) λq=>?_
 .have hxi:=(B _ (aC q)).2;have o:Ic S l i=(decide (max S.p.i[i].w S.p.i[i].M≠(l.length:Int) - 1)||(List.range S.g.i.length).any (Gt S l i)):=by
   unfold Ic;rw [aA q,Option.getD_some];rfl
  have Y:=xa2 Y q (aA q) @Edge.c.eq_1;refine d8 (λP=>?_) λP=>?_
  .have hKi:Ic S l i=true:=by rw [o];simp;omega
   exact wo (h:=wx x (i+1) ⟨wg,wj,(by intro j C;rcases cH j i with hji|hji;exact I j hji;(obtain rfl:j=i:=aD;exact hKi))⟩)
  .have hf:S.p.i[i].w.toNat<l.length:=aD;have G:S.p.i[i].M.toNat<l.length:=aD;have A:=hxi.1.1;have z:=hxi.2.1;have W:=q;have Y:=wa Y P;refine wo (h:=aY (λk e H=>(e 0=.adr (S.aA a r s (dLI l) es u)/\e 3=dI ((l.length:Int) - 1)/\e 18=.list (S.p.i.map Edge.c)/\e 19=dI S.p.i.length/\e 20=dI i/\e 4=dI i/\e 6=.bool false/\e 37=dI S.g.i.length/\e 38=dI k)/\(k<=S.g.i.length)/\((List.range k).any (Gt S l i)=false)) (λk=>S.g.i.length - k) 0 ⟨wg,wi,(by rfl)⟩ λI2 J k e H E=>?_);obtain ⟨X,hk,N⟩:=E;have Y:=wa Y X;refine dK (λy=>?_) λy=>?_
   .obtain ⟨fb,M⟩:∃ b,b=Gt S l i k:=⟨_,rfl⟩;have Y:=wa Y y;refine wv (h:=aB (Fl S a r s es u f n m l i k W y v A hf z G) wl ?_);refine dK (λd=>?_) λd=>?_
    .have hKi:Ic S l i=true:=by
      rw [o,cZ];right;exact bD.2 ⟨k,by simpa using y,by simpa using d⟩
     exact wo (h:=wx x (i+1) ⟨wg,wj,(by intro j C;rcases cH j i with hji|hji;exact I j hji;(obtain rfl:j=i:=aD;exact hKi))⟩)
    .have hfb:Gt S l i k=false:=by simpa using d
     have Y:=wa Y d;exact wo (h:=wx J (k+1) ⟨wg,wj,(by rw [AP,N,hfb];rfl)⟩)
   .have hb0:(List.range S.g.i.length).any (Gt S l i)=false:=by rw [(aD:S.g.i.length=k)];exact N
    have K:u9 S l=false:=by
     simp only [u9,G1,bA];exact ⟨i,q,by rw [o,hb0];simp;omega⟩
    exact wo (h:=O _ _ (by simp [go_sem,K]))
 .have K:u9 S l=true:=by
   simp only [u9,c9,bA];exact λj C=>I j aD
  exact wv (h:=O _ _ (by simp [go_sem,K]))
def LM (S:Srch)(N:Nat)(ns es:W3)(out:List Part):List Part:=if ns.length<S.p.h.length then Sn S N (S.p.h.length - ns.length) ns out else JQ S N ns (S.p.i.length - es.length) es out
theorem Vk (S:Srch){N:Nat}(d:Nat)(l:W3){a:List Part}(h:N<=a.length):Sn S N d l a=a:=by cases d<;>simp only [Sn,if_pos h]
theorem IT (S:Srch){N:Nat}(ns es:W3){a:List Part}(h:N<=a.length):LM S N ns es a=a:=by
 unfold LM;split;exact Vk S _ _ h;exact Ho _ _ _ h
theorem IS (S:Srch)(N:Nat)(ns:W3)(a:List Part):LM S N ns [] a=Sn S N (S.p.h.length - ns.length) ns a:=by
 unfold LM;split
 .rfl
 .rename_i h;rw [(aD:S.p.h.length - ns.length=0)];simp only [Sn,rS,Nat.sub_zero];split
  .rename_i h2;exact Ho _ _ _ h2
  .rfl
structure FdS (f a b o:Nat) (S:Srch) (N:Nat) (pn pe:D) (ns es:W3) (out:List Part) (H:AHeap):Prop where
 bf:H.get f=some ⟨405,12,[S.aA N pn pe (.own a ns.length) (.own b es.length) (.own o out.length)],false⟩
 ba:H.get a=some ⟨3,1,ns.map cI,false⟩
 bb:H.get b=some ⟨3,1,es.map cI,false⟩
 bo:H.get o=some ⟨58,2,out.map Part.c,false⟩
 le:out.length<=N
 nf:f<H.next/\a<H.next/\b<H.next/\o<H.next
 d:(f≠a/\f≠b/\f≠o)/\(a≠b/\a≠o)/\b≠o
@[go_sem] theorem Y8 (H:AHeap)(i:Nat):(H.drop i).next=H.next:=rfl
@[go_sem] theorem Z4 (H:AHeap)(i j:Nat):(H.drop i).get j=if j=i then none else H.get j:=rfl
theorem wU {H:AHeap}{d:D}(h:d.P=true):fI H d=d:=by cases d<;>first|rfl|simp [D.P] at h
def WA (S:Srch)(N:Nat)(pn pe:D)(f o m:Nat):Prop :=
  ∀ (ns es:W3) (out:List Part) (a b:Nat) (G:AHeap) (Q:D->AHeap->Prop),(S.p.h.length - ns.length)+(S.p.i.length - es.length)=m->ns.length<=S.p.h.length->es.length<=S.p.i.length->(ns.length<S.p.h.length->es=[])->FdS f a b o S N pn pe ns es out G ->
  (∀ a' b' H',FdS f a' b' o S N pn pe ns es (LM S N ns es out) H'->Q (.tup []) H')->ACalls prog 386 [.ptr f 1 0 0] G Q
theorem Mp (S:Srch)(A:G17 S.t S.p S.g)(hv:(cW S.t).2=0)(N:Nat)(hN:N<=5001)(pn E:D)(X:GivD pn S.pn S.p.h.length)(Z:GivD E S.pe S.p.i.length)(f o:Nat)(m:Nat)(ih:∀ k,k<m->WA S N pn E f o k)(ns es:W3)(i:List Part)(a b:Nat)(G:AHeap)(Q:D->AHeap->Prop)(hm:(S.p.h.length - ns.length)+(S.p.i.length - es.length)=m)(f4:ns.length<=S.p.h.length)(e9:es.length<=S.p.i.length)(c4:ns.length<S.p.h.length->es=[])(hF:FdS f a b o S N pn E ns es i G)
  (hQ:∀ a' b' H',FdS f a' b' o S N pn E ns es (LM S N ns es i) H'->Q (.tup []) H') (c5:ns.length<S.p.h.length) :
  ACalls prog 386 [.ptr f 1 0 0] G Q:=by
 have f6:=bR A.gp;have f5:=bR A.gg;have f7:∀ x∈S.p.i,(0<=x.w/\x.w<S.p.h.length)/\(0<=x.M/\x.M<S.p.h.length):=λx hx=>((dP A.gp).2 x hx).2;obtain ⟨gf,ga,gb,go,a5,⟨lf,la,lb,lo⟩,⟨d1,d2,d3⟩,⟨d4,d5⟩,d6⟩:=hF;have ff:=bL lf;have fa:=bL la;have fb:=bL lb;have fo:=bL lo;have w:=X.1;have F:=Z.1;have b6:∀ H:AHeap,fI H pn=pn:=λH=>wU w;have W:∀ H:AHeap,fI H E=E:=λH=>wU F;refine (Tz.cK ⟨λ_=>false,λr=>match r with|0=>[(2,16),(3,16),(4,16)]|_=>[]⟩ func386 rfl ?_);have e7:=xa4 (cY (aD:o≠b)) (cY (aD:o≠a)) (cY (aD:o≠f)) (cY (aD:b≠a)) (cY (aD:b≠f)) (cY (aD:a≠f));have Y:=xa3 gf ga gb go (xb0 ff fa fb fo @Part.c.eq_1 @Srch.aA.eq_1 w F b6 W c5 e7);refine i7 (λh1=>?_) λh1=>?_
 .have hX:LM S N ns es i=i:=IT S _ _ aD;refine wv (h:=?_);exact hQ a b _ (by rw [hX];exact ⟨gf,ga,gb,go,a5,⟨by first|exact lf|(simp;omega),by first|exact la|(simp;omega),by first|exact lb|(simp;omega),by first|exact lo|(simp;omega)⟩,⟨d1,d2,d3⟩,⟨d4,d5⟩,d6⟩)
 .have hnf:¬ N<=i.length:=aD;have c8:=c4 aD;subst c8;obtain ⟨U,b9⟩:∃ U,S.p.h.length - ns.length=U+1:=⟨S.p.h.length - ns.length - 1,aD⟩;have C:ns.length<S.p.h.length:=aD;have a7:=A.tp _ (aC C);have b4:=KW a7;obtain ⟨v,V⟩:=fD (S.pn[ns.length]?.getD (-1));have a6:=X.2 ns.length C;rw [<- V] at a6;have a0:∀ j (hj:j<S.g.h.length),Li S ns j=((decide (v<0)||decide (v=(j:Int)))&&(!(S.inj&&mem ns j)&&wJ S.t S.p.h[ns.length] S.g.h[j])):=λj hj=>by
   simp only [Li,AE,<- V,aA hj,aA C,Option.getD_some]
  have Y:=xa1 Y (aA C) b4;refine wp (h:=aY (λj e H=>∃ s:Nat,∃ q:Nat,∃ n:List Part,(e 0=.ptr f 1 0 0/\e 2=dI ns.length/\e 61=dLI S.g.h/\e 62=dI S.g.h.length/\e 63=dI j)/\(H.get f=some ⟨405,12,[S.aA N pn E (.own s ns.length) (.own q 0) (.own o n.length)],false⟩)/\(f<H.next)/\(H.get s=some ⟨3,1,ns.map cI,false⟩)/\(s<H.next)/\(H.get q=some ⟨3,1,[],false⟩)/\(q<H.next)/\(H.get o=some ⟨58,2,n.map Part.c,false⟩)/\(o<H.next)/\(f≠s)/\(f≠q)/\(s≠q)/\(s≠o)/\(q≠o)/\(j<=S.g.h.length)/\(n.length<=N)/\(n=(List.range j).foldl (λn k=>if (Li S ns k&&u9 S (ns++[(k:Int)]))=true then Sn S N U (ns++[(k:Int)]) n else n) i)) (λj=>S.g.h.length - j) 0 ⟨a,b,i,wg,wn,wn,wn,wn,wn,wn,wn,wn,wi,wi,wi,wi,wi,wi,(by exact a5),(by rfl)⟩ λI1 K j e H c0=>?_);obtain ⟨s,q,n,E1,b0,R,O,J,M,I,a9,P,e1,e2,e3,e4,e5,hj,l,B⟩:=c0;have e6:=xa4 (cY (aD:o≠q)) (cY (aD:o≠s)) (cY (aD:o≠f)) (cY (aD:q≠s)) (cY (aD:q≠f)) (cY (aD:s≠f));have Y:=xa9 Y E1 b0 (bL R) O (bL J) M (bL I) a9 (bL P) e6;refine dK (λh5=>?_) λh5=>?_
  .have hEj:=a0 j h5;have c6:=A.tg _ (aC h5);have b5:=Oj hv a7 c6;have Y:=xa2 Y h5 (aA h5) b5;refine wp (h:=aB (a6) wl ?_);refine wp (h:=Kn (λhg=>fU ns j) wr (λhg=>wl) (λhg=> rfl) rfl wrd ?_);refine i7 (λh8=>?_) λh8=>?_
   .have hE:(Li S ns j&&u9 S (ns++[(j:Int)]))=false:=by
     have:Li S ns j=false:=by
      rw [hEj,bQ];intro hT;simp at hT;obtain ⟨c1,c2,c3⟩:=hT;rcases h8 with (⟨k1,T⟩|k1)|⟨k1,T⟩
      .rcases c1 with c1|c1
       .omega
       .exact T c1
      .rw [k1] at c3;cases c3
      .rcases c2 with c2|c2
       .rw [k1] at c2;cases c2
       .rw [T] at c2;cases c2
     rw [this];rfl
    obtain ⟨u,d⟩:∃ x,x=n:=⟨_,rfl⟩;obtain ⟨a2,z⟩:∃ x,x=s:=⟨_,rfl⟩;obtain ⟨b2,y⟩:∃ x,x=q:=⟨_,rfl⟩;have Y:=xa2 Y d z y;exact wp (h:=wx K (j+1) ⟨a2,b2,u,wg,wn,wn,wn,wn,wn,wn,wn,wn,wj,wj,wj,wj,wj,wj,(by rw [d];first|exact l|exact Re A.gp _ _ l),(by rw [eK,<- B,d];first|rw [if_pos hE]|rw [if_neg (by rw [hE];simp)])⟩)
   .have hO:Li S ns j=true:=by
     obtain ⟨⟨k1,T⟩,k3⟩:=h8;have c1:(decide (v<0)||decide (v=(j:Int)))=true:=by simp;omega
     have c2:(S.inj&&mem ns (j:Int))=false:=by cases hI:S.inj;rfl;simp [k3 hI]
     rw [hEj,c1,T,c2];rfl
    have a4:(S.p.h.length - (ns++[(j:Int)]).length)+(S.p.i.length - ([]:W3).length)=m - 1:=by simp at hm ⊢;omega
    obtain ⟨m',b7⟩:∃ x,x=m - 1:=⟨_,rfl⟩;rw [<- b7] at a4;have Y:=wa Y h8;refine wp (h:=FW (Gf S A.gp A.gg N pn E (dLI []) (.list (n.map Part.c)) w (by simp [D.P,go_sem]) (by simp [D.P,w6]) (ns++[(j:Int)]) Z) wrq wl rfl ?_);refine i7 (λL=>?_) λL=>?_
    .have hE:(Li S ns j&&u9 S (ns++[(j:Int)]))=true:=by rw [hO,L];rfl
     obtain ⟨u,d⟩:∃ x,x=Sn S N U (ns++[(j:Int)]) n:=⟨_,rfl⟩;have b8:S.p.h.length - (ns.length+1)=U:=aD;have Y:=xa1 Y b8 (Eq.symm d);refine wv (h:=?_);unfold fE;refine ih m' aD (ns++[(j:Int)]) [] n s q _ _ a4 (by simp;omega) dB (λ_=>rfl) ⟨by simp [go_sem,Y],by simp [go_sem,Y],by simp [go_sem,Y],by simp [go_sem,Y],l,⟨by simp [go_sem];omega,by simp [go_sem];omega,by simp [go_sem];omega,by simp [go_sem];omega⟩,⟨e1,e2,d3⟩,⟨e3,e4⟩,e5⟩ (λa3 b3 H3 a8=>?_);rw [IS] at a8;obtain ⟨d0,d8,d7,c9,e8,⟨f1,f3,f2,f0⟩,⟨x1,x2,x3⟩,⟨x4,x5⟩,x6⟩:=a8;have d9:=xa2 (bL (aD:f<H3.next)) (bL (aD:a3<H3.next)) (bL (aD:b3<H3.next)) (bL (aD:o<H3.next));have e0:=xa4 (cY (aD:o≠b3)) (cY (aD:o≠a3)) (cY (aD:o≠f)) (cY (aD:b3≠a3)) (cY (aD:b3≠f)) (cY (aD:a3≠f));obtain ⟨a2,z⟩:∃ x,x=H3.next:=⟨_,rfl⟩;obtain ⟨b2,y⟩:∃ x,x=b3:=⟨_,rfl⟩;have Y:=xa7 Y d0 d8 d7 c9 d9 e0 z y;exact wp (h:=Ik (Ghosts.trunc (.refl _) f 0 9 a3 ns.length _ _ _ (by simp [go_sem,Y];rfl) rfl rfl (by simp [go_sem,Y];rfl) (by simp [go_sem,Y]) rfl aD) (j+1) aD ((K _ _ _).2 ⟨a2,b2,u,wg,wn,wn,wn,wn,wn,wn,wn,wn,wj,wj,wj,wj,wj,wj,(by rw [d];first|exact l|exact Re A.gp _ _ l),(by rw [eK,<- B,d];first|rw [if_pos hE]|rw [if_neg (by rw [hE];simp)])⟩))
    .have hE:(Li S ns j&&u9 S (ns++[(j:Int)]))=false:=by rw [hO,L];rfl
     obtain ⟨u,d⟩:∃ x,x=n:=⟨_,rfl⟩;obtain ⟨a2,z⟩:∃ x,x=H.next+41:=⟨_,rfl⟩;obtain ⟨b2,y⟩:∃ x,x=q:=⟨_,rfl⟩;have Y:=xa2 Y d z y;exact wp (h:=Ik (Ghosts.trunc (.refl _) f 0 9 s ns.length _ _ _ (by simp [go_sem,Y];rfl) rfl rfl (by simp [go_sem,Y];rfl) (by simp [go_sem,Y]) rfl aD) (j+1) aD ((K _ _ _).2 ⟨a2,b2,u,wg,wn,wn,wn,wn,wn,wn,wn,wn,wj,wj,wj,wj,wj,wj,(by rw [d];first|exact l|exact Re A.gp _ _ l),(by rw [eK,<- B,d];first|rw [if_pos hE]|rw [if_neg (by rw [hE];simp)])⟩))
  .have hJ:j=S.g.h.length:=aD;have c7:LM S N ns [] i=n:=by rw [IS,b9];simp only [Sn];rw [if_neg hnf,B,hJ]
   refine wv (h:=?_);exact hQ s q _ (by rw [c7];exact ⟨by assumption,by assumption,by assumption,by assumption,l,⟨by assumption,by assumption,by assumption,by assumption⟩,⟨e1,e2,d3⟩,⟨e3,e4⟩,e5⟩)
theorem aeY (a k:Nat):a+(k+1) - (a+1)=k+1 - 1:=aD
theorem aeX (a k:Nat):a+(k+1) - (a+1)=k:=aD
theorem aeW (a k:Nat):a+(k+1) - a=k+1:=aD
theorem Mo (S:Srch)(hG:G17 S.t S.p S.g)(hv:(cW S.t).2=0)(N:Nat)(hN:N<=5001)(A pe:D)(b4:GivD A S.pn S.p.h.length)(W:GivD pe S.pe S.p.i.length)(f o:Nat)(m:Nat)(ih:∀ k,k<m->WA S N A pe f o k)(ns es:W3)(i:List Part)(a b:Nat)(G:AHeap)(Q:D->AHeap->Prop)(hm:(S.p.h.length - ns.length)+(S.p.i.length - es.length)=m)(f2:ns.length<=S.p.h.length)(e7:es.length<=S.p.i.length)(f5:ns.length<S.p.h.length->es=[])(hF:FdS f a b o S N A pe ns es i G)
  (hQ:∀ a' b' H',FdS f a' b' o S N A pe ns es (LM S N ns es i) H'->Q (.tup []) H') (y:¬ ns.length<S.p.h.length) (c4:es.length<S.p.i.length) :
  ACalls prog 386 [.ptr f 1 0 0] G Q:=by
 have f4:=bR hG.gp;have f3:=bR hG.gg;have b8:∀ x∈S.p.i,(0<=x.w/\x.w<S.p.h.length)/\(0<=x.M/\x.M<S.p.h.length):=λx hx=>((dP hG.gp).2 x hx).2;obtain ⟨gf,ga,gb,go,a4,⟨lf,la,lb,lo⟩,⟨d1,d2,d3⟩,⟨d4,d5⟩,d6⟩:=hF;have ff:=bL lf;have fa:=bL la;have fb:=bL lb;have fo:=bL lo;have u:=b4.1;have B:=W.1;have b0:∀ H:AHeap,fI H A=A:=λH=>wU u;have V:∀ H:AHeap,fI H pe=pe:=λH=>wU B;refine (Tz.cK ⟨λ_=>false,λr=>match r with|0=>[(2,16),(3,16),(4,16)]|_=>[]⟩ func386 rfl ?_);have e0:=xa4 (cY (aD:o≠b)) (cY (aD:o≠a)) (cY (aD:o≠f)) (cY (aD:b≠a)) (cY (aD:b≠f)) (cY (aD:a≠f));have Y:=xa4 gf ga gb go ff (xb0 fa fb fo @Part.c.eq_1 @Srch.aA.eq_1 u B b0 V y c4 e0);refine i7 (λh1=>?_) λh1=>?_
 .have hX:LM S N ns es i=i:=IT S _ _ aD;refine wv (h:=?_);exact hQ a b _ (by rw [hX];exact ⟨gf,ga,gb,go,a4,⟨by first|exact lf|(simp;omega),by first|exact la|(simp;omega),by first|exact lb|(simp;omega),by first|exact lo|(simp;omega)⟩,⟨d1,d2,d3⟩,⟨d4,d5⟩,d6⟩)
 .have hnf:¬ N<=i.length:=aD;obtain ⟨w,a5⟩:∃ w,S.p.i.length - es.length=w+1:=⟨S.p.i.length - es.length - 1,aD⟩;have Z:m=w+1:=by rw [<- hm,Nat.sub_eq_zero_of_le (Nat.not_lt.1 y),eR,a5]
  have J:S.p.i.length=es.length+(w+1):=aD;clear hm a5;have C:es.length<S.p.i.length:=aD;have a6:=b8 _ (aC C);have c3:S.p.i[es.length].w.toNat<ns.length:=aD;have c0:S.p.i[es.length].M.toNat<ns.length:=aD;refine wp (h:=aY (λj e H=>∃ s:Nat,∃ q:Nat,∃ l:List Part,(e 0=.ptr f 1 0 0/\e 6=dI es.length/\e 162=.list (S.g.i.map Edge.c)/\e 163=dI S.g.i.length/\e 164=dI j)/\(H.get f=some ⟨405,12,[S.aA N A pe (.own s ns.length) (.own q es.length) (.own o l.length)],false⟩)/\(f<H.next)/\(H.get s=some ⟨3,1,ns.map cI,false⟩)/\(s<H.next)/\(H.get q=some ⟨3,1,es.map cI,false⟩)/\(q<H.next)/\(H.get o=some ⟨58,2,l.map Part.c,false⟩)/\(o<H.next)/\(f≠s)/\(f≠q)/\(s≠q)/\(s≠o)/\(q≠o)/\(j<=S.g.i.length)/\(l.length<=N)/\(l=(List.range j).foldl (λl k=>if Sw S ns es k=true then JQ S N ns w (es++[(k:Int)]) l else l) i)) (λj=>S.g.i.length - j) 0 ⟨a,b,i,wg,wn,wn,wn,wn,wn,wn,wn,wn,wi,wi,wi,wi,wi,wi,(by exact a4),(by rfl)⟩ λI3 a7 j e H b9=>?_);obtain ⟨s,q,l,E3,a9,T,P,F,O,E,a8,R,e1,e2,e3,e4,e5,hj,n,I⟩:=b9;have d9:=xa4 (cY (aD:o≠q)) (cY (aD:o≠s)) (cY (aD:o≠f)) (cY (aD:q≠s)) (cY (aD:q≠f)) (cY (aD:s≠f));have Y:=xa9 Y E3 a9 (bL T) P (bL F) O (bL E) a8 (bL R) d9;refine dK (λM=>?_) λM=>?_
  .have hEj:Sw S ns es j=(Gt S ns es.length j&&!(S.inj&&mem es j)):=by
    simp only [Sw,Gt];cases AE S.pe es.length j<;>cases Az S ns es.length j<;>cases (S.inj&&mem es j)<;>rfl
   have Y:=wa Y M;refine wp (h:=FW (Fl S N A pe (dLI es) (.list (l.map Part.c)) u (by simp [D.P,go_sem]) (by simp [D.P,w6]) ns es.length j C M W a6.1.1 c3 a6.2.1 c0) wrq wl rfl ?_);refine wp (h:=Nc (λhg=>fU es j) wr (λhg=>wl) (λhg=> rfl) ?_);refine i7 (λz=>?_) λz=>?_
   .have hE:Sw S ns es j=false:=by
     rw [hEj];rcases z with U|⟨U,k2⟩
     .rw [U];rfl
     .rw [U,k2];simp
    obtain ⟨v,d⟩:∃ x,x=l:=⟨_,rfl⟩;obtain ⟨a2,L⟩:∃ x,x=s:=⟨_,rfl⟩;obtain ⟨b2,K⟩:∃ x,x=q:=⟨_,rfl⟩;have Y:=xa2 Y d L K;exact wp (h:=wx a7 (j+1) ⟨a2,b2,v,wg,wn,wn,wn,wn,wn,wn,wn,wn,wj,wj,wj,wj,wj,wj,(by rw [d];first|exact n|exact Eg _ _ _ _ n),(by rw [eK,<- I,d];first|rw [if_pos hE]|rw [if_neg (by rw [hE];simp)])⟩)
   .have hE:Sw S ns es j=true:=by
     obtain ⟨U,k2⟩:=z;have c2:(S.inj&&mem es (j:Int))=false:=by cases hI:S.inj;rfl;simp [k2 hI]
     rw [hEj,U,c2];rfl
    have a0:(S.p.h.length - ns.length)+(S.p.i.length - (es++[(j:Int)]).length)=m - 1:=by
     rw [Nat.sub_eq_zero_of_le (Nat.not_lt.1 y),aH,mV,eR,J,Z];exact aeY _ _
    have X:m - 1<m:=by rw [Z];exact Nat.lt_succ_self w
    obtain ⟨m',b5⟩:∃ x,x=m - 1:=⟨_,rfl⟩;rw [<- b5] at a0 X;obtain ⟨v,d⟩:∃ x,x=JQ S N ns w (es++[(j:Int)]) l:=⟨_,rfl⟩;have c1:LM S N ns (es++[(j:Int)]) l=v:=by
     have b6:S.p.i.length - (es++[(j:Int)]).length=w:=by
      rw [aH,mV,J];exact aeX _ _
     rw [d];unfold LM;rw [if_neg (aD:¬ ns.length<S.p.h.length),b6]
    have Y:=xa1 Y z c1;refine wp (h:=?_);unfold fE;refine ih m' X ns (es++[(j:Int)]) l s q _ _ a0 aD (by simp;omega) (λh=>absurd h aD) ⟨by simp [go_sem,Y],by simp [go_sem,Y],by simp [go_sem,Y],by simp [go_sem,Y],n,⟨by simp [go_sem];omega,by simp [go_sem];omega,by simp [go_sem];omega,by simp [go_sem];omega⟩,⟨e1,e2,d3⟩,⟨e3,e4⟩,e5⟩ (λa3 b3 H3 c6=>?_);obtain ⟨c8,d0,c9,c7,e6,⟨e9,f1,f0,e8⟩,⟨x1,x2,x3⟩,⟨x4,x5⟩,x6⟩:=c6;have d7:=xa2 (bL (aD:f<H3.next)) (bL (aD:a3<H3.next)) (bL (aD:b3<H3.next)) (bL (aD:o<H3.next));have d8:=xa4 (cY (aD:o≠b3)) (cY (aD:o≠a3)) (cY (aD:o≠f)) (cY (aD:b3≠a3)) (cY (aD:b3≠f)) (cY (aD:a3≠f));obtain ⟨a2,L⟩:∃ x,x=a3:=⟨_,rfl⟩;obtain ⟨b2,K⟩:∃ x,x=H3.next:=⟨_,rfl⟩;have Y:=xa7 Y c8 d0 c9 c7 d7 d8 L K;exact wp (h:=Ik (Ghosts.trunc (.refl _) f 0 10 b3 es.length _ _ _ (by simp [go_sem,Y];rfl) rfl rfl (by simp [go_sem,Y];rfl) (by simp [go_sem,Y]) rfl aD) (j+1) aD ((a7 _ _ _).2 ⟨a2,b2,v,wg,wn,wn,wn,wn,wn,wn,wn,wn,wj,wj,wj,wj,wj,wj,(by rw [d];first|exact n|exact Eg _ _ _ _ n),(by rw [eK,<- I,d];first|rw [if_pos hE]|rw [if_neg (by rw [hE];simp)])⟩))
  .have hJ:j=S.g.i.length:=aD;have b7:S.p.i.length - es.length=w+1:=by
    rw [J];exact aeW _ _
   have c5:LM S N ns es i=l:=by unfold LM;rw [if_neg y,b7];simp only [JQ];rw [if_neg hnf,I,hJ]
   refine wv (h:=?_);exact hQ s q _ (by rw [c5];exact ⟨by assumption,by assumption,by assumption,by assumption,n,⟨by assumption,by assumption,by assumption,by assumption⟩,⟨e1,e2,d3⟩,⟨e3,e4⟩,e5⟩)
theorem Mn (S:Srch)(A:G17 S.t S.p S.g)(hv:(cW S.t).2=0)(N:Nat)(hN:N<=5001)(j l:D)(s:GivD j S.pn S.p.h.length)(u:GivD l S.pe S.p.i.length)(f o:Nat)(m:Nat)(ih:∀ k,k<m->WA S N j l f o k)(ns es:W3)(d:List Part)(a b:Nat)(G:AHeap)(Q:D->AHeap->Prop)(hm:(S.p.h.length - ns.length)+(S.p.i.length - es.length)=m)(a0:ns.length<=S.p.h.length)(J:es.length<=S.p.i.length)(a4:ns.length<S.p.h.length->es=[])(hF:FdS f a b o S N j l ns es d G)
  (K:∀ a' b' H',FdS f a' b' o S N j l ns es (LM S N ns es d) H'->Q (.tup []) H') (y:¬ ns.length<S.p.h.length) (w:¬ es.length<S.p.i.length) :
  ACalls prog 386 [.ptr f 1 0 0] G Q:=by
 have a2:=bR A.gp;have a1:=bR A.gg;have a3:∀ x∈S.p.i,(0<=x.w/\x.w<S.p.h.length)/\(0<=x.M/\x.M<S.p.h.length):=λx Z=>((dP A.gp).2 x Z).2;obtain ⟨M,P,O,L,v,⟨E,I,F,C⟩,⟨X,W,V⟩,⟨U,T⟩,R⟩:=hF;have ff:=bL E;have fa:=bL I;have fb:=bL F;have fo:=bL C;have e:=s.1;have i:=u.1;have q:∀ H:AHeap,fI H j=j:=λH=>wU e;have n:∀ H:AHeap,fI H l=l:=λH=>wU i;refine (Tz.cK ⟨λ_=>false,λr=>match r with|0=>[(2,16),(3,16),(4,16)]|_=>[]⟩ func386 rfl ?_);have B:=xa4 (cY (aD:o≠b)) (cY (aD:o≠a)) (cY (aD:o≠f)) (cY (aD:b≠a)) (cY (aD:b≠f)) (cY (aD:a≠f));have Y:=xa4 M P O L ff (xb0 fa fb fo @Part.c.eq_1 @Srch.aA.eq_1 e i q n y w B);refine i7 (λh1=>?_) λh1=>?_
 .have z:LM S N ns es d=d:=IT S _ _ aD;refine wv (h:=?_);exact K a b _ (by rw [z];exact ⟨M,P,O,L,v,⟨by first|exact E|(simp;omega),by first|exact I|(simp;omega),by first|exact F|(simp;omega),by first|exact C|(simp;omega)⟩,⟨X,W,V⟩,⟨U,T⟩,R⟩)
 .have hnf:¬ N<=d.length:=aD;have z:LM S N ns es d=d++[⟨ns,es⟩]:=by
   unfold LM;rw [if_neg aD,(aD:S.p.i.length - es.length=0)];simp only [JQ];rw [if_neg hnf]
  refine wp (h:=?_);refine kO (jK ns aD) (by simp [go_sem,Y,dLI]) (by simp [go_sem]) (FR _) rfl (by simp [go_sem]) ?_;refine wp (h:=?_);refine kO (jK es aD) (by simp [go_sem,Y,dLI]) (by simp [go_sem]) (FR _) rfl (by simp [go_sem]) ?_;refine wp (h:=?_);exact K a b _ (by rw [z];exact ⟨by simp [go_sem,Y],by simp [go_sem,Y],by simp [go_sem,Y],by simp [go_sem,Y],by simp;omega,⟨by simp [go_sem];omega,by simp [go_sem];omega,by simp [go_sem];omega,by simp [go_sem];omega⟩,⟨X,W,V⟩,⟨U,T⟩,R⟩)
theorem Oc (S:Srch)(v:G17 S.t S.p S.g)(q:(cW S.t).2=0)(N:Nat)(u:N<=5001)(l n:D)(e:GivD l S.pn S.p.h.length)(h:GivD n S.pe S.p.i.length)(f o:Nat) :
  ∀ (m:Nat) (ns es:W3) (c:List Part) (a b:Nat) (G:AHeap) (Q:D->AHeap->Prop),(S.p.h.length - ns.length)+(S.p.i.length - es.length)=m->ns.length<=S.p.h.length->es.length<=S.p.i.length->(ns.length<S.p.h.length->es=[])->FdS f a b o S N l n ns es c G ->
  (∀ a' b' H',FdS f a' b' o S N l n ns es (LM S N ns es c) H'->Q (.tup []) H')->ACalls prog 386 [.ptr f 1 0 0] G Q:=by
 intro m;induction m using Nat.strongRecOn with
 | _ m ih =>
 intro ns es c a b G Q r i d j w s;by_cases k:ns.length<S.p.h.length
 .exact Mp S v q N u l n e h f o m ih ns es c a b G Q r i d j w s k
 .by_cases hc2:es.length<S.p.i.length
  .exact Mo S v q N u l n e h f o m ih ns es c a b G Q r i d j w s k hc2
  .exact Mn S v q N u l n e h f o m ih ns es c a b G Q r i d j w s k hc2
theorem Mm (S:Srch)(v:G17 S.t S.p S.g)(x:S.t.ok)(w:(cW S.t).2=0)(N:Nat)(B:N<=5001)(l m:D)(f:GivD l S.pn S.p.h.length)(j:GivD m S.pe S.p.i.length)(n:l.cell=true)(o:m.cell=true){L:List Part}(C:L=(zR S).take N) :
  Pua 385 [S.t.d,S.p.d,S.g.d,.agg [l,m],.bool S.inj,dI N] (.list (L.map Part.c)):=by
 have q:LM S N [] [] []=L:=by rw [IS,Rf v.gp N _ _ _ dB,C];simp [zR]
 have e:=f.1;have i:=j.1;have a:=n;have b:=o;unfold D.cell at a b;refine pS (by first|rfl|(simp [go_sem];done)) (λQ A=>(Tz.cK ⟨λt=>t==22,λ_=>[]⟩ func385 rfl ?_));have Y:=xa3 e i @belowD.eq_1 a b;refine wv (h:=aI (CM S.t x) wl ?_);refine wv (h:=?_);refine yX (.step (.step (.step (.refl _) 8 0 9 3 1 _ _ (by simp [go_sem];rfl) rfl rfl rfl) 8 0 10 3 1 _ _ (by simp [go_sem];rfl) rfl rfl rfl) 8 0 11 58 2 _ _ (by simp [go_sem];rfl) rfl rfl rfl) ?_;simp [go_sem];unfold fE;refine Oc S v w N B l m f j 8 12 _ [] [] [] 10 11 _ _ rfl dB dB (λ_=>rfl) ⟨by simp [go_sem,Srch.aA,Graph.c,dLI,dI],by simp [go_sem],by simp [go_sem],by simp [go_sem],by simp,by simp [go_sem],by simp,by simp,by simp⟩ (λH G I k=>?_);rw [q] at k;obtain ⟨s,F,E,r,u,y,z⟩:=k;have Y:=xa2 Y s r @Srch.aA.eq_1;refine wv (h:=?_);exact A _ _ (by simp [go_sem,Y,mC,Pb])
theorem QM (t:Types)(z:t.ok)(y:(cW t).2=0)(p g:Graph)(A:G17 t p g)(o s:W3)(a:Bool)(n q:D)(i:GivD n o p.h.length)(k:GivD q s p.i.length)(l:n.cell=true)(m:q.cell=true){w:List Part × Int}(x:w=Jc (zR ⟨t,p,g,o,s,a⟩)) :
  Pua 383 [t.d,p.d,g.d,.agg [n,q],.bool a] (.tup [.list (w.1.map Part.c),dI w.2]):=by
 obtain ⟨L,v⟩:=fD ((zR ⟨t,p,g,o,s,a⟩).take 5001);have r:w=if 5000<L.length then ([],3) else (L,0):=by rw [x];unfold Jc;rw [<- v]
 have f:=i.1;have j:=k.1;have b:=l;have e:=m;unfold D.cell at b e;refine Tz.p0 func383 rfl λQ u _=>?_;have Y:=xa2 f j b e;refine wv (h:=aB (Mm ⟨t,p,g,o,s,a⟩ A z y 5001 aD n q i k l m v) wl ?_);refine d8 (λB=>?_) λB=>?_
 .rw [if_pos aD] at r;exact wv (h:=u _ _ (by simp [go_sem,r]))
 .rw [if_neg aD] at r;exact wv (h:=u _ _ (by simp [go_sem,r]))
theorem EG {t:Types}{p g:Graph}(h:eH t p g=0):(cW t).2=0:=by
 unfold eH at h;split at h
 .exact absurd h (by assumption)
 .rename_i h1;simpa using h1
theorem JU (t:Types)(l:t.ok)(p g:Graph)(q:Part)(a:Bool):Pua 373 [t.d,p.d,g.d,q.d,.bool a] (.tup [.list ((n6 t p g q a).1.map Part.c),dI (n6 t p g q a).2]):=by
 refine Tz.p0 func373 rfl λQ i Y=>?_;refine wv (h:=aB (yB t l p g) wl ?_);refine dK (λe=>?_) λe=>?_
 .have b:n6 t p g q a=([],eH t p g):=by unfold n6;rw [if_pos (eQ e)]
  exact wv (h:=i _ _ (by simp [go_sem,b]))
 .have hG:=oP (eQ e);have m:=EG (eQ e);refine d8 (λn=>?_) λn=>?_
  .have b:n6 t p g q a=([],20):=by unfold n6;rw [if_neg (eQ e),if_pos aD]
   exact wv (h:=i _ _ (by simp [go_sem,b]))
  .have hq:q.h.length=p.h.length/\q.i.length=p.i.length:=aD;refine wo (h:=aB (Fk q.h g.h.length) wl ?_);refine d8 (λj=>?_) λj=>?_
   .have b:n6 t p g q a=([],nZ q.h g.h.length):=by unfold n6;rw [if_neg (eQ e),if_neg aD,if_pos (eQ j)]
    exact wv (h:=i _ _ (by simp [go_sem,b]))
   .have h7':nZ q.h g.h.length=0:=by simpa using j
    refine wo (h:=aB (Fk q.i g.i.length) wl ?_);refine d8 (λf=>?_) λf=>?_
    .have b:n6 t p g q a=([],nZ q.i g.i.length):=by unfold n6;rw [if_neg (eQ e),if_neg aD,if_neg aD,if_pos (eQ f)]
     exact wv (h:=i _ _ (by simp [go_sem,b]))
    .have h10':nZ q.i g.i.length=0:=by simpa using f
     obtain ⟨w,k⟩:=fD (Jc (zR ⟨t,p,g,q.h,q.i,a⟩));have b:n6 t p g q a=w:=by unfold n6;rw [if_neg (eQ e),if_neg aD,if_neg aD,if_neg aD,k]
     refine wv (h:=aB (QM t l m p g hG q.h q.i a (dLI q.h) (dLI q.i) (hq.1 ▸ GivD.list q.h) (hq.2 ▸ GivD.list q.i) rfl rfl k) wl ?_);exact wv (h:=i _ _ (by simp [go_sem,b]))
theorem V3 (l:List Edge):∀ d∈(l.map Edge.c).flatten,d.aD=true:=by
 intro d a;rw [jE] at a;obtain ⟨c,b,a⟩:=a;rw [aW] at b;obtain ⟨x,_,rfl⟩:=b;simp only [Edge.c,aV,fJ,or_false] at a;rcases a with rfl|rfl|rfl<;>rfl
theorem Gg (t:Types)(B:t.ok)(p g:Graph)(m:Part):Pua 105 [t.d,p.d,g.d,m.d] (.tup [(Bg t p g m).d,dI (checkE t p g m false)]):=by
 refine Tz.pK ⟨λt=>t==8||t==12,λr=>match r with|11=>[(0,7),(1,7)]|_=>[]⟩ func105 rfl (λQ y=>?_);have Y:=trivial;refine wv (h:=aB (yB t B p g) wl ?_);refine dK (λf=>?_) λf=>?_
 .have b:checkE t p g m false=eH t p g:=by unfold checkE;rw [if_pos (eQ f)]
  have n:Bg t p g m=⟨[],[]⟩:=by unfold Bg;rw [if_neg (by rw [b];simpa using f)]
  exact wv (h:=y _ _ (by simp [go_sem,n,b]))
 .have hG:=oP (eQ f);have D:=EG (eQ f);have G:=bR hG.gp;have F:=bR hG.gg;have b:checkE t p g m false=matchE t p g m false:=by unfold checkE;rw [if_neg (eQ f)]
  refine wv (h:=aB (CL t B p g hG D m) wl ?_);refine dK (λA=>?_) λA=>?_
  .have n:Bg t p g m=⟨[],[]⟩:=by unfold Bg;rw [if_neg (by rw [b];simpa using A)]
   exact wv (h:=y _ _ (by simp [go_sem,n,b]))
  .have hM:matchE t p g m false=0:=by simpa using A
   obtain ⟨⟨J,I⟩,w,E⟩:=AZ hM;have n:Bg t p g m=kM p g m:=by unfold Bg;rw [if_pos (by rw [b];exact hM)]
   refine wv (h:=?_);refine Jp (Cp p.i aD) (by simp [go_sem]) (by simp [go_sem]) (V3 _) ?_;refine wp (h:=lB (Ghosts.step (Ghosts.refl _) 1 0 0 3 1 _ _ (rfl) rfl rfl rfl) (λi e H=>∃ a:W3,(e 4=.adr t.c/\e 5=.adr p.c/\e 6=.adr g.c/\e 7=.adr m.c/\e 8=.ptr 0 1 0 0/\e 12=.ptr 1 1 0 0/\e 37=dLI m.h/\e 38=dI m.h.length/\e 39=dI i)/\(H.get 0=some ⟨51,2,[[.nil,.nil]],false⟩)/\(0<H.next)/\(H.get 1=some ⟨51,2,[[.own 2 a.length,.list (p.i.map Edge.c)]],false⟩)/\(1<H.next)/\(H.get 2=some ⟨3,1,a.map cI,false⟩)/\(2<H.next)/\(i<=m.h.length)/\(a=(m.h.take i).map (gN g))) (λi=>m.h.length - i) 0 ⟨([]),wg,wn,wn,wn,wn,wn,wn,wi,(by rfl)⟩ λN z i e H x=>?_);obtain ⟨a,L,u,l,s,k,q,j,M,v⟩:=x;have Y:=xa6 Y L u (bL l) s (bL k) q (bL j);refine dK (λo=>?_) λo=>?_
   .have hmi:=w _ (aC o);have K:m.h[i].toNat<g.h.length:=aD;have C:a.length=i:=by rw [v];simp;omega
    have Y:=xa3 Y o (aA o) (aA K) @gN.eq_1;exact wp (h:=wx z (i+1) ⟨(a++[gN g m.h[i]]),wg,wn,wn,wn,wn,wn,wn,wj,(by rw [lA _ o,<- v])⟩)
   .have hX:a=m.h.map (gN g):=by rw [v,mD _ aD]
    exact wv (h:=y _ _ (by simp [go_sem,Y,n,b,hM,kM,Graph.d,Graph.c,hX,dLI]))
end Go.Abs
end
section
set_option maxRecDepth 100000
set_option maxHeartbeats 4000000
namespace Go.Abs
open Go Go.Proofs Go.RowKit Go.Shelf Tryz
attribute [local go_sem] Oper.semAt_some
theorem Ht:(prog.info? 3).map (λi=>(i.zero,i.size,i.bytes))=some (some (.int .i64 0),1,8):=by kernel_rfl
theorem Qv (F:Fence)(n:Nat)(h7:F.fn 346)(hro:F.round=none)(hn:1<=n)(l n₀:Nat)(a ad:Addr)(cap:Nat)(zs:W3)(hreach:zs.length<=1000000)(hb:zs≠[]->ad.block<n₀)(J Jx:W3->World->Prop)
  (hY:∀ pre x W,J pre W->pre.length<zs.length->YieldAt F (n - 1) prog l #[.int .i64 x] W λe W' =>
   (e=.returned (.bool true)/\J (pre++[x]) W'/\Below n₀ W W')\/(e=.returned (.bool false)/\Jx (pre++[x]) W'))
  (W:World) (hBs:W.cell? a=some (.slice (some ad) zs.length cap)) (hc:∀ j x,zs[j]?=some x->W.cell? (ad.add j)=some (.int .i64 x)) (h0:J [] W) :
  CallsIn F n prog 346 #[.func (.yield l) #[] #[],.pointer (some a)] W λe W'=>(∃ v,e=.returned v) /\
   ((∃ ys,ys=zs/\J ys W')\/(∃ pre,True/\Jx pre W')):=by
 refine callsIn_of_wp func346 rfl h7 ?_ hro
 simp only [ntmps346,n8,eZ,rS,Nat.reduceAdd,Nat.reduceSub,Bn,Bm,GZ,Cy,dF,dE]
 gi_wp2
 gi_loopw [7] (λi wr=>∃ k:Nat,k<=zs.length/\i=.int .i64 k/\J (zs.take k) wr/\Below n₀ W wr)
  (λi _=>zs.length - (RowKit.intOf i).toNat)
 case atStart=>exact ⟨0,eB _,rfl,h0,Below.refl _ _⟩
 case round =>
  obtain ⟨k,hk,rfl,hJs,hnx⟩:=hrel
  by_cases hlt:k<zs.length
  .have hcx':wr.cell? (ad.add k)=some (.int .i64 zs[k]):=(hnx.cell (p:=ad.add k) (by rw [iL];exact hb (λe=>by rw [e] at hlt;cases hlt))).trans (hc k _ (aA hlt))
   obtain ⟨fn,tmps,assign,body,hy,hR⟩:=hY _ zs[k] wr hJs (by simp;omega)
   gi_wp2
   refine hR.mono ?_
   rintro e W3 (⟨rfl,hJ3,hk3⟩|⟨rfl,hJx3⟩)
   .gi_wp2
    go_roundw
    case rel=>exact ⟨k+1,aD,by simp,by rw [aE hlt];exact hJ3,hnx.trans hk3⟩
    case measure=>simp [RowKit.intOf];omega
   .gi_wp2
    refine bodyPost_ret (results_none rfl _ _ _) rfl ?_
    exact ⟨⟨_,rfl⟩,.inr ⟨_,trivial,hJx3⟩⟩
  .obtain rfl:k=zs.length:=aD
   gi_wp2
   go_end0
   exact ⟨⟨_,rfl⟩,.inl ⟨_,rfl,by rw [KB] at hJs;exact hJs⟩⟩
theorem G4 (F:Fence)(n:Nat)(g:F.fn 346)(b:F.round=none)(l:Nat)(a:Addr)(J:W3->World->Prop)(W:World)(f:W.cell? a=some (.slice none 0 0))(h:J [] W) :
  CallsIn F n prog 346 #[.func (.yield l) #[] #[],.pointer (some a)] W λe W'=>(∃ v,e=.returned v)/\J [] W':=by
 refine callsIn_of_wp func346 rfl g ?_ b;simp only [ntmps346,n8,eZ,rS,Nat.reduceAdd,Nat.reduceSub,Bn,Bm,GZ,Cy,dF,dE];gi_wp2;gi_loopw [7] (λi d=>i=.int .i64 0/\J [] d) (λ_ _=>0);case atStart=>exact ⟨rfl,h⟩
 case round =>
  obtain ⟨rfl,c⟩:=hrel;gi_wp2;go_end0;exact ⟨⟨_,rfl⟩,c⟩
def IntsB (n₀:Nat)(W:World)(sv:Value)(zs:W3):Prop :=
 (sv=.slice none 0 0/\zs=[])\/∃ ad cap,sv=.slice (some ad) zs.length cap/\(zs≠[]->ad.block<n₀)/\∀ j x,zs[j]?=some x->W.cell? (ad.add j)=some (.int .i64 x)
theorem IntsB.below {n₀:Nat}{A B:World}(h:Below n₀ A B){sv:Value}{zs:W3}:IntsB n₀ A sv zs->IntsB n₀ B sv zs
 | .inl e=>.inl e
 | .inr ⟨ad,cap,e,hb,hc⟩=>.inr ⟨ad,cap,e,hb,λj x hj=>(h.cell (p:=ad.add j) (by rw [iL];exact hb (λe=>by rw [e] at hj;cases hj))).trans (hc j x hj)⟩
theorem L7 (F:Fence)(n:Nat)(h7:F.fn 346)(hro:F.round=none)(hn:1<=n)(a:Addr)(n₀:Nat)(sv:Value)(zs:W3)(hreach:zs.length<=1000000)(w:World)(hBs:a.block<w.heap.size)(hn₀:n₀<=w.heap.size)
  (hc:w.cell? a=some sv) (hI:IntsB n₀ w sv zs) :
  SeqStopsK F n prog 346 #[.pointer (some a)] (λx:Int=>#[Value.int .i64 x]) (Below n₀) (λys=>ys=zs) (λ_=>True) zs.length w:=λl J Jx W hW _ _ hY h0=>by
 have hc':=(hW.cell (p:=a) hBs).trans hc;rcases hI.below (hW.mono hn₀) with ⟨rfl,rfl⟩|⟨ad,cap,rfl,hb,hcs⟩
 .exact (G4 F n h7 hro l a J W hc' h0).mono λe W' ⟨he,hj⟩=>⟨he,.inl ⟨_,rfl,hj⟩⟩
 .exact Qv F n h7 hro hn l n₀ a ad cap zs hreach hb J Jx hY W hc' hcs h0
theorem Nu (F:Fence)(n:Nat)(S:F.fn 369)(H:F.fn 346)(g:F.round=none)(Z:3<=n)(a:Addr)(t:Value)(zs:W3)(m:zs.length<=1000000)(w:World)
  (G:a.block<w.heap.size) (E:w.cell? a=some t) (Q:IntsB w.heap.size w t zs) :
  CallsIn F n prog 369 #[.slice none 0 0,.func (.func 346) #[] #[.pointer (some a)]] w λe W'=>∃ v,e=.returned v/\W'.ownsRow w.heap.size 3 1 v zs.length (zs.map (Value.int .i64))/\Below w.heap.size w W':=by
 have T:1<=n:=aD;obtain ⟨J,N,z,y,u⟩:=info_parts Ht;refine callsIn_of_wp_marks func369 rfl S ?_ g;simp only [ntmps369,n8,eZ,rS,Nat.reduceAdd,Nat.reduceSub,Bn,Bm,GZ,Cy,dF,dE];gi_wp2;have U:=Boxed.new w 48 (.slice none 0 0);have j:Below w.heap.size w (w.alloc (.cells #[.slice none 0 0] 48)):=(Below.refl _ w).alloc (aZ _) _;refine wpIn_rangeFunc_ownG g T (gf:=346) (lb:=#[.pointer (some a)]) rfl H (enters_of func346 (by kernel_rfl) rfl)
  (L7 F (n - 1) H g aD a w.heap.size t zs m _ (by simp;omega) dB ((j.cell (p:=a) G).trans E) (Q.below j)) belowK_t (belowK_b dB) (Below.refl _ _) (λ_=>rfl)
  (λb W=>(∃ v,Boxed W w.heap.size 48 v/\W.ownsRow w.heap.size 3 1 v b.length (b.map (Value.int .i64))/\True)/\Below w.heap.size w W)
  (λ_ _ _=>False)
  (OwnFrom.and (Own.from (holdsRow_own w.heap.size w.heap.size 48 3 1 (λb=>b.length) (λb:W3=>b.map (Value.int .i64)) (λ_ _=>True)) _) (ownFrom_below (aZ _) dB))
  (λ_ _ _ _ _ L _ _=>L)
  ⟨⟨_,U,World.ownsRow_nil _ _ _ _,trivial⟩,j⟩
  (λx=>{ tmps:=#[.slice none 0 0,.func (.func 346) #[] #[.pointer (some a)],.pointer (some ⟨w.heap.size,0,none⟩),undef,.slice none 0 0,.int .i64 x,.func (.func 346) #[] #[.pointer (some a)],.int .i64 x,undef,undef,undef,undef,undef],defers:=[] }) ?assign ?body ?done ?stop
 case assign =>
  intro l x W K q;gi_wp2;exact q
 case body =>
  rintro l b x W ⟨⟨v,s,d,_⟩,r⟩ M;have E:=s.cell
  gi_wp2_with (gi_at_builtin;refine wpListIn_append_own _ rfl _ _ 48 rfl w.heap.size 3 J (.int .i64 0) 1 8 underlying48 N z y u rfl (by decide) _ _ _ rfl (d.alloc _) ⟨W.heap.size,0,none⟩ 1 1 [.int .i64 x] rfl rfl (cell_one_new _ _ _) (by simp [Value.oneCell']) (by simp only [maxLen];omega) aD (by have:=r.size;simp;omega) ?_;intro Y X f i _;obtain ⟨g',I,rfl⟩:=ownsRow_succ f;obtain ⟨k,A,B,C,o⟩:=s.appended (by decide) d r.size (aZ _) f i;have P:=k.cell;have O:=k.frozen)
  exact ⟨C.from _,o,⟨_,A,by simpa using B,trivial⟩,r.trans o⟩
 case done =>
  rintro D V W R rfl ⟨⟨v,s,d,_⟩,r⟩ q;have E:=s.cell;gi_wp2;refine ⟨by simp,.inl ⟨_,_,rfl,run_takeDeferred q,?_⟩⟩;exact ⟨_,results_tmp rfl _ _ _,v,rfl,ownsRow_putObj d _ q rfl,r.trans (belowK_b (w:=w) (aZ _) W D _ _ (by simp at R;omega) q rfl rfl)⟩
 case stop =>
  rintro D c b W _ _ h _;exact h.elim
theorem RK (F:Fence)(n:Nat)(m:F.fn 345)(l:F.fn 369)(k:F.fn 346)(c:F.round=none)(p:4<=n)(a:Addr)(f:Value)(zs:W3)(d:zs.length<=1000000)(w:World)
  (g:a.block<w.heap.size) (h:w.cell? a=some f) (j:IntsB w.heap.size w f zs) :
  CallsIn F n prog 345 #[.func (.func 346) #[] #[.pointer (some a)]] w λe W'=>∃ v,e=.returned v/\W'.ownsRow w.heap.size 3 1 v zs.length (zs.map (Value.int .i64))/\Below w.heap.size w W':=by
 refine callsIn_of_wp func345 rfl m ?_ c;simp only [ntmps345,n8,eZ,rS,Nat.reduceAdd,Nat.reduceSub,Bn,Bm,GZ,Cy,dF,dE]
 gi_wp2_with (refine ⟨λ_=>by omega,(Nu F (n - 1) l k c aD a f zs d _ g h j).mono ?_⟩;rintro e o ⟨v,rfl,b,i⟩)
 go_ret;exact ⟨v,rfl,b,i⟩
theorem PV (l:W3)(y:l.length<=1000000):Own prog 345 [.fn 346 [.adr [dLI l]]] 3 1 (l.map cI):=by
 refine ⟨⟨Tryz.f345,func345,rfl,rfl⟩,λM w m V P=>?_⟩;obtain ⟨t,s⟩:=P;match m,t with
 | [v],_ =>
  have R:=s 0 v _ rfl rfl;obtain ⟨p,rfl,J⟩:∃ p,v=.func (.func 346) #[] #[p]/\RepV M iP sO w p (.adr [dLI l]):=by
   cases R with
   | fn _ vs _ y s=>match vs,y with
    | [p],_=>exact ⟨p,rfl,s 0 p _ rfl rfl⟩
  obtain ⟨a,b,rfl,A,o⟩:∃ a b,p=.pointer (some a)/\(¬ M a.block/\w.cell? (a.add 0)=some b)/\RepV M iP sO w b (dLI l):=by
   cases J with
   | adr a i _ y J E s=>match i,y with
    | [b],_=>exact ⟨a,b,rfl,E 0 b rfl,s 0 b _ rfl rfl⟩
  have z:=A.2;have f:w.cell? a=some b:=by rw [show a.add 0=a by unfold Addr.add;simp] at z;exact z
  have F:=World.block_lt_of_cell? w _ f;have Q:IntsB w.heap.size w b l:=by
   unfold dLI at o;rcases t6 o with ⟨rfl,C⟩|⟨K,G,T,i,rfl,d,_,h,_,_,_⟩
   .exact .inl ⟨rfl,by simpa using C⟩
   .have hcl:∀ j x,l[j]?=some x->w.cell? (K.add j)=some (.int .i64 x):=λj x H=>by
     have g:=d.len;rw [A2,aT] at g;have N:j<l.length:=(aP.1 H).1;have n:i[j]?=some i[j]:=aA aD;have I:=d.Z j _ (D.int .i64 x) n (by rw [A2,aM,H];rfl);generalize U:i[j]=q at n I;cases I
     exact (h j _ n).2
    refine .inr ⟨K,G,by simp,λB=>?_,hcl⟩;have L:0<l.length:=gI.2 B;have:=World.block_lt_of_cell? w _ (hcl 0 _ (aA L));rwa [iL] at this
  refine (CallsIn.calls (RK Fence.wide 4 trivial trivial trivial rfl (aZ _) a b l y w F f Q) (λk=>room_wide k)).mono λe S ⟨v,C,r,O⟩=>?_;exact ⟨v,_,C,by simpa using r,λu n=>by obtain ⟨x,_,rfl⟩:=aW.1 n;rfl,AW l,rP l,λc E=>by obtain ⟨x,_,rfl⟩:=aW.1 E;rfl,O⟩
theorem NL (l:W3):Pua 306 [dLI l] (.fn 346 [.adr [dLI l]]):=by
 refine Tz.p0 func306 rfl λQ a Y=>?_;exact wv (h:=a _ _ wy)
theorem QK (l:W3)(a:l.length<=1000000):Own prog 305 [.fn 346 [.adr [dLI l]]] 3 1 ((kB l).map cI):=by
 refine Tz.oK ⟨λt=>t==5||t==3||t==2,λ_=>[]⟩ func305 rfl (λQ b=>?_);have Y:=trivial;refine wv (h:=lG (PV l a) wl ?_);refine wv (h:=?_);unfold fE;refine CH (ty:=3) (xs:=l) (by simp [go_sem]) a ?_;refine wv (h:=?_);exact b _ _ _ (by simp [go_sem,Y,kW]) (by simp [go_sem,Y,kW])
end Go.Abs
end
section
set_option maxRecDepth 100000
set_option maxHeartbeats 4000000
open Go Go.Proofs Tryz
namespace Go.Abs
theorem CK (l:W3)(f:l.length<=1000):Pua 245 [dLI l] (.bool (decide (¬ l.Nodup))):=by
 have a:=kW l;have b:decide (imagesN l<l.length)=decide (¬ l.Nodup):=by
  have c:=Ay l;have g:imagesN l<=l.length:=by unfold imagesN;have:=Co (kB l);omega
  rw [aS];simp only [decide_eq_true_eq];constructor
  .intro h hn;have:=c.2 hn;omega
  .intro hn;have:imagesN l≠l.length:=λd=>hn (c.1 d);omega
 unfold imagesN at b;refine Tz.p0 func245 rfl λQ e Y=>?_;refine wo (h:=aB (NL l) wl ?_);refine wo (h:=lG (QK l aD) wl ?_);refine wo (h:=?_);unfold fE;refine AL (ty:=3) (xs:=kB l) (by simp [go_sem]) aD λk=>?_;exact wo (h:=e _ _ (by simp [go_sem,b]))
theorem Rk (t:Types)(p g:Graph)(m:Part)(a:Bool):matchE t p g m a=if matchE t p g m false≠0 then matchE t p g m false else if a=true/\(¬ m.h.Nodup\/¬ m.i.Nodup) then 5 else 0:=by
 unfold matchE;split
 .simp
 .split
  .simp_all
  .split
   .simp_all
   .simp
theorem yC (t:Types)(k:t.ok)(p g:Graph)(m:Part)(a:Bool):Pua 159 [t.d,p.d,g.d,m.d,.bool a] (dI (checkE t p g m a)):=by
 refine Tz.p0 func159 rfl λQ e Y=>?_;refine wv (h:=aB (yB t k p g) wl ?_);refine dK (λc=>?_) λc=>?_
 .have b:checkE t p g m a=eH t p g:=by unfold checkE;rw [if_pos (eQ c)]
  exact wv (h:=e _ _ (by simp [go_sem,b]))
 .have hG:=oP (eQ c);have l:=EG (eQ c);have n:=bR hG.gp;have b:checkE t p g m a=matchE t p g m a:=by unfold checkE;rw [if_neg (eQ c)]
  rw [Rk] at b;refine wv (h:=aB (CL t k p g hG l m) wl ?_);refine dK (λf=>?_) λf=>?_
  .rw [if_pos (eQ f)] at b;exact wv (h:=e _ _ (by simp [go_sem,b]))
  .rw [if_neg (eQ f)] at b;have o:=(AZ (show matchE t p g m false=0 by simpa using f)).1;refine wo (h:=aK (λi=>CK m.h aD) (λi=>wl) ?_);refine wo (h:=aK (λi=>CK m.i aD) (λi=>wl) ?_);refine d8 (λj=>?_) λj=>?_
   .rw [if_pos (eQ j)] at b;exact wv (h:=e _ _ (by simp [go_sem,b]))
   .rw [if_neg (eQ j)] at b;exact wv (h:=e _ _ (by simp [go_sem,b]))
theorem GA (p:Pattern)(h:Host)(m:Part)(N:SOk p h m):Pua 247 [p.d,h.d,m.d] (.tup [dLI (eP p h m []).1,dI (eP p h m []).2]):=by
 have hv:=N.vars;have h0:=N7 (vs:=[]) hv.1 dB dB;rw [GK] at h0;refine Tz.pK ⟨λt=>t==11||t==15,λr=>match r with|1=>[(2,3),(2,4),(0,5),(1,5),(2,5)]|_=>[]⟩ func247 rfl (λQ P=>?_);have Y:=xa5 @Pattern.d.eq_1 @Pattern.c.eq_1 @Host.d.eq_1 @Host.c.eq_1 @Part.d.eq_1 @Part.c.eq_1 @Term.c.eq_1;refine wv (h:=?_);repeat first|intro _|refine ⟨gX,?_⟩
 refine aY (λi e H=>∃ l:W3 × List Bool,(e 3=.adr p.c/\e 4=.adr h.c/\e 5=.adr m.c/\e 8=.own 2 p.vars.toNat/\e 9=.own 5 p.vars.toNat/\e 23=.list (p.l.map Slot.c)/\e 24=dI p.l.length/\e 25=dI i)/\(H.get 2=some ⟨3,1,l.1.map cI,false⟩)/\(2<H.next)/\(H.get 5=some ⟨4,1,l.2.map cB,false⟩)/\(5<H.next)/\(i<=p.l.length)/\(StOk p.vars.toNat l)/\(slotsV h m (Mg p []) (p.l.take i)=some l)) (λi=>p.l.length - i) 0 ⟨((List.replicate p.vars.toNat 0,List.replicate p.vars.toNat false)),wg,(by simp [go_sem,cI]),wn,(by simp [go_sem,cB]),wn,wi,(by exact h0),(by rw [GK];rfl)⟩ λI0 C i e H a2=>?_;obtain ⟨l,E0,Z,T,W,R,hi,q,I⟩:=a2;have Y:=xa4 Y E0 Z (bL T) W (bL R);refine dK (λE=>?_) λE=>?_
 .obtain ⟨x,U⟩:=fD (p.l[i]);have A:x∈p.l:=U ▸ aC E;have hn:=N.node x A;have s:x.node.toNat<m.h.length:=aD;have hk:=N.bj _ (aC s);have w:(m.h[x.node.toNat]).toNat<h.k.length:=aD;have ha:=N.J x A;rw [aA s,Option.getD_some,aA w,Option.getD_some] at ha;have B:x.J.toNat<(h.k[(m.h[x.node.toNat]).toNat]).length:=aD;have hV:haveV h m x=h.k[(m.h[x.node.toNat]).toNat][x.J.toNat]:=by unfold haveV;rw [aA s,Option.getD_some,aA w,Option.getD_some,aA B];rfl
  have hb:=N.bG A;have L:=N.x x A;have v:=q.l1;have J:=q.l2;have a5:=L.1;have a6:=L.2;have n:=uW E I;rw [<- U] at n;obtain ⟨o,a⟩:∃ y,y=lJ h m l x:=⟨_,rfl⟩;have j:StOk p.vars.toNat o:=a ▸ Ab q hb L;rw [<- a] at n;have f:¬ 0<=x.x.N->o=l:=λhn=>by rw [a];unfold lJ lF;rw [if_neg (by simp [hn])]
  have F:0<=x.x.N->x.x.N.toNat<l.2.length:=λhn=>by omega
  obtain ⟨kb,V⟩:=fD (l.2[x.x.N.toNat]?.getD false);have K:0<=x.x.N\/(¬ 0<=x.x.N/\l.2[x.x.N.toNat]?=none)\/(¬ 0<=x.x.N/\l.2[x.x.N.toNat]?=some kb):=by
   by_cases G:0<=x.x.N
   .exact .inl G
   .right
    cases ho:l.2[x.x.N.toNat]? with
    | none=>exact .inl ⟨G,rfl⟩
    | some b=>rw [ho] at V;exact .inr ⟨G,by rw [V];rfl⟩
  rcases K with hc|hc|hc
  .have Y:=xa3 Y E (aA E) (Eq.symm U) (xb0 (aA s) (aA w) (aA B) (Eq.symm hV) @Slot.c.eq_1 @cL.eq_1 v J @kF @cB.eq_1 hc ((aA (F hc))));refine wv (h:=?_);repeat first|intro _|refine ⟨gX,?_⟩
   refine wq (λh7=>?_) λh7=>?_
   .have hF:lF l x=true:=by simp only [lF,aN,decide_eq_true_eq,cD];exact ⟨hc,by simpa [aA (F hc)] using h7⟩
    unfold lJ at a;rw [if_pos hF] at a;have a0:x.x.N.toNat<l.1.length:=aD;have e1:o.1.map cI=(l.1.map cI).set x.x.N.toNat (cI (haveV h m x - x.x.add)):=by rw [a,b6]
    have e2:o.2.map cB=(l.2.map cB).set x.x.N.toNat (cB true):=by rw [a,b6]
    have a4:D.O ((l.1.map cI).set x.x.N.toNat [D.int .i64 (haveV h m x - x.x.add)])=true:=by have:=rP o.1;rw [e1] at this;exact this
    have Y:=xa5 Y e1 e2 @dLI.eq_1 @cI.eq_1 (aA a0) a4;refine wv (h:=?_);repeat first|intro _|refine ⟨gX,?_⟩
    refine dX (mJ x.x o.1 (by rw [j.l1];exact L) j.aM) wr wl rfl ?_;refine wv (h:=?_);repeat first|intro _|refine ⟨gX,?_⟩
    refine wq (λg=>?_) λg=>?_
    .have hR:=eM (n.2 (by first|simpa using g|simpa [f hc.1] using g|simpa [a] using g));exact wv (h:=P _ _ (by simp [go_sem,hR]))
    .have hstep:=n.1 (by first|simpa using g|simpa [f hc.1] using g|simpa [a] using g);refine wv (h:=?_);repeat first|intro _|refine ⟨gX,?_⟩
     exact wx C (i+1) ⟨o,wg,(by simp [go_sem,Y]),wn,(by simp [go_sem,Y]),wn,wj,(by exact j),(by exact hstep)⟩
   .have hF:¬ lF l x=true:=by simp only [lF,aN,decide_eq_true_eq,cD];rintro ⟨_,hk⟩;simp [aA (F hc)] at hk;simp [hk] at h7
    unfold lJ at a;rw [if_neg hF] at a;have Y:=wa Y a;refine wv (h:=dX (mJ x.x o.1 (by rw [j.l1];exact L) j.aM) wr wl rfl ?_);refine dK (λg=>?_) λg=>?_
    .have hR:=eM (n.2 (by first|simpa using g|simpa [f hc.1] using g|simpa [a] using g));exact wv (h:=P _ _ (by simp [go_sem,hR]))
    .have hstep:=n.1 (by first|simpa using g|simpa [f hc.1] using g|simpa [a] using g);refine wv (h:=?_);repeat first|intro _|refine ⟨gX,?_⟩
     exact wx C (i+1) ⟨o,wg,(by simp [go_sem,Y]),wn,(by simp [go_sem,Y]),wn,wj,(by exact j),(by exact hstep)⟩
  .have Y:=xa4 Y E (aA E) (Eq.symm U) (aA s) (xb0 (aA w) (aA B) (Eq.symm hV) @Slot.c.eq_1 @cL.eq_1 v J @kF @cB.eq_1 hc.1 hc.2 (f hc.1));refine wv (h:=?_);repeat first|intro _|refine ⟨gX,?_⟩
   refine dX (mJ x.x o.1 (by rw [j.l1];exact L) j.aM) wr wl rfl ?_;refine wv (h:=?_);repeat first|intro _|refine ⟨gX,?_⟩
   refine wq (λg=>?_) λg=>?_
   .have hR:=eM (n.2 (by first|simpa using g|simpa [f hc.1] using g|simpa [a] using g));exact wv (h:=P _ _ (by simp [go_sem,hR]))
   .have hstep:=n.1 (by first|simpa using g|simpa [f hc.1] using g|simpa [a] using g);refine wv (h:=?_);repeat first|intro _|refine ⟨gX,?_⟩
    exact wx C (i+1) ⟨o,wg,(by simp [go_sem,Y]),wn,(by simp [go_sem,Y]),wn,wj,(by exact j),(by exact hstep)⟩
  .have Y:=xa4 Y E (aA E) (Eq.symm U) (aA s) (xb0 (aA w) (aA B) (Eq.symm hV) @Slot.c.eq_1 @cL.eq_1 v J @kF @cB.eq_1 hc.1 hc.2 (f hc.1));refine wv (h:=?_);repeat first|intro _|refine ⟨gX,?_⟩
   refine dX (mJ x.x o.1 (by rw [j.l1];exact L) j.aM) wr wl rfl ?_;refine wv (h:=?_);repeat first|intro _|refine ⟨gX,?_⟩
   refine wq (λg=>?_) λg=>?_
   .have hR:=eM (n.2 (by first|simpa using g|simpa [f hc.1] using g|simpa [a] using g));exact wv (h:=P _ _ (by simp [go_sem,hR]))
   .have hstep:=n.1 (by first|simpa using g|simpa [f hc.1] using g|simpa [a] using g);refine wv (h:=?_);repeat first|intro _|refine ⟨gX,?_⟩
    exact wx C (i+1) ⟨o,wg,(by simp [go_sem,Y]),wn,(by simp [go_sem,Y]),wn,wj,(by exact j),(by exact hstep)⟩
 .rw [aG aD] at I;have M:=pL I;have v:=q.l1;have Y:=wa Y v;refine wv (h:=?_);repeat first|intro _|refine ⟨gX,?_⟩
  refine aY (λk e H=>(e 3=.adr p.c/\e 4=.adr h.c/\e 5=.adr m.c/\e 8=.own 2 p.vars.toNat/\e 74=.list (p.G.map Test.c)/\e 75=dI p.G.length/\e 76=dI k)/\(H.get 2=some ⟨3,1,l.1.map cI,false⟩)/\(2<H.next)/\(k<=p.G.length)/\((p.G.take k).all (λx=>Be x l.1)=true)) (λk=>p.G.length - k) 0 ⟨wg,wn,wn,wi,(by rfl)⟩ λI2 a3 k e H a1=>?_;obtain ⟨E2,X,S,hk,z⟩:=a1;have Y:=xa2 Y E2 X (bL S);refine dK (λu=>?_) λu=>?_
  .have Y:=xa2 Y u (aA u) @Test.c.eq_1;refine wv (h:=?_);repeat first|intro _|refine ⟨gX,?_⟩
   refine dX (xP p.G[k] l.1 (by rw [q.l1];exact N.test _ (aC u)) q.aM) wr wl rfl ?_;refine wv (h:=?_);repeat first|intro _|refine ⟨gX,?_⟩
   refine wq (λO=>?_) λO=>?_
   .have hR:eP p h m []=([],16):=by
     rw [M,if_neg];intro ha;rw [c9] at ha;have:=ha _ (aC u);simp [this] at O
    exact wv (h:=P _ _ (by simp [go_sem,hR]))
   .refine wv (h:=?_);repeat first|intro _|refine ⟨gX,?_⟩
    exact wx a3 (k+1) ⟨wg,wn,wn,wj,(by rw [aE u,Cz,z];simp;simpa using O)⟩
  .rw [aG aD] at z;rw [if_pos z] at M;exact wv (h:=P _ _ (by simp [go_sem,Y,M,dLI]))
theorem GC (t:Types)(b:t.ok)(p:Pattern)(h:Host):Pua 246 [t.d,p.d,h.d] (dI (wF t p h)):=by
 refine Tz.p0 func246 rfl λQ e _=>?_;have Y:=wa @Host.d.eq_1 @Host.c.eq_1;refine wv (h:=aB (oI t b p) wl ?_);refine dK (λa=>?_) λa=>?_
 .exact wv (h:=e _ _ (by simp [go_sem,wF,a]))
 .refine wv (h:=aB (Cd t b h) wl ?_);exact wv (h:=e _ _ (by simp [go_sem,wF,a,fX]))
theorem zJ (t:Types)(i:t.ok)(p:Pattern)(h:Host)(m:Part):Pua 160 [t.d,p.d,h.d,m.d] (.tup [dLI (dV t p h m).1,dI (dV t p h m).2]):=by
 refine Tz.p0 func160 rfl λQ g _=>?_;have Y:=xa2 @Pattern.d.eq_1 @Pattern.c.eq_1 @Host.d.eq_1 @Host.c.eq_1;refine wv (h:=aB (GC t i p h) wl ?_);refine dK (λa=>?_) λa=>?_
 .have e:dV t p h m=([],wF t p h):=by
   unfold dV wF;unfold wF at a;by_cases b:cX t p=0
   .rw [if_neg aD] at a ⊢;rw [if_pos a,if_neg aD]
   .rw [if_pos b,if_pos b]
  exact wv (h:=g _ _ (by simp [go_sem,e]))
 .have hp0:cX t p=0:=by
   unfold wF at a;refine bB λb=>?_;rw [if_pos b] at a;exact b a
  have f:fX t h=0:=by unfold wF at a;rw [if_neg aD] at a;exact a
  refine wv (h:=aB (yC t i p.j h.j m false) wl ?_);refine dK (λj=>?_) λj=>?_
  .have e:dV t p h m=([],checkE t p.j h.j m false):=by unfold dV;rw [if_neg aD,if_neg aD,if_pos j]
   exact wv (h:=g _ _ (by simp [go_sem,e]))
  .have h5':checkE t p.j h.j m false=0:=aD;have e:dV t p h m=eP p h m []:=by unfold dV;rw [if_neg aD,if_neg aD,if_neg aD]
   refine wv (h:=aB (GA p h m (XL (Lf (.inr hp0)) (lE f) (qY (rD h5').2))) wl ?_);exact wv (h:=g _ _ (by simp [go_sem,e]))
end Go.Abs
end
section
set_option maxRecDepth 100000
set_option maxHeartbeats 4000000
open Go Go.Proofs Go.RowKit Go.Shelf Go.Lib Tryz
namespace Go.Abs
theorem TE (x y:Nat)(j:x<18446744073709551616)(i:y<18446744073709551616)(w:World) :
  Calls prog 315 #[.int .u64 x,.int .u64 y] w λe w'=>e=.returned (.tuple #[.int .u64 ((x * y / 18446744073709551616:Nat):Int),.int .u64 ((x * y % 18446744073709551616:Nat):Int)])/\w'=w:=by
 obtain ⟨n,k,l,c⟩:=Lib.mul64_hi x y j i;have q:=Lib.half_mul_le (a:=x / 4294967296) (b:=y / 4294967296) aD aD;have p:=Lib.half_mul_le (a:=x / 4294967296) (b:=y % 4294967296) aD aD;have o:=Lib.half_mul_le (a:=x % 4294967296) (b:=y / 4294967296) aD aD;have h:x / 4294967296 * (y / 4294967296)<18446744073709551616:=aD;have g:x / 4294967296 * (y % 4294967296)<18446744073709551616:=aD;have f:x % 4294967296 * (y / 4294967296)<18446744073709551616:=aD;have d:x / 4294967296 * (y / 4294967296)+(x / 4294967296 * (y % 4294967296)+x % 4294967296 * (y % 4294967296) / 4294967296) / 4294967296<18446744073709551616:=aD;have m:x / 4294967296 * (y / 4294967296)+(x / 4294967296 * (y % 4294967296)+x % 4294967296 * (y % 4294967296) / 4294967296) / 4294967296+((x / 4294967296 * (y % 4294967296)+x % 4294967296 * (y % 4294967296) / 4294967296) % 4294967296+x % 4294967296 * (y / 4294967296)) / 4294967296<18446744073709551616:=aD
 go_enter func315,ntmps315
 go_wp2
 simp only [Mul64.maskN x j,Mul64.maskN y i,Mul64.divN,Mul64.mulN,Mul64.addN,Mul64.wrapN _ n,Mul64.wrapN _ g,Mul64.wrapN _ k,Mul64.maskN _ k,Mul64.wrapN _ f,Mul64.wrapN _ l,Mul64.wrapN _ h,Mul64.wrapN _ d,Mul64.wrapN _ m,Mul64.wrapM (x * y)];rw [c]
 go_ret2
 exact ⟨rfl,rfl⟩
theorem WX (x y:Nat)(d:x<18446744073709551616)(c:y<18446744073709551616)(w:World) :
  Calls prog 256 #[.int .u64 x,.int .u64 y] w λe w'=>e=.returned (.tuple #[.int .u64 ((x * y / 18446744073709551616:Nat):Int),.int .u64 ((x * y % 18446744073709551616:Nat):Int)])/\w'=w:=by
 have a:=TE x y d c w;have b:∀ args w,(callFunc 315 args).run prog w=.ok (.enter 315 args) w:=enters_of func315 (by kernel_rfl) rfl
 go_enter func256,ntmps256
 go_wp2_with (go_at_fn 315;refine a.mono ?_;rintro e w' ⟨rfl,f⟩;rw [f])
 go_ret2
 exact ⟨rfl,rfl⟩
def oM (v:Int)(n k:Nat):List Value:=List.replicate k (.int .i64 v)++List.replicate (n - k) (.int .i64 0)
theorem Om {v:Int}{n k m:Nat}(h:k+m<=n):(oM v n k).take k++List.replicate m (.int .i64 v)++(oM v n k).drop (k+m)=oM v n (k+m):=by
 unfold oM;rw [List.take_left' dB,List.drop_append,eL,jO dB,dF,List.drop_replicate,<- List.replicate_append_replicate];congr 2;omega
theorem Mx (v:Int)(n:Nat)(hn:n<=1000)(ad:Addr)(cap:Nat)(w:World)(hc:w.cell? ad=some (.int .i64 v)) :
  Calls prog 169 #[.slice (some ad) 1 cap,.int .i64 n] w λe w'=>∃ v',e=.returned v'/\w'.ownsRow w.heap.size 3 1 v' n (List.replicate n (.int .i64 v))/\Below w.heap.size w w':=by
 have hsz:(prog.info? 3).map (·.size)=some 1:=by kernel_rfl
 have cM:=λw=>WX 1 n aD aD w
 have e1:∀ args w,(callFunc 256 args).run prog w=.ok (.enter 256 args) w:=enters_of func256 (by kernel_rfl) rfl
 have hmk:=λw=>run_make_row' (P:=prog) 48 3 (.int .i64 0) 8 underlying48 Ht rfl .i64 .i64 n aD aD w
 have hq1:(1 * n) / 18446744073709551616=0:=aD
 have hq2:(1 * n) % 18446744073709551616=n:=aD
 have hn0:¬ ((n:Int)<0):=aD
 have hn1:¬ ((9223372036854775807:Int)<n):=aD
 have cpy:∀ (k m:Nat) (W:World) (ty dl dc:Nat) (a:Addr) (sl sc:Nat),k+m<=n->m=Nat.min sl dl->W.heap[w.heap.size]?=some (.cells (oM v n k).toArray 3 (0,0))->(∀ (j:Nat) (u:Value),(List.replicate m (Value.int .i64 v))[j]?=some u->W.cell? (a.add j)=some u) ->
   (Builtin.copy_ #[48,48] ty #[.slice (some ⟨w.heap.size,k,none⟩) dl dc,.slice (some a) sl sc]).run prog W=.ok (goInt m) (W.setRow w.heap.size (oM v n (k+m)).toArray):=λk m W ty dl dc a sl sc hkm hm hb hs=>by
  rw [<- Om hkm]
  have:=JW (P:=prog) W 48 48 ty 3 1 w.heap.size k dl dc a sl sc m (oM v n k).toArray 3 (List.replicate m (.int .i64 v)) underlying48 hsz hb hm dB hs (by simp [oM];omega) (by simp [Value.oneCell'])
  simpa using this
 have h0:(w.alloc (.cells (madeCells #[.int .i64 0] n) 3)).heap[w.heap.size]?=some (.cells (oM v n 0).toArray 3 (0,0)):=by
  rw [(MapKept.heap_alloc w _).1]
  congr 2
  apply Array.toList_inj.1
  rw [toList_madeCells_one];simp [oM]
 obtain ⟨m0,hm0⟩:∃ m,m=Nat.min 1 n:=⟨_,rfl⟩
 have hm1:m0<=1/\m0<=n/\(m0=1\/n=0):=by rw [hm0];simp only [Nat.min_def];split<;>omega
 have hbad:ad.block<w.heap.size:=World.block_lt_of_cell? w _ hc
 have hcp0:=λty=>cpy 0 m0 (w.alloc (.cells (madeCells #[.int .i64 0] n) 3)) ty n n ad 1 cap aD hm0 h0 (λj u hj=>by
  have hj0:j=0:=by have:=(aP.1 hj).1;simp at this;omega
  subst hj0
  rw [pB] at hj
  split at hj
  .cases hj
   rw [show ad.add 0=ad by unfold Addr.add;simp]
   exact ((Below.refl _ w).alloc (aZ _) _).cell (p:=ad) hbad |>.trans hc
  .cases hj)
 simp only [eR] at hcp0
 clear hm0
 have mixed:=Tz.mixed
 go_enter func169,ntmps169
 go_wp2_with (first|(go_at_fn 256;refine (cM _).mono ?_;rintro e w' ⟨rfl,hw⟩;rw [hw,hq1,hq2])|(at_builtin;refine wpList_copy_runI _ rfl _ _ 48 48 rfl _ _ rfl rfl (hcp0 _) ?_))
 go_loopw [8] (λi wr=>∃ k:Nat,k<=n/\(0<k\/n=0)/\i=.int .i64 k/\wr.heap[w.heap.size]?=some (.cells (oM v n k).toArray 3 (0,0))/\Below w.heap.size w wr)
  (λi _=>n - (RowKit.intOf i).toNat)
 case atStart =>
  refine ⟨m0,hm1.2.1,aD,by simp [goInt],setRow_heap _ _ _ _ _ _ h0,?_⟩
  exact below_setRow ((Below.refl _ w).alloc (aZ _) _) (aZ _) _
 case round =>
  obtain ⟨k,hk,hk0,rfl,hb,hbl⟩:=hrel
  by_cases hlt:k<n
  .have hkn:¬ (n=k):=aD
   have hcp1:=λty dc sc=>cpy k (Nat.min k (n - k)) wr.drew ty (n - k) dc ⟨w.heap.size,0,none⟩ k sc (by simp only [Nat.min_def];split<;>omega) rfl hb (λj u hj=>by
    have hjk:=(aP.1 hj).1
    rw [eL] at hjk
    rw [pB,if_pos hjk] at hj
    cases hj
    have hjk2:j<k:=by simp only [Nat.min_def] at hjk;split at hjk<;>omega
    rw [jI]
    show wr.cell? _=_
    simp [World.cell?,hb,oM,aR,hjk2])
   go_wp2
   go_region_law_o (refine step_copy_runI rfl _ _ 48 48 rfl _ _ (by simp [Act.eval,Act.put]) (by simp [Act.eval,Act.put]) (hcp1 _ _ _) ?_)
   have hmn:k+Nat.min k (n - k)<=n/\0<Nat.min k (n - k):=by simp only [Nat.min_def];split<;>omega
   simp only [Act.put,List.getElem_toArray,List.getElem_cons_succ,List.getElem_cons_zero,List.setIfInBounds_toArray,Fc,wP]
   go_roundw
   case rel =>
    refine ⟨_,_,_,_,_,_,_,_,_,_,_,_,_,_,⟨k+Nat.min k (n - k),hmn.1,aD,?_,setRow_heap wr.drew _ _ _ _ _ hb,below_setRow (w:=wr.drew) ⟨hbl.os,hbl.tape,hbl.output,hbl.size,hbl.block⟩ (aZ _) _⟩,rfl⟩
    congr 1
    rw [IntKind.wrap_i64];omega
   case measure=>simp [RowKit.intOf,goInt,IntKind.wrap_i64];omega
  .obtain rfl:k=n:=aD
   go_wp2
   go_ret
   refine ⟨_,rfl,⟨by simp,.inr ⟨w.heap.size,k,(oM v k k).toArray,rfl,aZ _,hb,aZ _,by simp only [maxLen];omega,by simp [oM],?_⟩⟩,hbl⟩
   simp [oM]
theorem HJ (v:Int)(n:Nat)(z:n<=1000):Own prog 169 [.list [[dI v]],dI n] 3 1 ((List.replicate n v).map cI):=by
 refine ⟨⟨Tryz.f169,func169,rfl,rfl⟩,λM w f J F=>?_⟩;obtain ⟨h,r⟩:=F;match f,h with
 | [s,y],_ =>
  have H:=r 0 s _ rfl rfl;have G:=r 1 y _ rfl rfl;cases G
  rcases t6 H with ⟨rfl,l⟩|⟨o,m,I,p,rfl,a,_,d,_,_,_⟩
  .cases l
  .have hx:∃ u,p[0]?=some u:=by
    have A:=a.len;simp at A;exact ⟨p[0]' aD,aA aD⟩
   obtain ⟨u,j⟩:=hx;have B:=a.Z 0 u (D.int .i64 v) j rfl;cases B
   have i:=(d 0 _ j).2;rw [show o.add 0=o by unfold Addr.add;simp] at i;refine (Mx v n z o m w i).mono λe t ⟨q,l,g,E⟩=>?_;have k:((List.replicate n v).map cI).length=n:=dB;exact ⟨q,_,l,by rw [k];exact g,λu j=>by rw [lI j];rfl,by
    have:=AW (M:=λb=>M b\/q.ownBlock=some b) (σ:=iP) (N:=sO) (w:=t) (List.replicate n v);simpa using this,rP _,λc C=>by obtain ⟨x,_,rfl⟩:=aW.1 C;rfl,E⟩
end Go.Abs
end
