/- The search of the reference: fits, edges. · The search of th -/
import Derived.Test.YtpdanmkcpjdmjaaGreatZkAF
import Derived.Test.YtpdanmkcpjdmjaaGreatZkAA
import Derived.Test.YtpdanmkcpjdmjaaGreatZkAN
import Derived.Test.YtpdanmkcpjdmjaaGreatZkAM
set_option linter.unusedVariables false
set_option linter.unusedSimpArgs false
section
set_option maxRecDepth 100000
set_option maxHeartbeats 4000000
open Go Go.Proofs Tryz
namespace Go.Abs
theorem Dr (a b:Int):(a==b)=decide (a=b):=by rw [aS];simp
theorem AP (f:Nat->Bool)(k:Nat):(List.range (k+1)).any f=((List.range k).any f||f k):=by rw [bS,wQ];simp
theorem Q5 (S:Srch)(L:graphF S.p=0)(P:graphF S.g=0)(d:Int)(y:D)(R:y.P=true)(l:W3):Pua 359 [.adr (S.cells d y),dLI l] (.bool (wE S l)):=by
 have A:=(dP L).2;have O:=bR L;have N:=bR P;refine Tz.pK ⟨λt=>t==6||t==9,λ_=>[]⟩ func359 rfl (λQ M=>?_);have Y:=@Srch.cells.eq_1;refine wv (h:=aY (λi e H=>(e 0=.adr (S.cells d y)/\e 1=dLI l/\e 5=dI i)/\(i<=S.p.i.length)/\(∀ j,j<i->B9 S l j=true)) (λi=>S.p.i.length - i) 0 ⟨wg,wi,(by intro j C;omega)⟩ λZ s i e H F=>?_);obtain ⟨V,W,I⟩:=F;have Y:=wa Y V;refine d8 (λm=>?_) λm=>?_
 .obtain ⟨x,v⟩:=fD (S.p.i[i]);have z:=(A _ (aC m)).2;rw [<- v] at z;have f:B9 S l i=(decide ((l.length:Int)<=x.w)||decide ((l.length:Int)<=x.M)||(List.range S.g.i.length).any (Az S l i)):=by unfold B9;rw [aA m,Option.getD_some,<- v]
  have Y:=xa3 Y m (aA m) (Eq.symm v) @Edge.c.eq_1;refine d8 (λK=>?_) λK=>?_
  .have hKi:B9 S l i=true:=by rw [f];rcases K with h|h<;>simp<;>omega
   exact wo (h:=wx s (i+1) ⟨wg,wj,(by intro j C;rcases cH j i with hji|hji;exact I j hji;(obtain rfl:j=i:=aD;exact hKi))⟩)
  .have hf:x.w.toNat<l.length:=aD;have r:x.M.toNat<l.length:=aD;have T:∀ k (B:k<S.g.i.length),Az S l i k=(decide (x.type=S.g.i[k].type)&&(decide (S.g.i[k].w=l[x.w.toNat])&&decide (S.g.i[k].M=l[x.M.toNat]))):=λk B=>by
    simp only [Az,Y6,V6,aA B,aA m,Option.getD_some,<- v,aA hf,aA r];simp [eq_comm (a:=x.type)]
   have Y:=xa2 Y K (aA hf) (aA r);refine wv (h:=aY (λk e H=>∃ q:Nat,∃ b:Bool,(e 0=.adr (S.cells d y)/\e 1=dLI l/\e 5=dI i/\e 6=.ptr q 1 0 0/\e 7=.bool b/\e 8=dI k)/\(H.get q=some ⟨134,3,[[dI x.type,dI x.w,dI x.M]],false⟩)/\(q<H.next)/\(k<=S.g.i.length)/\(b=(List.range k).any (Az S l i))) (λk=>S.g.i.length - k) 0 ⟨H.next,false,wg,wn,wn,wi,(by rfl)⟩ λX J k e H E=>?_);obtain ⟨q,b,U,u,o,B,G⟩:=E;have Y:=xa2 Y U u (bL o);refine d8 (λw=>?_) λw=>?_
   .have hHk:=T k w;have Y:=xa4 Y w (aA w) hHk @Dr @qI;exact wo (h:=wx J (k+1) ⟨q,((b||Az S l i k)),wg,wn,wn,wj,(by rw [AP,<- G])⟩)
   .refine d8 (λn=>?_) λn=>?_
    .have hR:wE S l=false:=by
      simp only [wE,G1,bA];refine ⟨i,m,?_⟩;rw [f,<- show k=S.g.i.length by omega,<- G];simp [n];omega
     exact wv (h:=M _ _ (by simp [go_sem,hR]))
    .have hKi:B9 S l i=true:=by rw [f,<- show k=S.g.i.length by omega,<- G];simp [n]
     exact wo (h:=wx s (i+1) ⟨wg,wj,(by intro j C;rcases cH j i with hji|hji;exact I j hji;(obtain rfl:j=i:=aD;exact hKi))⟩)
 .have hR:wE S l=true:=by
   simp only [wE,c9,bA];exact λj C=>I j aD
  exact wv (h:=M _ _ (by simp [go_sem,hR]))
structure SrS (f o:Nat) (S:Srch) (most:Nat) (out:List Part) (H:AHeap):Prop where
 bf:H.get f=some ⟨365,11,[S.cells most (.own o out.length)],false⟩
 bo:H.get o=some ⟨58,2,out.map Part.c,false⟩
 le:out.length<=most+1
@[go_sem] theorem w6 (l:List Part):D.O (l.map Part.c)=true:=dN _ (λp=>by simp [Part.c,D.L,qA]) l
theorem OL (S:Srch)(hp:graphF S.p=0)(hg:graphF S.g=0)(b4:S.pe.length=S.p.i.length)(i:Nat)(b7:i<=5000)(ns:W3)(b6:ns.length=S.p.h.length)(f o:Nat)(hd:f≠o) :
  ∀ (d:Nat) (es:W3) (m:List Part) (G:AHeap) (Q:D->AHeap->Prop),es.length+d=S.p.i.length->f<G.next->o<G.next->SrS f o S i m G ->
  (∀ H',SrS f o S i (JQ S (i+1) ns d es m) H'->(∀ j,j≠f->j≠o->j<G.next->H'.get j=G.get j)->G.next<=H'.next->Q (.tup []) H')->ACalls prog 360 [.ptr f 1 0 0,dLI ns,dLI es] G Q:=by
 have b9:=bR hp;have b8:=bR hg;have a4:∀ x∈S.p.i,(0<=x.w/\x.w<S.p.h.length)/\(0<=x.M/\x.M<S.p.h.length):=λx hx=>((dP hp).2 x hx).2;intro d;induction d using Nat.strongRecOn with
 | _ d ih =>
 intro es m G Q hk a6 a2 hF hQ;obtain ⟨gf,go,P⟩:=hF;have a7:=hd.symm;have ff:=bL a6;have fo:=bL a2;refine (Tz.cK ⟨λt=>t==7||t==9||t==35||t==38||t==128,λr=>match r with|3=>[(2,5),(3,5),(4,5),(2,7),(3,7),(4,7),(2,8),(3,8),(4,8),(5,8),(7,8),(2,10),(3,10),(4,10),(2,12),(3,12),(4,12)]|_=>[]⟩ func360 rfl ?_);have Y:=xa6 gf go hd a7 ff fo @Part.c.eq_1 @Srch.cells.eq_1;refine i7 (λh0=>?_) λh0=>?_
 .have hfull:i+1<=m.length:=aD;refine wv (h:=?_);exact hQ _ (by rw [Ho _ _ _ hfull];exact ⟨gf,go,P⟩) (by intro j _ _ _;rfl) (by first|exact aZ _|exact Nat.le_add_right _ _)
 .have hnf:¬ i+1<=m.length:=aD;refine i7 (λs=>?_) λs=>?_
  .have hk0:d=0:=aD;subst hk0;refine wp (h:=?_);exact hQ _ (by simp only [JQ];rw [if_neg hnf];exact ⟨by simp [go_sem,Y],by simp [go_sem,Y],by simp;omega⟩) (by intro j v s z;simp [go_sem,v,s,bL z]) (by first|exact aZ _|(simp [go_sem]<;>omega)|(simp only [go_sem];split<;>omega))
  .obtain ⟨J,rfl⟩:∃ J,d=J+1:=⟨d - 1,aD⟩;have F:es.length<S.p.i.length:=aD;have N:es.length<S.pe.length:=aD;have V:=a4 _ (aC F);have U:S.p.i[es.length].w.toNat<ns.length:=aD;have R:S.p.i[es.length].M.toNat<ns.length:=aD;have O:∀ j (hj:j<S.g.i.length),Sw S ns es j=((decide (S.pe[es.length]<0)||decide (S.pe[es.length]=(j:Int)))&&(!(S.inj&&mem es j)&&(decide (S.p.i[es.length].type=S.g.i[j].type)&&(decide (S.g.i[j].w=ns[S.p.i[es.length].w.toNat])&&decide (S.g.i[j].M=ns[S.p.i[es.length].M.toNat]))))):=λj hj=>by
    simp only [Sw,AE,Az,Y6,V6,aA hj,aA F,aA N,Option.getD_some,aA U,aA R];simp [eq_comm (a:=S.p.i[es.length].type)]
   have Y:=xa3 Y (aA F) (aA N) (aA U) (aA R);refine wp (h:=aY (λj e H=>∃ w:Nat,∃ u:List Part,(e 0=.ptr f 1 0 0/\e 1=dLI ns/\e 2=dLI es/\e 6=dI es.length/\e 7=.ptr w 1 0 0/\e 8=dI j)/\(H.get f=some ⟨365,11,[S.cells i (.own o u.length)],false⟩)/\(f<H.next)/\(H.get o=some ⟨58,2,u.map Part.c,false⟩)/\(o<H.next)/\(H.get w=some ⟨134,3,[S.p.i[es.length].c],false⟩)/\(w<H.next)/\(w=G.next+10)/\(j<=S.g.i.length)/\(u.length<=i+1)/\(u=(List.range j).foldl (λu k=>if Sw S ns es k=true then JQ S (i+1) ns J (es++[(k:Int)]) u else u) m)/\(∀ q,q≠f->q≠o->q<G.next->H.get q=G.get q)/\(G.next+1<=H.next)) (λj=>S.g.i.length - j) 0 ⟨(G.next+10),m,wg,wn,wn,wn,wn,wn,wn,(by rfl),wi,(by exact P),(by rfl),(by intro q v s z;simp [go_sem,v,s,bL z]),(by simp [go_sem])⟩ λI0 W j e H a5=>?_);obtain ⟨w,u,E0,a1,L,a0,K,I,C,M,hj,n,E,y,b5⟩:=a5;have b2:=xa1 (cY (aD:w≠o)) (cY (aD:w≠f)) (cY (aD:o≠f));have Y:=xa8 Y E0 a1 (bL L) a0 (bL K) I (bL C) @Edge.c.eq_1 b2;refine i7 (λh6=>?_) λh6=>?_
   .have hEj:=O j h6;have c1:=V.1;have c0:=V.2;have o1:(0<=S.pe[es.length]->S.pe[es.length]=(j:Int))->(S.inj=true->mem es (j:Int)=false)->(S.pe[es.length]<0\/S.pe[es.length]=(j:Int))/\(S.inj=false\/mem es (j:Int)=false):=λa b=>⟨aD,by cases hI:S.inj;exact .inl rfl;exact .inr (b hI)⟩;have o2:(S.pe[es.length]<0\/S.pe[es.length]=(j:Int))->(S.inj=false\/mem es (j:Int)=false)->S.p.i[es.length].type=S.g.i[j].type->0<=S.p.i[es.length].w/\S.p.i[es.length].w<(ns.length:Int):=λ_ _ _=>by omega
    have o3:(0<=S.pe[es.length]->S.pe[es.length]=(j:Int))->(S.inj=true->mem es (j:Int)=false)->S.p.i[es.length].type=S.g.i[j].type->((S.pe[es.length]<0\/S.pe[es.length]=(j:Int))/\(S.inj=false\/mem es (j:Int)=false))/\S.p.i[es.length].type=S.g.i[j].type:=λa b c=>⟨o1 a b,c⟩;have o4:(S.pe[es.length]<0\/S.pe[es.length]=(j:Int))->(S.inj=false\/mem es (j:Int)=false)->S.p.i[es.length].type=S.g.i[j].type->S.g.i[j].w=ns[S.p.i[es.length].w.toNat]->0<=S.p.i[es.length].M/\S.p.i[es.length].M<(ns.length:Int):=λ_ _ _ _=>by omega
    have o5:(0<=S.pe[es.length]->S.pe[es.length]=(j:Int))->(S.inj=true->mem es (j:Int)=false)->S.p.i[es.length].type=S.g.i[j].type->S.g.i[j].w=ns[S.p.i[es.length].w.toNat]->(((S.pe[es.length]<0\/S.pe[es.length]=(j:Int))/\(S.inj=false\/mem es (j:Int)=false))/\S.p.i[es.length].type=S.g.i[j].type)/\S.g.i[j].w=ns[S.p.i[es.length].w.toNat]:=λa b c d=>⟨⟨o1 a b,c⟩,d⟩;have Y:=xa1 Y h6 (aA h6);refine wp (h:=wG (λhg=>HR S i (.list (u.map Part.c)) (by simp [D.P,w6]) es j) wrq (λhg=>wl) (λhg=> rfl) rfl wdq ?_);refine i7 (λh9=>?_) λh9=>?_
    .have hE:Sw S ns es j=false:=by
      rw [hEj,bQ];intro hT;simp at hT;obtain ⟨a,b,c,d,e⟩:=hT;rcases h9 with (((h|h)|h)|h)|h
      .omega
      .rcases b with b|b
       .rw [b] at h;cases h.1
       .rw [b] at h;cases h.2
      .exact h c
      .exact h d
      .exact h e
     obtain ⟨B,l⟩:∃ x,x=u:=⟨_,rfl⟩;have Y:=xa2 Y @Part.c.eq_1 @Edge.c.eq_1 l;exact wp (h:=wx W (j+1) ⟨w,B,wg,wn,wn,wn,wn,wn,wn,(by exact M),wj,(by rw [l];first|exact n|exact Eg _ _ _ _ _ n|exact Eg _ _ _ _ n),(by rw [eK,<- E];first|exact l|(rw [l];first|rw [if_pos hE]|rw [if_neg (by rw [hE];simp)])),(by first|exact A|(intro q v s z;simp [go_sem,v,s,bL (aD:q<H.next)];exact y q v s z)),(by first|omega|(simp [go_sem];omega))⟩)
    .have hE:Sw S ns es j=true:=by
      obtain ⟨⟨⟨⟨a,b⟩,c⟩,d⟩,e⟩:=h9;rw [hEj];simp [c,d,e];exact ⟨aD,by cases hI:S.inj;exact .inl rfl;exact .inr (b hI)⟩
     obtain ⟨B,l⟩:∃ x,x=JQ S (i+1) ns J (es++[(j:Int)]) u:=⟨_,rfl⟩;have Y:=xa2 Y @Part.c.eq_1 @Edge.c.eq_1 h9;refine wp (h:=?_);refine LS (args':=[.ptr f 1 0 0,dLI ns,dLI (es++[(j:Int)])]) (by simp [go_sem,Y,dLI]) rfl ?_;unfold fE;refine ih J aD (es++[(j:Int)]) u _ _ (by simp;omega) (by simp [go_sem];omega) (by simp [go_sem];omega) ⟨by simp [go_sem,Y],by simp [go_sem,Y],n⟩ (λH3 X T a3=>?_);rw [<- l] at X;obtain ⟨b0,a9,b3⟩:=X;have Z:=T w aD aD (by simp [go_sem];omega);simp [go_sem,Y] at Z;simp [go_sem] at a3;have A:∀ j,j≠f->j≠o->j<G.next->H3.get j=G.get j:=λj v s z=>by
      have e1:=bL (aD:j<H.next);rw [T j v s (by simp [go_sem];omega)];simp [go_sem,v,s,e1];exact y j v s z
     have b1:=xa1 (bL (aD:f<H3.next)) (bL (aD:o<H3.next)) (bL (aD:w<H3.next));have Y:=xa3 Y b0 a9 Z b1;exact wp (h:=wx W (j+1) ⟨w,B,wg,wn,wn,wn,wn,wn,wn,(by exact M),wj,(by rw [l];first|exact n|exact Eg _ _ _ _ _ n|exact Eg _ _ _ _ n),(by rw [eK,<- E];first|exact l|(rw [l];first|rw [if_pos hE]|rw [if_neg (by rw [hE];simp)])),(by first|exact A|(intro q v s z;simp [go_sem,v,s,bL (aD:q<H.next)];exact y q v s z)),(by first|omega|(simp [go_sem];omega))⟩)
   .have hJ:j=S.g.i.length:=aD;have a8:JQ S (i+1) ns (J+1) es m=u:=by simp only [JQ];rw [if_neg hnf,E,hJ]
    refine wv (h:=?_);exact hQ _ (by rw [a8];exact ⟨by assumption,by assumption,n⟩) y aD
theorem OJ (S:Srch)(y:G17 S.t S.p S.g)(b3:S.pn.length=S.p.h.length)(a1:S.pe.length=S.p.i.length)(i:Nat)(a3:i<=5000)(f o:Nat)(hd:f≠o) :
  ∀ (d:Nat) (ns:W3) (l:List Part) (G:AHeap) (Q:D->AHeap->Prop),ns.length+d=S.p.h.length->f<G.next->o<G.next->SrS f o S i l G ->
  (∀ H',SrS f o S i (QJ S (i+1) d ns l) H'->(∀ j,j≠f->j≠o->j<G.next->H'.get j=G.get j)->G.next<=H'.next->Q (.tup []) H')->ACalls prog 323 [.ptr f 1 0 0,dLI ns] G Q:=by
 have b5:=bR y.gp;have b4:=bR y.gg;intro d;induction d using Nat.strongRecOn with
 | _ d ih =>
 intro ns l G Q hk L I hF hQ;obtain ⟨gf,go,J⟩:=hF;have a5:=hd.symm;have ff:=bL L;have fo:=bL I;refine (Tz.cK ⟨λt=>t==97,λ_=>[]⟩ func323 rfl ?_);have Y:=xa6 gf go hd a5 ff fo @Part.c.eq_1 @Srch.cells.eq_1;refine wp (h:=wG (λK=>Q5 S y.gp y.gg i (.list (l.map Part.c)) (by simp [D.P,w6]) ns) wrq (λK=>wl) (λK=> rfl) rfl wdq ?_);refine i7 (λh0=>?_) λh0=>?_
 .have hX:QJ S (i+1) d ns l=l:=by
   cases d<;>(simp only [QJ];rw [if_pos];rcases h0 with h|h;exact .inl aD;exact .inr (eQ h))
  refine wv (h:=?_);exact hQ _ (by rw [hX];exact ⟨gf,go,J⟩) (by intro j _ _ _;rfl) (by first|exact aZ _|exact Nat.le_add_right _ _)
 .have hnf:¬ (i+1<=l.length\/wE S ns=false):=by rintro (h|h);(omega);(simp [h] at h0)
  refine i7 (λn=>?_) λn=>?_
  .have hk0:d=0:=aD;subst hk0;refine wv (h:=?_);refine P5 (args':=[.ptr f 1 0 0,dLI ns,dLI []]) (by simp [go_sem,Y,dLI,T1]) ?_;unfold fE;refine OL S y.gp y.gg a1 i a3 ns aD f o hd S.p.i.length [] l _ _ dB (by first|exact L|exact Nat.lt_add_right _ L) (by first|exact I|exact Nat.lt_add_right _ I) ⟨gf,go,J⟩ (λH3 A M z=>?_);refine wv (h:=?_);exact hQ _ (by simp only [QJ];rw [if_neg hnf];exact A) (λj w n B=>M j w n (by first|exact B|exact Nat.lt_add_right _ B)) (by first|exact z|exact dH (Nat.le_add_right _ _) z)
  .obtain ⟨O,rfl⟩:∃ O,d=O+1:=⟨d - 1,aD⟩;have N:ns.length<S.p.h.length:=aD;have T:ns.length<S.pn.length:=aD;have a6:=y.tp _ (aC N);have U:∀ j (hj:j<S.g.h.length),Li S ns j=((decide (S.pn[ns.length]<0)||decide (S.pn[ns.length]=(j:Int)))&&(!(S.inj&&mem ns j)&&wJ S.t S.p.h[ns.length] S.g.h[j])):=λj hj=>by
    simp only [Li,AE,aA hj,aA N,aA T,Option.getD_some]
   have Y:=xa1 Y (aA N) (aA T);refine wv (h:=aY (λj e H=>∃ r:List Part,(e 0=.ptr f 1 0 0/\e 1=dLI ns/\e 4=dI ns.length/\e 5=dI j)/\(H.get f=some ⟨365,11,[S.cells i (.own o r.length)],false⟩)/\(f<H.next)/\(H.get o=some ⟨58,2,r.map Part.c,false⟩)/\(o<H.next)/\(j<=S.g.h.length)/\(r.length<=i+1)/\(r=(List.range j).foldl (λr k=>if Li S ns k=true then QJ S (i+1) O (ns++[(k:Int)]) r else r) l)/\(∀ q,q≠f->q≠o->q<G.next->H.get q=G.get q)/\(G.next<=H.next)) (λj=>S.g.h.length - j) 0 ⟨l,wg,wn,wn,wn,wn,wi,(by exact J),(by rfl),(by intro q w n B;rfl),(by simp [go_sem])⟩ λI0 W j e H a4=>?_);obtain ⟨r,E0,a0,R,Z,P,hj,s,F,u,a2⟩:=a4;have b1:=cY (aD:o≠f);have Y:=xa5 Y E0 a0 (bL R) Z (bL P) b1;refine i7 (λX=>?_) λX=>?_
   .have hEj:=U j X;have o1:(0<=S.pn[ns.length]->S.pn[ns.length]=(j:Int))->(S.inj=true->mem ns (j:Int)=false)->(S.pn[ns.length]<0\/S.pn[ns.length]=(j:Int))/\(S.inj=false\/mem ns (j:Int)=false):=λa b=>⟨aD,by cases hI:S.inj;exact .inl rfl;exact .inr (b hI)⟩;have V:=y.tg _ (aC X);have Y:=xa1 Y X (aA X);refine wp (h:=wG (λK=>HR S i (.list (r.map Part.c)) (by simp [D.P,w6]) ns j) wrq (λK=>wl) (λK=> rfl) rfl wdq ?_);refine wp (h:=dO (λK=>(by have hq:=BB S.t y.v S.g.h[j] S.p.h[ns.length] V.1 V.2 a6.1;unfold Types.d Types.c dI at hq;exact hq)) (λK=>wl) ?_);refine i7 (λh7=>?_) λh7=>?_
    .have hE:Li S ns j=false:=by
      rw [hEj,bQ];intro hT;simp at hT;obtain ⟨a,b,c⟩:=hT;rcases h7 with (h|h)|h
      .omega
      .rcases b with b|b
       .rw [b] at h;cases h.1
       .rw [b] at h;cases h.2
      .rw [c] at h;cases h
     obtain ⟨E,m⟩:∃ x,x=r:=⟨_,rfl⟩;have Y:=xa1 Y @Part.c.eq_1 m;exact wp (h:=wx W (j+1) ⟨E,wg,wn,wn,wn,wn,wj,(by rw [m];first|exact s|exact U8 y.gp _ _ s),(by rw [eK,<- F,m];first|rw [if_pos hE]|rw [if_neg (by rw [hE];simp)]),(by first|exact C|exact u|(intro q w n B;simp [go_sem,w,n,bL (aD:q<H.next)];exact u q w n B)),(by first|omega|(simp [go_sem];omega))⟩)
    .have hE:Li S ns j=true:=by
      obtain ⟨⟨a,b⟩,c⟩:=h7;rw [hEj];simp [c];exact ⟨aD,by cases hI:S.inj;exact .inl rfl;exact .inr (b hI)⟩
     obtain ⟨E,m⟩:∃ x,x=QJ S (i+1) O (ns++[(j:Int)]) r:=⟨_,rfl⟩;have Y:=xa1 Y @Part.c.eq_1 h7;refine wp (h:=?_);refine LS (args':=[.ptr f 1 0 0,dLI (ns++[(j:Int)])]) (by simp [go_sem,Y,dLI]) rfl ?_;unfold fE;refine ih O aD (ns++[(j:Int)]) r _ _ (by simp;omega) (by simp [go_sem];omega) (by simp [go_sem];omega) ⟨by simp [go_sem,Y],by simp [go_sem,Y],s⟩ (λH3 A M z=>?_);rw [<- m] at A;obtain ⟨a9,a8,b2⟩:=A;simp [go_sem] at z;have C:∀ j,j≠f->j≠o->j<G.next->H3.get j=G.get j:=λj w n B=>by
      have e1:=bL (aD:j<H.next);rw [M j w n (by simp [go_sem];omega)];simp [go_sem,w,n,e1];exact u j w n B
     have b0:=xa0 (bL (aD:f<H3.next)) (bL (aD:o<H3.next));have Y:=xa2 Y a9 a8 b0;exact wp (h:=wx W (j+1) ⟨E,wg,wn,wn,wn,wn,wj,(by rw [m];first|exact s|exact U8 y.gp _ _ s),(by rw [eK,<- F,m];first|rw [if_pos hE]|rw [if_neg (by rw [hE];simp)]),(by first|exact C|exact u|(intro q w n B;simp [go_sem,w,n,bL (aD:q<H.next)];exact u q w n B)),(by first|omega|(simp [go_sem];omega))⟩)
   .have hJ:j=S.g.h.length:=aD;have a7:QJ S (i+1) (O+1) ns l=r:=by simp only [QJ];rw [if_neg hnf,F,hJ]
    refine wv (h:=?_);exact hQ _ (by rw [a7];exact ⟨by assumption,by assumption,s⟩) u a2
@[go_sem] theorem acI {n:Nat}{c:UN}(h:D.L c=true):D.O (List.replicate n c)=true:=by
 induction n with
 | zero=>rfl
 | succ n ih=>simp [mF,D.O,h,ih]
def Qq (n i:Nat):W3:=List.replicate i (-1)++List.replicate (n - i) 0
theorem GQ {n i:Nat}(h:i<=n):(Qq n i).length=n:=by simp [Qq];omega
theorem Ss {n i:Nat}(h:i<n):(Qq n i).set i (-1)=Qq n (i+1):=by
 unfold Qq;rw [mT _ _ dB,eL,uS,show n - i=(n - (i+1))+1 by omega,mF,Bl];simp
theorem Su (n:Nat):Qq n n=List.replicate n (-1):=by simp [Qq]
theorem Pa (n:Nat):Qq n 0=List.replicate n 0:=by simp [Qq]
theorem Q4 (p:Graph)(M:p.h.length<=100000)(P:p.i.length<=100000):Pua 270 [p.d] (.agg [dLI (List.replicate p.h.length (-1)),dLI (List.replicate p.i.length (-1))]):=by
 refine Tz.pK ⟨λt=>t==2||t==3,λr=>match r with|1=>[(3,4),(3,5),(3,6),(0,7),(1,7),(2,7),(3,7),(0,9),(1,9),(2,9),(3,9),(4,9),(5,9),(6,9),(7,9)]|_=>[]⟩ func270 rfl (λQ L=>?_);have Y:=trivial;refine wp (h:=aY (λi e H=>(e 1=.adr p.c/\e 2=.ptr 0 1 0 0/\e 3=.ptr 10 1 0 0/\e 4=dI i)/\(H.get 0=some ⟨58,2,[[.nil,.nil]],false⟩)/\(0<H.next)/\(H.get 10=some ⟨58,2,[[.own 4 p.h.length,.own 8 p.i.length]],false⟩)/\(10<H.next)/\(H.get 4=some ⟨3,1,(Qq p.h.length i).map cI,false⟩)/\(4<H.next)/\(H.get 8=some ⟨3,1,(Qq p.i.length 0).map cI,false⟩)/\(8<H.next)/\(i<=p.h.length)/\((Qq p.h.length i).length=p.h.length)) (λi=>p.h.length - i) 0 ⟨wg,wn,wn,wn,wn,(by simp [go_sem,Pa,cI]),wn,(by simp [go_sem,Pa,cI]),wn,wi,(by exact GQ aD)⟩ λS F i e H D=>?_);obtain ⟨K,y,u,l,b,g,q,v,n,O,B⟩:=D;have Y:=xa9 Y K y (bL u) l (bL b) g (bL q) v (bL n) B;refine i7 (λI=>?_) λI=>?_
 .have hS:=Ss I;have z:i<(Qq p.h.length i).length:=aD;have Y:=xa1 Y I (aA z);exact wp (h:=wx F (i+1) ⟨wg,wn,wn,wn,wn,(by simp [go_sem,Y,<- hS,b6,cI]),wn,(by simp [go_sem,Y]),wn,wj,(by exact GQ aD)⟩)
 .have hie:i=p.h.length:=aD;rw [hie,Su] at g;have Y:=xa8 K y (bL u) l (bL b) g (bL q) v (bL n) B;refine wv (h:=aY (λk e H=>(e 1=.adr p.c/\e 2=.ptr 0 1 0 0/\e 3=.ptr 10 1 0 0/\e 5=dI k)/\(H.get 0=some ⟨58,2,[[.nil,.nil]],false⟩)/\(0<H.next)/\(H.get 10=some ⟨58,2,[[.own 4 p.h.length,.own 8 p.i.length]],false⟩)/\(10<H.next)/\(H.get 4=some ⟨3,1,(List.replicate p.h.length (-1:Int)).map cI,false⟩)/\(4<H.next)/\(H.get 8=some ⟨3,1,(Qq p.i.length k).map cI,false⟩)/\(8<H.next)/\(k<=p.i.length)/\((Qq p.i.length k).length=p.i.length)) (λk=>p.i.length - k) 0 ⟨wg,wn,wn,wn,wn,wn,wn,(by simp [go_sem,Y]),wn,wi,(by exact GQ aD)⟩ λR E k e H C=>?_);obtain ⟨J,x,s,j,a,w,o,f,m,N,A⟩:=C;have Y:=xa9 Y J x (bL s) j (bL a) w (bL o) f (bL m) A;refine i7 (λG=>?_) λG=>?_
  .have hS:=Ss G;have z:k<(Qq p.i.length k).length:=aD;have Y:=xa1 Y G (aA z);exact wp (h:=wx E (k+1) ⟨wg,wn,wn,wn,wn,wn,wn,(by simp [go_sem,Y,<- hS,b6,cI]),wn,wj,(by exact GQ aD)⟩)
  .have hke:k=p.i.length:=aD;rw [hke,Su] at f;have Y:=xa9 B J x (bL s) j (bL a) w (bL o) f (bL m) A;exact wv (h:=L _ _ (by simp [go_sem,Y,dLI]))
theorem Pb (l:List Part):eE (l.map Part.c)=l.map Part.c:=jR λc hc=>by
 rw [aW] at hc;obtain ⟨x,_,rfl⟩:=hc;simp [Part.c,iI,mC,dLI,d9]
theorem TL (S:Srch)(n:G17 S.t S.p S.g)(f:S.pn.length=S.p.h.length)(i:S.pe.length=S.p.i.length)(a:Nat)(j:a<=5000) :
  Pua 269 [S.t.d,S.p.d,S.g.d,.agg [dLI S.pn,dLI S.pe],.bool S.inj,dI a] (.list (((zR S).take (a+1)).map Part.c)):=by
 have b:QJ S (a+1) S.p.h.length [] []=(zR S).take (a+1):=by rw [QI n.gp (a+1) _ _ _ dB];simp [zR]
 obtain ⟨L,s⟩:=fD ((zR S).take (a+1));rw [<- s] at b ⊢;refine pS (by first|rfl|(simp [go_sem];done)) (λQ r=>(Tz.cK ⟨λt=>t==21,λ_=>[]⟩ func269 rfl ?_));have Y:=trivial;refine wv (h:=?_);refine yX (.step (.refl _) 0 0 10 58 2 _ _ (by simp [go_sem];rfl) rfl rfl rfl) ?_;simp [go_sem];refine P5 (args':=[.ptr 0 1 0 0,dLI []]) (by simp [go_sem,dLI,T1]) ?_;unfold fE;refine OJ S n f i a j 0 1 aD S.p.h.length [] [] _ _ dB (by simp [go_sem]) (by simp [go_sem]) ⟨by simp [go_sem,Srch.cells,Types.c,Graph.c,dLI,dI],by simp [go_sem],by simp⟩ (λu e q o=>?_);rw [b] at e;obtain ⟨l,k,m⟩:=e;have Y:=xa2 Y l k @Srch.cells.eq_1;refine wv (h:=?_);exact r _ _ (by simp [go_sem,Y,mC,Pb])
def dG (x:Term)(vs:W3):Int:=if x.N<0 then x.add else vs[x.N.toNat]?.getD 0+x.add
def Sm (vs:W3):Prop:=∀ v∈vs,-4000000<=v/\v<=4000000
theorem Sm.get {vs:W3}(h:Sm vs){k:Nat}(hk:k<vs.length) : -4000000<=vs[k]/\vs[k]<=4000000:=h _ (aC hk)
def qH (x:Term)(n:Nat):Prop:=(-1<=x.N/\x.N<n)/\(-1000000<=x.add/\x.add<=1000000)
theorem r7 (x:Term)(vs:W3)(e:qH x vs.length)(f:Sm vs):Pua 271 [.agg x.c,dLI vs] (dI (dG x vs)):=by
 have a:=e;obtain ⟨⟨l,k⟩,j,i⟩:=a;refine Tz.p0 func271 rfl λQ b _=>?_;have Y:=@Term.c.eq_1;refine dK (λd=>?_) λd=>?_
 .exact wv (h:=b _ _ (by simp [go_sem,dG,d]))
 .have hk:x.N.toNat<vs.length:=aD;have g:=f.get hk;have Y:=wa Y (aA hk);exact wo (h:=b _ _ (by simp [go_sem,dG,(aD:¬ x.N<0),aA hk]))
theorem jP (x:Term)(vs:W3)(d:qH x vs.length)(f:Sm vs):Pua 201 [.agg x.c,dLI vs] (.tup [dI (dG x vs),dI 0]):=by
 have a:=d;obtain ⟨⟨k,j⟩,i,g⟩:=a;refine Tz.p0 func201 rfl λQ e _=>?_;have Y:=@Term.c.eq_1;refine d8 (λb=>?_) λb=>?_
 .have Y:=wa Y b;exact wv (h:=e _ _ wy)
 .refine wv (h:=aB (r7 x vs d f) wl ?_);have Y:=wa Y b;exact wv (h:=e _ _ wy)
theorem FC (x:Term)(vs:W3)(f:qH x vs.length)(g:Sm vs):Pua 324 [.agg x.c,dLI vs] (.tup [dI (dG x vs),.bool true]):=by
 have a:=f;obtain ⟨⟨m,l⟩,k,j⟩:=a;refine Tz.p0 func324 rfl λQ b _=>?_;have Y:=@Term.c.eq_1;refine dK (λd=>?_) λd=>?_
 .exact wv (h:=b _ _ (by simp [go_sem,dG,d]))
 .refine d8 (λe=>?_) λe=>?_
  .have Y:=xa1 Y d e;exact wv (h:=b _ _ wy)
  .have hk:x.N.toNat<vs.length:=aD;have i:=g.get hk;have Y:=wa Y (aA hk);exact wo (h:=b _ _ (by simp [go_sem,dG,aA hk];omega))
def Be (x:Test)(vs:W3):Bool:=(decide (x.E=1)&&decide (dG x.left vs<=dG x.right vs))||(decide (x.E=2)&&decide (dG x.left vs=dG x.right vs))
def JF (x:Test)(n:Nat):Prop:=(x.E=1\/x.E=2)/\qH x.left n/\qH x.right n
theorem OY (x:Test)(vs:W3)(b:JF x vs.length)(a:Sm vs):Pua 272 [.agg x.c,dLI vs] (.bool (Be x vs)):=by
 obtain ⟨g,e,d⟩:=b;refine Tz.p0 func272 rfl λQ f _=>?_;have Y:=@Test.c.eq_1;refine wv (h:=?_);refine aB (FC x.left vs e a) wl ?_;refine wv (h:=?_);refine aB (FC x.right vs d a) wl ?_;refine wv (h:=?_);repeat first|intro _|refine ⟨iD,?_⟩
 exact f _ _ (by simp [go_sem,Be,Dr])
def haveV (h:Host)(m:Part)(s:Slot):Int:=(h.k[(m.h[s.node.toNat]?.getD 0).toNat]?.getD [])[s.J.toNat]?.getD 0
def lF (st:W3 × List Bool)(s:Slot):Bool:=decide (0<=s.x.N)&&!(st.2[s.x.N.toNat]?.getD false)
def lJ (h:Host)(m:Part)(st:W3 × List Bool)(s:Slot):W3 × List Bool :=
 if lF st s=true then (st.1.set s.x.N.toNat (haveV h m s - s.x.add),st.2.set s.x.N.toNat true) else st
def slotsV (h:Host)(m:Part):W3 × List Bool->List Slot->Option (W3 × List Bool)
 | st,[]=>some st
 | st,s :: l=>if dG s.x (lJ h m st s).1=haveV h m s then slotsV h m (lJ h m st s) l else none
theorem Aa (h:Host)(m:Part)(s:Slot):∀ (l:List Slot) (st:W3 × List Bool),slotsV h m st (l++[s])=(slotsV h m st l).bind λq=>if dG s.x (lJ h m q s).1=haveV h m s then some (lJ h m q s) else none
 | [],st=>by simp [slotsV]
 | a :: l,st=>by
  simp only [dE,slotsV];split
  .exact Aa h m s l _
  .rfl
theorem Fi (h:Host)(m:Part):∀ (l r:List Slot) (st:W3 × List Bool),slotsV h m st l=none->slotsV h m st (l++r)=none
 | [],r,st,hn=>by simp [slotsV] at hn
 | a :: l,r,st,hn=>by
  simp only [dE,slotsV] at hn ⊢;split at hn
  .rename_i he;rw [if_pos he];exact Fi h m l r _ hn
  .rename_i he;rw [if_neg he]
theorem uW {h:Host}{m:Part}{l:List Slot}{i:Nat}(d:i<l.length){a q:W3 × List Bool}(c:slotsV h m a (l.take i)=some q) :
  (dG l[i].x (lJ h m q l[i]).1=haveV h m l[i]->slotsV h m a (l.take (i+1))=some (lJ h m q l[i]))/\(dG l[i].x (lJ h m q l[i]).1≠haveV h m l[i]->slotsV h m a l=none):=by
 have e:l.take (i+1)=l.take i++[l[i]]:=aE d;refine ⟨λb=>?_,λb=>?_⟩
 .rw [e,Aa,c];simp [b]
 .have hn:slotsV h m a (l.take (i+1))=none:=by rw [e,Aa,c];simp [b]
  have:=Fi h m _ (l.drop (i+1)) a hn;rw [List.take_append_drop] at this;exact this
def eP (p:Pattern)(h:Host)(m:Part)(vs:W3):W3 × Int :=
 match slotsV h m (vs++List.replicate (p.vars.toNat - vs.length) 0,List.replicate vs.length true++List.replicate (p.vars.toNat - vs.length) false) p.l with
 | none=>([],11)
 | some q=>if p.G.all (λx=>Be x q.1)=true then (q.1,0) else ([],16)
structure Mat where
 m:Part
 vars:W3
def Mat.c (x:Mat):UN:=[dLI x.m.h,dLI x.m.i,dLI x.vars]
def Mat.d (x:Mat):D:=.agg x.c
@[go_sem] theorem Mat.P (x:Mat):D.L x.c=true:=by simp [Mat.c,D.L,qA]
@[go_sem] theorem adZ (l:List Mat):D.O (l.map Mat.c)=true:=dN _ Mat.P l
def Jc (l:List Part):List Part × Int:=if 5000<(l.take 5001).length then ([],3) else (l.take 5001,0)
def sH (t:Types)(p g:Graph)(inj:Bool):List Part × Int:=if eH t p g≠0 then ([],eH t p g) else Jc (zR ⟨t,p,g,List.replicate p.h.length (-1),List.replicate p.i.length (-1),inj⟩)
def Db (n:Int)(l:W3)(i:Nat):Int:=if l[i]?.getD 0 < -1\/n<=l[i]?.getD 0 then 6 else 0
def nZ (l:W3)(n:Int):Int:=bU (Db n l) 0 l.length
def n6 (t:Types)(p g:Graph)(q:Part)(inj:Bool):List Part × Int :=
 if eH t p g≠0 then ([],eH t p g)
 else if q.h.length≠p.h.length\/q.i.length≠p.i.length then ([],20)
 else if nZ q.h g.h.length≠0 then ([],nZ q.h g.h.length)
 else if nZ q.i g.i.length≠0 then ([],nZ q.i g.i.length)
 else Jc (zR ⟨t,p,g,q.h,q.i,inj⟩)
def An (n:Nat)(at_ im:W3):W3:=(List.range at_.length).foldl (λacc i=>acc.set (at_[i]?.getD 0).toNat (im[i]?.getD 0)) (List.replicate n (-1))
def pV (c:Part)(q:Pattern)(m:Part):Part:=⟨An q.j.h.length c.h m.h,An q.j.i.length c.i m.i⟩
def wR (q:Pattern)(h:Host)(vars:W3)(l:List Part):List Mat:=l.filterMap λx=>if (eP q h x vars).2=0 then some ⟨x,(eP q h x vars).1⟩ else none
def zP (t:Types)(c:Part)(q:Pattern)(h:Host)(m:Mat)(inj:Bool):List Mat × Int :=
 if (n6 t q.j h.j (pV c q m.m) inj).2≠0 then ([],(n6 t q.j h.j (pV c q m.m) inj).2)
 else (wR q h m.vars (n6 t q.j h.j (pV c q m.m) inj).1,0)
/-! ### conditions: the first witness -/
inductive Prf where
 | mk (choice:Int) (m:Mat) (kids:List Prf)
mutual
def Prf.c:Prf→UN
 | .mk ch m l=>[dI ch,dLI m.m.h,dLI m.m.i,dLI m.vars,.list (Prf.cs l)]
def Prf.cs:List Prf→UE
 | []=>[]
 | p :: l=>p.c :: Prf.cs l
end
theorem Prf.bs (l:List Prf):Prf.cs l=l.map Prf.c:=by
 induction l with
 | nil=>simp [Prf.cs]
 | cons a l ih=>simp [Prf.cs,ih]
theorem Prf.A (a:Int)(m:Mat)(l:List Prf):(Prf.mk a m l).c=[dI a,dLI m.m.h,dLI m.m.i,dLI m.vars,.list (l.map Prf.c)]:=by simp [Prf.c,Prf.bs]
mutual
theorem Prf.P:∀ x:Prf,D.L x.c=true
 | .mk ch m l=>by
  have:=Prf.cd l;simp [Prf.c,D.L,D.P,dI,qA,this]
theorem Prf.cd:∀ l:List Prf,D.O (Prf.cs l)=true
 | []=>by simp [Prf.cs,D.O]
 | c :: l=>by simp [Prf.cs,D.O,Prf.P c,Prf.cd l]
end
attribute [go_sem] Prf.P
@[go_sem] theorem adK (l:List Prf):D.O (l.map Prf.c)=true:=by rw [<- Prf.bs];exact Prf.cd l
mutual
theorem Zn:∀ x:Prf,iI x.c=x.c
 | .mk ch m l=>by
  have:=NB l;simp [Prf.c,iI,mC,dI,dLI,d9,this]
theorem NB:∀ l:List Prf,eE (Prf.cs l)=Prf.cs l
 | []=>by simp [Prf.cs,eE]
 | c :: l=>by simp [Prf.cs,eE,Zn c,NB l]
end
theorem f5 (l:List Prf):eE (l.map Prf.c)=l.map Prf.c:=by rw [<- Prf.bs];exact NB l
def iW:Mat:=⟨⟨[],[]⟩,[]⟩
def jQ:Prf:=.mk 0 iW []
def Xa (e:Int):Int:=if e=0 then 10 else if e=10 then 0 else e
def Nv:List (Prf × Int)->List Prf->Prf × Int
 | [],acc=>(.mk 0 iW acc,0)
 | (p,e) :: l,acc=>if e≠0 then (jQ,e) else Nv l (acc++[p])
def W2:List (Prf × Int)->Nat->Prf × Int
 | [],_=>(jQ,10)
 | (p,e) :: l,i=>if e≠10 then (.mk i iW [p],e) else W2 l (i+1)
def Xp:List (Mat × (Prf × Int))->Prf × Int
 | []=>(jQ,10)
 | (m,(p,e)) :: l=>if e≠10 then (.mk 0 m [p],e) else Xp l
def PC (fs:List (Mat->Prf × Int)):Mat->Prf × Int:=fs.head?.getD λ_=>(jQ,0)
mutual
def pE (t:Types)(h:Host)(inj:Bool):Cond→Mat→Prf × Int
 | .mk k l mp q=>fun m =>
  if k=2 then (jQ,Xa (PC (Fe t h inj l) m).2)
  else if k=3 then Nv ((Fe t h inj l).map fun f=>f m) []
  else if k=4 then W2 ((Fe t h inj l).map fun f=>f m) 0
  else if k=5 then (if (zP t mp q h m inj).2≠0 then (jQ,(zP t mp q h m inj).2) else Xp ((zP t mp q h m inj).1.map fun x=>(x,PC (Fe t h inj l) x)))
  else (jQ,0)
def Fe (t:Types)(h:Host)(inj:Bool):List Cond→List (Mat→Prf × Int)
 | []=>[]
 | c :: l=>pE t h inj c :: Fe t h inj l
end
theorem UW (t:Types)(h:Host)(b:Bool)(l:List Cond):Fe t h b l=l.map (pE t h b):=by
 induction l with
 | nil=>simp [Fe]
 | cons a l ih=>simp [Fe,ih]
theorem GH (t:Types)(h:Host)(a:Bool)(c:Cond)(m:Mat):pE t h a c m =
  if c.E=2 then (jQ,Xa (PC (c.s.map (pE t h a)) m).2)
  else if c.E=3 then Nv (c.s.map λk=>pE t h a k m) []
  else if c.E=4 then W2 (c.s.map λk=>pE t h a k m) 0
  else if c.E=5 then (if (zP t c.map c.o h m a).2≠0 then (jQ,(zP t c.map c.o h m a).2) else Xp ((zP t c.map c.o h m a).1.map λx=>(x,PC (c.s.map (pE t h a)) x)))
  else (jQ,0):=by
 cases c;simp only [pE,UW,Cond.E,Cond.s,Cond.map,Cond.o,Fd];rfl
def NH (t:Types)(h:Host)(inj:Bool)(c:Cond)(m:Mat):Int:=(pE t h inj c m).2
def mO (t:Types)(h:Host)(inj:Bool)(c:Cond)(m:Mat):Bool × Int:=if NH t h inj c m=10 then (false,0) else (decide (NH t h inj c m=0),NH t h inj c m)
/-! ### a step -/
def dV (t:Types)(p:Pattern)(h:Host)(m:Part):W3 × Int :=
 if cX t p≠0 then ([],cX t p) else if fX t h≠0 then ([],fX t h) else if checkE t p.j h.j m false≠0 then ([],checkE t p.j h.j m false) else eP p h m []
def jB (t:Types)(p:Pattern)(h:Host)(inj:Bool):List Mat × Int :=
 if cX t p≠0 then ([],cX t p) else if fX t h≠0 then ([],fX t h)
 else if (sH t p.j h.j inj).2≠0 then ([],(sH t p.j h.j inj).2) else (wR p h [] (sH t p.j h.j inj).1,0)
def kM (p g:Graph)(m:Part):Graph:=⟨m.h.map (gN g),p.i⟩
def pF (t:Types)(r:Rule)(h:Host)(m:Mat):Int :=
 if checkE t r.left.j h.j m.m r.inj≠0 then 1
 else if (dV t r.left h m.m).2≠0 then (dV t r.left h m.m).2
 else if (dV t r.left h m.m).1≠m.vars then 11
 else oG (kM r.left.j h.j m.m) h.j r.q m.m
def lM (t:Types)(r:Rule)(h:Host)(m:Mat):Int :=
 if pF t r h m≠0 then pF t r h m
 else if (mO t h r.inj r.cond m).2≠0 then (mO t h r.inj r.cond m).2
 else if (mO t h r.inj r.cond m).1=false then 16 else 0
def bY (r:Rule)(h:Host)(m:Mat):Part:=uE (kM r.left.j h.j m.m) h.j r.q m.m
def gG (l:W3)(n:Nat)(v:Int):Int:=(List.range n).foldl (λacc (k:Nat)=>if l[k]?.getD (-1)=v then (k:Int) else acc) (-1)
def lY (l:W3)(n:Nat):W3:=(List.range n).map λ(v:Nat)=>gG l l.length v
def B0 (into:W3)(i:Nat):Nat:=((List.range i).filter λ(j:Nat)=>decide (gG into into.length j<0)).length
def Jg (keep into at_:W3)(remain:Nat)(i:Nat):Int:=if 0<=gG into into.length i then at_[(keep[(gG into into.length i).toNat]?.getD 0).toNat]?.getD 0 else ((remain+B0 into i:Nat):Int)
def D5 (keep into at_:W3)(right remain:Nat):W3:=(List.range right).map (Jg keep into at_ remain)
def n4 (d:W3)(n:Nat):W3:=lY d n
def c6 (r:Rule)(h:Host)(m:Mat):Part:=⟨n4 (bY r h m).h h.j.h.length,n4 (bY r h m).i h.j.i.length⟩
def pH (l tr:W3):W3:=l.map λk=>tr[k.toNat]?.getD 0
def c7 (r:Rule)(h:Host)(m:Mat):Part :=
 ⟨D5 r.q.h r.u.h (pH m.m.h (c6 r h m).h) r.right.j.h.length (bY r h m).h.length,D5 r.q.i r.u.i (pH m.m.i (c6 r h m).i) r.right.j.i.length (bY r h m).i.length⟩
def mM (t:Types)(k:Int):W3:=(bI t k).map λa=>a.aw
def freshE (c:Part)(y:Edge):Edge:=⟨y.type,c.h[y.w.toNat]?.getD 0,c.h[y.M.toNat]?.getD 0⟩
def jS (t:Types)(r:Rule)(c:Part)(x:Host):Host :=
 ⟨⟨x.j.h++r.R.map (gN r.right.j),x.j.i++r.ai.map (λk=>freshE c (r.right.j.i[k.toNat]?.getD b8))⟩,x.k++r.R.map (λk=>mM t (gN r.right.j k))⟩
def bW (t:Types)(r:Rule)(h:Host)(m:Mat):Host:=jS t r (c7 r h m) ⟨bZ h.j (bY r h m),(bY r h m).h.map λk=>h.k[k.toNat]?.getD []⟩
def fF (c:Part)(s:Slot):Nat:=(c.h[s.node.toNat]?.getD 0).toNat
def Cq (c:Part)(vs:W3)(a b:Slot):Bool:=decide (fF c a=fF c b)&&(decide (a.J=b.J)&&decide (dG a.x vs≠dG b.x vs))
def uF (c:Part)(vs:W3)(l:List Slot):Bool:=(List.range l.length).any λi=>(List.range i).any λk=>match l[k]?,l[i]? with|some a,some b=>Cq c vs a b|_,_=>false
def yM (t:Types)(g:Graph)(c:Part)(vs:W3)(s:Slot):Bool :=
 let a:=(bI t (g.h[fF c s]?.getD 0))[s.J.toNat]?.getD oB
 decide (dG s.x vs<a.aw)||decide (a.ax<dG s.x vs)
def sN (t:Types)(g:Graph)(c:Part)(vs:W3)(l:List Slot):Int:=if uF c vs l=true then 11 else if l.any (yM t g c vs)=true then 6 else 0
def v7 (c:Part)(vs:W3)(l:List Slot)(vals:Yb):Yb:=l.foldl (λvals s=>vals.set (fF c s) ((vals[fF c s]?.getD []).set s.J.toNat (dG s.x vs))) vals
def b9 (t:Types)(r:Rule)(h:Host)(m:Mat):Host:=⟨(bW t r h m).j,v7 (c7 r h m) m.vars r.right.l (bW t r h m).k⟩
def iC (t:Types)(r:Rule)(h:Host)(m:Mat):Int :=
 if lM t r h m≠0 then lM t r h m
 else if sN t (bW t r h m).j (c7 r h m) m.vars r.right.l≠0 then sN t (bW t r h m).j (c7 r h m) m.vars r.right.l
 else if 40<(bW t r h m).j.h.length\/80<(bW t r h m).j.i.length then 3 else 0
structure Stp26 where
 C:Rule
 V:Mat
 B:Host
 after:Host
 Q:Part
 y:Part
def Stp26.c (s:Stp26):UN:=s.C.c++s.V.c++s.B.c++s.after.c++[dLI s.Q.h,dLI s.Q.i,dLI s.y.h,dLI s.y.i]
def f6 (t:Types)(r:Rule)(h:Host):Int:=if ruleF t r≠0 then ruleF t r else fX t h
def jU (t:Types)(r:Rule)(h:Host)(m:Mat):Int:=if f6 t r h≠0 then f6 t r h else iC t r h m
def aO (t:Types)(r:Rule)(h:Host)(m:Mat):Stp26:=⟨r,m,h,b9 t r h m,c6 r h m,c7 r h m⟩
def Cw (t:Types)(r:Rule)(h:Host):List Mat × Int :=
 if f6 t r h≠0 then ([],f6 t r h) else if (jB t r.left h r.inj).2≠0 then ([],(jB t r.left h r.inj).2) else ((jB t r.left h r.inj).1.filter λm=>decide (iC t r h m=0),0)
@[go_sem] theorem ZP (l:List Part):D.O (l.map Part.c)=true:=w6 l
theorem aaM (t:Types)(p g:Graph)(hG:G17 t p g)(pn pe:W3)(h1:pn.length=p.h.length)(h2:pe.length=p.i.length)(inj:Bool) :
  Pua 269 [t.d,p.d,g.d,.agg [dLI pn,dLI pe],.bool inj,dI 5000] (.list (((zR ⟨t,p,g,pn,pe,inj⟩).take 5001).map Part.c)) :=
 TL ⟨t,p,g,pn,pe,inj⟩ hG h1 h2 5000 aD
theorem Ve (t:Types)(p g:Graph)(hG:G17 t p g)(pn pe:W3)(h1:pn.length=p.h.length)(h2:pe.length=p.i.length)(inj:Bool){L:List Part}(hL:L=(zR ⟨t,p,g,pn,pe,inj⟩).take 5001) :
 Pua 269 [t.d,p.d,g.d,.agg [dLI pn,dLI pe],.bool inj,dI 5000] (.list (L.map Part.c)):=hL ▸ aaM t p g hG pn pe h1 h2 inj
theorem Yq (t:Types)(p g:Graph)(e:G17 t p g)(a:Bool){L:List Part}(b:L=(zR ⟨t,p,g,List.replicate p.h.length (-1),List.replicate p.i.length (-1),a⟩).take 5001) :
  Pua 269 [t.d,p.d,g.d,.agg [.list (List.replicate p.h.length [D.int .i64 (-1)]),.list (List.replicate p.i.length [D.int .i64 (-1)])],.bool a,dI 5000] (.list (L.map Part.c)):=by
 have:=Ve t p g e _ _ dB dB a b;simpa only [dLI,List.map_replicate,cI] using this
theorem TM (t:Types)(j:t.ok)(p g:Graph)(a:Bool):Pua 190 [t.d,p.d,g.d,.bool a] (.tup [.list ((sH t p g a).1.map Part.c),dI (sH t p g a).2]):=by
 refine Tz.p0 func190 rfl λQ f Y=>?_;refine wv (h:=aB (u4 t j p g) wl ?_);refine dK (λe=>?_) λe=>?_
 .have b:sH t p g a=([],eH t p g):=by unfold sH;rw [if_pos (eQ e)]
  exact wv (h:=f _ _ (by simp [go_sem,b]))
 .have hG:=oP (eQ e);have k:=bR hG.gp;obtain ⟨L,i⟩:=fD ((zR ⟨t,p,g,List.replicate p.h.length (-1),List.replicate p.i.length (-1),a⟩).take 5001);have b:sH t p g a=if 5000<L.length then ([],3) else (L,0):=by unfold sH;rw [if_neg (eQ e)];unfold Jc;rw [<- i]
  refine wv (h:=aI (Q4 p aD aD) wl ?_);refine wv (h:=aI (Yq t p g hG a i) wl ?_);refine d8 (λl=>?_) λl=>?_
  .rw [if_pos aD] at b;exact wv (h:=f _ _ (by simp [go_sem,b]))
  .rw [if_neg aD] at b;exact wv (h:=f _ _ (by simp [go_sem,b]))
def C6 (l:W3)(wH n:Int):Int:=if (l.length:Int)≠wH then 20 else nZ l n
theorem CZ (l:W3)(wH n:Int):Pua 380 [dLI l,dI wH,dI n] (dI (C6 l wH n)):=by
 refine Tz.p0 func380 rfl λQ d Y=>?_;refine d8 (λk=>?_) λk=>?_
 .have hP:C6 l wH n=20:=by unfold C6;rw [if_pos aD]
  exact wv (h:=d _ _ (by simp [go_sem,hP]))
 .have hP:C6 l wH n=nZ l n:=by unfold C6;rw [if_neg aD]
  refine wv (h:=aY (λi e H=>(e 0=dLI l/\e 2=dI n/\e 7=dI i)/\(i<=l.length)/\(bU (Db n l) i (l.length - i)=nZ l n)) (λi=>l.length - i) 0 ⟨wg,wi,(by rfl)⟩ λp f i e H c=>?_);obtain ⟨m,o,g⟩:=c;have Y:=wa Y m;refine wv (h:=?_);repeat first|intro _|refine ⟨iD,?_⟩
  refine wq (λa=>?_) λa=>?_
  .have hst:=eV (Db n l) a;rw [g] at hst;have b:Db n l i=if l[i] < -1\/n<=l[i] then 6 else 0:=by simp only [Db,aA a,Option.getD_some]
   have Y:=xa1 Y a (aA a);refine d8 (λj=>?_) λj=>?_
   .rw [if_pos aD] at b;rw [b,if_pos aD] at hst;exact wv (h:=d _ _ (by simp [go_sem,hP,hst]))
   .rw [if_neg aD] at b;rw [b,if_neg aD] at hst;exact wo (h:=wx f (i+1) ⟨wg,wj,(by exact hst.symm)⟩)
  .have hZ:nZ l n=0:=by rw [<- g,(aD:l.length - i=0)];rfl
   exact wv (h:=d _ _ (by simp [go_sem,hP,hZ]))
theorem MH (t:Types)(o:t.ok)(p g:Graph)(q:Part)(a:Bool):Pua 363 [t.d,p.d,g.d,q.d,.bool a] (.tup [.list ((n6 t p g q a).1.map Part.c),dI (n6 t p g q a).2]):=by
 refine Tz.p0 func363 rfl λQ k Y=>?_;refine wv (h:=aB (u4 t o p g) wl ?_);refine dK (λi=>?_) λi=>?_
 .have b:n6 t p g q a=([],eH t p g):=by unfold n6;rw [if_pos (eQ i)]
  exact wv (h:=k _ _ (by simp [go_sem,b]))
 .have hG:=oP (eQ i);refine d8 (λr=>?_) λr=>?_
  .have b:n6 t p g q a=([],20):=by unfold n6;rw [if_neg (eQ i),if_pos aD]
   exact wv (h:=k _ _ (by simp [go_sem,b]))
  .have hq:q.h.length=p.h.length/\q.i.length=p.i.length:=aD;have f:C6 q.h p.h.length g.h.length=nZ q.h g.h.length:=by unfold C6;rw [if_neg aD]
   have e:C6 q.i p.i.length g.i.length=nZ q.i g.i.length:=by unfold C6;rw [if_neg aD]
   refine wo (h:=aB (CZ q.h p.h.length g.h.length) wl ?_);refine d8 (λl=>?_) λl=>?_
   .have b:n6 t p g q a=([],nZ q.h g.h.length):=by unfold n6;rw [if_neg (eQ i),if_neg aD,if_pos (by rw [<- f];exact l)]
    exact wv (h:=k _ _ (by simp [go_sem,b,f]))
   .have h7':nZ q.h g.h.length=0:=by rw [<- f];exact l
    refine wo (h:=aB (CZ q.i p.i.length g.i.length) wl ?_);refine d8 (λj=>?_) λj=>?_
    .have b:n6 t p g q a=([],nZ q.i g.i.length):=by unfold n6;rw [if_neg (eQ i),if_neg aD,if_neg aD,if_pos (by rw [<- e];exact j)]
     exact wv (h:=k _ _ (by simp [go_sem,b,e]))
    .have h10':nZ q.i g.i.length=0:=by rw [<- e];exact j
     obtain ⟨L,n⟩:=fD ((zR ⟨t,p,g,q.h,q.i,a⟩).take 5001);have b:n6 t p g q a=if 5000<L.length then ([],3) else (L,0):=by unfold n6;rw [if_neg (eQ i),if_neg aD,if_neg aD,if_neg aD];unfold Jc;rw [<- n]
     refine wv (h:=aB (Ve t p g hG q.h q.i hq.1 hq.2 a n) wl ?_);refine d8 (λm=>?_) λm=>?_
     .rw [if_pos aD] at b;exact wv (h:=k _ _ (by simp [go_sem,b]))
     .rw [if_neg aD] at b;exact wv (h:=k _ _ (by simp [go_sem,b]))
/-! ### the instance of a pattern -/
def IC (g:Graph)(ms ns:W3)(i:Nat):W3:=(List.range i).foldl (λacc k=>acc.set k (gN g (ms[k]?.getD 0))) ns
theorem Ax (g:Graph)(ms ns:W3):∀ i,(IC g ms ns i).length=ns.length
 | 0=>rfl
 | i+1=>by unfold IC;rw [eK,fV];exact Ax g ms ns i
theorem LC (g:Graph)(a ns:W3)(i:Nat):IC g a ns (i+1)=(IC g a ns i).set i (gN g (a[i]?.getD 0)):=by unfold IC;rw [eK]
theorem Py (g:Graph)(ms ns:W3)(k:Nat)(hk:k<ns.length):∀ i,(IC g ms ns i)[k]?=if k<i then some (gN g (ms[k]?.getD 0)) else ns[k]?
 | 0=>by simp [IC]
 | i+1=>by
  rw [LC,dA,Ax,Py g ms ns k hk i];by_cases h:i=k
  .subst h;simp [hk]
  .rw [if_neg h];by_cases h2:k<i
   .rw [if_pos h2,if_pos aD]
   .rw [if_neg h2,if_neg aD]
theorem VQ {g:Graph}{a ns:W3}(h:a.length=ns.length):IC g a ns ns.length=a.map (gN g):=by
 apply fL;intro k;by_cases b:k<ns.length
 .rw [Py g a ns k b,if_pos b,aM,aA aD];rfl
 .rw [bX (by rw [Ax];omega),bX (by simp;omega)]
def Bg (t:Types)(p g:Graph)(m:Part):Graph:=if checkE t p g m false=0 then kM p g m else ⟨[],[]⟩
theorem AZ {t:Types}{p g:Graph}{m:Part}{a:Bool}(h:matchE t p g m a=0) :
  (m.h.length=p.h.length/\m.i.length=p.i.length)/\(∀ x∈m.h,0<=x/\x<g.h.length)/\(∀ x∈m.i,0<=x/\x<g.i.length):=by
 unfold matchE at h;split at h
 .cases h
 .rename_i h1;split at h
  .exact absurd h (by assumption)
  .rename_i h2;split at h
   .exact absurd h (by assumption)
   .rename_i h3;refine ⟨aD,λx b=>?_,λx b=>?_⟩
    .obtain ⟨k,c,rfl⟩:=aQ b;have:=eI _ _ (eQ h2) k (eB _) aD;unfold mNE at this;rw [aA c,Option.getD_some] at this;split at this
     .cases this
     .omega
    .obtain ⟨k,c,rfl⟩:=aQ b;have:=eI _ _ (eQ h3) k (eB _) aD;unfold mapEE at this;rw [aA c,Option.getD_some] at this;split at this
     .cases this
     .omega
theorem rD {t:Types}{p g:Graph}{m:Part}{a:Bool}(h:checkE t p g m a=0):G17 t p g/\matchE t p g m a=0:=by
 unfold checkE at h;split at h
 .exact absurd h (by assumption)
 .rename_i h1;exact ⟨oP (eQ h1),h⟩
theorem HT (t:Types)(R:t.ok)(p g:Graph)(m:Part):Pua 194 [t.d,p.d,g.d,m.d] (.tup [(Bg t p g m).d,dI (checkE t p g m false)]):=by
 refine Tz.pK ⟨λt=>t==8||t==11,λ_=>[]⟩ func194 rfl (λQ M=>?_);have Y:=trivial;refine wv (h:=aB (Ai t R p g m false) wl ?_);refine dK (λu=>?_) λu=>?_
 .have I:Bg t p g m=⟨[],[]⟩:=by unfold Bg;rw [if_neg (eQ u)]
  exact wv (h:=M _ _ (by simp [go_sem,I]))
 .obtain ⟨N,hM⟩:=rD (eQ u);obtain ⟨⟨r,X⟩,z,U⟩:=AZ hM;have W:=bR N.gp;have V:=bR N.gg;have I:Bg t p g m=kM p g m:=by unfold Bg;rw [if_pos (eQ u)]
  refine wv (h:=?_);unfold fE;refine oD p aD aD _ _ (λa b j ha hb a2 a1 Z E D F S=>?_);have a4:(0:Nat)<j.next:=aD;have a3:a≠0:=by simp [go_sem] at ha;omega
  have a0:b≠0:=by simp [go_sem] at hb;omega
  have s:=F 0 (by simp [go_sem]);simp [go_sem] at s;have P:=Qr j.next;have J:=xa1 (bL (aD:a<j.next)) (bL (aD:b<j.next)) (bL (aD:0<j.next));have L:=xa1 (cY (aD:0≠b)) (cY (aD:0≠a)) (cY (aD:b≠a));have Y:=xa5 Y J L E D s P;refine wv (h:=aY (λi e H=>∃ c:Nat,(e 4=.adr t.c/\e 5=.adr p.c/\e 6=.adr g.c/\e 7=.adr m.c/\e 8=.ptr 0 1 0 0/\e 11=.ptr c 1 0 0/\e 12=dI i)/\(H.get 0=some ⟨51,2,[[.nil,.nil]],false⟩)/\(0<H.next)/\(H.get c=some ⟨51,2,[[.own a p.h.length,.own b p.i.length]],false⟩)/\(c<H.next)/\(H.get a=some ⟨3,1,(IC g m.h p.h i).map cI,false⟩)/\(a<H.next)/\(H.get b=some ⟨134,3,p.i.map Edge.c,false⟩)/\(b<H.next)/\(i<=p.h.length)/\(a<c/\b<c)/\((IC g m.h p.h i).length=p.h.length)) (λi=>p.h.length - i) 0 ⟨j.next,wg,wn,wn,wn,wn,(by simp [go_sem,Y,IC]),wn,wn,wn,wi,aD,(by exact Ax _ _ _ _)⟩ λI0 G i e H A=>?_);obtain ⟨c,E0,y,o,v,k,x,n,w,l,hi,hc,q⟩:=A;have K:=xa4 (cY (aD:0≠c)) (cY (aD:0≠b)) (cY (aD:0≠a)) (cY (aD:c≠b)) (cY (aD:c≠a)) (cY (aD:b≠a));have Y:=xb0 Y E0 y (bL o) v (bL k) x (bL n) w (bL l) q K;refine i7 (λO=>?_) λO=>?_
  .have him:i<m.h.length:=aD;have T:=z _ (aC him);have f:m.h[i].toNat<g.h.length:=aD;have C:gN g (m.h[i]?.getD 0)=g.h[m.h[i].toNat]:=by rw [aA him,Option.getD_some];simp [gN,aA f]
   have B:gN g m.h[i]=g.h[m.h[i].toNat]:=by simp [gN,aA f]
   have Y:=xa2 Y O (aA him) (aA f);exact wp (h:=wx G (i+1) ⟨c,wg,wn,wn,wn,wn,(by simp [go_sem,Y,LC,b6,C,B,cI]),wn,wn,wn,wj,aD,(by exact Ax _ _ _ _)⟩)
  .have hIe:i=p.h.length:=aD;have hE:=VQ (g:=g) r;rw [hIe] at q;exact wv (h:=M _ _ (by simp [go_sem,Y,I,kM,Graph.d,Graph.c,hIe,hE,dLI,r,u]))
end Go.Abs
end
section
namespace Go.Abs
theorem RepV.dA {M:Nat->Prop}{σ:Nat->Option Ow}{N:Nat->Prop}{w:World}{m:Nat->Prop}{σ':Nat->Option Ow}{l:Nat->Prop}{w':World}{v:Value}{d:D}(h:RepV M σ N w v d) :
  ∀ v',RepV m σ' l w' v' d->RepV M σ (λi=>N i/\l i) w v d:=by
 induction h with
 | int=>exact λ_ _=>.int _ _
 | bool=>exact λ_ _=>.bool _
 | str=>exact λ_ _=>.str _
 | agg vs ds hl h1 hr ih =>
  intro v' b;cases b with
  | agg vs' _ hl' h1' hr' =>
   exact .agg vs ds hl h1 λj u x c a=>by
    have e:j<vs'.length:=by rw [hl'];exact (aP.1 a).1
    exact ih j u x c a vs'[j] (hr' j _ x (aA e) a)
 | tup vs ds hl hr ih =>
  intro v' b;cases b with
  | tup vs' _ hl' hr' =>
   exact .tup vs ds hl λj u x c a=>by
    have e:j<vs'.length:=by rw [hl'];exact (aP.1 a).1
    exact ih j u x c a vs'[j] (hr' j _ x (aA e) a)
 | nil=>exact λ_ _=>.nil
 | listN=>exact λ_ _=>.listN
 | list ad cap sz xs es hc hm hsz hl h1 hcell hr ih =>
  intro v' b;cases b with
  | listN=>exact .list ad cap sz xs [] hc hm hsz hl h1 hcell λj u x c a=>by simp at a
  | list ad' cap' sz' xs' _ hc' hm' hsz' hl' h1' hcell' hr' =>
   exact .list ad cap sz xs es hc hm hsz hl h1 hcell λj u x c a=>by
    have e:j<xs'.length:=by rw [hl'];exact (aP.1 a).1
    exact ih j u x c a xs'[j] (hr' j _ x (aA e) a)
 | adr ad xs ds hl h1 hcell hr ih =>
  intro v' b;cases b with
  | adr ad' xs' _ hl' h1' hcell' hr' =>
   exact .adr ad xs ds hl h1 hcell λj u x c a=>by
    have e:j<xs'.length:=by rw [hl'];exact (aP.1 a).1
    exact ih j u x c a xs'[j] (hr' j _ x (aA e) a)
 | ne ad cap hm=>exact λ_ _=>.ne ad cap hm
 | nilp=>exact λ_ _=>.nilp
 | ptr v id ver i off hN h1 h =>
  intro v' b;cases b with
  | ptr _ _ _ _ _ hN' _ _=>exact .ptr v id ver i off ⟨hN,hN'⟩ h1 h
 | own v id n hN h1 h =>
  intro v' b;cases b with
  | own _ _ _ hN' _ _=>exact .own v id n ⟨hN,hN'⟩ h1 h
 | win v id ver lo hi hN h1 hlh h =>
  intro v' b;cases b with
  | win _ _ _ _ _ hN' _ _ _=>exact .win v id ver lo hi ⟨hN,hN'⟩ h1 hlh h
 | fn f vs ds hl hr ih =>
  intro v' b;cases b with
  | fn _ vs' _ hl' hr' =>
   exact .fn f vs ds hl λj u x c a=>by
    have e:j<vs'.length:=by rw [hl'];exact (aP.1 a).1
    exact ih j u x c a vs'[j] (hr' j _ x (aA e) a)
 | nilf=>exact λ_ _=>.nilf
 | opt v g d hf h ih =>
  intro v' b;cases b with
  | opt _ _ _ hf' h''=>exact .opt v g d hf λk=>ih k v' (h'' k)
 | cst v=>exact λ_ _=>.cst v
 | junk v=>exact λ_ _=>.junk v
def BV (τ:Nat->Nat):D->D
 | .own id n=>.own (τ id) n
 | d=>d
def ZR (A:Nat->Prop):D->Prop
 | .own id _=>A id
 | d=>d.P=true
def Vi (τ:Nat->Nat):D->D
 | .agg cs=>.agg (cs.map (BV τ))
 | d=>BV τ d
def okC (A:Nat->Prop):D->Prop
 | .agg cs=>∀ c∈cs,ZR A c
 | d=>ZR A d
theorem RepV.b5 {M f:Nat->Prop}{σ1 σE:Nat->Option Ow}{q A:Nat->Prop}{w:World}{τ:Nat->Nat}{v:Value}{d:D}(h:RepV M σ1 q w v (BV τ d))(a:ZR A d)(i:∀ j,A j->σE j=σ1 (τ j))(p:∀ b,¬ M b->¬ f b):RepV f σE A w v d:=by
 by_cases c:∃ id n,d=.own id n
 .obtain ⟨id,n,rfl⟩:=c;cases h with
  | own _ _ _ hN h1 h=>exact .own v id n a h1 λo l=>h o (by rw [<- i id a];exact l)
 .have e:BV τ d=d:=by cases d<;>first|rfl|exact absurd ⟨_,_,rfl⟩ c
  have m:d.P=true:=by cases d<;>first|exact a|exact absurd ⟨_,_,rfl⟩ c
  rw [e] at h;exact h.aQ (λr u k g=>⟨p _ k,g⟩) m
theorem RepV.cM {M l:Nat->Prop}{σ1 σE:Nat->Option Ow}{o A:Nat->Prop}{w:World}{τ:Nat->Nat}{v:Value}{d:D}(h:RepV M σ1 o w v (Vi τ d))(a:okC A d)(i:∀ j,A j->σE j=σ1 (τ j))(k:∀ b,¬ M b->¬ l b):RepV l σE A w v d:=by
 by_cases c:∃ f,d=.agg f
 .obtain ⟨f,rfl⟩:=c;cases h with
  | agg vs _ hl h1 hr =>
   exact .agg vs f (eQ hl) h1 λj u x m g=>(hr j u (BV τ x) m (by rw [aM,g];rfl)).b5 (a x (aL g)) i k
 .have e:Vi τ d=BV τ d:=by cases d<;>first|rfl|exact absurd ⟨_,rfl⟩ c
  have n:okC A d=ZR A d:=by cases d<;>first|rfl|exact absurd ⟨_,rfl⟩ c
  rw [e] at h;rw [n] at a;exact h.b5 a i k
structure Exact (H H1 E:AHeap) (τ:Nat->Nat):Prop where
 nx:∀ j,E.F j->j<E.next
 inj:∀ i j,E.F i->E.F j->τ i=τ j->i=j
 aX:∀ j,H.F j->E.F j/\τ j=j
 dF:∀ j,¬ E.F j->E.get j=none
 dP:∀ j k,E.get j=some k->(H.F j/\H.get j=some k/\H1.get j=some k) \/
  (∃ k0,H1.get (τ j)=some k0/\k0.ty=k.ty/\k0.Y=k.Y/\k0.fz=k.fz/\k0.U=k.U.map (·.map (BV τ))/\∀ c∈k.U,∀ y∈c,ZR E.F y)
theorem ACalls.exact {P:Program}{f:FuncId}{args:UN}{H E:AHeap}{r:D}{Q:D→AHeap→Prop}(h:ACalls P f args H Q)
  (hQ:(∀ j,H.F j→j<H.next)→(∀ j,¬ H.F j→H.get j=none)→∀ d H1,Q d H1→∃ τ,Exact H H1 E τ∧d=Vi τ r∧okC E.F r):ACalls P f args H fun d H1=>d=r∧H1=E :=
 ⟨h.1,fun M0 σ w vals hR ha=>(h.2 M0 σ w vals hR ha).mono fun e w' ⟨v,d,H1,σ1,he,hR1,hv,hst,hk,hq⟩=>by
  obtain ⟨τ,X,rfl,hok⟩:=hQ hR.bf (fun j hj=>(hR.bp j hj).2) d H1 hq
  classical
  obtain ⟨σE,hσ⟩:∃ σE:Nat→Option Ow,∀ j,σE j=if E.F j then σ1 (τ j) else none:=⟨fun j=>if E.F j then σ1 (τ j) else none,fun _=>rfl⟩
  have hs:∀ j,E.F j→σE j=σ1 (τ j):=fun j hj=>by rw [hσ,if_pos hj]
  have hsn:∀ j,¬ E.F j→σE j=none:=fun j hj=>by rw [hσ,if_neg hj]
  have hal:∀ j o,σE j=some o→E.F j:=fun j o ho=>bB fun hn=>by rw [hsn j hn] at ho;cases ho
  have halg:∀ j k,E.get j=some k→E.F j:=fun j k ho=>bB fun hn=>by rw [X.dF j hn] at ho;cases ho
  have hmut:∀ b,¬ dJ M0 H1 σ1 b→¬ dJ M0 E σE b:=by
   rintro b hm (h0|⟨j,k,o,hk',hf,ho,hb⟩)
   ·exact hm (.inl h0)
   ·rw [hs j (halg j k hk')] at ho
    rcases X.dP j k hk' with ⟨h1,h2,h3⟩|⟨k0,h1,h2,h3,h4,_⟩
    ·rw [(X.aX j h1).2] at ho
     exact hm (.inr ⟨j,k,o,h3,hf,ho,hb⟩)
    ·exact hm (.inr ⟨τ j,k0,o,h1,h4.trans hf,ho,hb⟩)
  have hkE:Keeps (dJ M0 H σ) σ H.F w (dJ M0 E σE) σE E.F w':=by
   refine ⟨fun ad u hm hu=>?_,fun id o' hid ho'=>?_,fun id hid=>(X.aX id hid).1⟩
   ·obtain ⟨a1,a2⟩:=hk.cell ad u hm hu;exact ⟨hmut _ a1,a2⟩
   ·rw [hs id (X.aX id hid).1,(X.aX id hid).2] at ho';exact hk.own id o' hid ho'
  have hkS:Keeps (dJ M0 H1 σ1) σ1 (fun i=>H1.F i∧H.F i) w' (dJ M0 E σE) σE E.F w':=by
   refine ⟨fun ad u hm hu=>⟨hmut _ hm,hu⟩,fun id o' hid ho'=>?_,fun id hid=>(X.aX id hid.2).1⟩
   rw [hs id (X.aX id hid.2).1,(X.aX id hid.2).2] at ho';exact ⟨o',ho',.inl rfl⟩
  have hRE:Rel M0 E σE w':=by
   refine ⟨fun j hj=>⟨hsn j hj,X.dF j hj⟩,X.nx,fun j k hk'=>?_,fun i j o o' b hi hj hb hb'=>?_,fun i o b hi hb=>?_,hR1.m0⟩
   ·have hj:=halg j k hk'
    rcases X.dP j k hk' with ⟨h1,h2,h3⟩|⟨k0,h1,h2,h3,h4,h5,h6⟩
    ·obtain ⟨o,ho,l⟩:=hR1.ah j k h3
     obtain ⟨o0,ho0,l0⟩:=hR.ah j k h2
     obtain ⟨xs,a1,a2,a3⟩:=l.row
     obtain ⟨ys,b1,b2,b3⟩:=l0.row
     refine ⟨o,by rw [hs j hj,(X.aX j h1).2];exact ho,l.af,l.ty,l.Y,l.H,xs,a1,a2,a3.len,fun q u d hu hd=>?_⟩
     have hq':q<ys.length:=by rw [b3.len];exact (Abs.aP.1 hd).1
     exact ((a3.Z q u d hu hd).dA _ (b3.Z q ys[q] d (aA hq') hd)).q hkS
    ·obtain ⟨o,ho,l⟩:=hR1.ah (τ j) k0 h1
     obtain ⟨xs,a1,a2,a3⟩:=l.row
     have hlen:k0.U.length=k.U.length:=by rw [h5,aT]
     have hfl:k0.U.flatten=k.U.flatten.map (BV τ):=by rw [h5];exact List.map_flatten.symm
     refine ⟨o,by rw [hs j hj];exact ho,by rw [l.af,hlen],by rw [l.ty,h2],by rw [l.Y,h3],fun c hc=>?_,xs,by rw [← h2,← hlen];exact a1,a2,by rw [a3.len,hfl,aT],fun q u d hu hd=>?_⟩
     ·have:=l.H (c.map (BV τ)) (by rw [h5];exact pA hc)
      rwa [aT] at this
     ·have hd2:k0.U.flatten[q]?=some (BV τ d):=by rw [hfl,aM,hd];rfl
      obtain ⟨c,hc,hdc⟩:=jE.1 (aL hd)
      exact (a3.Z q u _ hu hd2).b5 (h6 c hc d hdc) hs hmut
   ·have hi':=hal i o hi
    have hj':=hal j o' hj
    rw [hs i hi'] at hi;rw [hs j hj'] at hj
    exact X.inj i j hi' hj' (hR1.inj _ _ o o' b hi hj hb hb')
   ·rw [hs i (hal i o hi)] at hi
    exact hR1.lt (τ i) o b hi hb
  refine ⟨v,r,E,σE,he,hRE,hv.cM hok hs hmut,⟨hst.os,hst.tape,hst.output,hst.size,hst.aX,fun i o' b ho hb=>?_⟩,hkE,rfl,rfl⟩
  rw [hs i (hal i o' ho)] at ho
  exact hst.new (τ i) o' b ho hb⟩
end Go.Abs
end
section
set_option maxRecDepth 100000
set_option maxHeartbeats 4000000
open Go Go.Proofs Tryz
namespace Go.Abs
structure SmallA (x:Attr):Prop where
 lo : -1000000<=x.aw
 hi:x.ax<=1000000
 le:x.aw<=x.ax
theorem GB {x:Attr}{b:List Attr}(h:dQ x b=0):SmallA x:=by
 unfold dQ at h;split at h<;>try (cases h;done)
 split at h<;>try (cases h;done)
 split at h
 .exact absurd h (by assumption)
 .rename_i h3;split at h
  .rename_i h4;split at h
   .rename_i h5;have a:x.ad.length<=20:=by
     refine bB λc=>h3 ?_;unfold oN;rw [if_pos aD];decide
    simp at h5;exact ⟨aD,aD,aD⟩
   .cases h
  .split at h
   .rename_i h5;simp at h5;exact ⟨aD,aD,aD⟩
   .cases h
theorem Pe {t:Types}{a:Nat}(b:a<t.h.length)(h:iG t a=0):∀ k,(t.r a).length - t.h[a].r.length<=k->∀ hk:k<(t.r a).length,SmallA (t.r a)[k]:=by
 rw [Dg t a b] at h;split at h<;>try (cases h;done)
 split at h<;>try (cases h;done)
 split at h<;>try (cases h;done)
 split at h<;>try (cases h;done)
 split at h<;>try (cases h;done)
 intro k c hk;have:=eI _ _ h k c aD;unfold BL at this;rw [aA hk] at this;exact GB this
theorem Qe {t:Types}(g:(cW t).2=0):∀ a:Nat,a<t.h.length->∀ x∈t.r a,SmallA x:=by
 have c:=mW g;have f:∀ j,j<t.h.length->iG t j=0:=by
  have h:=g;unfold cW at h;split at h
  .simp at h
  .split at h
   .simp at h
   .obtain ⟨f,_⟩:=s7 _ _ h;exact λj p=>f j aD aD
 intro a;induction a using Nat.strongRecOn with
 | _ a ih =>
 intro e x m;have b:=EU t a e (c.ap a);have i:=c.D a _ (aA e);obtain ⟨k,l,rfl⟩:=aQ m;by_cases q:k<(t.r a).length - t.h[a].r.length
 .by_cases hp:0<=t.h[a].D
  .rw [if_pos hp] at b;have n:(t.r a).length=(t.r t.h[a].D.toNat).length+t.h[a].r.length:=by rw [b];simp
   have d:k<(t.r t.h[a].D.toNat).length:=aD;have o:(t.r a)[k]=(t.r t.h[a].D.toNat)[k]:=by
    have:(t.r a)[k]?=(t.r t.h[a].D.toNat)[k]?:=by rw [b,aR d]
    rw [aA l,aA d] at this;exact Option.some.inj this
   rw [o];exact ih _ aD aD _ (aC d)
  .rw [if_neg hp] at b;have n:(t.r a).length=t.h[a].r.length:=by rw [b];simp
   omega
 .exact Pe e (f a e) k aD l
theorem LY {t:Types}(c:t.aj):∀ b:Nat,b<t.h.length->∀ a:Nat,mem (t.ao b) (a:Int)=true->∃ r,t.r b=t.r a++r:=by
 intro b;induction b using Nat.strongRecOn with
 | _ b ih =>
 intro d a hm;have e:=c.D b _ (aA d);rw [As t b d (c.ap b),xC,cZ] at hm;rcases hm with hm|hm
 .by_cases h0:0<=t.h[b].D
  .rw [if_pos h0] at hm;obtain ⟨r,f⟩:=ih t.h[b].D.toNat aD aD a hm;exact ⟨r++t.h[b].r,by rw [EU t b d (c.ap b),if_pos h0,f,List.append_assoc]⟩
  .rw [if_neg h0,yP] at hm;cases hm
 .simp at hm;have:a=b:=aD;subst this;exact ⟨[],by simp⟩
structure SOk (p:Pattern) (h:Host) (m:Part):Prop where
 vars:0<=p.vars/\p.vars<=12
 node:∀ s∈p.l,0<=s.node/\s.node<m.h.length
 bj:∀ k∈m.h,0<=k/\k<h.k.length
 J:∀ s∈p.l,0<=s.J/\s.J<(h.k[(m.h[s.node.toNat]?.getD 0).toNat]?.getD []).length
 aW:∀ l∈h.k,∀ v∈l,-1000000<=v/\v<=1000000
 x:∀ s∈p.l,qH s.x p.vars.toNat
 test:∀ x∈p.G,JF x p.vars.toNat
end Go.Abs
end
