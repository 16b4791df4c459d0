/- Layer 26 of the reference: grow and put. · Layer 26 of the r -/
import Derived.Test.YthlnbehgghjppaaGreatZrAG
import Derived.Test.YthlnbehgghjppaaGreatZrAA
import Derived.Test.YthlnbehgghjppaaGreatZrAR
set_option linter.unusedVariables false
set_option linter.unusedSimpArgs false
section
set_option maxRecDepth 100000
set_option maxHeartbeats 4000000
open Go Go.Proofs Tryz
namespace Go.Abs
theorem jG (l:Xa0)(i:Nat):aN l (i+1)=aN l i++if mem l i=true then [] else [(i:Int)]:=by
 unfold aN;rw [dM,jY,List.map_append];congr 1;simp only [List.filter_cons,List.filter_nil];split<;>simp_all
def GN (t:Types)(r:Rule)(x:Host)(i:Nat):Host :=
 ⟨⟨x.j.h++(aN r.A.h i).map (gN r.right.j),x.j.i⟩,x.k++(aN r.A.h i).map (λk=>oU t (gN r.right.j k))⟩
def Q7 (t:Types)(r:Rule)(c:Part)(x:Host)(i:Nat):Host:=⟨⟨x.j.h,x.j.i++(aN r.A.i i).map (λk=>freshE c (r.right.j.i[k.toNat]?.getD bX))⟩,x.k⟩
theorem Fv (t:Types)(ht:t.ok)(r:Rule)(hR:RuleV t r)(u:Host)(c:Part)(hc:c.h.length=r.right.j.h.length)(hs:u.j.h.length<=1000/\u.j.i.length<=1000/\u.k.length<=1000)
  (G:AHeap) (lo a b V:Nat) (f:List Nat) (q:HH G lo a b V f u) (Q:D->AHeap->Prop)
  (hQ:∀ ns H',(∀ j∈ns,G.next<=j)->HH H' lo a b V (f++ns) (kP t r c u)->(∀ j,j<G.next->j∉a :: b :: V :: f->H'.get j=G.get j)->G.next<=H'.next->Q (.agg [.own a (kP t r c u).j.h.length,.own b (kP t r c u).j.i.length,.own V (kP t r c u).k.length]) H') :
  ACalls prog 92 [t.d,r.d,.agg [.own a u.j.h.length,.own b u.j.i.length,.own V u.k.length],c.d] G Q:=by
 have e6:=aY hR.gr;have d3:=dO hR.gr;have e9:=q.ac a q.bc;have e7:=q.ac b q.bb;have f0:=q.ac V q.bi;have e8:=q.ab;have v:∀ j,j∉a :: b :: V :: f->j≠a/\j≠b/\j≠V:=λj hj=>by simp only [aS,not_or] at hj;exact ⟨hj.1,hj.2.1,hj.2.2.1⟩
 refine (Tz.cK ⟨λt=>t==6||t==8||t==9||t==13||t==16||t==1000001,λr=>match r with|6=>[(0,8),(1,8),(2,8)]|19=>[(0,18),(1,18),(2,18)]|_=>[]⟩ func92 rfl ?_);have Y:=wa @Part.d.eq_1 @Part.c.eq_1;refine wv (h:=bC (λi e H=>∃ X:Nat,∃ R:Nat,∃ m:Nat,∃ x:Host,∃ ns:List Nat,(e 4=.adr t.c/\e 5=.adr r.c/\e 7=.adr c.c/\e 6=.ptr X 1 0 0/\e 8=.ptr R 1 0 0/\e 9=.ptr m 1 0 0/\e 10=dI i)/\(H.get X=some ⟨50,3,[[.own a x.j.h.length,.own b x.j.i.length,.own V x.k.length]],false⟩)/\(X<H.next)/\(H.get R=some ⟨50,3,[[.nil,.nil,.nil]],false⟩)/\(R<H.next)/\(H.get m=some ⟨29,2,[[dLI r.right.j.h,.list (r.right.j.i.map Edge.c)]],false⟩)/\(m<H.next)/\(i<=r.right.j.h.length)/\(HH H lo a b V (f++ns) x)/\(x=GN t r u i)/\(∀ j∈a :: b :: V :: (f++ns),j≠X/\j≠R/\j≠m)/\(∀ j∈ns,G.next<=j)/\(G.next<=X/\X<R/\R<m)/\(∀ j,j<G.next->j∉a :: b :: V :: f->H.get j=G.get j)/\(G.next<=H.next)) (λi=>r.right.j.h.length - i) 0 ⟨G.next,(G.next+1),(G.next+2),u,([]),wg,wn,wn,wn,wn,wn,wn,wi,(by rw [cZ];refine q.same (by simp [go_sem];omega) (λj hj=>by have:=(q.ac j hj).2;simp [go_sem,bP this])),(by simp [GN,aN]),(by intro j hj;rw [cZ] at hj;have:=(q.ac j hj).2;omega),(by intro j hj;cases hj),bZ,(by intro j hj _;simp [go_sem,bP hj]),(by simp [go_sem];omega)⟩ λI0 c2 i e H d1=>?_);obtain ⟨X,R,m,x,ns,E0,gX_0,nX_0,gR_0,nR_0,gYb_0,nYb_0,hi,B,hx,A,I,b9,hG,a3⟩:=d1;have d9:=xa2 (dE (bZ:m≠R)) (dE (bZ:m≠X)) (dE (bZ:m≠V)) (xb0 (dE (bZ:m≠b)) (dE (bZ:m≠a)) (dE (bZ:R≠X)) (dE (bZ:R≠V)) (dE (bZ:R≠b)) (dE (bZ:R≠a)) (dE (bZ:X≠V)) (dE (bZ:X≠b)) (dE (bZ:X≠a)) (dE (bZ:V≠b)) (dE (bZ:V≠a)) (dE (bZ:b≠a)));have Y:=xa7 Y E0 gX_0 (bP nX_0) gR_0 (bP nR_0) gYb_0 (bP nYb_0) d9;refine kI (λh3=>?_) λh3=>?_
 .have hsu:=jG r.A.h i;obtain ⟨nd,b0⟩:∃ y,y=r.right.j.h[i]:=⟨_,rfl⟩;have d2:gN r.right.j (i:Int)=nd:=by rw [b0];simp [gN,aA h3]
  have c9:=dJ r.A.h i;have c5:x.j.h.length<=2000/\x.k.length<=2000/\x.j.i.length<=2000:=by rw [hx];simp [GN];omega
  have Y:=xa2 Y h3 (aA h3) (Eq.symm b0);refine wp (h:=aB (BQ r.A.h i) wl ?_);refine kI (λh5=>?_) λh5=>?_
  .have hm:mem r.A.h i=true:=by simpa using h5
   rw [if_pos hm,cZ] at hsu;obtain ⟨s,l⟩:∃ y,y=x:=⟨_,rfl⟩;obtain ⟨C,n⟩:∃ y,y=ns:=⟨_,rfl⟩;have E:s=GN t r u (i+1):=by rw [l,hx];unfold GN;rw [hsu]
   have K:HH H lo a b V (f++C) s:=by rw [l,n];exact B
   have N:∀ j∈a :: b :: V :: (f++C),j≠X/\j≠R/\j≠m:=by rw [n];exact A
   have O:=hG;have Y:=wa Y l;exact wp (h:=wx c2 (i+1) ⟨X,R,m,s,C,wg,wn,wn,wn,wn,wn,wn,wj,(by first|exact K|(rw [n,<- List.append_assoc,l];exact w.cq (by first|(simp [go_sem];done)|(simp [go_sem];omega)) bZ U (by first|(simp [go_sem];done)|(simp [go_sem];omega)) (by simp [go_sem,Y,o]) (by simp [go_sem,Y,o]) (λj hj=>by obtain ⟨S,P⟩:=M j hj;simp [go_sem,S,P]))),(by exact E),(by exact N),(by rw [n];first|exact I|(intro j hj;rw [bE,bU] at hj;rcases hj with hj|rfl;exact I j hj;exact a1.2)),(by exact b9),(by first|exact O|(intro j hj g;obtain ⟨ja,jb,jV⟩:=v j g;simp [go_sem,jV,(bZ:j≠X)];exact a5 j hj g)),(by first|exact a3|(simp [go_sem];omega))⟩)
  .have hm:¬ mem r.A.h i=true:=by simpa using h5
   rw [if_neg hm] at hsu;have b4:=B.ga;have b6:=B.gV;have c6:=kC B.len;have e2:=B.ac a B.bc;have e3:=B.ac V B.bi;have c7:=B.ac b B.bb;have e0:(bV t nd).length<=8:=uS hR.vf nd;have d6:=xa1 (bP (bZ:a<H.next)) (bP (bZ:b<H.next)) (bP (bZ:V<H.next));have b7:∀ j∈b :: V :: (f++ns),j≠a/\j≠X/\j<H.next:=λj hj=>by
    have J:j∈a :: b :: V :: (f++ns):=cX _ hj;refine ⟨?_,(A j J).1,(B.ac j J).2⟩;rintro rfl;have:=B.nd;rw [gZ] at this;exact this.1 hj
   have Y:=xa4 Y h5 b4 b6 c6 d6;refine wp (h:=aI (sA t ht nd) wl ?_);refine wp (h:=bC (λk e H=>∃ W:Nat,(e 4=.adr t.c/\e 5=.adr r.c/\e 7=.adr c.c/\e 6=.ptr X 1 0 0/\e 8=.ptr R 1 0 0/\e 9=.ptr m 1 0 0/\e 10=dI i/\e 11=.list ((bV t nd).map Attr.c)/\e 13=.own W k/\e 14=dI k)/\(H.get X=some ⟨50,3,[[.own a (x.j.h.length+1),.own b x.j.i.length,.own V x.k.length]],false⟩)/\(X<H.next)/\(H.get R=some ⟨50,3,[[.nil,.nil,.nil]],false⟩)/\(R<H.next)/\(H.get m=some ⟨29,2,[[dLI r.right.j.h,.list (r.right.j.i.map Edge.c)]],false⟩)/\(m<H.next)/\(H.get W=some ⟨3,1,(((bV t nd).take k).map λa=>a.ax).map cI,false⟩)/\(W<H.next)/\(k<=(bV t nd).length)/\(HH H lo a b V (f++ns) ⟨⟨x.j.h++[nd],x.j.i⟩,x.k⟩)/\(∀ j∈a :: b :: V :: (f++ns),j≠W)/\((lo<=W/\m<W)/\G.next<=W)/\(∀ j,j<G.next->j∉a :: b :: V :: f->H.get j=G.get j)/\(G.next<=H.next)) (λk=>(bV t nd).length - k) 0 ⟨(H.next+13+12),wg,wn,wn,wn,wn,wn,wn,(by simp [go_sem]),wn,wi,(by exact B.h (by first|(simp [go_sem];done)|(simp [go_sem];omega)) (by simp [go_sem,Y,cI]) (λj hj=>by obtain ⟨S,P,k3⟩:=b7 j hj;simp [go_sem,S,P,bP k3])),(by intro j hj;have:=(B.ac j hj).2;omega),(by omega),(by intro j hj g;obtain ⟨ja,jb,jV⟩:=v j g;simp [go_sem,ja,(bZ:j≠X),bP (bZ:j<H.next)];exact hG j hj g),(by simp [go_sem];omega)⟩ λI2 d4 k e H d0=>?_);obtain ⟨W,E2,gX_2,nX_2,gR_2,nR_2,gYb_2,nYb_2,gW_2,nW_2,hk,w,U,a1,a5,e5⟩:=d0;have d8:=xa8 (dE (bZ:W≠m)) (dE (bZ:W≠R)) (dE (bZ:W≠X)) (dE (bZ:W≠V)) (dE (bZ:W≠b)) (dE (bZ:W≠a)) (dE (bZ:m≠R)) (dE (bZ:m≠X)) (dE (bZ:m≠V)) (xb0 (dE (bZ:m≠b)) (dE (bZ:m≠a)) (dE (bZ:R≠X)) (dE (bZ:R≠V)) (dE (bZ:R≠b)) (dE (bZ:R≠a)) (dE (bZ:X≠V)) (dE (bZ:X≠b)) (dE (bZ:X≠a)) (dE (bZ:V≠b)) (dE (bZ:V≠a)) (dE (bZ:b≠a)));have Y:=xa9 Y E2 gX_2 (bP nX_2) gR_2 (bP nR_2) gYb_2 (bP nYb_2) gW_2 (bP nW_2) d8;refine kI (λa0=>?_) λa0=>?_
   .have hst:((bV t nd).take (k+1)).map (λa=>a.ax)=((bV t nd).take k).map (λa=>a.ax)++[(bV t nd)[k].ax]:=by rw [aF a0,List.map_append];rfl
    have Y:=xa2 Y a0 (aA a0) @Attr.c.eq_1;exact wp (h:=wx d4 (k+1) ⟨W,wg,wn,wn,wn,wn,wn,wn,(by simp [go_sem,Y,hst,cI]),wn,wj,(by exact w.same (by simp [go_sem]) (λj hj=>by have:=U j hj;simp [go_sem,this])),(by exact U),bZ,(by intro j hj g;simp [go_sem,(bZ:j≠W)];exact a5 j hj g),(by simp [go_sem];omega)⟩)
   .have hke:k=(bV t nd).length:=bZ;have b5:=w.gV;rw [aH bZ] at gW_2;obtain ⟨s,l⟩:∃ y:Host,y=⟨⟨x.j.h++[nd],x.j.i⟩,x.k++[oU t nd]⟩:=⟨_,rfl⟩;obtain ⟨C,n⟩:∃ y,y=ns++[W]:=⟨_,rfl⟩;have E:s=GN t r u (i+1):=by rw [l,hx];unfold GN;rw [hsu];simp [d2]
    have N:∀ j∈a :: b :: V :: (f++C),j≠X/\j≠R/\j≠m:=λj hj=>by
     have e:a :: b :: V :: (f++C)=(a :: b :: V :: (f++ns))++[W]:=by rw [n];simp
     rw [e,bE,bU] at hj;rcases hj with hj|rfl
     .exact A j hj
     .omega
    have a2:s.j.h.length=x.j.h.length+1/\s.j.i.length=x.j.i.length/\s.k.length=x.k.length+1:=by rw [l];simp
    have M:∀ j∈a :: b :: (f++ns),j≠V/\j≠X:=λj hj=>by
     simp only [aS] at hj;rcases hj with rfl|rfl|hj
     .exact ⟨bZ,(A _ w.bc).1⟩
     .exact ⟨bZ,(A _ w.bb).1⟩
     .exact ⟨(w.qn hj).2.2,(A _ (w.a6 hj)).1⟩
    have o:oU t nd=(bV t nd).map λa=>a.ax:=rfl;have Y:=xa2 Y b5 a2 hke;exact wp (h:=wx c2 (i+1) ⟨X,R,m,s,C,wg,wn,wn,wn,wn,wn,wn,wj,(by first|exact K|(rw [n,<- List.append_assoc,l];exact w.cq (by first|(simp [go_sem];done)|(simp [go_sem];omega)) bZ U (by first|(simp [go_sem];done)|(simp [go_sem];omega)) (by simp [go_sem,Y,o]) (by simp [go_sem,Y,o]) (λj hj=>by obtain ⟨S,P⟩:=M j hj;simp [go_sem,S,P]))),(by exact E),(by exact N),(by rw [n];first|exact I|(intro j hj;rw [bE,bU] at hj;rcases hj with hj|rfl;exact I j hj;exact a1.2)),(by exact b9),(by first|exact O|(intro j hj g;obtain ⟨ja,jb,jV⟩:=v j g;simp [go_sem,jV,(bZ:j≠X)];exact a5 j hj g)),(by first|exact a3|(simp [go_sem];omega))⟩)
 .have hie:i=r.right.j.h.length:=bZ;have b3:=B.gb;have c9:=dJ r.A.h i;have c5:x.j.i.length<=1000:=by rw [hx];exact hs.2.1
  have Y:=wa Y b3;refine wv (h:=bC (λi e H=>∃ x:Host,(e 4=.adr t.c/\e 5=.adr r.c/\e 7=.adr c.c/\e 6=.ptr X 1 0 0/\e 8=.ptr R 1 0 0/\e 9=.ptr m 1 0 0/\e 15=dI i)/\(H.get X=some ⟨50,3,[[.own a x.j.h.length,.own b x.j.i.length,.own V x.k.length]],false⟩)/\(X<H.next)/\(H.get R=some ⟨50,3,[[.nil,.nil,.nil]],false⟩)/\(R<H.next)/\(H.get m=some ⟨29,2,[[dLI r.right.j.h,.list (r.right.j.i.map Edge.c)]],false⟩)/\(m<H.next)/\(i<=r.right.j.i.length)/\(HH H lo a b V (f++ns) x)/\(x=Q7 t r c (GN t r u r.right.j.h.length) i)/\(∀ j,j<G.next->j∉a :: b :: V :: f->H.get j=G.get j)/\(G.next<=H.next)) (λi=>r.right.j.i.length - i) 0 ⟨x,wg,wn,wn,wn,wn,wn,wn,wi,(by exact B),(by rw [hx,hie];simp [Q7,aN]),(by exact hG),(by exact a3)⟩ λI4 c1 i e H b1=>?_);obtain ⟨x,E4,gX_4,nX_4,gR_4,nR_4,gYb_4,nYb_4,b1,p,T,Z,a4⟩:=b1;have d7:=xa2 (dE (bZ:m≠R)) (dE (bZ:m≠X)) (dE (bZ:m≠V)) (xb0 (dE (bZ:m≠b)) (dE (bZ:m≠a)) (dE (bZ:R≠X)) (dE (bZ:R≠V)) (dE (bZ:R≠b)) (dE (bZ:R≠a)) (dE (bZ:X≠V)) (dE (bZ:X≠b)) (dE (bZ:X≠a)) (dE (bZ:V≠b)) (dE (bZ:V≠a)) (dE (bZ:b≠a)));have Y:=xa7 Y E4 gX_4 (bP nX_4) gR_4 (bP nR_4) gYb_4 (bP nYb_4) d7;refine kI (λF=>?_) λF=>?_
  .have hsu:=jG r.A.i i;obtain ⟨y,hy⟩:=fH (r.right.j.i[i]);have c4:r.right.j.i[(i:Int).toNat]?.getD bX=y:=by rw [hy];simp [aA F]
   have a9:r.right.j.i[i]?.getD bX=y:=by rw [hy,aA F];rfl
   have c3:=(d3.2 _ (aC F)).2;rw [<- hy] at c3;have a8:y.B.toNat<c.h.length:=bZ;have a7:y.O.toNat<c.h.length:=bZ;have e4:=dJ r.A.i i;have e1:x.j.i.length<=2000:=by rw [T];simp [Q7,GN];omega
   have b2:=p.gb;have c7:=p.ac b p.bb;have d5:=bP (bZ:b<H.next);have Y:=xa7 Y F (aA F) (Eq.symm hy) (aA a8) (aA a7) b2 @Edge.c.eq_1 d5;refine wv (h:=aB (BQ r.A.i i) wl ?_);refine c8 (λa6=>?_) λa6=>?_
   .have hm:¬ mem r.A.i i=true:=by simpa using a6
    rw [if_neg hm] at hsu;have b8:freshE c y=⟨y.type,c.h[y.B.toNat],c.h[y.O.toNat]⟩:=by unfold freshE;rw [aA a8,aA a7];rfl
    obtain ⟨s,l⟩:∃ z:Host,z=⟨⟨x.j.h,x.j.i++[freshE c y]⟩,x.k⟩:=⟨_,rfl⟩;have E:s=Q7 t r c (GN t r u r.right.j.h.length) (i+1):=by rw [l,T];unfold Q7;rw [hsu];simp [c4,a9]
    have a2:s.j.h.length=x.j.h.length/\s.j.i.length=x.j.i.length+1/\s.k.length=x.k.length:=by rw [l];simp
    have L:∀ j∈a :: V :: (f++ns),j≠b/\j≠X/\j<H.next:=λj hj=>by
     have J:j∈a :: b :: V :: (f++ns):=by simp only [aS] at hj ⊢;rcases hj with h|h|h<;>simp [h]
     refine ⟨?_,(A j J).1,(p.ac j J).2⟩;rintro rfl;have:=p.nd;simp only [gZ,aS,not_or] at this;simp only [aS] at hj;rcases hj with h|h|h
     .exact this.1.1 h.symm
     .exact this.2.1.1 h
     .exact this.2.1.2 h
    have Y:=wa Y a2;exact wp (h:=wx c1 (i+1) ⟨s,wg,wn,wn,wn,wn,wn,wn,wj,(by first|exact K|(rw [l];exact p.i (by first|(simp [go_sem];done)|(simp [go_sem];omega)) (by simp [go_sem,Y,b8,Edge.c]) (λj hj=>by obtain ⟨S,P,k3⟩:=L j hj;simp [go_sem,S,P,bP k3]))),(by exact E),(by first|exact O|(intro j hj g;obtain ⟨ja,jb,jV⟩:=v j g;simp [go_sem,jb,(bZ:j≠X),bP (bZ:j<H.next)];exact Z j hj g)),(by first|exact a4|(simp [go_sem];omega))⟩)
   .have hm:mem r.A.i i=true:=by simpa using a6
    rw [if_pos hm,cZ] at hsu;obtain ⟨s,l⟩:∃ z,z=x:=⟨_,rfl⟩;have E:s=Q7 t r c (GN t r u r.right.j.h.length) (i+1):=by rw [l,T];unfold Q7;rw [hsu]
    have K:HH H lo a b V (f++ns) s:=by rw [l];exact p
    have O:=Z;have Y:=wa Y l;exact wp (h:=wx c1 (i+1) ⟨s,wg,wn,wn,wn,wn,wn,wn,wj,(by first|exact K|(rw [l];exact p.i (by first|(simp [go_sem];done)|(simp [go_sem];omega)) (by simp [go_sem,Y,b8,Edge.c]) (λj hj=>by obtain ⟨S,P,k3⟩:=L j hj;simp [go_sem,S,P,bP k3]))),(by exact E),(by first|exact O|(intro j hj g;obtain ⟨ja,jb,jV⟩:=v j g;simp [go_sem,jb,(bZ:j≠X),bP (bZ:j<H.next)];exact Z j hj g)),(by first|exact a4|(simp [go_sem];omega))⟩)
  .have hie4:i=r.right.j.i.length:=bZ;have c0:x=kP t r c u:=by rw [T,hie4];rfl
   rw [c0] at p;have Y:=wa Y c0;refine wv (h:=?_);exact hQ ns _ I (p.same (by simp [go_sem]) (λj hj=>by simp [go_sem,(A j hj).2.1])) (λj hj g=>by simp [go_sem,(bZ:j≠R)];exact Z j hj g) (by simp [go_sem];exact a4)
def Q6 (t:Types)(r:Rule)(c:Part)(x0:Host)(a b V:Nat)(qs ns:List Nat):List (Nat × Blk) :=
 [(a,⟨3,1,(kP t r c x0).j.h.map cI,false⟩),(b,⟨153,3,(kP t r c x0).j.i.map Edge.c,false⟩),(V,⟨26,1,lW (qs++ns) (kP t r c x0).k,false⟩)]
def U9 (t:Types)(r:Rule)(ns:List Nat):List (Nat × Blk):=S8 ns (r.Y.map λk=>oU t (gN r.right.j k))
theorem So {H H':AHeap}{t:Types}{r:Rule}{c:Part}{m:Host}{I a b V:Nat}{f ns:List Nat}(o:HH H I a b V f m)(F:∀ j∈a :: b :: V :: f,H'.get j=H.get j)(G:ns.length=r.Y.length)(x:(a :: b :: V :: (f++ns)).Nodup)
  (C:∀ j∈a :: b :: V :: (f++ns),j<H'.next):HH ((H'.U (Q6 t r c m a b V f ns)).af (U9 t r ns)) 0 a b V (f++ns) (kP t r c m)/\((H'.U (Q6 t r c m a b V f ns)).af (U9 t r ns)).next=H'.next /\
   (∀ j,j∉a :: b :: V :: (f++ns)->((H'.U (Q6 t r c m a b V f ns)).af (U9 t r ns)).get j=H'.get j)/\(∀ j,((H'.U (Q6 t r c m a b V f ns)).af (U9 t r ns)).H j↔H'.H j\/j∈ns):=by
 have l:(U9 t r ns).map (·.1)=ns:=Hq (eL G);have z:=o.ab;have n:∀ j∈ns,j≠a/\j≠b/\j≠V/\j∉f:=λj g=>by
  have h:=x;simp only [gZ,aS,bE,not_or,sQ] at h;exact ⟨λe=>h.1.2.2.2 (e ▸ g),λe=>h.2.1.2.2 (e ▸ g),λe=>h.2.2.1.2 (e ▸ g),λA=>h.2.2.2.2.2 j A j g rfl⟩
 have J:((U9 t r ns).map (·.1)).Nodup:=by
  rw [l];have h:=x;simp only [gZ,sQ] at h;exact h.2.2.2.2.1
 have d:∀ j,j∉ns->((H'.U (Q6 t r c m a b V f ns)).af (U9 t r ns)).get j=(H'.U (Q6 t r c m a b V f ns)).get j:=λj g=>pO _ _ _ (by rw [l];exact g);have B:((H'.U (Q6 t r c m a b V f ns)).af (U9 t r ns)).next=H'.next:=by
  rw [rJ _ _ λp w=>?_,xB];rw [xB];refine C p.1 ?_;have:p.1∈ns:=by rw [<- l];exact jD w
  simp [this]
 have s:(kP t r c m).k=m.k++r.Y.map (λk=>oU t (gN r.right.j k)):=rfl;refine ⟨⟨?_,?_,?_,?_,λi q v D E=>?_,x,λj g=>⟨d9 _,by rw [B];exact C j g⟩⟩,B,λj g=>?_,λj=>?_⟩
 .rw [d a λy=>(n a y).1 rfl];simp [AHeap.U,AHeap.put,Q6,z.1,z.2.1]
 .rw [d b λy=>(n b y).2.1 rfl];simp [AHeap.U,AHeap.put,Q6,z.2.2]
 .rw [d V λy=>(n V y).2.2.1 rfl];simp [AHeap.U,AHeap.put,Q6]
 .rw [s,aQ,aQ,bI,o.len,G]
 .by_cases hi:i<f.length
  .rw [aR hi] at D;rw [s,aR (by rw [<- o.len];exact hi)] at E;have A:=aM D;have u:=o.qn A;rw [d q λy=>(n q y).2.2.2 A,yY _ _ _ (λp w=>?_),F q (o.a6 A)]
   .exact o.gq i q v D E
   .simp only [Q6,aS,eC,or_false] at w;rcases w with rfl|rfl|rfl
    .exact Ne.symm u.1
    .exact Ne.symm u.2.1
    .exact Ne.symm u.2.2
  .rw [aX bZ] at D;rw [s,aX (by rw [<- o.len];omega),<- o.len] at E;exact xC _ _ J (NW D E)
 .simp only [aS,bE,not_or] at g;rw [d j g.2.2.2.2,yY _ _ _ λp w=>?_];simp only [Q6,aS,eC,or_false] at w;rcases w with rfl|rfl|rfl
  .exact Ne.symm g.1
  .exact Ne.symm g.2.1
  .exact Ne.symm g.2.2.1
 .rw [uH,l,Mw]
theorem ACalls.wf {P:Program}{f:FuncId}{args:Xa2}{H:AHeap}{Q:D->AHeap->Prop}(he:Wa P f)(h:(∀ j,H.H j->j<H.next)->(∀ j,¬ H.H j->H.get j=none)->ACalls P f args H Q):ACalls P f args H Q :=
 ⟨he,λM0 σ w vals hR ha=>(h hR.bp λj hj=>(hR.bn j hj).2).2 M0 σ w vals hR ha⟩
theorem Ps {md:Nat->Bool}{ops:Array Oper}{R:List (Nat × Nat)}{P i:Nat}{B:List Oper}{G:List (Nat × List Nat)}{e:d7}{F:Option Tmp}{K:d7->AHeap->Prop}{H:AHeap}
  (t:Types) (ht:t.ok) (r:Rule) (hR:RuleV t r) (f:Host) (c:Part) (hc:c.h.length=r.right.j.h.length) (hs:f.j.h.length<=1000/\f.j.i.length<=1000/\f.k.length<=1000)
  (lo a b V:Nat) (m ns:List Nat) (g:HH H lo a b V m f) (Y:ns.length=r.Y.length) (J:(a :: b :: V :: (m++ns)).Nodup) (W:P<=H.next) (L:∀ j∈ns,j<P/\¬ H.H j)
  (X:CJ md F=true) (a2:BH R i (a :: b :: V :: (m++ns)) G)
  (hK:∀ E,HH E 0 a b V (m++ns) (kP t r c f)->(∀ j,j∉a :: b :: V :: (m++ns)->E.get j=H.get j)->(∀ j,E.H j↔H.H j\/j∈ns)->E.next=H.next ->
   j5 prog md ops R P (i+1) B ((i,a :: b :: V :: (m++ns)) :: G) (pE e F (.agg [.own a (kP t r c f).j.h.length,.own b (kP t r c f).j.i.length,.own V (kP t r c f).k.length])) E K) :
  mR prog md ops R P i B G e F K 92 [t.d,r.d,.agg [.own a f.j.h.length,.own b f.j.i.length,.own V f.k.length],c.d] H:=by
 have s:(U9 t r ns).map (·.1)=ns:=Hq (eL Y);have N:=(Fv t ht r hR f c hc hs H lo a b V m g (λ_ _=>True) (λ_ _ _ _ _ _=>trivial)).1;unfold mR;refine Or.inr ⟨X,.agg [.own a (kP t r c f).j.h.length,.own b (kP t r c f).j.i.length,.own V (kP t r c f).k.length],a :: b :: V :: m,Q6 t r c f a b V m ns,U9 t r ns,λp x=>?_,λp x=>L p.1 (by rw [<- s];exact jD x),λy u z=>?_,?_,?_⟩
 .simp only [Q6,aS,eC,or_false] at x;rcases x with rfl|rfl|rfl<;>simp
 .refine ACalls.wf N λo C=>?_;have M:∀ j∈ns,j<y.next/\¬ y.H j:=λj n=>by
   rw [<- s,aV] at n;obtain ⟨p,x,rfl⟩:=n;exact z p x
  have a1:∀ j∈a :: b :: V :: m,∃ k,H.get j=some k:=λj n=>by
   simp only [aS] at n;rcases n with rfl|rfl|rfl|hq
   .exact ⟨_,g.ga⟩
   .exact ⟨_,g.gb⟩
   .exact ⟨_,g.gV⟩
   .obtain ⟨p,x,rfl⟩:=aO hq;exact ⟨_,g.gq p _ _ (aA x) (aA (by rw [<- g.len];exact x))⟩
  have A:∀ j∈a :: b :: V :: m,y.H j:=λj n=>bH λhn=>by
   obtain ⟨k,hk⟩:=a1 j n;have:=u j n;rw [hk,C j hn] at this;cases this
  have a0:HH y 0 a b V m f:=⟨(u a g.bc).trans g.ga,(u b g.bb).trans g.gb,(u V g.bi).trans g.gV,g.len,λi q v h1 h2=>(u q (g.a6 (aM h1))).trans (g.gq i q v h1 h2),g.nd,λj n=>⟨d9 _,o j (A j n)⟩⟩;have D:∀ j∈a :: b :: V :: (m++ns),j<y.next:=λj n=>by
   simp only [aS,bE] at n;rcases n with h|h|h|h|h
   .exact o j (A j (by simp [h]))
   .exact o j (A j (by simp [h]))
   .exact o j (A j (by simp [h]))
   .exact o j (A j (by simp [h]))
   .exact (M j h).1
  obtain ⟨g1,g2,g3,g4⟩:=So (t:=t) (r:=r) (c:=c) g u Y J D;refine ACalls.exact (E:=(y.U (Q6 t r c f a b V m ns)).af (U9 t r ns)) (Fv t ht r hR f c hc hs y 0 a b V m a0 (λd Q=>∃ w,(∀ j∈w,y.next<=j)/\HH Q 0 a b V (m++w) (kP t r c f)/\(∀ j,j<y.next->j∉a :: b :: V :: m->Q.get j=y.get j)/\d=.agg [.own a (kP t r c f).j.h.length,.own b (kP t r c f).j.i.length,.own V (kP t r c f).k.length]) (λw Q U T S _=>⟨w,U,T,S,rfl⟩)) ?_;rintro _ _ d Q ⟨w,U,T,S,rfl⟩;refine HH.exact g1 T o C (by rw [g2];exact bD _) (λj=>?_) (λj n Z=>S j (o j n) λhm=>Z (by simp only [aS,bE] at hm ⊢;rcases hm with h|h|h|h<;>simp [h])) g3 (λp j j1 O I=>?_)
  .rw [g4];constructor
   .rintro (h|h)
    .exact .inl h
    .exact .inr (by simp [h])
   .rintro (h|h)
    .exact .inl h
    .simp only [aS,bE] at h;rcases h with h|h|h|h|h
     .exact .inl (A j (by simp [h]))
     .exact .inl (A j (by simp [h]))
     .exact .inl (A j (by simp [h]))
     .exact .inl (A j (by simp [h]))
     .exact .inr h
  .have ea:∀ l:List Nat,a :: b :: V :: (m++l)=(a :: b :: V :: m)++l:=λl=>rfl;rw [ea] at O I;by_cases x:p<(a :: b :: V :: m).length
   .rw [aR x] at O I;rw [O] at I;cases I
    exact ⟨λ_=>rfl,λh=>h⟩
   .rw [aX bZ] at O I;have m1:=M j (aM O);have m2:=U j1 (aM I);exact ⟨λh=>absurd h m1.2,λ_ h=>by have:=o j1 h;omega⟩
 .rw [s];exact a2
 .rw [s];have D:∀ j∈a :: b :: V :: (m++ns),j<H.next:=λj n=>by
   simp only [aS,bE] at n;rcases n with h|h|h|h|h
   .exact (g.ac j (by simp [h])).2
   .exact (g.ac j (by simp [h])).2
   .exact (g.ac j (by simp [h])).2
   .exact (g.ac j (by simp [h])).2
   .exact b4 (L j h).1 W
  obtain ⟨g1,g2,g3,g4⟩:=So (t:=t) (r:=r) (c:=c) g (λ_ _=>rfl) Y J D;exact hK _ g1 g3 g4 g2
theorem KH (c:Part)(vs:Xa0)(l:List Slot)(s:Slot)(vals:Yb):wG c vs (l++[s]) vals=(wG c vs l vals).set (fU c s) (((wG c vs l vals)[fU c s]?.getD []).set s.P.toNat (dH s.C vs)):=by unfold wG;rw [GU];rfl
theorem uF (c:Part)(vs:Xa0):∀ (l:List Slot) (vals:Yb),(wG c vs l vals).length=vals.length/\∀ n:Nat,((wG c vs l vals)[n]?.getD []).length=(vals[n]?.getD []).length
 | [],vals=>⟨rfl,λ_=>rfl⟩
 | s :: l,vals=>by
  obtain ⟨h1,h2⟩:=uF c vs l (vals.set (fU c s) ((vals[fU c s]?.getD []).set s.P.toNat (dH s.C vs)));have e:wG c vs (s :: l) vals=wG c vs l (vals.set (fU c s) ((vals[fU c s]?.getD []).set s.P.toNat (dH s.C vs))):=rfl;rw [e];refine ⟨by rw [h1,iU],λn=>?_⟩;rw [h2 n,eB];split
  .rename_i hn;subst hn;split
   .simp
   .rename_i hn;rw [b5 bZ]
  .rfl
def wN (c:Part)(vs:Xa0)(l:List Slot)(i k:Nat):Bool:=match l[k]?,l[i]? with|some a,some b=>ER c vs a b|_,_=>false
theorem yB (c:Part)(vs:Xa0)(l:List Slot):zA c vs l=(List.range l.length).any λi=>(List.range i).any λk=>wN c vs l i k:=rfl
structure PutOk (t:Types) (r:Rule) (x:Host) (c:Part):Prop where
 W:c.h.length=r.right.j.h.length
 bL:x.j.h.length<=2000/\x.j.i.length<=2000/\x.k.length<=2000
 spot:∀ s∈r.right.q,0<=c.h[s.node.toNat]?.getD 0/\fU c s<x.k.length/\fU c s<x.j.h.length
 P:∀ s∈r.right.q,s.P<(x.k[fU c s]?.getD []).length/\s.P<(bV t (x.j.h[fU c s]?.getD 0)).length
theorem QD (t:Types)(ht:t.ok)(r:Rule)(hR:RuleV t r)(f:Host)(c:Part)(hP:PutOk t r f c)(vs:Xa0)(a0:vs.length=r.left.vars.toNat)(Z:Sm vs)
  (G:AHeap) (lo a b V:Nat) (w:List Nat) (m:HH G lo a b V w f) (Q:D->AHeap->Prop)
  (L:∀ H',wH t f.j c vs r.right.q≠0->(∀ j,j<G.next->j∉a :: b :: V :: w->H'.get j=G.get j)->G.next<=H'.next->Q (.tup [.agg [.nil,.nil,.nil],dI (wH t f.j c vs r.right.q)]) H')
  (hQ:∀ H',wH t f.j c vs r.right.q=0->(∀ j,j<G.next->j∉a :: b :: V :: w->H'.get j=G.get j)->G.next<=H'.next->Q (.tup [Host.d ⟨f.j,wG c vs r.right.q f.k⟩,dI 0]) H') :
  ACalls prog 94 [t.d,r.d,.agg [.own a f.j.h.length,.own b f.j.i.length,.own V f.k.length],c.d,dLI vs] G Q:=by
 have g0:=dO hR.gr;have g5:=m.ac a m.bc;have g2:=m.ac b m.bb;have g6:=m.ac V m.bi;have g4:=m.ab;have s:=hR.q;have c1:=hR.bL;obtain ⟨l,hl⟩:=fH (r.right.q);rw [<- hl] at L hQ s c1;have n:=hP.spot;have K:=hP.P;rw [<- hl] at n K;have g1:=hP.W;obtain ⟨Q',N⟩:∃ Q':D->AHeap->Prop,∀ d H',Q' d H'↔Q (jS H' d) (fJ (BX H' d) H'):=⟨_,λ_ _=>Iff.rfl⟩;refine ACalls.co ?_;rw [show (λd H'=>Q (jS H' d) (fJ (BX H' d) H'))=Q' from funext λd=>funext λH'=>propext (N d H').symm];refine (Tz.cK ⟨λt=>t==7||t==10,λ_=>[]⟩ func94 rfl ?_);have Y:=xa2 @Part.d.eq_1 @Part.c.eq_1 (Eq.symm hl) @Term.c.eq_1;refine wv (h:=bC (λi e H=>∃ X:Nat,∃ R:Nat,(e 5=.adr t.c/\e 6=.adr r.c/\e 8=.adr c.c/\e 4=dLI vs/\e 12=.list (l.map Slot.c)/\e 7=.ptr X 1 0 0/\e 10=.ptr R 1 0 0/\e 13=dI i)/\(H.get X=some ⟨50,3,[[.own a f.j.h.length,.own b f.j.i.length,.own V f.k.length]],false⟩)/\(X<H.next)/\(H.get R=some ⟨50,3,[[.nil,.nil,.nil]],false⟩)/\(R<H.next)/\(i<=l.length)/\(HH H lo a b V w f)/\(∀ j∈a :: b :: V :: w,j≠X/\j≠R)/\(G.next<=X/\X<R)/\(∀ p q,p<i->q<p->wN c vs l p q=false)/\(∀ j,j<G.next->j∉a :: b :: V :: w->H.get j=G.get j)/\(G.next<=H.next)) (λi=>l.length - i) 0 ⟨G.next,(G.next+1),wg,wn,wn,wn,wn,wi,(by exact m.same (by simp [go_sem];omega) (λj u=>by have:=(m.ac j u).2;simp [go_sem,bP this])),(by intro j u;have:=(m.ac j u).2;omega),bZ,(by intro p q hp;omega),(by intro j u _;simp [go_sem,bP u]),(by simp [go_sem];omega)⟩ λI0 e7 i e H d6=>?_);obtain ⟨X,R,E0,gX_0,nX_0,gR_0,nR_0,hi,hh,a5,e3,hC,hG,b3⟩:=d6;have f4:=xa8 (dE (bZ:R≠X)) (dE (bZ:R≠V)) (dE (bZ:R≠b)) (dE (bZ:R≠a)) (dE (bZ:X≠V)) (dE (bZ:X≠b)) (dE (bZ:X≠a)) (dE (bZ:V≠b)) (dE (bZ:V≠a)) (dE (bZ:b≠a));have Y:=xa5 Y E0 gX_0 (bP nX_0) gR_0 (bP nR_0) f4;refine kI (λh3=>?_) λh3=>?_
 .have hlm:=aC h3;have a6:=(s _ hlm).2.2;have d2:=(s _ hlm).1;have z:l[i].node.toNat<c.h.length:=bZ;have Y:=xa3 Y h3 (aA h3) @Slot.c.eq_1 (aA z);refine wp (h:=aB (kK l[i].C vs (by rw [a0];exact a6) Z) wl ?_);refine wp (h:=bC (λk e H=>(e 5=.adr t.c/\e 6=.adr r.c/\e 8=.adr c.c/\e 4=dLI vs/\e 12=.list (l.map Slot.c)/\e 7=.ptr X 1 0 0/\e 10=.ptr R 1 0 0/\e 13=dI i/\e 14=dI (dH l[i].C vs)/\e 16=dI k)/\(H.get X=some ⟨50,3,[[.own a f.j.h.length,.own b f.j.i.length,.own V f.k.length]],false⟩)/\(X<H.next)/\(H.get R=some ⟨50,3,[[.nil,.nil,.nil]],false⟩)/\(R<H.next)/\(k<=i)/\(HH H lo a b V w f)/\(∀ q,q<k->wN c vs l i q=false)/\(∀ j,j<G.next->j∉a :: b :: V :: w->H.get j=G.get j)/\(G.next<=H.next)) (λk=>i - k) 0 ⟨wg,wn,wn,wn,wn,wi,(by exact hh.same (by first|(simp [go_sem];done)|(simp [go_sem];omega)) (λ_ _=>rfl)),(by intro q P;omega),(by exact hG),(by first|exact b3|(simp [go_sem];omega))⟩ λI2 e6 k e H d5=>?_);obtain ⟨E2,gX_2,nX_2,gR_2,nR_2,hk,c0,c5,a8,a3⟩:=d5;have f3:=xa8 (dE (bZ:R≠X)) (dE (bZ:R≠V)) (dE (bZ:R≠b)) (dE (bZ:R≠a)) (dE (bZ:X≠V)) (dE (bZ:X≠b)) (dE (bZ:X≠a)) (dE (bZ:V≠b)) (dE (bZ:V≠a)) (dE (bZ:b≠a));have Y:=xa5 Y E2 gX_2 (bP nX_2) gR_2 (bP nR_2) f3;refine c8 (λh7=>?_) λh7=>?_
  .have hkl:k<l.length:=bZ;have a4:=aC hkl;have e4:=(s _ a4).2.2;have f9:=(s _ a4).1;have J:l[k].node.toNat<c.h.length:=bZ;have d0:=(n _ hlm).1;have c9:=(n _ a4).1;rw [aA z,aD] at d0;rw [aA J,aD] at c9;have c4:wN c vs l i k=(decide (c.h[l[k].node.toNat]=c.h[l[i].node.toNat])&&(decide (l[k].P=l[i].P)&&decide (dH l[k].C vs≠dH l[i].C vs))):=by
    unfold wN ER fU;simp only [aA hkl,aA h3,aA z,aA J,aD];rw [show (decide ((c.h[l[k].node.toNat]).toNat=(c.h[l[i].node.toNat]).toNat))=decide (c.h[l[k].node.toNat]=c.h[l[i].node.toNat]) from by rw [decide_eq_decide];omega]
   have Y:=xa2 Y h7 (aA hkl) (aA J);refine wp (h:=aB (kK l[k].C vs (by rw [a0];exact e4) Z) wl ?_);refine kI (λI=>?_) λI=>?_
   .have hB:zA c vs l=true:=by
     rw [yB,bF];refine ⟨i,by simpa using h3,?_⟩;rw [bF];refine ⟨k,by simpa using h7,?_⟩;rw [c4];simp at I ⊢;exact ⟨I.1.1,I.1.2,λe=>I.2 e.symm⟩
    have hE:wH t f.j c vs l=11:=by unfold wH;rw [if_pos hB]
    refine wv (h:=?_);rw [hE] at L;refine (N _ _).2 ?_;simp only [jS,kW,q8,fN,BX,Im,MN,lR,gJ,jJ,zX,Kh,cZ,fJ];exact L _ (by decide) (λj u o=>by simp [go_sem,(bZ:j≠R)];exact a8 j u o) (by first|(simp [go_sem];omega)|exact a3)
   .have hCk:wN c vs l i k=false:=by
     rw [c4,aW];intro A;simp at A;exact A.2.2 (I A.1 A.2.1).symm
    exact wp (h:=wx e6 (k+1) ⟨wg,wn,wn,wn,wn,wj,(by exact c0.same (by first|(simp [go_sem];done)|(simp [go_sem];omega)) (λ_ _=>rfl)),(by intro q P;rcases bT q k with hqk|hqk;exact c5 q hqk;(obtain rfl:q=k:=bZ;exact hCk)),(by exact a8),(by first|exact a3|(simp [go_sem];omega))⟩)
  .exact wp (h:=wx e7 (i+1) ⟨X,R,wg,wn,wn,wn,wn,wj,(by exact c0),(by exact a5),(by exact e3),(by intro p q hp P;rcases bT p i with hpi|hpi;exact hC p q hpi P;(obtain rfl:p=i:=bZ;exact c5 q bZ)),(by exact a8),(by exact a3)⟩)
 .have hB:zA c vs l=false:=by
   rw [yB,aW];intro A;rw [bF] at A;obtain ⟨p,hp,A⟩:=A;rw [bF] at A;obtain ⟨q,P,A⟩:=A;rw [bY] at hp P;rw [hC p q bZ P] at A;cases A
  have O:wH t f.j c vs l=if l.any (AD t f.j c vs)=true then 6 else 0:=by unfold wH;rw [if_neg (by rw [hB];simp)]
  refine wv (h:=bC (λi e H=>∃ x:Host,(e 5=.adr t.c/\e 6=.adr r.c/\e 8=.adr c.c/\e 4=dLI vs/\e 12=.list (l.map Slot.c)/\e 7=.ptr X 1 0 0/\e 10=.ptr R 1 0 0/\e 19=dI i)/\(H.get X=some ⟨50,3,[[.own a f.j.h.length,.own b f.j.i.length,.own V f.k.length]],false⟩)/\(X<H.next)/\(H.get R=some ⟨50,3,[[.nil,.nil,.nil]],false⟩)/\(R<H.next)/\(i<=l.length)/\(x=⟨f.j,wG c vs (l.take i) f.k⟩)/\(HH H lo a b V w x)/\((l.take i).any (AD t f.j c vs)=false)/\(∀ j,j<G.next->j∉a :: b :: V :: w->H.get j=G.get j)/\(G.next<=H.next)) (λi=>l.length - i) 0 ⟨f,wg,wn,wn,wn,wn,wi,(by rfl),(by exact hh),(by rfl),(by exact hG),(by exact b3)⟩ λI4 e5 i e H b8=>?_);obtain ⟨x,E4,gX_4,nX_4,gR_4,nR_4,b8,hx,g,hO,a7,b7⟩:=b8;have f2:=xa8 (dE (bZ:R≠X)) (dE (bZ:R≠V)) (dE (bZ:R≠b)) (dE (bZ:R≠a)) (dE (bZ:X≠V)) (dE (bZ:X≠b)) (dE (bZ:X≠a)) (dE (bZ:V≠b)) (dE (bZ:V≠a)) (dE (bZ:b≠a));have Y:=xa5 Y E4 gX_4 (bP nX_4) gR_4 (bP nR_4) f2;refine kI (λF=>?_) λF=>?_
  .have hlm:=aC F;have a6:=(s _ hlm).2.2;have d2:=(s _ hlm).1;have g3:=(s _ hlm).2.1;have z:l[i].node.toNat<c.h.length:=bZ;obtain ⟨s1,s2,s3⟩:=n _ hlm;obtain ⟨a1,a2⟩:=K _ hlm;have c7:fU c l[i]=(c.h[l[i].node.toNat]).toNat:=by unfold fU;rw [aA z];rfl
   rw [aA z,aD] at s1;have b2:=uF c vs (l.take i) f.k;have C:x.j=f.j:=by rw [hx]
   have U:x.k=wG c vs (l.take i) f.k:=by rw [hx]
   have W:x.k.length=f.k.length:=by rw [U];exact b2.1
   have b5:fU c l[i]<x.k.length:=bZ;have b6:fU c l[i]<x.j.h.length:=by rw [C];exact s3
   have d3:fU c l[i]<w.length:=by rw [g.len];exact b5
   obtain ⟨q,P⟩:=fH (w[fU c l[i]]);obtain ⟨v,hv⟩:=fH (x.k[fU c l[i]]);have e1:w[fU c l[i]]?=some q:=by rw [aA d3,P]
   have e2:x.k[fU c l[i]]?=some v:=by rw [aA b5,hv]
   have b1:=tS e1 e2;have d7:=g.gq _ _ _ e1 e2;have f5:v.length=(f.k[fU c l[i]]?.getD []).length:=by rw [<- b2.2,<- U,e2];rfl
   have e0:l[i].P.toNat<v.length:=bZ;obtain ⟨nd,b4⟩:∃ y,y=x.j.h[fU c l[i]]:=⟨_,rfl⟩;have S:f.j.h[fU c l[i]]?.getD 0=nd:=by rw [b4,<- C,aA b6];rfl
   rw [S] at a2;have c2:l[i].P.toNat<(bV t nd).length:=bZ;have B:q∈w:=aM e1;have f6:=g.ac q (g.a6 B);have f8:=a5 q (g.a6 B);have f7:=g.qn B;have c3:AD t f.j c vs l[i]=(decide (dH l[i].C vs<(bV t nd)[l[i].P.toNat].ax)||decide ((bV t nd)[l[i].P.toNat].ay<dH l[i].C vs)):=by unfold AD;rw [S,aA c2];rfl
   have e9:=g.ga;have e8:=g.gb;have f0:=g.gV;have d8:f.j.h.length=x.j.h.length:=by rw [C]
   have d1:=kC g.len;have f1:=xa2 (dE (bZ:R≠X)) (dE (bZ:R≠V)) (dE (bZ:R≠b)) (xb0 (dE (bZ:R≠a)) (dE (bZ:R≠q)) (dE (bZ:X≠V)) (dE (bZ:X≠b)) (dE (bZ:X≠a)) (dE (bZ:X≠q)) (dE (bZ:V≠b)) (dE (bZ:V≠a)) (dE (bZ:V≠q)) (dE (bZ:b≠a)) (dE (bZ:b≠q)) (dE (bZ:a≠q)));have Y:=xa7 Y F (aA F) @Slot.c.eq_1 (aA z) (Eq.symm c7) e9 e8 (xb0 f0 b1 d7 d1 (aA b6) (Eq.symm b4) (aA c2) (aA e0) @Attr.c.eq_1 W.symm d8 f1);refine wp (h:=aB (kK l[i].C vs (by rw [a0];exact a6) Z) wl ?_);refine wp (h:=aI (sA t ht nd) wl ?_);refine kI (λa9=>?_) λa9=>?_
   .have A:l.any (AD t f.j c vs)=true:=bF.2 ⟨_,hlm,by rw [c3];simpa using a9⟩;rw [if_pos A] at O;refine wv (h:=?_);rw [O] at L;refine (N _ _).2 ?_;simp only [jS,kW,q8,fN,BX,Im,MN,lR,gJ,jJ,zX,Kh,cZ,fJ];exact L _ (by decide) (λj u o=>by simp [go_sem,(bZ:j≠R)];exact a7 j u o) (by first|(simp [go_sem];omega)|exact b7)
   .have hOi:AD t f.j c vs l[i]=false:=by rw [c3];simpa using a9
    obtain ⟨x2,b0⟩:∃ y:Host,y=⟨x.j,x.k.set (fU c l[i]) (v.set l[i].P.toNat (dH l[i].C vs))⟩:=⟨_,rfl⟩;have c6:x2=⟨f.j,wG c vs (l.take (i+1)) f.k⟩:=by
     rw [b0,aF F,KH,<- U,e2,C];rfl
    exact wp (h:=wx e5 (i+1) ⟨x2,wg,wn,wn,wn,wn,wj,(by exact c6),(by rw [b0];exact g.c4 (by first|(simp [go_sem];done)|(simp [go_sem];omega)) e1 e2 eG (by simp [go_sem,Y,bJ,cI]) (λj u d4=>by simp [go_sem,d4])),(by rw [aF F,CL,hO];simp [hOi]),(by intro j u o;simp [go_sem,show j≠q from λe=>o (e ▸ g.a6 B)];exact a7 j u o),(by simp [go_sem];omega)⟩)
  .rw [aH bZ] at hO hx;rw [if_neg (by rw [hO];simp)] at O;have C:x.j=f.j:=by rw [hx]
   have W:x.k.length=f.k.length:=by rw [hx];exact (uF c vs l f.k).1
   refine wv (h:=?_);refine (N _ _).2 ?_;obtain ⟨E,M⟩:=fH (H.put R ⟨50,3,[[.own a f.j.h.length,.own b f.j.i.length,.own V f.k.length]],false⟩);have b9:HH E lo a b V w x:=g.same (by rw [M];simp [go_sem]) (λj u=>by rw [M];simp [go_sem,(a5 j u).2]);rw [<- M];have hd:=b9.co;rw [C,W] at hd;have T:=b9.fs f.j.h.length f.j.i.length f.k.length 0;simp only [dI] at T;have d9:kW E (D.int .i64 0)=.int .i64 0:=rfl;simp only [jS,gJ,jJ,hd,d9];rw [hx];refine hQ _ O (λj u o=>?_) ?_
   .rw [Cu _ _ j (λhm=>o (T _ hm)),M];simp [go_sem,(bZ:j≠R)];exact a7 j u o
   .rw [(y7 _ E).2,M];simp [go_sem];exact b7
theorem LF {l:Xa0}(hn:l.Nodup){p:Nat}(hp:p<l.length):∀ n,n<=l.length->iQ l n l[p]=if p<n then (p:Int) else -1
 | 0,_=>rfl
 | n+1,h=>by
  rw [rS,LF hn hp n bZ,aA bZ,aD];by_cases he:n=p
  .subst he;rw [if_pos rfl,if_pos bZ]
  .rw [if_neg (λe=>he ((j9 hn).1 e))];by_cases h2:p<n
   .rw [if_pos h2,if_pos bZ]
   .rw [if_neg h2,if_neg bZ]
theorem uQ {l:Xa0}(b:l.Nodup){p:Nat}(a:p<l.length):iQ l l.length l[p]=p:=by rw [LF b a _ (bD _),if_pos a]
theorem tZ {l:Xa0}{v:Int}(h:v∉l):∀ n,n<=l.length->iQ l n v = -1
 | 0,_=>rfl
 | n+1,hl=>by
  rw [rS,tZ h n bZ,aA bZ,aD,if_neg];exact λe=>h (e ▸ aC _)
theorem LG {l:Xa0}(b:l.Nodup)(v:Int):decide (iQ l l.length v<0) = !mem l v:=by
 by_cases h:v∈l
 .obtain ⟨p,a,rfl⟩:=aO h;rw [uQ b a,(mem_iff _ _).2 h];simp
 .rw [tZ h _ (bD _),aW.2 λc=>h ((mem_iff _ _).1 c)];rfl
theorem MD {l:Xa0}(a:l.Nodup)(i:Nat):Cl l i=(aN l i).length:=by
 unfold Cl aN;rw [bI];congr 1;exact List.filter_congr λj _=>LG a j
theorem tU {l:Xa0}:∀ (n j:Nat),j<n->mem l j=false->(aN l n)[(aN l j).length]?=some (j:Int)
 | n+1,j,hj,hm=>by
  rw [jG];by_cases h:j=n
  .subst h;rw [if_neg (by rw [hm];simp),aX (bD _)];simp
  .have:=tU n j bZ hm;rw [aR (aK.1 this).1];exact this
structure StepIn (t:Types) (r:Rule) (h:Host) (m:Mat):Prop where
 hR:RuleV t r
 ho:HostOk t h
 hm:MOk t r.left.j h.j m.m
 hc:jC (sG r.left.j h.j m.m) h.j r.u m.m=0
section
variable {t:Types} {r:Rule} {h:Host} {m:Mat}
theorem Qp (c:RuleV t r)(b:HostOk t h)(a:rK t r h m=0):StepIn t r h m:=by
 unfold rK at a;split at a
 .cases a
 .rename_i h1;split at a
  .exact absurd a (by assumption)
  .split at a
   .cases a
   .exact ⟨c,b,uI (pW (eL h1)).2,a⟩
theorem StepIn.cn (S:StepIn t r h m):cN r h m=⟨aN (iJ m.m.h r.u.h) h.j.h.length,aN (iJ m.m.i r.u.i) h.j.i.length⟩:=by unfold cN j4;rw [if_pos S.hc]
theorem StepIn.sub (S:StepIn t r h m):subF h.j (cN r h m)=0:=MZ S.hc
theorem StepIn.bR (S:StepIn t r h m):(cN r h m).h.Pairwise (· < ·):=by rw [S.cn];exact n3 _ _
theorem StepIn.dx (S:StepIn t r h m):(cN r h m).i.Pairwise (· < ·):=by rw [S.cn];exact n3 _ _
theorem StepIn.cj (S:StepIn t r h m):∀ x∈(cN r h m).h,0<=x/\x<h.j.h.length:=(fO S.sub).2.2.1
theorem StepIn.d4 (S:StepIn t r h m):∀ x∈(cN r h m).i,0<=x/\x<h.j.i.length:=(fO S.sub).2.2.2
theorem StepIn.len (S:StepIn t r h m):(cN r h m).h.length<=40/\(cN r h m).i.length<=80:=by
 have a:=aY S.ho.gg;have c:=Nb S.bR S.cj;have b:=Nb S.dx S.d4;omega
theorem StepIn.d5 (S:StepIn t r h m):sL m.m.h r.u.h=[]/\sL m.m.i r.u.i=[]:=⟨(vZ S.hc).2.2.1,(vZ S.hc).2.2.2.1⟩
theorem StepIn.cO (S:StepIn t r h m){k:Int}(a:k∈r.u.h):iA m.m.h k∈(cN r h m).h:=by
 have c:=S.hR.u;have g:=S.hm.len;have b:=c.2.1 k a;have f:=oM S.d5.1 b.1 bZ a;rw [S.cn];have d:=(S.hm.bx k.toNat bZ bZ).1;have e:iA m.m.h k=m.m.h[k.toNat]' bZ:=by unfold iA;rw [aA bZ];rfl
 exact dC.2 ⟨by rw [e];exact d,f⟩
theorem StepIn.bj (S:StepIn t r h m):(c9 t r h m).j.h=(cN r h m).h.map (gN h.j)++r.Y.map (gN r.right.j):=by
 unfold c9 kP bG;rw [if_pos S.sub]
theorem StepIn.ci (S:StepIn t r h m):(c9 t r h m).j.i=(cN r h m).i.map (gEd h.j (cN r h m))++r.am.map (λk=>freshE (lL r h m) (r.right.j.i[k.toNat]?.getD bX)):=by
 unfold c9 kP bG;rw [if_pos S.sub]
theorem SK:(c9 t r h m).k=(cN r h m).h.map (λk=>h.k[k.toNat]?.getD [])++r.Y.map (λk=>oU t (gN r.right.j k)):=rfl
theorem StepIn.ce (S:StepIn t r h m):r.A.h.Nodup/\r.A.i.Nodup:=by
 have:=S.hR.inj;unfold jN at this;simp only [aL,decide_eq_true_eq] at this;exact this.2
theorem StepIn.cM (S:StepIn t r h m){p:Nat}(c:p<r.A.h.length)(b:p<r.u.h.length):gN r.right.j r.A.h[p]=gN r.left.j r.u.h[p]:=by
 have d:(bG r.left.j r.u).h.length=r.u.h.length:=by unfold bG;rw [if_pos S.hR.sub];simp
 have a:=(kM S.hR.mo (i:=(p:Int)) bZ bZ).2;rw [qS S.hR.sub bZ bZ] at a;simpa [iA,aA c,aA b] using a
theorem StepIn.er (S:StepIn t r h m){i:Nat}(o:i<r.right.j.h.length):∃ n:Nat,(lL r h m).h[i]?=some (n:Int)/\∃ hn:n<(c9 t r h m).j.h.length,wO t r.right.j.h[i] ((c9 t r h m).j.h[n])=true:=by
 obtain ⟨K,A,J,I,H⟩:=S.hR.u;have E:=S.hm.len;have k:=S.ce.1;have z:(lL r h m).h[i]?=some (IQ r.u.h r.A.h (p9 m.m.h (lB r h m).h) (cN r h m).h.length i):=by
  unfold lL B5;simp [o]
 rw [z];have u:=S.bj;have w:=oZ S.hR.vf;have D:=(iW S.hR.gr S.hR.tr).1 _ (aC o);by_cases hm:(i:Int)∈r.A.h
 .obtain ⟨p,B,C⟩:=aO hm;have s:p<r.u.h.length:=bZ;have G:=A _ (aC s);have d:r.u.h[p].toNat<m.m.h.length:=bZ;have L:=S.cO (aC s);obtain ⟨n,hn,g⟩:=aO L;have M:=S.cj _ (aC hn);have l:iA m.m.h r.u.h[p]=m.m.h[r.u.h[p].toNat]:=by unfold iA;rw [aA d];rfl
  have e:IQ r.u.h r.A.h (p9 m.m.h (lB r h m).h) (cN r h m).h.length i=n:=by
   unfold IQ;rw [<- C,uQ k B,if_pos bZ];rw [(bZ:(p:Int).toNat=p),aA s,aD];unfold p9 lB rF;rw [aP,aA d,eV,aD];rw [<- l,<- g];simp only;rw [yD _ bZ,aD,show (((cN r h m).h[n].toNat:Nat):Int)=(cN r h m).h[n] by omega,uQ (mB S.bR) hn]
  refine ⟨n,by rw [e],by rw [u];simp;omega,?_⟩;have c:=S.cM B s;rw [C] at c;have x:gN r.right.j (i:Int)=r.right.j.h[i]:=by simp [gN,aA o]
  have j:r.u.h[p].toNat<r.left.j.h.length:=bZ;have y:gN r.left.j r.u.h[p]=r.left.j.h[r.u.h[p].toNat]:=by simp [gN,aA j]
  rw [x,y] at c;rw [c];have q:=(S.hm.bx _ d j).2;have v:(c9 t r h m).j.h[n]?=some (h.j.h[(m.m.h[r.u.h[p].toNat]).toNat]?.getD 0):=by
   rw [u,aR (eL hn),aP,aA hn,eV,g,l];rfl
  obtain ⟨_,b⟩:=aK.1 v;rw [b];exact q
 .have hmf:mem r.A.h i=false:=aW.2 λh=>hm ((mem_iff _ _).1 h);have e:IQ r.u.h r.A.h (p9 m.m.h (lB r h m).h) (cN r h m).h.length i=(((cN r h m).h.length+(aN r.A.h i).length:Nat):Int):=by
   unfold IQ;rw [if_neg (by rw [tZ hm _ (bD _)];omega),MD k]
  have f:=tU r.right.j.h.length i o hmf;have F:(aN r.A.h i).length<r.Y.length:=(aK.1 f).1;refine ⟨(cN r h m).h.length+(aN r.A.h i).length,by rw [e],by rw [u];simp;omega,?_⟩;have v:(c9 t r h m).j.h[(cN r h m).h.length+(aN r.A.h i).length]?=some r.right.j.h[i]:=by
   rw [u,aX eG,bI,mC,aP];have:r.Y[(aN r.A.h i).length]?=some (i:Int):=f;rw [this];simp [gN,aA o]
  obtain ⟨_,b⟩:=aK.1 v;rw [b];unfold wO;have:=K9 w (a:=(r.right.j.h[i]).toNat) bZ;rw [show (((r.right.j.h[i]).toNat:Nat):Int)=r.right.j.h[i] by omega] at this;exact this
theorem StepIn.dm (S:StepIn t r h m):(c9 t r h m).k.length=(c9 t r h m).j.h.length:=by rw [S.bj,SK];simp
theorem UU {k:Int}(b:(cQ t).2=0)(f:0<=k)(e:k<t.h.length)(c:zT t k.toNat=false):i4 t k (oU t k)=0:=by
 unfold i4;rw [if_neg bZ,if_neg (by rw [c];simp),if_neg (by simp [oU])];refine nD _ _ λj _ d=>?_;have a:j<(bV t k).length:=bZ;unfold Dt oU;rw [aP,aA a,eV,aD,aD,if_neg];have:=(D4 b k _ (aC a)).le;omega
theorem StepIn.b0 (S:StepIn t r h m):∀ k∈r.Y,(0<=gN r.right.j k/\gN r.right.j k<t.h.length)/\zT t (gN r.right.j k).toNat=false:=λk hk=>by
 have hr:=eJ hk;have hin:=(iW S.hR.gr S.hR.tr).1 _ (sS hr.1 hr.2);refine ⟨hin,?_⟩;have:=S.hR.ek;unfold sE at this;rw [aL,b7,iK] at this;have h1:=this.1 k hk;unfold absB at h1;unfold zT;rw [aA (bZ:(gN r.right.j k).toNat<t.h.length)] at h1 ⊢;simpa using h1
theorem StepIn.node (S:StepIn t r h m):∀ (n:Nat) (h1:n<(c9 t r h m).j.h.length) (h2:n<(c9 t r h m).k.length),i4 t (c9 t r h m).j.h[n] (c9 t r h m).k[n]=0:=λn h1 h2=>by
 have e1:=S.bj;have e2:(c9 t r h m).k=_:=SK;have g1:(c9 t r h m).j.h[n]?=some (c9 t r h m).j.h[n]:=aA h1;have g2:(c9 t r h m).k[n]?=some (c9 t r h m).k[n]:=aA h2;generalize (c9 t r h m).j.h[n]=x at *;generalize (c9 t r h m).k[n]=y at *;rw [e1] at g1;rw [e2] at g2;by_cases hn:n<(cN r h m).h.length
 .rw [aR (eL hn),aP,aA hn] at g1 g2;simp only [eV,aZ] at g1 g2;have hv:=S.cj _ (aC hn);have hl:=S.ho.vl;have a1:(cN r h m).h[n].toNat<h.j.h.length:=bZ;have a2:(cN r h m).h[n].toNat<h.k.length:=bZ;rw [aA a2] at g2;unfold gN at g1;rw [aA a1] at g1;have:=S.ho.nd _ a1 a2;rw [<- g1,<- g2];exact this
 .have l1:((cN r h m).h.map (gN h.j)).length=(cN r h m).h.length:=eG;have l2:((cN r h m).h.map λk=>h.k[k.toNat]?.getD []).length=(cN r h m).h.length:=eG;rw [aX bZ,l1,aP,bN] at g1;rw [aX bZ,l2,aP,bN] at g2;obtain ⟨k,hk,rfl⟩:=g1;obtain ⟨k',hk',rfl⟩:=g2;rw [hk] at hk';cases hk'
  obtain ⟨⟨b1,b2⟩,b3⟩:=S.b0 k (aM hk);exact UU S.hR.vf b1 b2 b3
theorem StepIn.eu (S:StepIn t r h m):∀ a∈(c9 t r h m).j.h,0<=a/\a<t.h.length:=λa ha=>by
 rw [S.bj,bE,aV,aV] at ha;rcases ha with ⟨k,hk,rfl⟩|⟨k,hk,rfl⟩
 .exact AN S.ho _ (sS (S.cj k hk).1 (S.cj k hk).2)
 .exact (S.b0 k hk).1
theorem StepIn.put (S:StepIn t r h m):PutOk t r (c9 t r h m) (lL r h m):=by
 have v:=S.len;have w:=aY S.hR.gr;have q:r.Y.length<=r.right.j.h.length:=dJ _ _;have p:r.am.length<=r.right.j.i.length:=dJ _ _;have y:(c9 t r h m).j.h.length<=80:=by rw [S.bj];simp;omega
 have z:(c9 t r h m).j.i.length<=160:=by rw [S.ci];simp;omega
 have x:=S.dm;have d:∀ s∈r.right.q,∃ n:Nat,(lL r h m).h[s.node.toNat]?=some (n:Int)/\∃ a:n<(c9 t r h m).j.h.length,s.P<(bV t (c9 t r h m).j.h[n]).length:=λs e=>by
  obtain ⟨⟨C,B⟩,l,A⟩:=S.hR.q s e;have k:s.node.toNat<r.right.j.h.length:=bZ;obtain ⟨n,c,a,g⟩:=S.er k;refine ⟨n,c,a,?_⟩;rw [aA k,aD] at l;have b:=(iW S.hR.gr S.hR.tr).1 _ (aC k);have i:=(xR (S.node n a bZ)).1;have j:=(S.eu _ (aC a)).1;rw [t6 S.hR.vf b.1 b.2] at l;rw [t6 S.hR.vf j i];unfold wO at g;obtain ⟨u,o⟩:=LH (oZ S.hR.vf) ((c9 t r h m).j.h[n]).toNat bZ (r.right.j.h[s.node.toNat]).toNat (by rw [Int.toNat_of_nonneg b.1];exact g);rw [o,aQ];omega
 refine ⟨by simp [lL,B5],⟨bZ,bZ,bZ⟩,λs e=>?_,λs e=>?_⟩
 .obtain ⟨n,c,a,g⟩:=d s e;have:fU (lL r h m) s=n:=by unfold fU;rw [c];simp
  rw [this,c];exact ⟨by simp,bZ,a⟩
 .obtain ⟨n,c,a,g⟩:=d s e;have:fU (lL r h m) s=n:=by unfold fU;rw [c];simp
  have f:n<(c9 t r h m).k.length:=bZ;rw [this,aA f,aA a,aD,aD];have:=(xR (S.node n a f)).2.2.1;exact ⟨bZ,g⟩
end
def mL:Pattern:=⟨⟨[],[]⟩,[],0,[]⟩
def gW:Stp26:=⟨eM,fZ,⟨⟨[],[]⟩,[]⟩,⟨⟨[],[]⟩,[]⟩,⟨[],[]⟩,⟨[],[]⟩⟩
def g7 (t:Types)(r:Rule)(h:Host)(m:Mat):Stp26:=if oB t r h m=0 then uA t r h m else gW
@[go_sem] theorem Stp26.W (s:Stp26):D.N s.c=true:=by
 simp [Stp26.c,CE,Rule.W,Mat.W,PY,D.N,qU]
def u3 (a k:Nat):List Nat:=(List.range k).map (· + a)
theorem xQ {a k j:Nat}:j∈u3 a k↔a<=j/\j<a+k:=by
 simp only [u3,aV,bY];constructor
 .rintro ⟨i,b,rfl⟩;omega
 .rintro ⟨b,c⟩;exact ⟨j - a,bZ,bZ⟩
theorem Pa (a k:Nat):(u3 a k).length=k:=by simp [u3]
theorem Cq (a k:Nat):(u3 a k).Nodup:=by
 unfold u3;exact List.Pairwise.map (· + a) (λx y h=>by simp only [ne_eq] at h ⊢;omega) List.nodup_range
theorem U4 (k f:Nat):(0 :: 1 :: 2 :: (u3 3 k++u3 (3+k) f)).Nodup:=by
 simp only [gZ,aS,bE,xQ,sQ];exact ⟨bZ,bZ,bZ,Cq _ _,Cq _ _,λx b y a=>by omega⟩
theorem Si {k f j:Nat}(h:j∈0 :: 1 :: 2 :: (u3 3 k++u3 (3+k) f)):j<3+k+f:=by
 simp only [aS,bE,xQ] at h;omega
theorem U3 (k:Nat):(0 :: 1 :: 2 :: u3 3 k).Nodup:=by
 simp only [gZ,aS,xQ];exact ⟨bZ,bZ,bZ,Cq _ _⟩
theorem In {k j:Nat}(h:j∈0 :: 1 :: 2 :: u3 3 k):j<3+k:=by
 simp only [aS,xQ] at h;omega
theorem Rb {t:Types}{r:Rule}{h:Host}(b:r.ok)(a:jU t r h=0):RuleV t r/\HostOk t h:=by
 unfold jU at a;split at a
 .exact absurd a (by assumption)
 .rename_i h1;exact ⟨Uu b (eL h1),y4 a⟩
theorem Tq {t:Types}{r:Rule}{h:Host}{m:Mat}(a:mG t r h m=0):rK t r h m=0:=by
 unfold mG at a;split at a
 .exact absurd a (by assumption)
 .rename_i h1;simpa using h1
section
variable {t:Types} {r:Rule} {h:Host} {m:Mat}
theorem StepIn.ex (S:StepIn t r h m)(hh:jB t h=0):V2 t h (cN r h m)=⟨bG h.j (cN r h m),(cN r h m).h.map λk=>h.k[k.toNat]?.getD []⟩:=by
 unfold V2;rw [if_pos];unfold Za;rw [if_neg bZ];exact S.sub
theorem StepIn.db (S:StepIn t r h m):(∀ x∈m.m.h,0<=x/\x<h.j.h.length)/\∀ x∈m.m.i,0<=x/\x<h.j.i.length:=by
 refine ⟨λx a=>?_,λx a=>?_⟩
 .obtain ⟨i,b,rfl⟩:=aO a;exact (S.hm.bx i b (by have:=S.hm.len;omega)).1
 .obtain ⟨i,b,rfl⟩:=aO a;exact S.hm.db i b
end
theorem K6 {t:Types}{r:Rule}{h:Host}{m:Mat}(S:StepIn t r h m)(a:rK t r h m=0):MatOk t r.left h m:=by
 unfold rK at a;split at a
 .cases a
 .split at a
  .exact absurd a (by assumption)
  .rename_i h2;split at a
   .cases a
   .rename_i h3;rw [kU] at h2 h3;obtain ⟨_,_,_,d⟩:=Kv h2;rw [d] at h2 h3;obtain ⟨c,b⟩:=B8 (Yf S.hR.pl S.ho S.hm) (vs:=[]) eG eG h2;rw [h3] at c b;exact ⟨S.hm,c,b⟩
theorem N6 (t:Types)(ht:t.ok)(r:Rule)(hr:r.ok)(h:Host)(m:Mat):Pure prog 36 [t.d,r.d,h.d,m.d] (.tup [.agg (g7 t r h m).c,dI (oB t r h m)]):=by
 refine HN (by first|rfl|(simp [go_sem];done)) (fun Q hQ=>ACalls.b1 100 (aJ (cfg:=⟨fun t=>t==8||t==11||t==13||t==14||t==15||t==16||t==95||t==97,fun r=>match r with|8=>[(5,6),(5,7),(5,8),(5,9),(5,10),(0,13),(1,13),(2,13),(3,13),(4,13),(5,13),(6,13),(7,13),(8,13),(9,13),(10,13),(11,13)]|9=>[(16,17),(16,18),(16,19),(16,20),(16,21),(16,22),(16,23),(16,24),(16,25),(16,26),(16,27),(16,28),(16,29),(16,30),(16,31),(16,32),(0,35),(1,35),(2,35),(3,35),(4,35),(5,35),(6,35),(7,35),(8,35),(9,35),(10,35),(11,35),(12,35),(13,35),(14,35),(15,35),(16,35),(17,35),(18,35),(19,35),(20,35),(21,35),(22,35),(23,35),(24,35),(25,35),(26,35),(27,35),(28,35),(29,35),(30,35),(31,35),(32,35),(33,35)]|10=>[(0,3),(1,3),(3,4)]|_=>[]⟩) Tz.mixed func36 rfl rfl (aE rfl) (by kernel_rfl) ?_));have Y:=wa @Host.d.eq_1 (wa @Host.c.eq_1 (wa @Mat.d.eq_1 (wa @Mat.c.eq_1 (wa @j8 (wa @mV (wa @v8 @rW))))));refine wv (h:=aB (N5 t ht r hr h) wl ?_);refine c8 (fun h2=>?_) fun h2=>?_
 ·have hA:oB t r h m=jU t r h:=by unfold oB;rw [if_pos h2]
  have hV:g7 t r h m=gW:=by unfold g7;rw [if_neg (by omega)]
  exact wv (h:=hQ _ _ (by simp [go_sem,hA,hV,gW,eM,mL,fZ,Stp26.c,Rule.c,Mat.c,Host.c,Cond.F,Cond.w,Cond.map,Cond.n,dLI,dI]))
 ·obtain ⟨hR,ho⟩:=Rb hr h2
  have hh0:jB t h=0:=by unfold jU at h2;split at h2;exact absurd h2 (by assumption);exact h2
  have hA0:oB t r h m=l6 t r h m:=by unfold oB;rw [if_neg (by omega)]
  refine wv (h:=aB (Hu t ht r hR h ho m) wl ?_);refine c8 (fun h5=>?_) fun h5=>?_
  ·have hA:oB t r h m=mG t r h m:=by rw [hA0];unfold l6;rw [if_pos h5]
   have hV:g7 t r h m=gW:=by unfold g7;rw [if_neg (by omega)]
   exact wv (h:=hQ _ _ (by simp [go_sem,hA,hV,gW,eM,mL,fZ,Stp26.c,Rule.c,Mat.c,Host.c,Cond.F,Cond.w,Cond.map,Cond.n,dLI,dI]))
  ·have hpre:=Tq (show mG t r h m=0 by omega)
   have S:=Qp hR ho hpre;have hP:xD t r h m=cN r h m:=by unfold xD;rw [if_pos hpre]
   have hX:=S.ex hh0;obtain ⟨x0,hx0⟩:∃ x0:Host,x0=⟨bG h.j (cN r h m),(cN r h m).h.map fun k=>h.k[k.toNat]?.getD []⟩:=⟨_,rfl⟩;rw [← hx0] at hX;obtain ⟨tr,htr⟩:∃ tr,tr=lB r h m:=⟨_,rfl⟩;have hT1:mA (cN r h m).h h.j.h.length=tr.h:=by rw [htr];rfl
   have hT2:mA (cN r h m).i h.j.i.length=tr.i:=by rw [htr];rfl
   have htl1:tr.h.length=h.j.h.length:=by rw [← hT1,kD]
   have htl2:tr.i.length=h.j.i.length:=by rw [← hT2,kD]
   obtain ⟨hin1,hin2⟩:=S.db;have hK:=hR.u;have hml:=S.hm.len;have hmel:=S.hm.bz;have hal1:(p9 m.m.h tr.h).length=m.m.h.length:=by simp [p9]
   have hal2:(p9 m.m.i tr.i).length=m.m.i.length:=by simp [p9]
   obtain ⟨cm,hcm⟩:∃ cm,cm=lL r h m:=⟨_,rfl⟩;have hC1:B5 r.u.h r.A.h (p9 m.m.h tr.h) r.right.j.h.length (cN r h m).h.length=cm.h:=by rw [hcm,htr];rfl
   have hC2:B5 r.u.i r.A.i (p9 m.m.i tr.i) r.right.j.i.length (cN r h m).i.length=cm.i:=by rw [hcm,htr];rfl
   have hgl:=aY hR.pl.gg;have hgr:=aY hR.gr;have hgh:=aY ho.gg;have hdl:=S.len;have hxv:x0.k.length=(cN r h m).h.length:=by rw [hx0];simp
   have hxn:x0.j.h.length=(cN r h m).h.length:=by rw [hx0];unfold bG;rw [if_pos S.sub];simp
   have hxe:x0.j.i.length=(cN r h m).i.length:=by rw [hx0];unfold bG;rw [if_pos S.sub];simp
   have hxr:∀ v∈x0.k,v.length≤8:=fun v hv=>by
    rw [hx0,aV] at hv;obtain ⟨k,hk,rfl⟩:=hv;have hkr:=S.cj k hk;have hvl:=ho.vl;rw [aA (show k.toNat<h.k.length by omega),aD];exact (ho.row _ (aC _)).1
   have hcl:cm.h.length=r.right.j.h.length:=by rw [hcm];simp [lL,B5]
   have hB:kP t r cm x0=c9 t r h m:=by rw [hcm,hx0];rfl
   have hfl:r.Y.length≤40:=eI (dJ _ _) hgr.1;have hMat:=K6 S hpre;have hvl:=hMat.vl;have hvs:Sm m.vars:=fun v hv=>by have:=hMat.vs v hv;omega
   have Y:=wa Y (wa hP (wa @Part.d.eq_1 (wa @Part.c.eq_1 (wa hX (wa hT1 (wa hT2 (wa hC1 hC2)))))));refine wv (h:=aB (JG t ht h (cN r h m) (by omega) (by omega) (by omega) (by omega)) wl ?_);refine wv (h:=aI (Aq m.m.h tr.h (by omega) (fun x hx=>by have:=hin1 x hx;omega)) wl ?_);refine wv (h:=aI (Aq m.m.i tr.i (by omega) (fun x hx=>by have:=hin2 x hx;omega)) wl ?_);refine wp (h:=aI (BR r.u.h r.A.h (p9 m.m.h tr.h) r.right.j.h.length (cN r h m).h.length (by omega) (fun x hx=>by have:=hK.2.1 x hx;rw [hal1];omega) (by omega) (by omega)) wl ?_);refine wp (h:=aI (BR r.u.i r.A.i (p9 m.m.i tr.i) r.right.j.i.length (cN r h m).i.length (by omega) (fun x hx=>by have:=hK.2.2.1 x hx;rw [hal2];omega) (by omega) (by omega)) wl ?_);refine wp (h:=?_);refine J5 x0 (by omega) (by omega) (by omega) (fun v hv=>by have:=hxr v hv;omega) 0 1 2 (u3 3 x0.k.length) (Pa _ _) (U3 _) (by simp [go_sem]) (fun j hj=>?_) rfl ?_ (fun E hE1 hE2 hE3 hE4=>?_)
   ·have hj2:=In hj
    refine ⟨by omega,?_⟩;simp [go_sem,j8,mV,v8,rW];omega
   ·intro q hq hs x hx
    simp at hq;rcases hq with rfl|rfl|rfl<;>simp at hs hx
   have hno:∀ j,100≤j→j∉0 :: 1 :: 2 :: u3 3 x0.k.length:=fun j hj hm=>by have:=In hm;omega
   have hno2:∀ j,100≤j→j∉0 :: 1 :: 2 :: (u3 3 x0.k.length++u3 (3+x0.k.length) r.Y.length):=fun j hj hm=>by have:=Si hm;omega
   have g100:=hE2 100 (hno _ (by omega));have g102:=hE2 102 (hno _ (by omega));have g103:=hE2 103 (hno _ (by omega));have g154:=hE2 154 (hno _ (by omega));simp [go_sem] at g100 g102 g103 g154 hE4;have hal:∀ j,j<100→E.H j→j∈0 :: 1 :: 2 :: u3 3 x0.k.length:=fun j hj hA=>by
    rcases (hE3 j).1 hA with h|h
    ·simp [go_sem,j8,mV,v8,rW] at h;omega
    ·exact h
   have n154:∀ (a:Nat),a∈u3 3 x0.k.length→¬ a=154:=fun a hm=>by rw [xQ] at hm;omega
   have Y:=wa Y (wa g100 (wa g102 (wa g103 g154)));refine wp (h:=?_);refine Ps t ht r hR x0 cm hcl (by omega) 0 0 1 2 (u3 3 x0.k.length) (u3 (3+x0.k.length) r.Y.length) hE1 (by rw [Pa]) (U4 _ _) (by rw [hE4];omega) (fun j hj=>?_) rfl ?_ (fun F hF1 hF2 hF3 hF4=>?_)
   ·rw [xQ] at hj
    refine ⟨by omega,fun hA=>?_⟩;have:=In (hal j (by omega) hA);omega
   ·intro q hq hs x hx
    simp at hs
   rw [hB] at hF1 ⊢;rw [hE4] at hF4;have f100:=hF2 100 (hno2 _ (by omega));have f102:=hF2 102 (hno2 _ (by omega));have f103:=hF2 103 (hno2 _ (by omega));have f154:=hF2 154 (hno2 _ (by omega));rw [g100] at f100;rw [g102] at f102;rw [g103] at f103;rw [g154] at f154;have Y:=wa Y (wa f100 (wa f102 (wa f103 f154)));refine wp (h:=?_);unfold e8;refine QD t ht r hR (c9 t r h m) cm (hcm ▸ S.put) m.vars hvl hvs _ 0 0 1 2 (u3 3 x0.k.length++u3 (3+x0.k.length) r.Y.length) (hF1.same (by simp [go_sem]) (fun j hj=>by have:=Si hj;simp [go_sem,show j≠102 by omega])) _ (fun H4 e1 e2 e3=>?_) (fun H4 e1 e2 e3=>?_)
   ·have k100:=e2 100 (by simp [go_sem];omega) (hno2 _ (by omega))
    have k102:=e2 102 (by simp [go_sem];omega) (hno2 _ (by omega));simp [go_sem,f100] at k100 k102;have hA:oB t r h m=wH t (c9 t r h m).j cm m.vars r.right.q:=by rw [hA0];unfold l6;rw [if_neg (by omega),← hcm,if_pos e1]
    have hV:g7 t r h m=gW:=by unfold g7;rw [if_neg (by omega)]
    simp [go_sem,seval,k100,k102];refine bA (fun hc=>?_) (fun hc=>absurd (by simpa using hc) e1);simp [go_sem,seval,k100,k102];exact hQ _ _ (by first|(left;(simp [go_sem,hA,hV,gW,eM,mL,fZ,Stp26.c,Rule.c,Mat.c,Host.c,Cond.F,Cond.w,Cond.map,Cond.n,dLI,dI]);done)|(right;(simp [go_sem,hA,hV,gW,eM,mL,fZ,Stp26.c,Rule.c,Mat.c,Host.c,Cond.F,Cond.w,Cond.map,Cond.n,dLI,dI]);done))
   have k100:=e2 100 (by simp [go_sem];omega) (hno2 _ (by omega));have k102:=e2 102 (by simp [go_sem];omega) (hno2 _ (by omega));have k103:=e2 103 (by simp [go_sem];omega) (hno2 _ (by omega));have k154:=e2 154 (by simp [go_sem];omega) (hno2 _ (by omega));simp [go_sem,f100,f102,f103,f154] at k100 k102 k103 k154;have Y:=wa Y (wa k100 (wa k102 (wa k103 k154)));refine kI (fun h14=>?_) fun h14=>?_
   ·have hA:oB t r h m=3:=by
     rw [hA0];unfold l6;rw [if_neg (by omega),← hcm,if_neg (by omega),if_pos (by omega)]
    have hV:g7 t r h m=gW:=by unfold g7;rw [if_neg (by omega)]
    exact wv (h:=hQ _ _ (by simp [go_sem,hA,hV,gW,eM,mL,fZ,Stp26.c,Rule.c,Mat.c,Host.c,Cond.F,Cond.w,Cond.map,Cond.n,dLI,dI]))
   ·have hA:oB t r h m=0:=by
     rw [hA0];unfold l6;rw [if_neg (by omega),← hcm,if_neg (by omega),if_neg (by omega)]
    have hV:g7 t r h m=uA t r h m:=by unfold g7;rw [if_pos hA]
    have hW:lD t r h m=⟨(c9 t r h m).j,wG cm m.vars r.right.q (c9 t r h m).k⟩:=by rw [hcm];rfl
    exact wv (h:=hQ _ _ (by simp [go_sem,hA,hV,uA,Stp26.c,Mat.c,Host.c,hW,← htr,← hcm]))
end Go.Abs
end
