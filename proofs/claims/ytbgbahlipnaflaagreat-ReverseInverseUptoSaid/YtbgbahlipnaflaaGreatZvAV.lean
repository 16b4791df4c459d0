/- The step of the program: copyHost. · The step of the program -/
import Derived.Test.YtbgbahlipnaflaaGreatZvAG
import Derived.Test.YtbgbahlipnaflaaGreatZvAA
import Derived.Test.YtbgbahlipnaflaaGreatZvAU
set_option linter.unusedVariables false
set_option linter.unusedSimpArgs false
section
set_option maxRecDepth 100000
set_option maxHeartbeats 4000000
open Go Go.Proofs Tryz
namespace Go.Abs
theorem Uh {H:AHeap}{d:D}(h:d.Q=true):f5 H d=d:=by cases d<;>first|rfl|simp [D.Q] at h
theorem Ug {H:AHeap}{d:D}(h:d.Q=true):jN H d=d:=by
 cases d with
 | agg cs =>
  simp only [D.Q] at h;simp only [jN];congr 1;conv=>rhs;rw [<- List.map_id cs]
  exact b8 λy a=>Uh (kK h y a)
 | _=>exact Uh (H:=H) h
theorem Ue (H:AHeap){d:D}(h:d.Q=true):pF H d=d:=by
 cases d with
 | tup vs =>
  simp only [D.Q] at h;simp only [pF];congr 1;conv=>rhs;rw [<- List.map_id vs]
  exact b8 λy a=>Ug (kK h y a)
 | _=>exact Ug (H:=H) h
theorem afM {P:Program}{f:FuncId}{args:UN}{r:D}(a:r.Q=true)(h:ACalls P f args .as λd H'=>jR H' d=r):Pure P f args r:=by
 refine aX (ACalls.de (h.mono λd H' e=>⟨?_,a⟩));rw [e];exact Ue _ a
theorem Vz {H:AHeap}{a:List Nat}{vals:Yb}(d:a.length=vals.length)(f:∀ (i q:Nat) (v:V2),a[i]?=some q->vals[i]?=some v->H.get q=some ⟨3,1,v.map cI,false⟩):(mH a vals).map (·.map (f5 H))=vals.map cL:=by
 apply gA;intro i;simp only [aN];by_cases e:i<vals.length
 .have hq:i<a.length:=aD;have b:=aA e;have c:=aA hq;rw [uA c b,b];have:=f i _ _ c b;simp [f5,this,cL,dLI]
 .rw [b9 (by rw [kH d];omega),b9 aD];rfl
theorem KZ (h:Host)(hn:h.j.h.length<=100000)(he:h.j.i.length<=100000)(hv:h.k.length<=100000)(hr:∀ v∈h.k,v.length<=100000):Pua 158 [h.d] h.d:=by
 refine afM (Host.hd h) ?_;obtain ⟨Q,hQ⟩:∃ Q:D->AHeap->Prop,∀ d H',Q d H'↔jR H' d=h.d:=⟨_,λ_ _=>Iff.rfl⟩;rw [show (λd H'=>jR H' d=h.d)=Q from funext λd=>funext λH'=>propext (hQ d H').symm];refine (Tz.cK ⟨λt=>t==2||t==3||t==25||t==1000001,λr=>match r with|1=>[(0,10),(1,10),(2,10),(3,10),(4,10),(5,10),(6,10),(7,10)]|5=>[(0,2),(1,2),(0,4),(1,4),(0,5),(1,5)]|_=>[]⟩ func158 rfl ?_);have Y:=wa @Host.d.eq_1 @Host.c.eq_1;refine wv (h:=?_);refine lW (gL h.j.h aD) (by simp [go_sem,dLI]) eq (GD _) rfl eq ?_;refine wv (h:=?_);refine lW (zP h.j.i aD) eq eq (Yj _) rfl eq ?_;refine wp (h:=l9 (Ghosts.step (Ghosts.refl _) 11 0 2 26 1 _ _ (ig) rfl rfl rfl) (λi e H=>∃ qs:List Nat,(e 1=.adr h.c/\e 2=.ptr 0 1 0 0/\e 3=.ptr 11 1 0 0/\e 17=.list (h.k.map cL)/\e 18=dI h.k.length/\e 19=dI i)/\(H.get 0=some ⟨44,3,[[.nil,.nil,.nil]],false⟩)/\(0<H.next)/\(H.get 11=some ⟨44,3,[[dLI h.j.h,.list (h.j.i.map Edge.c),.own 13 i]],false⟩)/\(11<H.next)/\(H.get 13=some ⟨26,1,mH qs (h.k.take i),false⟩)/\(13<H.next)/\(i<=h.k.length)/\(qs.length=(h.k.take i).length)/\(∀ q∈qs,13<q/\q<H.next)/\(13<H.next)/\(∀ (k q:Nat) (v:V2),qs[k]?=some q->(h.k.take i)[k]?=some v->H.get q=some ⟨3,1,v.map cI,false⟩)) (λi=>h.k.length - i) 0 ⟨([]),wg,wn,wn,wn,wn,(by simp [go_sem,Y,mH]),wn,wi,(by rfl),(by intro q hq;cases hq),eq,(by intro k q v hk;simp at hk)⟩ λI0 hI0 i e H hi0=>?_);obtain ⟨qs,E0,g0_0,n0_0,g11_0,n11_0,g13_0,n13_0,hi,hql,hqr,hnx,hgq⟩:=hi0;have Y:=xa6 Y E0 g0_0 (bS n0_0) g11_0 (bS n11_0) g13_0 (bS n13_0);refine dR (λh3=>?_) λh3=>?_
 .have hr8:=hr _ (aC h3);have hrl:(mH qs (h.k.take i)).length=i:=by rw [kH hql];simp;omega
  have hgq2:∀ H2:AHeap,H2.get (H.next+2)=some ⟨3,1,h.k[i].map cI,false⟩->(∀ q∈qs,H2.get q=H.get q)->∀ (k q:Nat) (v:V2),(qs++[H.next+2])[k]?=some q->(h.k.take (i+1))[k]?=some v->H2.get q=some ⟨3,1,v.map cI,false⟩:=λH2 g1 g2 k q v e1 e2=>by
   rw [List.take_succ_eq_append_getElem h3] at e2;have hqi:qs.length=i:=by rw [hql];simp;omega
   have hti:(h.k.take i).length=i:=by simp;omega
   by_cases hk:k<i
   .rw [aS aD] at e1;rw [aS aD] at e2;rw [g2 q (aL e1)];exact hgq k q v e1 e2
   .have h1':=(aQ.1 e1).1;have:k=i:=by simp at h1';omega
    subst this;rw [bG aD,hqi,vP] at e1;rw [bG aD,hti,vP] at e2;simp at e1 e2;subst e1 e2;exact g1
  have Y:=xa3 Y h3 (aA h3) @cL.eq_1 hrl;exact wp (h:=wx hI0 (i+1) ⟨(qs++[H.next+2]),wg,wn,wn,wn,wn,(by rw [List.take_succ_eq_append_getElem h3,y6 hql];simp [go_sem,Y,cL]),wn,wj,(by simp [hql];omega),(by intro q hq;rw [aZ,bD] at hq;rcases hq with hq|rfl;(have:=hqr q hq;simp [go_sem];omega);(simp [go_sem];omega)),ib,(by exact hgq2 _ (by simp [go_sem,Y,cL]) (λq hq=>by have:=hqr q hq;simp [go_sem,bS this.2,(aD:q≠13),(aD:q≠11)]))⟩)
 .rw [aG aD] at hql hgq;have hie:i=h.k.length:=aD;refine wv (h:=?_);refine (hQ _ _).2 ?_;obtain ⟨E,hEq⟩:=c7 (H.put 0 ⟨44,3,[[D.list (List.map cI h.j.h),D.list (List.map Edge.c h.j.i),D.own 13 i]],false⟩);rw [<- hEq];have hE13:E.get 13=some ⟨26,1,mH qs (h.k.take i),false⟩:=by rw [hEq];simp [go_sem,g13_0]
  rw [aG (aD:h.k.length<=i)] at hE13;have hR:=Vz (H:=E) hql (λk q v e1 e2=>by
   have:=hqr q (aL e1);rw [hEq];simp [go_sem,(aD:q≠0)];exact hgq k q v e1 e2)
  have hrl:=kH hql;simp only [jR,lB,rJ,f5,i5,j7,hE13,hrl,hR,hie,if_true];rfl
theorem Ig (t:Types)(o:t.ok)(k:Int):Own prog 252 [t.d,dI k] 3 1 ((iP t k).map cI):=by
 have p:=sB o k;refine Tz.oK ⟨λt=>t==9||t==16,λ_=>[]⟩ func252 rfl (λQ q=>?_);have Y:=trivial;refine wv (h:=aB (n3 t o k) wl ?_);refine wo (h:=bA (λi e H=>∃ b:V2,(e 2=.adr t.c/\e 17=.list ((bL t k).map Attr.c)/\e 18=dI (bL t k).length/\e 19=dI i/\e 7=.own 0 b.length)/\(H.get 0=some ⟨3,1,b.map cI,false⟩)/\(0<H.next)/\(i<=(bL t k).length)/\(b=((bL t k).take i).map (λa=>a.ao))) (λi=>(bL t k).length - i) 0 ⟨([]),wg,wn,wn,wi,(by rfl)⟩ λu n i e H m=>?_);obtain ⟨b,r,g,f,s,l⟩:=m;have Y:=xa2 Y r g (bS f);refine dR (λj=>?_) λj=>?_
 .have hxl:b.length=i:=by rw [l];simp;omega
  have Y:=xa2 Y j (aA j) @Attr.c.eq_1;exact wo (h:=wx n (i+1) ⟨(b++[(bL t k)[i].ao]),wg,wn,wn,wj,(by rw [j8 _ j,<- l])⟩)
 .have hX:b=iP t k:=by rw [l,lS _ aD];rfl
  refine wv (h:=?_);exact q _ _ _ (by simp [go_sem,Y,hX,dLI]) (by simp [go_sem,Y,hX,dLI])
theorem HH.cE {H H':AHeap}{lo a b V:Nat}{qs:List Nat}{x:Host}(h:HH H lo a b V qs x)(hn:H.next<=H'.next){q:Nat}{nd:Int}{v:V2}(hlo:lo<=q)(hq:∀ j∈a :: b :: V :: qs,j≠q)(hq2:q<H'.next)
  (ga:H'.get a=some ⟨3,1,(x.j.h++[nd]).map cI,false⟩) (gq:H'.get q=some ⟨3,1,v.map cI,false⟩) (gV:H'.get V=some ⟨26,1,mH qs x.k++[[.own q v.length]],false⟩) (hf:∀ j∈b :: qs,H'.get j=H.get j) :
  HH H' lo a b V (qs++[q]) ⟨⟨x.j.h++[nd],x.j.i⟩,x.k++[v]⟩ where
 ga:=ga
 gb:=(hf b aE).trans h.gb
 gV:=by rw [y6 h.len];exact gV
 len:=by simp [h.len]
 gq i q' v' h1 h2:=by
  by_cases hi:i<qs.length
  .rw [aS hi] at h1;rw [aS (by rw [<- h.len];exact hi)] at h2;exact (hf q' (by simp [aL h1])).trans (h.gq i q' v' h1 h2)
  .have h1':=(aQ.1 h1).1;have:i=qs.length:=by simp at h1';omega
   subst this;simp at h1;rw [h.len] at h2;simp at h2;subst h1 h2;exact gq
 nd:=by
  have:=h.nd;have e:a :: b :: V :: (qs++[q])=(a :: b :: V :: qs)++[q]:=rfl;rw [e,pC];exact ⟨this,by simp,λy hy z hz=>by rw [bD] at hz;subst hz;exact hq y hy⟩
 W j hj:=by
  have e:a :: b :: V :: (qs++[q])=(a :: b :: V :: qs)++[q]:=rfl;rw [e,aZ,bD] at hj;rcases hj with hj|rfl
  .exact ⟨(h.W j hj).1,dE (h.W j hj).2 hn⟩
  .exact ⟨hlo,hq2⟩
def stpC (r:Rule)(m:Mat)(h:Host)(A B C:D)(tr co:Part):UN:=[.str r.name,dLI r.left.j.h,.list (r.left.j.i.map Edge.c),.list (r.left.l.map Slot.c),dI r.left.vars,.list (r.left.G.map Test.c),
 dLI r.right.j.h,.list (r.right.j.i.map Edge.c),.list (r.right.l.map Slot.c),dI r.right.vars,.list (r.right.G.map Test.c),
 dLI r.q.h,dLI r.q.i,dLI r.s.h,dLI r.s.i,.bool r.inj,
 dI r.cond.D,.list (r.cond.u.map Cond.c),dLI r.cond.map.h,dLI r.cond.map.i,dLI r.cond.o.j.h,.list (r.cond.o.j.i.map Edge.c),.list (r.cond.o.l.map Slot.c),dI r.cond.o.vars,.list (r.cond.o.G.map Test.c),
 dLI m.m.h,dLI m.m.i,dLI m.vars,dLI h.j.h,.list (h.j.i.map Edge.c),.list (h.k.map cL),A,B,C,dLI tr.h,dLI tr.i,dLI co.h,dLI co.i]
def trE (h:Host)(tr:Part)(k:Int):Edge:=⟨(eA h.j k).type,iA tr.h (eA h.j k).w,iA tr.h (eA h.j k).M⟩
def bdN (h:Host)(d:Part)(i:Nat):Host:=⟨⟨(d.h.take i).map (gN h.j),[]⟩,(d.h.take i).map λk=>h.k[k.toNat]?.getD []⟩
def bdE (h:Host)(d tr:Part)(i:Nat):Host:=⟨⟨d.h.map (gN h.j),(d.i.take i).map (trE h tr)⟩,d.h.map λk=>h.k[k.toNat]?.getD []⟩
theorem YE (h:Host)(d a:Part){i:Nat}(b:d.h.length<=i):bdE h d a 0=bdN h d i:=by unfold bdE bdN;rw [aG b];rfl
theorem Sz (t:Types)(ht:t.ok)(r:Rule)(hR:RuleV t r)(m:Mat)(h:Host)(ho:HostOk t h)(d o u:Part)(e8:∀ x∈d.h,0<=x/\x<h.j.h.length)(e9:∀ x∈d.i,0<=x/\x<h.j.i.length)
  (h8:d.h.length<=40/\d.i.length<=80) (g7:o.h.length=h.j.h.length) (i0:u.h.length=r.right.j.h.length/\u.i.length=r.right.j.i.length)
  (f0:∀ i,i<r.right.j.h.length->(u.h[i]?.getD 0=((d.h.length+(bH r.s.h i).length:Nat):Int)↔mem r.s.h i=false))
  (f1:∀ i,i<r.right.j.i.length->(u.i[i]?.getD 0=((d.i.length+(bH r.s.i i).length:Nat):Int)↔mem r.s.i i=false))
  (s a b V:Nat) (G:AHeap) (hs:G.get s=some ⟨57,38,[stpC r m h (.own a 0) (.own b 0) (.own V 0) o u],false⟩) (I:HH G 0 a b V [] ⟨⟨[],[]⟩,[]⟩) (g8:s<G.next) (e0:s≠a/\s≠b/\s≠V) (c5:∀ j,G.next<=j->¬ G.F j) (Q:D->AHeap->Prop)
  (hQ:∀ qs H',HH H' 0 a b V qs (j9 t r u (bdE h d o d.i.length))->H'.get s=some ⟨57,38,[stpC r m h (.own a (j9 t r u (bdE h d o d.i.length)).j.h.length) (.own b (j9 t r u (bdE h d o d.i.length)).j.i.length) (.own V (j9 t r u (bdE h d o d.i.length)).k.length) o u],false⟩ ->
   (∀ j∈a :: b :: V :: qs,j≠s)->(∀ j∈qs,G.next<=j)->(∀ j,j<G.next->j∉[s,a,b,V]->H'.get j=G.get j)->G.next<=H'.next->Q (.tup []) H') :
  ACalls prog 161 [t.d,.ptr s 1 0 0,d.d] G Q:=by
 have h7:=bK hR.gr;have e7:=dY hR.gr;have h6:=bK ho.gg;have e5:=dY ho.gg;have g6:=ho.vl;have i3:=I.W a I.bs;have i1:=I.W b I.br;have i4:=I.W V I.bN;have i2:=I.ab;obtain ⟨h1,h0,g9⟩:=e0;refine (Tz.cK ⟨λt=>t==6||t==7||t==12||t==16||t==59||t==166||t==1000001,λr=>match r with|1=>[(1,10),(2,10),(3,10),(5,10),(6,10),(7,10),(8,10),(9,10),(1,11),(2,11),(3,11),(5,11),(6,11),(7,11),(8,11),(9,11),(10,11),(5,12),(6,12),(7,12),(8,12),(9,12)]|5=>[(2,13),(3,13),(4,13),(5,13),(6,13)]|6=>[(2,6),(3,6),(4,6),(5,6),(6,7),(6,8),(6,10),(6,11),(2,12),(3,12),(4,12),(5,12),(2,13),(3,13),(4,13),(5,13)]|12=>[(2,28),(3,28),(4,28),(5,28),(6,28)]|19=>[(2,8),(3,8),(4,8),(5,8),(2,9),(3,9),(4,9),(5,9)]|25=>[(2,28),(3,28),(4,28),(5,28),(6,28)]|_=>[]⟩ func161 rfl ?_);have g4:=xa4 (dJ (aD:V≠b)) (dJ (aD:V≠a)) (dJ (aD:V≠s)) (dJ (aD:b≠a)) (dJ (aD:b≠s)) (dJ (aD:a≠s));have g0:=xa2 (bS (aD:s<G.next)) (bS (aD:a<G.next)) (bS (aD:b<G.next)) (bS (aD:V<G.next));have Y:=xa6 hs @stpC.eq_1 @Part.d.eq_1 @Part.c.eq_1 @Host.c.eq_1 @Graph.c.eq_1 g4 g0;refine wp (h:=bA (λi e H=>∃ X:Nat,∃ w:Nat,∃ x:Host,∃ qs:List Nat,(e 1=.ptr s 1 0 0/\e 3=.adr t.c/\e 5=.adr d.c/\e 6=.ptr X 1 0 0/\e 7=.ptr w 1 0 0/\e 28=dLI d.h/\e 29=dI d.h.length/\e 30=dI i)/\(H.get X=some ⟨44,3,[h.c],false⟩)/\(X<H.next)/\(H.get w=some ⟨29,2,[r.right.j.c],false⟩)/\(w<H.next)/\(H.get s=some ⟨57,38,[stpC r m h (.own a x.j.h.length) (.own b x.j.i.length) (.own V x.k.length) o u],false⟩)/\(s<H.next)/\(i<=d.h.length)/\(HH H 0 a b V qs x)/\(x=bdN h d i)/\(∀ j∈a :: b :: V :: qs,j≠s)/\(∀ j∈qs,G.next<=j)/\(∀ j,H.next<=j->¬ H.F j)/\(∀ j,j<G.next->j∉[s,a,b,V]->H.get j=G.get j)/\(G.next<=H.next)/\(G.next<=X/\X<w)) (λi=>d.h.length - i) 0 ⟨(G.next+10),(G.next+11),(⟨⟨[],[]⟩,[]⟩),([]),wg,wn,wn,wn,wn,wn,wn,wi,(by exact I.same ge (λj hj=>by have:=(I.W j hj).2;simp [go_sem,bS this])),(by rfl),(by intro j hj;simp at hj;omega),(by intro j hj;cases hj),(by intro j hj;simp [go_sem,lY,oG,Aj] at hj ⊢;exact ⟨aD,aD,c5 j aD⟩),(by intro j hj A;simp [go_sem,bS hj]),ge,aD⟩ λI0 f4 i e H e4=>?_);obtain ⟨X,w,x,qs,E0,gX_0,nX_0,gYb_0,nYb_0,d2,c1,hi,f,J,E,R,q,P,N,f2⟩:=e4;have g3:=xa2 (dJ (aD:w≠X)) (dJ (aD:w≠V)) (dJ (aD:w≠b)) (xb0 (dJ (aD:w≠a)) (dJ (aD:w≠s)) (dJ (aD:X≠V)) (dJ (aD:X≠b)) (dJ (aD:X≠a)) (dJ (aD:X≠s)) (dJ (aD:V≠b)) (dJ (aD:V≠a)) (dJ (aD:V≠s)) (dJ (aD:b≠a)) (dJ (aD:b≠s)) (dJ (aD:a≠s)));have Y:=xa7 Y E0 gX_0 (bS nX_0) gYb_0 (bS nYb_0) d2 (bS c1) g3;refine dR (λh3=>?_) λh3=>?_
 .obtain ⟨k,hk⟩:∃ y,y=d.h[i]:=⟨_,rfl⟩;have b5:=e8 _ (aC h3);rw [<- hk] at b5;have S:k.toNat<h.j.h.length:=aD;have b4:k.toNat<h.k.length:=aD;obtain ⟨n,g⟩:∃ y:Host,y=⟨⟨x.j.h++[h.j.h[k.toNat]],x.j.i⟩,x.k++[h.k[k.toNat]]⟩:=⟨_,rfl⟩;have B:n=bdN h d (i+1):=by rw [g,J];unfold bdN;rw [List.take_succ_eq_append_getElem h3,<- hk];simp [gN,aA S,aA b4]
  have g5:(h.k[k.toNat]).length<=1000:=by
   have:=(ho.row _ (aC b4)).1;omega
  have M:x.j.h.length=i/\x.j.i.length=0/\x.k.length=i:=by rw [J];simp [bdN];omega
  have C:n.j.h.length=x.j.h.length+1/\n.j.i.length=x.j.i.length/\n.k.length=x.k.length+1:=by rw [g];simp
  have a5:=f.ga;have a6:=f.gV;have b0:=kH f.len;have b1:=f.W a f.bs;have b2:=f.W V f.bN;have a2:=f.W b f.br;have a8:∀ j∈a :: b :: V :: qs,j≠H.next+20+6:=λj hj=>by have:=(f.W j hj).2;omega
  have p:∀ j∈b :: qs,j≠a/\j≠s/\j≠V/\j<H.next:=λj hj=>by
   rcases aW.1 hj with rfl|hj
   .exact ⟨aD,aD,aD,a2.2⟩
   .exact ⟨(f.qn hj).1,E j (f.bm hj),(f.qn hj).2.2,(f.W j (f.bm hj)).2⟩
  have K:∀ j∈a :: b :: V :: (qs++[H.next+20+6]),j≠s:=λj hj=>by
   have e:a :: b :: V :: (qs++[H.next+20+6])=(a :: b :: V :: qs)++[H.next+20+6]:=rfl;rw [e,aZ,bD] at hj;rcases hj with hj|rfl
   .exact E j hj
   .omega
  have L:∀ j∈qs++[H.next+20+6],G.next<=j:=λj hj=>by
   rw [aZ,bD] at hj;rcases hj with hj|rfl
   .exact R j hj
   .omega
  have f9:=xa2 (bS (aD:s<H.next)) (bS (aD:a<H.next)) (bS (aD:b<H.next)) (bS (aD:V<H.next));have Y:=xb0 Y h3 (aA h3) (Eq.symm hk) (aA S) (aA b4) a5 a6 b0 C @cL.eq_1 f9;exact wp (h:=wx f4 (i+1) ⟨X,w,n,(qs++[H.next+20+6]),wg,wn,wn,wn,wn,wn,wn,wj,(by rw [g];exact f.cE ge (eL _) a8 ge (by simp [go_sem,Y,cI]) cl cl (λj hj=>by obtain ⟨k1,k2,Z,k4⟩:=p j hj;simp [go_sem,k1,k2,Z,bS k4])),(by exact B),(by exact K),(by exact L),(by intro j hj;simp [go_sem,lY,oG] at hj ⊢;exact ⟨aD,q j aD⟩),(by intro j hj A;simp only [aW,f7,or_false,not_or] at A;simp [go_sem,A,bS (aD:j<H.next)];exact P j hj (iw A)),ge,(by exact f2)⟩)
 .have hx4:x=bdE h d o 0:=by rw [J,YE _ _ _ aD]
  have f8:=xa2 (bS (aD:s<H.next)) (bS (aD:a<H.next)) (bS (aD:b<H.next)) (bS (aD:V<H.next));have Y:=wa Y f8;refine wp (h:=bA (λi e H=>∃ x:Host,(e 1=.ptr s 1 0 0/\e 3=.adr t.c/\e 5=.adr d.c/\e 6=.ptr X 1 0 0/\e 7=.ptr w 1 0 0/\e 73=dLI d.i/\e 74=dI d.i.length/\e 75=dI i)/\(H.get X=some ⟨44,3,[h.c],false⟩)/\(X<H.next)/\(H.get w=some ⟨29,2,[r.right.j.c],false⟩)/\(w<H.next)/\(H.get s=some ⟨57,38,[stpC r m h (.own a x.j.h.length) (.own b x.j.i.length) (.own V x.k.length) o u],false⟩)/\(s<H.next)/\(i<=d.i.length)/\(HH H 0 a b V qs x)/\(x=bdE h d o i)/\(∀ j,H.next<=j->¬ H.F j)/\(∀ j,j<G.next->j∉[s,a,b,V]->H.get j=G.get j)/\(G.next<=H.next)) (λi=>d.i.length - i) 0 ⟨x,wg,wn,wn,wn,wn,wn,wn,wi,(by exact f),(by exact hx4),(by exact q),(by exact P),(by exact N)⟩ λI2 f3 i e H e3=>?_);obtain ⟨x,E2,gX_2,nX_2,gYb_2,nYb_2,d1,c0,hi,f,J,q,P,N⟩:=e3;have g2:=xa2 (dJ (aD:w≠X)) (dJ (aD:w≠V)) (dJ (aD:w≠b)) (xb0 (dJ (aD:w≠a)) (dJ (aD:w≠s)) (dJ (aD:X≠V)) (dJ (aD:X≠b)) (dJ (aD:X≠a)) (dJ (aD:X≠s)) (dJ (aD:V≠b)) (dJ (aD:V≠a)) (dJ (aD:V≠s)) (dJ (aD:b≠a)) (dJ (aD:b≠s)) (dJ (aD:a≠s)));have Y:=xa7 Y E2 gX_2 (bS nX_2) gYb_2 (bS nYb_2) d1 (bS c0) g2;refine dR (λh9=>?_) λh9=>?_
  .obtain ⟨k,hk⟩:∃ y,y=d.i[i]:=⟨_,rfl⟩;have b5:=e9 _ (aC h9);rw [<- hk] at b5;have S:k.toNat<h.j.i.length:=aD;obtain ⟨y,hy⟩:=c7 (h.j.i[k.toNat]);have a9:=(e5.2 _ (aC S)).2;rw [<- hy] at a9;have a1:y.w.toNat<o.h.length:=aD;have a0:y.M.toNat<o.h.length:=aD;have d7:eA h.j k=y:=by rw [hy];simp [eA,aA S]
   have d9:trE h o k=⟨y.type,o.h[y.w.toNat],o.h[y.M.toNat]⟩:=by unfold trE;rw [d7];simp [iA,aA a1,aA a0]
   obtain ⟨n,g⟩:∃ z:Host,z=⟨⟨x.j.h,x.j.i++[trE h o k]⟩,x.k⟩:=⟨_,rfl⟩;have B:n=bdE h d o (i+1):=by rw [g,J];unfold bdE;rw [List.take_succ_eq_append_getElem h9,<- hk];simp
   have M:x.j.i.length=i:=by rw [J];simp [bdE];omega
   have C:n.j.h.length=x.j.h.length/\n.j.i.length=x.j.i.length+1/\n.k.length=x.k.length:=by rw [g];simp
   have a4:=f.gb;have b1:=f.W a f.bs;have b2:=f.W V f.bN;have a2:=f.W b f.br;have p:∀ j∈a :: V :: qs,j≠b/\j≠s/\j<H.next:=λj hj=>by
    have a3:j∈a :: b :: V :: qs:=by simp only [aW] at hj ⊢;rcases hj with h|h|h<;>simp [h]
    refine ⟨?_,E j a3,(f.W j a3).2⟩;rintro rfl;have:=f.nd;simp only [iX,aW,not_or] at this;simp only [aW] at hj;rcases hj with h|h|h
    .exact this.1.1 h.symm
    .exact this.2.1.1 h
    .exact this.2.1.2 h
   have f6:=xa2 (bS (aD:s<H.next)) (bS (aD:a<H.next)) (bS (aD:b<H.next)) (bS (aD:V<H.next));have Y:=xb0 Y h9 (aA h9) (Eq.symm hk) (aA S) (Eq.symm hy) (aA a1) (aA a0) a4 C @Edge.c.eq_1 f6;exact wp (h:=wx f3 (i+1) ⟨n,wg,wn,wn,wn,wn,wn,wn,wj,(by rw [g];exact f.i ge (by simp [go_sem,Y,d9,Edge.c]) (λj hj=>by obtain ⟨k1,k2,Z⟩:=p j hj;simp [go_sem,k1,k2,bS Z])),(by exact B),(by intro j hj;simp [go_sem,lY,oG] at hj ⊢;first|exact ⟨aD,q j aD⟩|exact q j aD|exact ⟨aD,aD,q j aD⟩),(by intro j hj A;simp only [aW,f7,or_false,not_or] at A;simp [go_sem,A,bS (aD:j<H.next)];exact P j hj (iw A)),ge⟩)
  .have hx5:x=HM t r (bdE h d o d.i.length) 0:=by rw [J,(aD:i=d.i.length)];simp [HM,bH]
   have f5:=xa2 (bS (aD:s<H.next)) (bS (aD:a<H.next)) (bS (aD:b<H.next)) (bS (aD:V<H.next));have Y:=wa Y f5;refine wp (h:=bA (λi e H=>∃ x:Host,∃ qs:List Nat,(e 1=.ptr s 1 0 0/\e 3=.adr t.c/\e 5=.adr d.c/\e 7=.ptr w 1 0 0/\e 121=dLI r.right.j.h/\e 122=dI r.right.j.h.length/\e 123=dI i)/\(H.get w=some ⟨29,2,[r.right.j.c],false⟩)/\(w<H.next)/\(H.get s=some ⟨57,38,[stpC r m h (.own a x.j.h.length) (.own b x.j.i.length) (.own V x.k.length) o u],false⟩)/\(s<H.next)/\(i<=r.right.j.h.length)/\(HH H 0 a b V qs x)/\(x=HM t r (bdE h d o d.i.length) i)/\(∀ j∈a :: b :: V :: qs,j≠s)/\(∀ j∈qs,G.next<=j)/\(∀ j,H.next<=j->¬ H.F j)/\(∀ j,j<G.next->j∉[s,a,b,V]->H.get j=G.get j)/\(G.next<=H.next)) (λi=>r.right.j.h.length - i) 0 ⟨x,qs,wg,wn,wn,wn,wn,wi,(by exact f),(by exact hx5),(by exact E),(by exact R),(by exact q),(by exact P),(by exact N)⟩ λI4 c8 i e H e2=>?_);obtain ⟨x,qs,E4,gYb_4,nYb_4,d0,b9,hi,f,J,E,R,q,P,N⟩:=e2;have g1:=xa8 (dJ (aD:w≠V)) (dJ (aD:w≠b)) (dJ (aD:w≠a)) (dJ (aD:w≠s)) (dJ (aD:V≠b)) (dJ (aD:V≠a)) (dJ (aD:V≠s)) (dJ (aD:b≠a)) (dJ (aD:b≠s)) (dJ (aD:a≠s));have Y:=xa5 Y E4 gYb_4 (bS nYb_4) d0 (bS b9) g1;refine dR (λW=>?_) λW=>?_
   .have hsu:=qS r.s.h i;obtain ⟨nd,c3⟩:∃ y,y=r.right.j.h[i]:=⟨_,rfl⟩;have e6:gN r.right.j (i:Int)=nd:=by rw [c3];simp [gN,aA W]
    have h2:=mY r.s.h i;have T:i<u.h.length:=aD;have O:=f0 i W;rw [aA T,Option.getD_some] at O;have M:x.j.h.length=d.h.length+(bH r.s.h i).length/\x.k.length=x.j.h.length/\x.j.i.length<=100:=by rw [J];simp [HM,bdE];omega
    have a5:=f.ga;have a6:=f.gV;have b0:=kH f.len;have b1:=f.W a f.bs;have b2:=f.W V f.bN;have a2:=f.W b f.br;have d5:=xa2 (bS (aD:s<H.next)) (bS (aD:a<H.next)) (bS (aD:b<H.next)) (bS (aD:V<H.next));have Y:=xa7 Y W (aA W) (Eq.symm c3) (aA T) a5 a6 b0 d5;refine iY (λb7=>?_) λb7=>?_
    .have hm:mem r.s.h i=false:=O.1 (by simpa [M.1] using b7);rw [if_neg (by rw [hm];simp)] at hsu;have h5:(iP t nd).length<=8:=by unfold iP;rw [aR];exact pV hR.vf nd
     obtain ⟨n,g⟩:∃ y:Host,y=⟨⟨x.j.h++[nd],x.j.i⟩,x.k++[iP t nd]⟩:=⟨_,rfl⟩;obtain ⟨F,v⟩:∃ y,y=qs++[H.next]:=⟨_,rfl⟩;have B:n=HM t r (bdE h d o d.i.length) (i+1):=by rw [g,J];unfold HM;rw [hsu];simp [e6]
     have C:n.j.h.length=x.j.h.length+1/\n.j.i.length=x.j.i.length/\n.k.length=x.k.length+1:=by rw [g];simp
     have a8:∀ j∈a :: b :: V :: qs,j≠H.next:=λj hj=>by have:=(f.W j hj).2;omega
     have p:∀ j∈b :: qs,j≠a/\j≠s/\j≠V/\j<H.next:=λj hj=>by
      rcases aW.1 hj with rfl|hj
      .exact ⟨aD,aD,aD,a2.2⟩
      .exact ⟨(f.qn hj).1,E j (f.bm hj),(f.qn hj).2.2,(f.W j (f.bm hj)).2⟩
     have K:∀ j∈a :: b :: V :: F,j≠s:=λj hj=>by
      have e:a :: b :: V :: F=(a :: b :: V :: qs)++[H.next]:=by rw [v];rfl
      rw [e,aZ,bD] at hj;rcases hj with hj|rfl
      .exact E j hj
      .omega
     have L:∀ j∈F,G.next<=j:=λj hj=>by
      rw [v,aZ,bD] at hj;rcases hj with hj|rfl
      .exact R j hj
      .omega
     have Y:=xa2 Y (aA W) (aA T) C;refine wp (h:=?_);refine nB H.next (Ig t ht nd) gt rfl (by first|omega|(simp [go_sem];done)|(first|(simp [go_sem];done)|(simp [go_sem];omega))) (by simp [lY,oG];exact q _ aD) (by first|trivial|(simp [go_sem];done)|(simp [go_sem,chk];done)|(simp [go_sem,chk];omega)) ?_;exact wp (h:=wx c8 (i+1) ⟨n,F,wg,wn,wn,wn,wn,wj,(by first|exact l|exact l.same ge (λ_ _=>rfl)|exact l.same ge (λj hj=>by have:=(l.W j hj).2;simp [go_sem,bS this])|(rw [g,v];exact f.cE ge (eL _) a8 ge (by simp [go_sem,Y,cI]) cl cl (λj hj=>by obtain ⟨k1,k2,Z,k4⟩:=p j hj;simp [go_sem,k1,k2,Z,bS k4]))),(by exact B),(by exact K),(by exact L),(by intro j hj;simp [go_sem,lY,oG] at hj ⊢;first|exact ⟨aD,q j aD⟩|exact q j aD),(by first|exact a7|(intro j hj A;simp only [aW,f7,or_false,not_or] at A;simp [go_sem,A,bS (aD:j<H.next)];exact P j hj (iw A))),ge⟩)
    .have hm:mem r.s.h i=true:=by
      cases b3:mem r.s.h i with
      | true=>rfl
      | false=>exact absurd (by simpa [M.1] using O.2 b3) b7
     rw [if_pos hm,dU] at hsu;obtain ⟨n,g⟩:∃ y,y=x:=⟨_,rfl⟩;obtain ⟨F,v⟩:∃ y,y=qs:=⟨_,rfl⟩;have B:n=HM t r (bdE h d o d.i.length) (i+1):=by rw [g,J];unfold HM;rw [hsu]
     have l:HH H 0 a b V F n:=by rw [g,v];exact f
     have K:∀ j∈a :: b :: V :: F,j≠s:=by rw [v];exact E
     have L:∀ j∈F,G.next<=j:=by rw [v];exact R
     have a7:=P;have Y:=wa Y g;exact wp (h:=wx c8 (i+1) ⟨n,F,wg,wn,wn,wn,wn,wj,(by first|exact l|exact l.same ge (λ_ _=>rfl)|exact l.same ge (λj hj=>by have:=(l.W j hj).2;simp [go_sem,bS this])|(rw [g,v];exact f.cE ge (eL _) a8 ge (by simp [go_sem,Y,cI]) cl cl (λj hj=>by obtain ⟨k1,k2,Z,k4⟩:=p j hj;simp [go_sem,k1,k2,Z,bS k4]))),(by exact B),(by exact K),(by exact L),(by intro j hj;simp [go_sem,lY,oG] at hj ⊢;first|exact ⟨aD,q j aD⟩|exact q j aD),(by first|exact a7|(intro j hj A;simp only [aW,f7,or_false,not_or] at A;simp [go_sem,A,bS (aD:j<H.next)];exact P j hj (iw A))),ge⟩)
   .have hie:i=r.right.j.h.length:=aD;have d8:x=Tv t r u (HM t r (bdE h d o d.i.length) r.right.j.h.length) 0:=by rw [J,hie];simp [Tv,bH]
    have d4:=xa2 (bS (aD:s<H.next)) (bS (aD:a<H.next)) (bS (aD:b<H.next)) (bS (aD:V<H.next));have Y:=wa Y d4;refine wp (h:=bA (λi e H=>∃ x:Host,(e 1=.ptr s 1 0 0/\e 3=.adr t.c/\e 5=.adr d.c/\e 174=.list (r.right.j.i.map Edge.c)/\e 175=dI r.right.j.i.length/\e 176=dI i)/\(H.get s=some ⟨57,38,[stpC r m h (.own a x.j.h.length) (.own b x.j.i.length) (.own V x.k.length) o u],false⟩)/\(s<H.next)/\(i<=r.right.j.i.length)/\(HH H 0 a b V qs x)/\(x=Tv t r u (HM t r (bdE h d o d.i.length) r.right.j.h.length) i)/\(∀ j,j<G.next->j∉[s,a,b,V]->H.get j=G.get j)/\(G.next<=H.next)) (λi=>r.right.j.i.length - i) 0 ⟨x,wg,wn,wn,wi,(by exact f),(by exact d8),(by exact P),(by exact N)⟩ λI6 c6 i e H e1=>?_);obtain ⟨x,E6,c9,b8,hi,f,J,P,N⟩:=e1;have d6:=xa4 (dJ (aD:V≠b)) (dJ (aD:V≠a)) (dJ (aD:V≠s)) (dJ (aD:b≠a)) (dJ (aD:b≠s)) (dJ (aD:a≠s));have Y:=xa3 Y E6 c9 (bS b8) d6;refine dR (λU=>?_) λU=>?_
    .have hsu:=qS r.s.i i;obtain ⟨y,hy⟩:=c7 (r.right.j.i[i]);have c2:r.right.j.i[i]?.getD cH=y:=by rw [hy,aA U];rfl
     have a9:=(e7.2 _ (aC U)).2;rw [<- hy] at a9;have a1:y.w.toNat<u.h.length:=aD;have a0:y.M.toNat<u.h.length:=aD;have h4:=mY r.s.i i;have T:i<u.i.length:=aD;have O:=f1 i U;rw [aA T,Option.getD_some] at O;have M:x.j.i.length=d.i.length+(bH r.s.i i).length:=by rw [J];simp [Tv,HM,bdE]
     have a4:=f.gb;have a2:=f.W b f.br;have b1:=f.W a f.bs;have b2:=f.W V f.bN;have d3:=xa2 (bS (aD:s<H.next)) (bS (aD:a<H.next)) (bS (aD:b<H.next)) (bS (aD:V<H.next));have Y:=xa8 Y U (aA U) (Eq.symm hy) (aA a1) (aA a0) (aA T) a4 @Edge.c.eq_1 d3;refine iY (λb6=>?_) λb6=>?_
     .have hm:mem r.s.i i=false:=O.1 (by simpa [M] using b6);rw [if_neg (by rw [hm];simp)] at hsu;have c4:freshE u y=⟨y.type,u.h[y.w.toNat],u.h[y.M.toNat]⟩:=by unfold freshE;rw [aA a1,aA a0];rfl
      obtain ⟨n,g⟩:∃ z:Host,z=⟨⟨x.j.h,x.j.i++[freshE u y]⟩,x.k⟩:=⟨_,rfl⟩;have B:n=Tv t r u (HM t r (bdE h d o d.i.length) r.right.j.h.length) (i+1):=by rw [g,J];unfold Tv;rw [hsu];simp [c2]
      have C:n.j.h.length=x.j.h.length/\n.j.i.length=x.j.i.length+1/\n.k.length=x.k.length:=by rw [g];simp
      have p:∀ j∈a :: V :: qs,j≠b/\j≠s/\j<H.next:=λj hj=>by
       have a3:j∈a :: b :: V :: qs:=by simp only [aW] at hj ⊢;rcases hj with h|h|h<;>simp [h]
       refine ⟨?_,E j a3,(f.W j a3).2⟩;rintro rfl;have:=f.nd;simp only [iX,aW,not_or] at this;simp only [aW] at hj;rcases hj with h|h|h
       .exact this.1.1 h.symm
       .exact this.2.1.1 h
       .exact this.2.1.2 h
      have Y:=wa Y C;exact wp (h:=wx c6 (i+1) ⟨n,wg,wn,wn,wj,(by first|exact l|exact l.same ge (λ_ _=>rfl)|exact l.same ge (λj hj=>by have:=(l.W j hj).2;simp [go_sem,bS this])|(rw [g];exact f.i ge (by simp [go_sem,Y,c4,Edge.c]) (λj hj=>by obtain ⟨k1,k2,Z⟩:=p j hj;simp [go_sem,k1,k2,bS Z]))),(by exact B),(by first|exact a7|(intro j hj A;simp only [aW,f7,or_false,not_or] at A;simp [go_sem,A,bS (aD:j<H.next)];exact P j hj (iw A))),ge⟩)
     .have hm:mem r.s.i i=true:=by
       cases b3:mem r.s.i i with
       | true=>rfl
       | false=>exact absurd (by simpa [M] using O.2 b3) b6
      rw [if_pos hm,dU] at hsu;obtain ⟨n,g⟩:∃ z,z=x:=⟨_,rfl⟩;have B:n=Tv t r u (HM t r (bdE h d o d.i.length) r.right.j.h.length) (i+1):=by rw [g,J];unfold Tv;rw [hsu]
      have l:HH H 0 a b V qs n:=by rw [g];exact f
      have a7:=P;have Y:=wa Y g;exact wp (h:=wx c6 (i+1) ⟨n,wg,wn,wn,wj,(by first|exact l|exact l.same ge (λ_ _=>rfl)|exact l.same ge (λj hj=>by have:=(l.W j hj).2;simp [go_sem,bS this])|(rw [g];exact f.i ge (by simp [go_sem,Y,c4,Edge.c]) (λj hj=>by obtain ⟨k1,k2,Z⟩:=p j hj;simp [go_sem,k1,k2,bS Z]))),(by exact B),(by first|exact a7|(intro j hj A;simp only [aW,f7,or_false,not_or] at A;simp [go_sem,A,bS (aD:j<H.next)];exact P j hj (iw A))),ge⟩)
    .have hX:x=j9 t r u (bdE h d o d.i.length):=by rw [J,(aD:i=r.right.j.i.length)];rfl
     rw [hX] at f;have Y:=wa Y hX;refine wv (h:=?_);exact hQ qs _ f cl E R P N
def mL (c:Part)(s:Slot):Int:=c.h[s.node.toNat]?.getD 0
def WR (c:Part)(vs:V2)(F:FM)(s:Slot):FM:=NO F (mL c s) s.J (dO s.y vs)
def FA (c:Part)(vs:V2)(l:List Slot):FM:=l.foldl (WR c vs) λ_ _=>none
theorem Ve (c:Part)(vs:V2)(l:List Slot)(s:Slot):FA c vs (l++[s])=NO (FA c vs l) (mL c s) s.J (dO s.y vs):=by unfold FA;rw [iL];rfl
theorem YR (c:Part)(vs:V2)(u v x:Int):∀ (l:List Slot) (F:FM),l.foldl (WR c vs) F u v=some x->(∃ s∈l,mL c s=u/\s.J=v/\dO s.y vs=x)\/F u v=some x
 | [],F,h=>.inr h
 | s :: l,F,h=>by
  rcases YR c vs u v x l _ h with ⟨s',hs',e⟩|h'
  .exact .inl ⟨s',dX _ hs',e⟩
  .unfold WR NO at h';split at h'
   .rename_i he;exact .inl ⟨s,gG ..,he.1.symm,he.2.symm,by simpa using h'⟩
   .exact .inr h'
theorem BS {c:Part}{vs:V2}{l:List Slot}{u v x:Int}(h:FA c vs l u v=some x):∃ s∈l,mL c s=u/\s.J=v/\dO s.y vs=x:=by
 rcases YR c vs u v x l _ h with h|h
 .exact h
 .cases h
theorem aa1 (c:Part)(vs:V2)(u v:Int):∀ (l:List Slot) (F:FM),((∃ s∈l,mL c s=u/\s.J=v)\/(F u v).isSome=true)->(l.foldl (WR c vs) F u v).isSome=true
 | [],F,h=>h.elim (λ⟨s,hs,_⟩=>by cases hs) id
 | s :: l,F,h=>aa1 c vs u v l _ (by
   by_cases he:mL c s=u/\s.J=v
   .right;unfold WR NO;rw [if_pos ⟨he.1.symm,he.2.symm⟩];rfl
   .rcases h with ⟨s',hs',e⟩|h
    .rcases aW.1 hs' with rfl|h2
     .exact absurd e he
     .exact .inl ⟨s',h2,e⟩
    .right;unfold WR NO;split
     .rfl
     .exact h)
def EqK (c:Part)(vs:V2)(l:List Slot):Prop:=∀ s∈l,∀ s'∈l,mL c s=mL c s'->s.J=s'.J->dO s.y vs=dO s'.y vs
theorem T6 {c:Part}{vs:V2}{l:List Slot}(h:EqK c vs l){s:Slot}(d:s∈l):FA c vs l (mL c s) s.J=some (dO s.y vs):=by
 have g:=aa1 c vs (mL c s) s.J l (λ_ _=>none) (.inl ⟨s,d,rfl,rfl⟩);obtain ⟨x,f⟩:=gZ.1 g;have a:FA c vs l (mL c s) s.J=some x:=f;obtain ⟨e,b,k,j,i⟩:=BS a;rw [a,<- i,h e b s d k j]
theorem YT {c:Part}{vs:V2}{l:List Slot}(h:EqK c vs l){s:Slot}(m:∀ x,FA c vs l (mL c s) s.J=some x->x=dO s.y vs):EqK c vs (l++[s]):=by
 have d:∀ j∈l,mL c j=mL c s->j.J=s.J->dO j.y vs=dO s.y vs:=λj k i g=>by
  have:=T6 h k;rw [i,g] at this;exact m _ this
 intro a f b e i g;rw [aZ,bD] at f e;rcases f with f|rfl<;>rcases e with e|rfl
 .exact h a f b e i g
 .exact d a f i g
 .exact (d b e i.symm g.symm).symm
 .rfl
theorem qK {c:Part}{s:Slot}:fX c s=(mL c s).toNat:=rfl
theorem Yy {c:Part}{vs:V2}{l:List Slot}{i:Nat}(e:i<l.length){x:Int}(h:FA c vs (l.take i) (mL c l[i]) l[i].J=some x)(m:x≠dO l[i].y vs):vA c vs l=true:=by
 obtain ⟨o,a,j,g,f⟩:=BS h;obtain ⟨k,n,rfl⟩:=aO a;rw [Ao] at j g f;have d:k<i:=by simp at n;omega
 have b:k<l.length:=aD;rw [yR,bF];refine ⟨i,by simpa using e,?_⟩;rw [bF];refine ⟨k,by simpa using d,?_⟩;unfold xB C8;simp only [aA b,aA e,qK,j,g,f];simp [m]
theorem TR {c:Part}{vs:V2}{l:List Slot}(g:∀ s∈l,0<=mL c s)(h:EqK c vs l):vA c vs l=false:=by
 rw [yR,bJ];intro a;rw [bF] at a;obtain ⟨i,d,a⟩:=a;rw [bF] at a;obtain ⟨k,j,a⟩:=a;rw [aV] at d j;have b:k<l.length:=aD;unfold xB C8 at a;simp only [aA b,aA d,qK,aM,decide_eq_true_eq] at a;obtain ⟨p,n,m⟩:=a;have r:=g _ (aC b);have q:=g _ (aC d);have o:(mL c l[k]).toNat=(mL c l[i]).toNat:=of_decide_eq_true p;have f:l[k].J=l[i].J:=by simpa using n
 have e:dO l[k].y vs≠dO l[i].y vs:=by simpa using m
 exact e (h _ (aC b) _ (aC d) aD f)
/-! ### the values that are set -/
def AR (F:FM)(dn:Int->Int->Bool)(vals:Yb):Yb :=
 (List.range vals.length).map λ(n:Nat)=>(List.range (vals[n]?.getD []).length).map λ(a:Nat)=>if dn n a=true then (F n a).getD 0 else (vals[n]?.getD [])[a]?.getD 0
theorem uV (F:FM)(dn:Int->Int->Bool)(vals:Yb):(AR F dn vals).length=vals.length:=by simp [AR]
theorem sQ (F:FM)(dn:Int->Int->Bool)(vals:Yb)(n:Nat):((AR F dn vals)[n]?.getD []).length=(vals[n]?.getD []).length:=by
 unfold AR;by_cases a:n<vals.length
 .simp [aN,gJ a]
 .rw [b9 ie,b9 aD]
theorem AQ (F:FM)(dn:Int->Int->Bool)(vals:Yb){n a:Nat}(b:n<vals.length)(c:a<(vals[n]?.getD []).length):((AR F dn vals)[n]?.getD [])[a]?=some (if dn n a=true then (F n a).getD 0 else (vals[n]?.getD [])[a]?.getD 0):=by
 unfold AR;rw [aN,gJ b,d7,Option.getD_some,aN,gJ c,d7]
theorem IF {x y:Yb}(i:x.length=y.length)(h:∀ n:Nat,(x[n]?.getD []).length=(y[n]?.getD []).length)(g:∀ n a:Nat,n<y.length->a<(y[n]?.getD []).length->(x[n]?.getD [])[a]?=(y[n]?.getD [])[a]?):x=y:=by
 apply fD i;intro n j c;have d:x[n]?.getD []=x[n]:=by rw [aA j];rfl
 have b:y[n]?.getD []=y[n]:=by rw [aA c];rfl
 have e:=h n;rw [d,b] at e;apply gA;intro a;by_cases f:a<y[n].length
 .have:=g n a c (by rw [b];exact f);rwa [d,b] at this
 .rw [b9 aD,b9 aD]
theorem VW (F:FM)(vals:Yb){dn:Int->Int->Bool}(h:∀ n a:Nat,n<vals.length->a<(vals[n]?.getD []).length->dn n a=false):AR F dn vals=vals:=by
 refine IF (uV _ _ _) (sQ _ _ _) λn a c b=>?_;rw [AQ _ _ _ c b,if_neg (by rw [h n a c b];simp),aA b];rfl
theorem JY {vals:Yb}{u:Nat}(a:u<vals.length)(r:V2)(n:Nat):(vals.set u r)[n]?.getD []=if n=u then r else vals[n]?.getD []:=by
 rw [dL];split
 .rename_i h;subst h;simp [a]
 .rename_i h;rw [if_neg (λe=>h e.symm)]
theorem VU (F:FM)(vals:Yb){dn dn':Int->Int->Bool}{u a:Nat}{x:Int}(i:u<vals.length)(k:a<(vals[u]?.getD []).length)(g:F u a=some x)(j:∀ n b:Nat,n<vals.length->b<(vals[n]?.getD []).length->dn' n b=(dn n b||(decide (n=u)&&decide (b=a)))) :
  (AR F dn vals).set u (((AR F dn vals)[u]?.getD []).set a x)=AR F dn' vals:=by
 have c:u<(AR F dn vals).length:=by rw [uV];exact i
 refine IF (by rw [f9,uV,uV]) (λn=>?_) λn b d f=>?_
 .rw [JY c,sQ];split
  .rename_i h;subst h;rw [f9,sQ]
  .rw [sQ]
 .rw [uV] at d;rw [sQ] at f;rw [JY c,AQ _ _ _ d f,j n b d f];split
  .rename_i h;subst h;rw [dL];by_cases e:a=b
   .subst e;rw [if_pos rfl,if_pos (by rw [sQ];exact k),if_pos aE,g];rfl
   .rw [if_neg e,AQ _ _ _ d f];congr 1;rw [show decide (b=a)=false by simp;omega,Bool.and_false,qD]
  .rename_i h;rw [AQ _ _ _ d f];congr 1;rw [show decide (n=u)=false by simp;omega,GT,qD]
theorem Jb {c:Part}{vs:V2}(vals:Yb):∀ (i:Nat) (l:List Slot),l.length=i->(∀ s∈l,0<=mL c s/\fX c s<vals.length/\0<=s.J/\s.J<(vals[fX c s]?.getD []).length) ->
  ∀ n a:Nat,n<vals.length->a<(vals[n]?.getD []).length->((uU c vs l vals)[n]?.getD [])[a]?=some ((FA c vs l n a).getD ((vals[n]?.getD [])[a]?.getD 0))
 | 0,l,hl,hp,n,a,hn,ha=>by
  have:l=[]:=bM hl;subst this;show (vals[n]?.getD [])[a]?=_;rw [aA ha];rfl
 | i+1,l,hl,hp,n,a,hn,ha=>by
  obtain ⟨l',s,rfl⟩:∃ l' s,l=l'++[s]:=⟨l.dropLast,l.getLast (by intro e;rw [e] at hl;cases hl),(List.dropLast_concat_getLast _).symm⟩;have ih:=Jb (c:=c) (vs:=vs) vals i l' (by simp at hl;exact hl) (λs' hs'=>hp s' (List.mem_append_left _ hs'));obtain ⟨p1,p2,p3,p4⟩:=hp s aE;obtain ⟨q1,q2⟩:=qO c vs l' vals;rw [Ms,Ve,JY aD];unfold NO;split
  .rename_i h;rw [dL];by_cases hsa:s.J.toNat=a
   .rw [if_pos hsa,if_pos (by rw [q2];omega),if_pos ⟨by rw [h,qK];omega,aD⟩];rfl
   .rw [if_neg hsa,if_neg aD,<- h];exact ih n a hn ha
  .rename_i h;rw [if_neg (by rw [qK] at h;omega)];exact ih n a hn ha
theorem VV {c:Part}{vs:V2}{vals:Yb}{l:List Slot}(g:∀ s∈l,0<=mL c s/\fX c s<vals.length/\0<=s.J/\s.J<(vals[fX c s]?.getD []).length)
  {dn:Int->Int->Bool} (h:∀ n a:Nat,n<vals.length->a<(vals[n]?.getD []).length->dn n a=(FA c vs l n a).isSome):AR (FA c vs l) dn vals=uU c vs l vals:=by
 obtain ⟨f,e⟩:=qO c vs l vals;refine IF (by rw [uV,f]) (λn=>by rw [sQ,e]) λn a b d=>?_;rw [f] at b;rw [e] at d;rw [AQ _ _ _ b d,Jb vals _ l rfl g n a b d,h n a b d];cases FA c vs l n a<;>simp
@[go_sem] theorem acU:r7 (Value.map none)=.junk:=rfl
@[go_sem] theorem afY:j5 (.const (Value.map none))=false:=rfl
theorem XQ:MapT prog 305 309 3 :=
 Zz underlying305 underlying3 underlying309 ⟨rfl,rfl,rfl⟩ ⟨rfl,rfl,rfl⟩ ia ia ia ⟨prog.types.size - 1,by have:0<prog.types.size:=of_decide_eq_true ia;omega⟩
  (Maps.Keyed.of_law (deep_law_laid (m:=2) ia aD (of_decide_eq_true ia) ia ia)) (λw=>by kernel_rfl)
def ajQ (co:Part)(vs:V2)(l:List Slot)(G:AHeap)(d:D)(H':AHeap)(g:MS):Prop :=
 (∀ j,j<G.next->H'.get j=G.get j)/\G.next<=H'.next /\
  ((vA co vs l=true/\∃ q,d=.tup [q,dI 11])\/(vA co vs l=false/\∃ b k,d=.tup [.cst (.map (some b)),dI 0]/\g=.mp b k (FA co vs l)))
theorem K6 (t:Types)(r:Rule)(hR:RuleV t r)(m:Mat)(h:Host)(x0:Host)(tr p:Part)(hP:PutOk t r x0 p)(O:m.vars.length=r.left.vars.toNat)(N:Sm m.vars)(a b0 V na nb nV:Nat)(G:AHeap) :
  GCalls prog 309 3 253 [.agg (stpC r m h (.own a na) (.own b0 nb) (.own V nV) tr p)] G (ajQ p m.vars r.right.l G):=by
 obtain ⟨l,hl⟩:=c7 (r.right.l);have Q:=hR.l;have W:=hR.cf;have f:=hP.spot;have u:=hP.J;have a6:=hP.Q;have a8:=hP.cf;rw [<- hl] at Q W f u ⊢;refine Ba func253 rfl rfl (by exact aF rfl) ?_;refine eE λK0 k0=>?_;refine iF (c:=⟨λt=>t==6||t==9,λr=>match r with|8=>[(0,10),(1,10),(2,10),(3,10),(4,10),(5,10),(6,10),(7,10),(8,10)]|_=>[]⟩) Tz.mixed ia ?_;simp [go_sem,seval,stpC];repeat first|intro _|refine ⟨fK,?_⟩
 refine k0 _ _ _ ?_;clear k0 K0;refine eE λE q=>?_;refine WpG.region (OpsG.make XQ rfl rfl rfl λb=>?_);refine OpsG.all (md:=λ_=>false) rfl λR n=>?_;simp [go_sem,seval];refine n _ _ (q _ _ _ ?_);clear n R q E;refine eE λK3 k3=>?_;refine eE λz d=>?_;refine iF (c:=⟨λt=>t==6||t==9,λr=>match r with|8=>[(0,10),(1,10),(2,10),(3,10),(4,10),(5,10),(6,10),(7,10),(8,10)]|_=>[]⟩) Tz.mixed ia ?_;simp [go_sem,seval];repeat first|intro _|refine ⟨fK,?_⟩
 refine d _ _ _ ?_;clear d z;refine WpG.block ?_;obtain ⟨I,hI⟩:∃ I:Nat->MS->eF->AHeap->Prop,∀ i g e H,I i g e H↔(e 1=.adr (stpC r m h (.own a na) (.own b0 nb) (.own V nV) tr p)/\e 4=.cst (.map (some b))/\e 16=.list (l.map Slot.c)/\e 17=dI l.length/\e 18=dI i/\i<=l.length/\(∃ k,k<=i/\g=.mp b k (FA p m.vars (l.take i)))/\EqK p m.vars (l.take i)/\(∀ j,j<G.next->H.get j=G.get j)/\G.next<=H.next):=⟨_,λ_ _ _ _=>Iff.rfl⟩;refine WpG.loop I (λi=>l.length - i) 0 ((hI _ _ _ _).2 ⟨by simp [go_sem,stpC,dLI],by simp [go_sem],by simp [go_sem,hl],by simp [go_sem,hl],by simp [go_sem],aD,⟨0,aD,by simp [FA]⟩,by intro s hs;simp at hs,by intro j hj;simp [go_sem],by simp [go_sem]⟩) λi g e H a3=>?_;obtain ⟨q1,q4,K,J,B,hi,⟨k,hk,rfl⟩,hE,hG,a0⟩:=(hI _ _ _ _).1 a3;refine eE λE q=>?_;refine iF (c:=⟨λt=>t==6||t==9,λr=>match r with|8=>[(0,10),(1,10),(2,10),(3,10),(4,10),(5,10),(6,10),(7,10),(8,10)]|_=>[]⟩) Tz.mixed ia ?_;simp [go_sem,seval,J,B];repeat first|intro _|refine ⟨fK,?_⟩
 refine q _ _ _ ?_;clear q E;refine eE λE q=>?_;refine WpG.cond (t:=decide (i<l.length)) eq (λh3=>?_) (λh3=>?_)
 .refine WpG.skip ?_;simp only [go_sem];refine q _ _ _ ?_;clear q E;have w:i<l.length:=of_decide_eq_true h3;obtain ⟨x,F⟩:=c7 (l[i]);have C:x∈l:=F ▸ aC w;obtain ⟨⟨n1,n2⟩,⟨a1,a2⟩,hT⟩:=Q x C;obtain ⟨s1,s2,s3⟩:=f x C;obtain ⟨t1,t2⟩:=u x C;have S:x.node.toNat<p.h.length:=aD;have U:mL p x=p.h[x.node.toNat]:=by unfold mL;rw [aA S];rfl
  have a7:=Ic (vs:=m.vars) (by rw [O];exact hT) N;have Y:EQ (mL p x):=by rw [qK] at s2;exact ⟨by unfold mL;omega,by unfold mL at *;omega⟩
  have X:EQ x.J:=⟨aD,by have:=pV hR.vf (x0.j.h[fX p x]?.getD 0);omega⟩;have a4:EQ (dO x.y m.vars):=⟨aD,aD⟩;obtain ⟨v,P⟩:=c7 (dO x.y m.vars);refine eE λE q=>?_;refine WpG.block ?_;refine eE λz d=>?_;refine iF (c:=⟨λt=>t==6||t==9,λr=>match r with|8=>[(0,10),(1,10),(2,10),(3,10),(4,10),(5,10),(6,10),(7,10),(8,10)]|_=>[]⟩) Tz.mixed ia ?_;simp [go_sem,seval,K,B,aA w,<- F,Slot.c];repeat first|intro _|refine ⟨fK,?_⟩
  refine d _ _ _ ?_;clear d z;refine eE λz d=>?_;refine iF (c:=⟨λt=>t==6||t==9,λr=>match r with|8=>[(0,10),(1,10),(2,10),(3,10),(4,10),(5,10),(6,10),(7,10),(8,10)]|_=>[]⟩) Tz.mixed ia ?_;simp [go_sem,seval,q1,stpC,Slot.c];repeat first|intro _|refine ⟨fK,?_⟩
  refine aB (by have hq:=oF x.y m.vars (by rw [O];exact hT) N;rw [<- P] at hq;unfold Term.c dLI at hq;exact hq) gt ?_;simp [go_sem,seval];repeat first|intro _|refine ⟨fK,?_⟩
  refine d _ _ _ ?_;clear d z;refine eE λz d=>?_;refine eE λZ A=>?_;refine iF (c:=⟨λt=>t==6||t==9,λr=>match r with|8=>[(0,10),(1,10),(2,10),(3,10),(4,10),(5,10),(6,10),(7,10),(8,10)]|_=>[]⟩) Tz.mixed ia ?_;simp [go_sem,seval];refine A _ _ _ ?_;clear A Z;refine WpG.cond (t:=false) eq (λh=>by cases h) (λ_=>WpG.skip ?_);simp only [go_sem];refine d _ _ _ ?_;clear d z;refine eE λz d=>?_;refine iF (c:=⟨λt=>t==6||t==9,λr=>match r with|8=>[(0,10),(1,10),(2,10),(3,10),(4,10),(5,10),(6,10),(7,10),(8,10)]|_=>[]⟩) Tz.mixed ia ?_;simp [go_sem,seval,q1,stpC,Slot.c,aA S,<- U];repeat first|intro _|refine ⟨fK,?_⟩
  refine d _ _ _ ?_;clear d z;refine eE λz d=>?_;refine eE λZ A=>?_;refine WpG.region ?_;refine OpsG.take (md:=λt=>t==6||t==9) 2 rfl λR n=>?_;simp [go_sem,seval,q4];repeat first|intro _|refine ⟨fK,?_⟩
  refine n _ _ ?_;clear n R;refine WW (T:=305) XQ rfl rfl rfl rfl eq eq Y X ?_;refine OpsG.all (md:=λt=>t==6||t==9) rfl λR n=>?_;simp [go_sem,seval];repeat first|intro _|refine ⟨fK,?_⟩
  refine n _ _ (A _ _ _ ?_);clear n R A Z;obtain ⟨o,ho⟩:=c7 (FA p m.vars (l.take i) (mL p x) x.J);refine eE λZ A=>?_;refine iF (c:=⟨λt=>t==6||t==9,λr=>match r with|8=>[(0,10),(1,10),(2,10),(3,10),(4,10),(5,10),(6,10),(7,10),(8,10)]|_=>[]⟩) Tz.mixed ia ?_;simp [go_sem,seval,<- ho];repeat first|intro _|refine ⟨fK,?_⟩
  refine A _ _ _ ?_;clear A Z;refine WpG.cond (t:=o.isSome&&o.getD 0 != v) eq (λD=>?_) (λD=>?_)
  .refine eE λK5 L=>?_;refine iF (c:=⟨λt=>t==6||t==9,λr=>match r with|8=>[(0,10),(1,10),(2,10),(3,10),(4,10),(5,10),(6,10),(7,10),(8,10)]|_=>[]⟩) Tz.mixed ia ?_;simp [go_sem,seval];refine L _ _ _ ?_;clear L K5;refine WpG.ret ?_;simp [go_sem,VD];refine ⟨λj hj=>?_,?_,.inl ⟨?_,_,rfl⟩⟩
   .have fr1:=bS (aD:j<H.next);simp [go_sem,fr1];exact hG j hj
   .simp [go_sem];omega
   .rw [aM] at D;obtain ⟨y,M⟩:=gZ.1 D.1;refine Yy w (x:=y) (by rw [<- F,<- ho,M]) (λe=>?_);have h2:=D.2;rw [M,<- F,<- P] at *;simp [e] at h2
  .refine WpG.skip ?_;simp only [go_sem];refine d _ _ _ ?_;clear d z;refine WpG.region ?_;refine OpsG.take (md:=λt=>t==6||t==9) 3 rfl λR n=>?_;simp [go_sem,seval,q4];repeat first|intro _|refine ⟨fK,?_⟩
   refine n _ _ ?_;clear n R;refine OpsG.store (T:=305) (c:=v) XQ rfl rfl rfl rfl eq eq eq Y X (P ▸ a4) aD ?_;refine OpsG.all (md:=λt=>t==6||t==9) rfl λR n=>?_;simp [go_sem,seval];refine n _ _ ?_;clear n R;simp only [go_sem];refine q _ _ _ ?_;clear q E;refine iF (c:=⟨λt=>t==6||t==9,λr=>match r with|8=>[(0,10),(1,10),(2,10),(3,10),(4,10),(5,10),(6,10),(7,10),(8,10)]|_=>[]⟩) Tz.mixed ia ?_;simp [go_sem,seval,B];repeat first|intro _|refine ⟨fK,?_⟩
   refine ⟨i+1,aD,(hI _ _ _ _).2 ⟨by simp [go_sem,q1],by simp [go_sem,q4],by simp [go_sem,K],by simp [go_sem,J],by simp [go_sem],aD,⟨k+1,aD,by rw [List.take_succ_eq_append_getElem w,Ve,<- F,P]⟩,?_,λj hj=>?_,by simp [go_sem];omega⟩⟩
   .rw [List.take_succ_eq_append_getElem w,<- F];refine YT hE λy M=>?_;rw [<- ho] at M;rw [M] at D;simp at D;rw [D,P]
   .have fr1:=bS (aD:j<H.next);simp [go_sem,fr1];exact hG j hj
 .refine WpG.exit ?_;simp [go_sem];refine k3 _ _ _ ?_;have a5:i=l.length:=by have:=of_decide_eq_false h3;omega
  rw [aG aD] at hE ⊢;refine eE λK5 L=>?_;refine iF (c:=⟨λt=>t==6||t==9,λr=>match r with|8=>[(0,10),(1,10),(2,10),(3,10),(4,10),(5,10),(6,10),(7,10),(8,10)]|_=>[]⟩) Tz.mixed ia ?_;simp [go_sem,seval,q4];refine L _ _ _ ?_;clear L K5;refine WpG.ret ?_;simp [go_sem,VD];refine ⟨hG,a0,.inr ⟨TR (λs hs=>(f s hs).1) hE,b,k,by simp [go_sem],rfl⟩⟩
theorem TC {c:Part}{vs:V2}{l:List Slot}(h:vA c vs l=false):EqK c vs l:=by
 rw [yR] at h;have a:∀ (p q:Nat) (d:p<q) (b:q<l.length),mL c l[p]=mL c l[q]->l[p].J=l[q].J->dO l[p].y vs=dO l[q].y vs:=λp q d b f e=>by
  refine aY λn=>?_;have:((List.range l.length).any λi=>(List.range i).any λk=>xB c vs l i k)=true:=by
   rw [bF];refine ⟨q,by simpa using b,?_⟩;rw [bF];refine ⟨p,by simpa using d,?_⟩;unfold xB C8;simp only [aA (aD:p<l.length),aA b,qK,f,e];simp [n]
  rw [h] at this;cases this
 intro s j o g f e;obtain ⟨p,m,rfl⟩:=aO j;obtain ⟨q,b,rfl⟩:=aO g;rcases Nat.lt_trichotomy p q with h1|h1|h1
 .exact a p q h1 b f e
 .subst h1;rfl
 .exact (a q p h1 m f.symm e.symm).symm
theorem Vs (t:Types)(ht:t.ok)(r:Rule)(hR:RuleV t r)(m:Mat)(h o:Host)(tr p:Part)(hP:PutOk t r o p)(d3:m.vars.length=r.left.vars.toNat)(d1:Sm m.vars)(G:AHeap)(s a b0 V:Nat)(S:List Nat)
  (hs:G.get s=some ⟨57,38,[stpC r m h (.own a o.j.h.length) (.own b0 o.j.i.length) (.own V o.k.length) tr p],false⟩) (c5:HH G 0 a b0 V S o) (d7:∀ j∈a :: b0 :: V :: S,j≠s) (d8:s<G.next) (Q:D->AHeap->Prop)
  (a2:∀ H',sP t o.j p m.vars r.right.l≠0->(∀ j,j<G.next->j∉a :: b0 :: V :: S->H'.get j=G.get j)->G.next<=H'.next->Q (dI (sP t o.j p m.vars r.right.l)) H')
  (hQ:∀ H',sP t o.j p m.vars r.right.l=0->HH H' 0 a b0 V S ⟨o.j,uU p m.vars r.right.l o.k⟩->(∀ j,j<G.next->j∉a :: b0 :: V :: S->H'.get j=G.get j)->G.next<=H'.next->Q (dI 0) H') :
  ACalls prog 162 [t.d,.ptr s 1 0 0] G Q:=by
 obtain ⟨l,hl⟩:=c7 (r.right.l);have hA:=K6 t r hR m h o tr p hP d3 d1 a b0 V o.j.h.length o.j.i.length o.k.length G;have a3:=hR.l;have A:=hP.spot;have L:=hP.J;have g3:=hP.cf;rw [<- hl] at a3 A L a2 hQ hA;refine LX (P:=prog) (K:=309) (E:=3) (Q:=λd H' _=>Q d H') ?_ (λ_ _ _ h=>h);refine Ba func162 rfl rfl (by exact aF rfl) ?_;refine eE λO B=>?_;refine iF (c:=⟨λt=>t==7,λ_=>[]⟩) Tz.mixed ia ?_;simp [go_sem,seval];refine B _ _ _ ?_;clear B O;refine eE λO B=>?_;refine WpG.region ?_;refine OpsG.take (md:=λt=>t==7) 3 rfl λR J=>?_;simp [go_sem,seval,hs,stpC];repeat first|intro _|refine ⟨fK,?_⟩
 refine J _ _ ?_;clear J R;refine OpsG.call (f:=253) (args:=[.agg (stpC r m h (.own a o.j.h.length) (.own b0 o.j.i.length) (.own V o.k.length) tr p)]) (by simp [go_sem,iR,stpC]) rfl rfl hA λd H1 g1 hq=>?_;obtain ⟨b5,a9,b3⟩:=hq;rcases b3 with ⟨a1,q,rfl⟩|⟨a1,b,k,rfl,rfl⟩
 .refine OpsG.all (md:=λt=>t==7) rfl λR J=>?_;simp [go_sem,seval];repeat first|intro _|refine ⟨fK,?_⟩
  refine J _ _ (B _ _ _ ?_);clear J R B O;refine eE λK2 k2=>?_;refine eE λK4 U=>?_;refine iF (c:=⟨λt=>t==7,λ_=>[]⟩) Tz.mixed ia ?_;simp [go_sem,seval];refine U _ _ _ ?_;clear U K4;refine WpG.cond (t:=true) eq (λ_=>?_) (λhc=>by cases hc);refine eE λK5 k5=>?_;refine iF (c:=⟨λt=>t==7,λ_=>[]⟩) Tz.mixed ia ?_;simp [go_sem,seval];refine k5 _ _ _ ?_;clear k5 K5;refine WpG.ret ?_;simp [go_sem,VD];have hE:sP t o.j p m.vars l=11:=by unfold sP;rw [if_pos a1]
  rw [hE] at a2;exact a2 _ (by decide) (λj Z _=>b5 j Z) a9
 .refine OpsG.all (md:=λt=>t==7) rfl λR J=>?_;simp [go_sem,seval];repeat first|intro _|refine ⟨fK,?_⟩
  refine J _ _ (B _ _ _ ?_);clear J R B O;refine eE λK2 k2=>?_;refine eE λK4 U=>?_;refine iF (c:=⟨λt=>t==7,λ_=>[]⟩) Tz.mixed ia ?_;simp [go_sem,seval];refine U _ _ _ ?_;clear U K4;refine WpG.cond (t:=false) eq (λhc=>by cases hc) (λ_=>WpG.skip ?_);simp only [go_sem];refine k2 _ _ _ ?_;clear k2 K2;have a5:sP t o.j p m.vars l=if l.any (zE t o.j p m.vars)=true then 6 else 0:=by unfold sP;rw [if_neg (by rw [a1];simp)]
  refine eE λK3 k3=>?_;refine eE λK4 U=>?_;refine WpG.region ?_;refine OpsG.take (md:=λt=>t==7) 1 rfl λR J=>?_;simp [go_sem,seval];refine J _ _ ?_;clear J R;refine OpsG.range (T:=305) XQ rfl rfl rfl rfl eq λrr xA=>?_;refine OpsG.nil (U _ _ _ ?_);clear U K4;have N:∀ x∈l,EQ (mL p x)/\EQ x.J:=λx M=>by
   obtain ⟨s1,s2,s3⟩:=A x M;obtain ⟨t1,t2⟩:=L x M;have:=pV hR.vf (o.j.h[fX p x]?.getD 0);have h0:=(a3 x M).2.1.1;rw [qK] at s2;exact ⟨⟨by unfold mL;omega,by unfold mL at *;omega⟩,aD,aD⟩
  refine WpG.block ?_;obtain ⟨F,hF⟩:=c7 (FA p m.vars l);rw [<- hF];obtain ⟨I,hI⟩:∃ I:Nat->MS->eF->AHeap->Prop,∀ i g e H,I i g e H↔(∃ z d0,g=.rg b rr F z i d0/\e 1=.ptr s 1 0 0/\e 2=.adr t.c/\e 22=.cst (Gw rr) /\
   HH H 0 a b0 V S ⟨o.j,AR F (λu v=>(F u v).isSome&&!z u v) o.k⟩/\(∀ x∈l,z (mL p x) x.J=false->zE t o.j p m.vars x=false)/\(∀ j,j<G.next->j∉a :: b0 :: V :: S->H.get j=G.get j)/\G.next<=H.next):=⟨_,λ_ _ _ _=>Iff.rfl⟩
  refine WpG.loop I (λi=>i) xA ((hI _ _ _ _).2 ⟨_,_,rfl,by simp [go_sem],by simp [go_sem],by simp [go_sem],?_,?_,λj Z _=>b5 j Z,a9⟩) λi g e H e7=>?_
  .rw [VW]
   .exact c5.same a9 (λj Z=>b5 j (c5.W j Z).2)
   .intro n v _ _;cases F n v<;>rfl
  .intro x M hf;have:=T6 (c:=p) (vs:=m.vars) (l:=l) (s:=x) (TC a1) M;rw [<- hF] at this;rw [this] at hf;cases hf
  obtain ⟨z,d0,rfl,q1,q2,a6,hh,hO,hG,e0⟩:=(hI _ _ _ _).1 e7;refine eE λO B=>?_;refine WpG.region ?_;refine OpsG.next XQ rfl rfl rfl (iq a6) (λhd=>?_) (λu v c i' hu hv f8 b6 e5=>?_)
  .refine OpsG.all (md:=λt=>t==7) rfl λR J=>?_;simp [go_sem,seval];refine J _ _ (B _ _ _ ?_);clear J R B O;refine eE λO B=>?_;refine WpG.cond (t:=false) eq (λhc=>by cases hc) (λ_=>WpG.exit ?_);simp [go_sem];refine k3 _ _ _ ?_;refine eE λK5 k5=>?_;refine iF (c:=⟨λt=>t==7,λ_=>[]⟩) Tz.mixed ia ?_;simp [go_sem,seval];refine k5 _ _ _ ?_;clear k5 K5;refine WpG.ret ?_;simp [go_sem,VD];have c9:l.any (zE t o.j p m.vars)=false:=by
    rw [bJ];intro hT;obtain ⟨x,M,hT⟩:=bF.1 hT;rw [hO x M (hd _ _ (N x M).1 (N x M).2)] at hT;cases hT
   rw [if_neg (by rw [c9];simp)] at a5;have hV:=VV (c:=p) (vs:=m.vars) (vals:=o.k) (l:=l) (λx M=>⟨(A x M).1,(A x M).2.1,(a3 x M).2.1.1,(L x M).1⟩) (dn:=λu v=>(F u v).isSome&&!z u v) (λn v _ _=>by
    rw [<- hF];cases f2:F n v with
    | none=>rfl
    | some y =>
     obtain ⟨x,M,e1,e2,_⟩:=BS (c:=p) (vs:=m.vars) (l:=l) (by rw [<- hF];exact f2);have:=hd _ _ (N x M).1 (N x M).2;rw [e1,e2] at this;simp [this])
   rw [<- hF] at hV;rw [hV] at hh;exact hQ _ a5 hh hG e0
  .refine OpsG.all (md:=λt=>t==7) rfl λR J=>?_;simp [go_sem,seval];refine J _ _ (B _ _ _ ?_);clear J R B O;refine eE λO B=>?_;refine WpG.cond (t:=true) eq (λ_=>WpG.skip ?_) (λhc=>by cases hc);simp only [go_sem];refine B _ _ _ ?_;clear B O;refine WpG.block ?_;refine eE λO B=>?_;refine WpG.region ?_;refine OpsG.entry rfl rfl rfl (iq a6) ?_;refine OpsG.all (md:=λt=>t==7) rfl λR J=>?_;simp [go_sem,seval];repeat first|intro _|refine ⟨fK,?_⟩
   refine J _ _ (B _ _ _ ?_);clear J R B O;obtain ⟨x,W,e1,e2,e3⟩:=BS (c:=p) (vs:=m.vars) (l:=l) (by rw [<- hF];exact b6);obtain ⟨s1,s2,s3⟩:=A x W;obtain ⟨t1,t2⟩:=L x W;have a0:=(a3 x W).2.1.1;obtain ⟨n,hn⟩:=c7 (fX p x);rw [<- hn] at s2 s3 t1 t2;have d4:u=(n:Int):=by rw [<- e1,hn,qK];unfold mL at *;omega
   subst d4;obtain ⟨w,hw⟩:∃ w:Nat,v=(w:Int):=⟨v.toNat,aD⟩;subst hw;have c0:H.get s=some ⟨57,38,[stpC r m h (.own a o.j.h.length) (.own b0 o.j.i.length) (.own V o.k.length) tr p],false⟩:=by rw [hG s d8 (λhm=>d7 s hm rfl)];exact hs
   have e8:=hh.ga;have c8:=hh.gV;have f6:=hh.W a hh.bs;have f7:=hh.W V hh.bN;obtain ⟨nd,c2⟩:∃ y,y=o.j.h[n]:=⟨_,rfl⟩;have Y:o.j.h[n]?.getD 0=nd:=by rw [c2,aA s3];rfl
   rw [Y] at t2;have b4:w<(bL t nd).length:=aD;have b7:=xa1 (bS (aD:s<H.next)) (bS (aD:a<H.next)) (bS (aD:V<H.next));have g0:=sB ht nd;refine eE λO B=>?_;refine iF (c:=⟨λt=>t==7,λ_=>[]⟩) Tz.mixed ia ?_;simp [go_sem,seval,q1,q2,c0,e8,stpC,b7,aA s3,<- c2];repeat first|intro _|refine ⟨fK,?_⟩
   refine aH (n3 t ht nd) gt ?_;simp [go_sem,seval];repeat first|intro _|refine ⟨fK,?_⟩
   refine B _ _ _ ?_;clear B O;refine eE λK2 k2=>?_;refine eE λK4 U=>?_;refine iF (c:=⟨λt=>t==7,λ_=>[]⟩) Tz.mixed ia ?_;simp [go_sem,seval,b7,aA b4,Attr.c];repeat first|intro _|refine ⟨fK,?_⟩
   refine U _ _ _ ?_;clear U K4;have C:=hh;obtain ⟨dn,b1⟩:=c7 (λu v=>(F u v).isSome&&!z u v);rw [<- b1] at C;have b9:(AR F dn o.k).length=o.k.length:=uV ..;have c4:n<(AR F dn o.k).length:=aD;have e4:n<S.length:=by rw [C.len];exact c4
   obtain ⟨q,hq⟩:=c7 (S[n]);obtain ⟨vr,d2⟩:∃ v,v=(AR F dn o.k)[n]:=⟨_,rfl⟩;have g1:S[n]?=some q:=by rw [aA e4,hq]
   have g2:(AR F dn o.k)[n]?=some vr:=by rw [aA c4,d2]
   have c1:=uA g1 g2;have c6:=C.gq _ _ _ g1 g2;have b8:vr.length=(o.k[n]?.getD []).length:=by rw [<- sQ F dn o.k n,g2];rfl
   have a8:w<vr.length:=aD;have X:q∈S:=aL g1;have f4:=C.W q (C.bm X);have d9:=kH C.len;rw [<- b1] at c8;have f3:=bS (aD:q<H.next);have f1:zE t o.j p m.vars x=(decide (c<(bL t nd)[w].ao)||decide ((bL t nd)[w].az<c)):=by
    unfold zE;rw [<- hn,Y,(aD:x.J.toNat=w),aA b4,e3];rfl
   refine WpG.cond (t:=decide (c<(bL t nd)[w].ao)||decide ((bL t nd)[w].az<c)) eq (λe9=>?_) (λf0=>WpG.skip ?_)
   .refine eE λK5 k5=>?_;refine iF (c:=⟨λt=>t==7,λ_=>[]⟩) Tz.mixed ia ?_;simp [go_sem,seval];refine k5 _ _ _ ?_;clear k5 K5;refine WpG.ret ?_;simp [go_sem,VD];have hT:l.any (zE t o.j p m.vars)=true:=bF.2 ⟨_,W,by rw [f1];exact e9⟩;rw [if_pos hT] at a5;rw [a5] at a2;refine a2 _ (by decide) (λj Z a4=>?_) ge;simp [go_sem,(aD:j≠H.next)];exact hG j Z a4
   .simp only [go_sem];refine k2 _ _ _ ?_;clear k2 K2;refine iF (c:=⟨λt=>t==7,λ_=>[]⟩) Tz.mixed ia ?_;have c3:n<o.k.length:=aD;have f5:=C.qn X;simp [go_sem,seval,q1,c0,c8,stpC,b7,f3,c1,c6,d9,b9];refine ⟨c3,a8,?_⟩;simp [go_sem,aA a8,cI];repeat first|intro _|refine ⟨fK,?_⟩
    refine ⟨i',e5,(hI _ _ _ _).2 ⟨_,_,rfl,by simp [go_sem,q1],by simp [go_sem,q2],by simp [go_sem,a6],?_,?_,?_,by first|(simp [go_sem];done)|(simp [go_sem];omega)⟩⟩
    .have hst:=VU F o.k (dn:=dn) (dn':=λu v=>(F u v).isSome&&!(z u v&&(!decide (u=(n:Int))||!decide (v=(w:Int))))) c3 (by rw [<- b8];exact a8) b6 (λn2 b2 _ _=>by
      rw [b1];by_cases e1:n2=n
      .by_cases e2:b2=w
       .subst e1;subst e2;simp [b6]
       .have e3':¬ ((b2:Int)=w):=aD;subst e1;simp [e2,e3']
      .have e3':¬ ((n2:Int)=n):=aD;simp [e1,e3'])
     rw [g2] at hst;rw [<- hst];exact C.eo ge g1 g2 aE (by simp [go_sem,c6,cW,cI]) (λj Z e6=>by
      have f9:=(C.W j Z).2;simp [go_sem,e6,(aD:j≠H.next)])
    .intro y hy hyf;cases hL:z (mL p y) y.J with
     | false=>exact hO y hy hL
     | true =>
      have a7:mL p y=(n:Int)/\y.J=(w:Int):=by rw [hL] at hyf;simpa using hyf
      have d6:fX p y=n:=by rw [qK,a7.1];rfl
      have d5:dO y.y m.vars=c:=by rw [<- e3];exact TC a1 y hy x W (by rw [a7.1,e1]) (by rw [a7.2,e2])
      unfold zE;rw [d6,Y,(aD:y.J.toNat=w),aA b4,d5];exact f0
    .intro j Z a4;simp [go_sem,(aD:j≠H.next),show j≠q from λe=>a4 (e ▸ C.bm X)];exact hG j Z a4
end Go.Abs
end
