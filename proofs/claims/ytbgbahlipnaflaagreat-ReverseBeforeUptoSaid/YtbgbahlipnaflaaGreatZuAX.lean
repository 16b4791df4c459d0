/- Layer 27: Undo of the program and of the reference. · Layer  -/
import Derived.Test.YtbgbahlipnaflaaGreatZuAG
import Derived.Test.YtbgbahlipnaflaaGreatZuAA
import Derived.Test.YtbgbahlipnaflaaGreatZuAW
set_option linter.unusedVariables false
set_option linter.unusedSimpArgs false
section
set_option maxRecDepth 100000
set_option maxHeartbeats 4000000
open Go Go.Proofs Tryz
namespace Go.Abs
def stpZ:UN:=[.str ⟨#[]⟩,.nil,.nil,.nil,.int .i64 (0),.nil,.nil,.nil,.nil,.int .i64 (0),.nil,.nil,.nil,.nil,.nil,.bool false,.int .i64 (0),.nil,.nil,.nil,.nil,.nil,.nil,.int .i64 (0),.nil,.nil,.nil,.nil,.nil,.nil,.nil,.nil,.nil,.nil,.nil,.nil,.nil,.nil]
@[go_sem] theorem Zz:stpZ.length=38:=rfl
def Fq (s u:Stp26)(m0:Part):Part:=⟨Ci u.after.i.h.length m0.h u.U.h s.U.h u.A.h s.V.m.h s.G.q.h,Ci u.after.i.j.length m0.j u.U.j s.U.j u.A.j s.V.m.j s.G.q.j⟩
structure BackOk (s u:Stp26) (m0:Part):Prop where
 fn:u.after.i.h.length<=1000000/\u.after.i.j.length<=1000000
 fi:u.U.h.length<=m0.h.length/\u.U.j.length<=m0.j.length
 fu:(∀ x∈u.U.h,x<u.after.i.h.length)/\∀ x∈u.U.j,x<u.after.i.j.length
 fc:(∀ x∈u.A.h,0<=x/\x<u.after.i.h.length)/\∀ x∈u.A.j,0<=x/\x<u.after.i.j.length
 fm:u.A.h.length<=s.V.m.h.length/\u.A.j.length<=s.V.m.j.length
def EG (s:Stp26)(m0:Part):Mat:=⟨⟨s.A.h.map (idx m0.h),s.A.j.map (idx m0.j)⟩,[]⟩
theorem UD (t:Types):mL t.d=t.d:=by simp [Types.d,Types.c,mL,iU,Kv,Fb]
theorem Wd (r:Rule):mL r.d=r.d:=by simp [Rule.d,Rule.c,mL,iU,dLI,dI,eY,Ah,OI,OH,UF]
theorem We (h:Host):mL h.d=h.d:=by simp [Host.d,Host.c,mL,iU,dLI,dI,eY,Ah,aaG]
theorem XM (l:V2):mL (dLI l)=dLI l:=by simp [dLI,mL,eY]
theorem Ua (t:Types)(r:Rule)(h:Host)(a b:V2):[t.d,r.d,h.d,.agg [dLI a,dLI b,.nil]].map mL=[t.d,r.d,h.d,.agg [dLI a,dLI b,dLI []]]:=by
 simp [UD,Wd,We,mL,iU,XM];simp [dLI]
theorem LV (t:Types)(ht:t.ok)(s:Stp26)(r:Rule)(hr:r.ok)(h:Host)(m0:Part)(a6:s.A.h.length<=1000)(a5:s.A.j.length<=1000){v:Stp26}{er:Int}(hv:v=gI t r h (EG s m0))(he:er=lL t r h (EG s m0))(a:er=0->BackOk s v m0) :
  Pua 59 [t.d,.agg s.c,r.d,h.d,m0.d] (.tup [.agg (if er=0 then v else mS).c,(if er=0 then Fq s v m0 else ⟨[],[]⟩:Part).d,dI er]):=by
 have O:=sZ t ht r hr h (EG s m0) hv he;obtain ⟨R,N⟩:∃ M,M=s.A.h.map (idx m0.h):=⟨_,rfl⟩;obtain ⟨M2,L⟩:∃ M,M=s.A.j.map (idx m0.j):=⟨_,rfl⟩;have a2:EG s m0=⟨⟨R,M2⟩,[]⟩:=by rw [N,L];rfl
 rw [a2] at O;have l1:R.length=s.A.h.length:=by rw [N];simp
 have l2:M2.length=s.A.j.length:=by rw [L];simp
 have bN:=λf:er=0=>CF v.after.i.h.length m0.h v.U.h s.U.h v.A.h s.V.m.h s.G.q.h (a f).fn.1 (a f).fi.1 (a f).fu.1 (a f).fc.1 (a f).fm.1;have bE:=λf:er=0=>CF v.after.i.j.length m0.j v.U.j s.U.j v.A.j s.V.m.j s.G.q.j (a f).fn.2 (a f).fi.2 (a f).fu.2 (a f).fc.2 (a f).fm.2;obtain ⟨p,W⟩:=c6 (Ci v.after.i.h.length m0.h v.U.h s.U.h v.A.h s.V.m.h s.G.q.h);obtain ⟨q,V⟩:=c6 (Ci v.after.i.j.length m0.j v.U.j s.U.j v.A.j s.V.m.j s.G.q.j);have S:Fq s v m0=⟨p,q⟩:=by rw [W,V];rfl
 rw [<- W] at bN;rw [<- V] at bE;rw [S];simp only [Stp26.c,Rule.c,Mat.c,Host.c,dN,dP] at O;have O:=O.fg (Ua t r h R M2);unfold Rule.d Host.d at O;simp only [Rule.c,Host.c] at O;clear a W V S hv he;refine Tz.pK ⟨λt=>t==10||t==11||t==13||t==18,λr=>match r with|5=>[(0,7),(1,7),(2,7)]|10=>[(0,7),(1,7),(2,7)]|_=>[]⟩ func59 rfl (λQ hQ=>?_);have Y:=xa2 @Stp26.c.eq_1 @Rule.c.eq_1 @Mat.c.eq_1 @Host.c.eq_1;refine sM (h:=rE (Ghosts.step (Ghosts.step (Ghosts.refl _) 2 0 0 3 1 _ _ (rfl) rfl rfl rfl) 2 0 1 3 1 _ _ (rfl) rfl rfl rfl) (λi e H=>(e 5=.adr t.c/\e 6=.adr s.c/\e 7=.adr r.c/\e 8=.adr h.c/\e 9=.adr m0.c/\e 10=.ptr 0 1 0 0/\e 11=.ptr 1 1 0 0/\e 13=.ptr 2 1 0 0/\e 22=dLI s.A.h/\e 23=dI s.A.h.length/\e 24=dI i)/\(H.get 0=some ⟨57,38,[stpZ],false⟩)/\(0<H.next)/\(H.get 1=some ⟨36,2,[[.nil,.nil]],false⟩)/\(1<H.next)/\(H.get 2=some ⟨55,3,[[.own 3 i,.own 4 0,.nil]],false⟩)/\(2<H.next)/\(H.get 3=some ⟨3,1,((s.A.h.take i).map (idx m0.h)).map cI,false⟩)/\(3<H.next)/\(H.get 4=some ⟨3,1,[],false⟩)/\(4<H.next)/\(i<=s.A.h.length)) (λi=>s.A.h.length - i) 0 ⟨wg,(by simp [go_sem,Y,stpZ]),wn,wn,wn,wn,wn,(by rfl),wn,wn,wn,wi⟩ λI0 a4 i e H a0=>?_);obtain ⟨E0,K,E,I,C,o,A,l,y,j,w,hi⟩:=a0;have Y:=xb0 Y E0 K (cW E) I (cW C) o (cW A) l (cW y) j (cW w);refine kZ (h:=wq (λU=>?_) λU=>?_)
 .have hSt:(s.A.h.take (i+1)).map (idx m0.h)=(s.A.h.take i).map (idx m0.h)++[idx m0.h s.A.h[i]]:=by rw [List.take_succ_eq_append_getElem U,List.map_append];rfl
  have a1:((s.A.h.take i).map (idx m0.h)).length=i:=by simp;omega
  have Y:=xa2 Y U (aA U) a1;refine sM (h:=aI (tH m0.h s.A.h[i]) wl ?_);exact sM (h:=wx a4 (i+1) ⟨wg,(by simp [go_sem,Y]),wn,wn,wn,wn,wn,(by simp [go_sem,Y,hSt]),wn,wn,wn,wj⟩)
 .have S:i=s.A.h.length:=aD;rw [aG aD,<- N] at l;rw [S,<- l1] at o;have Y:=xa2 @Stp26.c.eq_1 @Rule.c.eq_1 @Mat.c.eq_1 (xb0 @Host.c.eq_1 E0 K (cW E) I (cW C) o (cW A) l (cW y) j (cW w));refine sM (h:=bC (λk e H=>(e 5=.adr t.c/\e 6=.adr s.c/\e 7=.adr r.c/\e 8=.adr h.c/\e 9=.adr m0.c/\e 10=.ptr 0 1 0 0/\e 11=.ptr 1 1 0 0/\e 13=.ptr 2 1 0 0/\e 22=dLI s.A.h/\e 23=dI s.A.h.length/\e 42=dLI s.A.j/\e 43=dI s.A.j.length/\e 44=dI k)/\(H.get 0=some ⟨57,38,[stpZ],false⟩)/\(0<H.next)/\(H.get 1=some ⟨36,2,[[.nil,.nil]],false⟩)/\(1<H.next)/\(H.get 2=some ⟨55,3,[[.own 3 R.length,.own 4 k,.nil]],false⟩)/\(2<H.next)/\(H.get 3=some ⟨3,1,R.map cI,false⟩)/\(3<H.next)/\(H.get 4=some ⟨3,1,((s.A.j.take k).map (idx m0.j)).map cI,false⟩)/\(4<H.next)/\(k<=s.A.j.length)) (λk=>s.A.j.length - k) 0 ⟨wg,wn,wn,wn,wn,wn,wn,wn,wn,(by exact j),wn,wi⟩ λI2 a3 k e H Z=>?_);obtain ⟨E2,J,D,G,B,n,z,F,x,g,u,hk⟩:=Z;have Y:=xb0 Y E2 J (cW D) G (cW B) n (cW z) F (cW x) g (cW u);refine kZ (h:=wq (λT=>?_) λT=>?_)
  .have hSt2:(s.A.j.take (k+1)).map (idx m0.j)=(s.A.j.take k).map (idx m0.j)++[idx m0.j s.A.j[k]]:=by rw [List.take_succ_eq_append_getElem T,List.map_append];rfl
   have P:((s.A.j.take k).map (idx m0.j)).length=k:=by simp;omega
   have Y:=xa2 Y T (aA T) P;refine sM (h:=aI (tH m0.j s.A.j[k]) wl ?_);exact sM (h:=wx a3 (k+1) ⟨wg,wn,wn,wn,wn,wn,wn,wn,wn,(by simp [go_sem,Y,hSt2]),wn,wj⟩)
  .have hK:k=s.A.j.length:=aD;rw [aG aD,<- L] at g;rw [hK,<- l2] at n;have Y:=xa2 @Stp26.c.eq_1 @Rule.c.eq_1 @Mat.c.eq_1 (xb0 @Host.c.eq_1 E2 J (cW D) G (cW B) n (cW z) F (cW x) g (cW u));refine kZ (h:=Px (O) wz wl wz ?_);refine kZ (h:=wq (λb=>?_) λb=>?_)
   .refine kZ (h:=?_);have X:¬ er=0:=by simpa using b
    exact hQ _ _ (by simp [go_sem,X,mS,rule0,oQ,jJ,Part.d,Part.c,Stp26.c,Rule.c,Mat.c,Host.c,Cond.B,Cond.u,Cond.map,Cond.l,dLI,dI])
   .refine sM (h:=aI (bN (bZ b)) wl ?_);refine sM (h:=aI (bE (bZ b)) wl ?_);refine sM (h:=?_);have hz:er=0:=by simpa using b
    exact hQ _ _ (by simp [go_sem,Y,hz,Part.d,Part.c,Stp26.c,Rule.c,Mat.c,Host.c])
def xS (s:Stp26)(b:Part):Stp26:=⟨s.G,s.V,s.L,s.after,⟨lW s.U.h b.h,lW s.U.j b.j⟩,s.A⟩
def Da (m:Part):Part:=⟨oG m.h,oG m.j⟩
def vZ (g:Graph):Part:=⟨iJ g.h.length,iJ g.j.length⟩
theorem vE {n:Nat}{k:Int}(h0:0<=k)(h:k<n):iA (iJ n) k=k:=by
 unfold iA iJ;rw [aM,mU aD];simp;omega
theorem Gm {n:Nat}:∀ x∈iJ n,0<=x/\x<n:=λx hx=>by
 unfold iJ at hx;obtain ⟨k,hk,rfl⟩:=aX.1 hx;have:=aW.1 hk;omega
theorem C1 (n:Nat):(iJ n).Nodup:=by
 unfold iJ;rw [eR,zE];exact List.pairwise_lt_range.imp λh=>by omega
theorem C9 {n:Nat}{k:Int}(a:0<=k)(h:k<n):iA (oG (iJ n)) k=k:=by
 have:=(Ml (sB n) Gm (C1 n) a h).2;rw [vE a h] at this;exact this
theorem KM {t:Types}{g:Host}(ho:HostOk t g):HIso g g (vZ g.i) where
 nl:=sB _
 el:=sB _
 nn:=rfl
 en:=rfl
 av:=ho.vl
 bv:=ho.vl
 ni:=Gm
 ei:=Gm
 nd:=C1 _
 ed:=C1 _
 ty p h0 h:=by show _=gN g.i (iA (iJ _) p);rw [vE h0 h]
 eg p h0 h:=by
  have hE:=vK ho.gg h0 h;show eA g.i (iA (iJ _) p)=⟨_,iA (iJ _) _,iA (iJ _) _⟩;rw [vE h0 h,vE hE.1.1 hE.1.2,vE hE.2.1.1 hE.2.1.2]
 va p h0 h:=by show _=g.k[(iA (iJ _) p).toNat]?.getD [];rw [vE h0 h]
theorem wZ {l:V2}{f:Int->Int}(h:∀ x∈l,f x=x):l.map f=l:=(cH (g:=id) h).trans (List.map_id l)
theorem Nu {l:V2}{n:Nat}(h:∀ x∈l,x<n):lW l (oG (iJ n))=l:=by
 unfold lW;refine wZ λx a=>?_;split
 .exact C9 (by assumption) (h x a)
 .rfl
section
variable {t:Types} {r:Rule} {h g:Host} {m m':Mat} {m0:Part}
theorem r3 {t:Types}{r:Rule}{h:Host}{m:Mat}(d:r.ok)(a:lL t r h m=0):StepOk t r h m:=by
 unfold lL at a;split at a
 .contradiction
 .rename_i hg;obtain ⟨c,b⟩:=w8 (bZ hg);exact Ui (G6 d c) (nB b) a
theorem StepIn.dk (S:StepIn t r h m):(∀ x∈(dG r h m).h,x<(bM t r h m).i.h.length)/\∀ x∈(dG r h m).j,x<(bM t r h m).i.j.length:=by
 constructor
 .intro x hx;obtain ⟨i,a,rfl⟩:=mO hx;rw [S.bz] at a ⊢;rw [jN] at a;rw [S.b3];by_cases b:(i:Int)∈l7 r.q.h m.m.h h.i.h.length
  .obtain ⟨p,d,c,_⟩:=S.ak.a6 b;omega
  .rw [S.ak.ds aD b];omega
 .intro x hx;obtain ⟨i,a,rfl⟩:=mO hx;rw [S.cF] at a ⊢;rw [jN] at a;rw [S.bN];by_cases b:(i:Int)∈l7 r.q.j m.m.j h.i.j.length
  .obtain ⟨p,d,c,_⟩:=S.ba.a6 b;omega
  .rw [S.ba.ds aD b];omega
theorem Ru {l:V2}{n N:Nat}(hl:l.length=n)(hr:∀ x∈l,0<=x/\x<n)(hd:l.Nodup){tr:V2}(ht:∀ x∈tr,x<n):∀ x∈lW tr (oG l),x<n:=λx hx=>by
 unfold lW at hx;obtain ⟨y,hy,rfl⟩:=aX.1 hx;split
 .exact (Gr hl hr hd (by assumption) (ht y hy)).1.2
 .exact ht y hy
theorem Back.cz (B:Back t r h m g m0 m'):IsoOk (xS (aP t r h m) (Da m0)) (aP t (c9 t (aP t r h m)) g m') where
 fn:=by
  have b:=B.K'.nn;have a:=B.K'.ne;exact ⟨by show (bM t _ g m').i.h.length<=_;show (bS t _ g m').i.h.length<=_;omega,by show (bS t _ g m').i.j.length<=_;omega⟩
 ft:=by
  constructor
  .show ∀ x∈lW (dG r h m).h (oG m0.h),x<(dG _ g m').h.length;rw [B.K'.S.bz,jN];exact Ru (N:=0) B.I.nl (by rw [B.I.nn];exact B.I.ni) B.I.nd (by rw [B.I.nn];exact B.K.S.dk.1)
  .show ∀ x∈lW (dG r h m).j (oG m0.j),x<(dG _ g m').j.length;rw [B.K'.S.cF,jN];exact Ru (N:=0) B.I.el (by rw [B.I.en];exact B.I.ei) B.I.ed (by rw [B.I.en];exact B.K.S.dk.2)
 fu:=B.K'.S.dk
 fc:=⟨B.K'.S.az,B.K'.S.bh⟩
 fm:=by
  constructor
  .show (cT _ g m').h.length<=m.m.h.length;rw [B.K'.S.bc,eM,B.bj.2,B.K.S.hm.len];exact bF _
  .show (cT _ g m').j.length<=m.m.j.length;rw [B.K'.S.b0,eM,B.K.S.hm.cb];exact bF _
theorem Back.fo (B:Back t r h m g m0 m'):BackOk (aP t r h m) (aP t (c9 t (aP t r h m)) g m') m0 where
 fn:=B.cz.fn
 fi:=by
  constructor
  .show (dG _ g m').h.length<=m0.h.length;rw [B.K'.S.bz,jN,B.I.nl];exact bF _
  .show (dG _ g m').j.length<=m0.j.length;rw [B.K'.S.cF,jN,B.I.el];exact bF _
 fu:=B.cz.fu
 fc:=B.cz.fc
 fm:=B.cz.fm
theorem Back.same (B:Back t r h m g m0 m'):Fq (aP t r h m) (aP t (c9 t (aP t r h m)) g m') m0=HR (xS (aP t r h m) (Da m0)) (aP t (c9 t (aP t r h m)) g m'):=by
 have a:=B.K'.S.b3;have c:=B.K'.S.bN;rw [B.bj.2] at a;have e:=B.ct.same a;have d:=B.dg.same c;have b:=B.K'.S.bc;rw [B.bj.2] at b;have f:(⟨(Fq (aP t r h m) (aP t (c9 t (aP t r h m)) g m') m0).h,(Fq (aP t r h m) (aP t (c9 t (aP t r h m)) g m') m0).j⟩:Part)=⟨(HR (xS (aP t r h m) (Da m0)) (aP t (c9 t (aP t r h m)) g m')).h,(HR (xS (aP t r h m) (Da m0)) (aP t (c9 t (aP t r h m)) g m')).j⟩:=by
  congr 1
  .show Ci _ m0.h (dG _ g m').h (dG r h m).h (cT _ g m').h m.m.h r.q.h=BN (lW (dG r h m).h (oG m0.h)) (dG _ g m').h (cT _ g m').h m.m.h _;rw [B.K.S.bz,B.K'.S.bz,b];exact e
  .show Ci _ m0.j (dG _ g m').j (dG r h m).j (cT _ g m').j m.m.j r.q.j=BN (lW (dG r h m).j (oG m0.j)) (dG _ g m').j (cT _ g m').j m.m.j _;rw [B.K.S.cF,B.K'.S.cF,B.K'.S.b0];exact d
 exact f
theorem J1 (K:StepOk t r h m)(hr:r.ok)(h0:lL t (c9 t (aP t r h m)) (bM t r h m) ⟨cT r h m,[]⟩=0):Back t r h m (bM t r h m) (vZ (bM t r h m).i) ⟨cT r h m,[]⟩ where
 K:=K
 I:=KM (nB K.after)
 bn:=by
  show (cT r h m).h=_;refine (wZ λx hx=>?_).symm;exact C9 (K.S.az x hx).1 (K.S.az x hx).2
 be:=by
  show (cT r h m).j=_;refine (wZ λx hx=>?_).symm;exact C9 (K.S.bh x hx).1 (K.S.bh x hx).2
 K':=r3 (GC hr (K.dr hr)) h0
theorem Xl (K:StepOk t r h m):xS (aP t r h m) (Da (vZ (bM t r h m).i))=aP t r h m:=by
 have b:lW (dG r h m).h (oG (iJ (bM t r h m).i.h.length))=(dG r h m).h:=Nu K.S.dk.1;have a:lW (dG r h m).j (oG (iJ (bM t r h m).i.j.length))=(dG r h m).j:=Nu K.S.dk.2;show (⟨r,m,h,bM t r h m,⟨lW (dG r h m).h _,lW (dG r h m).j _⟩,cT r h m⟩:Stp26)=⟨r,m,h,bM t r h m,dG r h m,cT r h m⟩;rw [show (Da (vZ (bM t r h m).i)).h=oG (iJ (bM t r h m).i.h.length) from rfl,show (Da (vZ (bM t r h m).i)).j=oG (iJ (bM t r h m).i.j.length) from rfl,b,a]
end
def IS (s:Stp26):Mat:=⟨s.A,[]⟩
def Uc (t:Types)(s:Stp26):Int:=if Bj t s≠0 then Bj t s else lL t (p9 t s) s.after (IS s)
def PS (t:Types)(s:Stp26):Stp26:=if Uc t s=0 then gI t (p9 t s) s.after (IS s) else mS
def VI (t:Types)(s:Stp26):Part:=if Uc t s=0 then HR s (gI t (p9 t s) s.after (IS s)) else ⟨[],[]⟩
theorem LP {t:Types}{s:Stp26}(b:s.G.ok)(h:Bj t s=0):Et t s=true/\p9 t s=c9 t s/\(p9 t s).ok:=by
 unfold Bj at h;split at h
 .contradiction
 .rename_i h1;have a:BI t s=0:=by simpa using h1
  have c:Et t s=true:=by
   unfold BI at a;split at a
   .contradiction
   .split at a
    .assumption
    .cases a
  unfold GD at h;split at h
  .cases h
  .rename_i h2;have d:p9 t s=c9 t s:=by unfold p9 GB;rw [if_neg h1,if_neg h2]
   exact ⟨c,d,by rw [d];exact GC b (MD b c).2.2⟩
theorem Nk {t:Types}{s:Stp26}(b:s=aP t s.G s.L s.V)(K:StepOk t s.G s.L s.V):EG s (vZ s.after.i)=IS s:=by
 have a:∀ {l:V2} {n:Nat},(∀ x∈l,0<=x/\x<n)->l.map (idx (iJ n))=l:=λ {l n} g=>wZ λx f=>by
  have c:=g x f;have:=yH (C1 n) (q:=x.toNat) (by rw [sB];omega);rw [show ((x.toNat:Nat):Int)=x by omega,vE c.1 c.2] at this;exact this
 have e:=K.S.az;have d:=K.S.bh;have i:s.A=cT s.G s.L s.V:=congrArg Stp26.A b;have h:s.after=bM t s.G s.L s.V:=congrArg Stp26.after b;rw [<- i,<- h] at e d;show (⟨⟨s.A.h.map (idx (iJ s.after.i.h.length)),s.A.j.map (idx (iJ s.after.i.j.length))⟩,[]⟩:Mat)=⟨⟨s.A.h,s.A.j⟩,[]⟩;rw [a e,a d]
theorem VT {t:Types}{s:Stp26}(d:s.G.ok)(h:Uc t s=0):∃ r h m,s=aP t r h m/\PS t s=aP t (c9 t s) s.after (IS s)/\VI t s=HR s (aP t (c9 t s) s.after (IS s))/\Back t r h m s.after (vZ s.after.i) (IS s):=by
 have c:PS t s=gI t (p9 t s) s.after (IS s)/\VI t s=HR s (gI t (p9 t s) s.after (IS s)):=⟨by unfold PS;rw [if_pos h],by unfold VI;rw [if_pos h]⟩;unfold Uc at h;split at h
 .contradiction
 .rename_i h1;obtain ⟨f,i,_⟩:=LP d (bZ h1);rw [i] at h c;have g:gI t (c9 t s) s.after (IS s)=aP t (c9 t s) s.after (IS s):=by unfold gI;rw [if_pos h]
  rw [g] at c;obtain ⟨e,K,_⟩:=MD d f;obtain ⟨r,b,m,a⟩:∃ r b m,s=aP t r b m:=⟨_,_,_,e⟩;refine ⟨r,b,m,a,c.1,c.2,?_⟩;subst a;exact J1 K d h
theorem Ub {t:Types}{s:Stp26}(g:s.G.ok)(h:Uc t s=0):HIso (PS t s).after s.L (VI t s)/\IsoOk s (PS t s)/\BackOk s (PS t s) (vZ s.after.i)/\Fq s (PS t s) (vZ s.after.i)=VI t s/\EG s (vZ s.after.i)=IS s:=by
 obtain ⟨r,b,m,f,o,n,B⟩:=VT g h;rw [o,n];subst f;have a:xS (aP t r b m) (Da (vZ (aP t r b m).after.i))=aP t r b m:=Xl B.K;have k:=B.g0;have d:=B.cz;have j:=B.fo;have i:=B.same;have e:EG (aP t r b m) (vZ (bM t r b m).i)=IS (aP t r b m):=Nk rfl B.K;have c:Fq (aP t r b m) (aP t (c9 t (aP t r b m)) (bM t r b m) (IS (aP t r b m))) (vZ (bM t r b m).i)=HR (aP t r b m) (aP t (c9 t (aP t r b m)) (bM t r b m) (IS (aP t r b m))):=by
  have:=i;rw [a] at this;exact this
 rw [a] at d;refine ⟨?_,d,j,c,e⟩;have l:HR (aP t r b m) (aP t (c9 t (aP t r b m)) (bM t r b m) (IS (aP t r b m)))=HR (xS (aP t r b m) (Da (vZ (aP t r b m).after.i))) (aP t (c9 t (aP t r b m)) (bM t r b m) (IS (aP t r b m))):=by rw [a]
 show HIso (bM t (c9 t (aP t r b m)) (bM t r b m) (IS (aP t r b m))) b (HR (aP t r b m) (aP t (c9 t (aP t r b m)) (bM t r b m) (IS (aP t r b m))));rw [l];exact k
theorem LW (t:Types)(F:t.ok)(s:Stp26)(w:s.G.ok):Pua 21 [t.d,.agg s.c] (.tup [.agg (PS t s).c,(VI t s).d,dI (Uc t s)]):=by
 have D:=Bn t F s w;obtain ⟨R,B⟩:=c6 (p9 t s);obtain ⟨k,j⟩:∃ e,e=Bj t s:=⟨_,rfl⟩;obtain ⟨v,r⟩:=c6 (gI t (p9 t s) s.after (IS s));obtain ⟨i,u⟩:∃ e,e=lL t (p9 t s) s.after (IS s):=⟨_,rfl⟩;obtain ⟨p,z⟩:=c6 (HR s v);have x:Uc t s=if k≠0 then k else i:=by unfold Uc;rw [<- j,<- u]
 have l:k=0->(s.after.i.h.length<=100000/\s.after.i.j.length<=100000)/\(s.A.h.length<=1000/\s.A.j.length<=1000)/\EG s (vZ s.after.i)=IS s:=λm=>by
  obtain ⟨O,P,S⟩:=LP w (j ▸ m);obtain ⟨G,K,A⟩:=MD w O;have o:=A.Y;have U:=A.c1;refine ⟨?_,⟨aD,A.c3⟩,?_⟩
  .rw [G];have g:=K.nn;have f:=K.ne;exact ⟨by show (bS t _ _ _).i.h.length<=_;omega,by show (bS t _ _ _).i.j.length<=_;omega⟩
  .exact Nk G K
 have C:k=0->Pua 59 [t.d,.agg s.c,R.d,s.after.d,(vZ s.after.i).d] (.tup [.agg (if i=0 then v else mS).c,(if i=0 then p else ⟨[],[]⟩:Part).d,dI i]):=λm=>by
  have N:=(LP w (j ▸ m)).2.2;obtain ⟨_,⟨M,L⟩,E⟩:=l m;have o:=LV t F s (p9 t s) N s.after (vZ s.after.i) M L (v:=v) (er:=i) (by rw [E];exact r) (by rw [E];exact u) (λg=>by
   have f:Uc t s=0:=by rw [x,if_neg aD,g]
   have n:=(Ub w f).2.2.1;have e:PS t s=v:=by unfold PS;rw [if_pos f,r]
   rw [e] at n;exact n)
  have T:i=0->Fq s v (vZ s.after.i)=p:=λg=>by
   have f:Uc t s=0:=by rw [x,if_neg aD,g]
   have n:=(Ub w f).2.2.2.1;have e:PS t s=v:=by unfold PS;rw [if_pos f,r]
   rw [e] at n;rw [n,z];unfold VI;rw [if_pos f,r]
  rw [<- B] at o;by_cases g:i=0
  .rw [if_pos g,if_pos g] at o ⊢;rw [T g] at o;exact o
  .rw [if_neg g,if_neg g] at o ⊢;exact o
 have J:k=0->Pua 60 [s.after.i.d] (vZ s.after.i).d:=λm=>D3 s.after.i (l m).1.1 (l m).1.2;have H:PS t s=if k=0/\i=0 then v else mS:=by
  unfold PS;rw [x,<- r];by_cases a:k=0<;>by_cases b:i=0<;>simp [a,b]
 have y:VI t s=if k=0/\i=0 then p else ⟨[],[]⟩:=by
  unfold VI;rw [x,<- r,<- z];by_cases a:k=0<;>by_cases b:i=0<;>simp [a,b]
 rw [<- B,<- j] at D;rw [H,y,x];obtain ⟨q,n⟩:=c6 (vZ s.after.i);rw [<- n] at C J;simp only [Stp26.c,Rule.c,Mat.c,Host.c,dN,dP] at D C;clear x H y z u r j B l n;refine Tz.pK ⟨λt=>t==4||t==5||t==7,λ_=>[]⟩ func21 rfl (λQ I=>?_);have Y:=xa2 @Stp26.c.eq_1 @Rule.c.eq_1 @Mat.c.eq_1 @Host.c.eq_1;refine kZ (h:=aB (D) wl ?_);refine kZ (h:=wq (λf=>?_) λf=>?_)
 .exact kZ (h:=I _ _ (by simp [go_sem,f,mS,rule0,oQ,jJ,Part.d,Part.c,Stp26.c,Rule.c,Mat.c,Host.c,Cond.B,Cond.u,Cond.map,Cond.l,dLI,dI]))
 .refine kZ (h:=aI (J (bZ f)) wl ?_);refine kZ (h:=aI (C (bZ f)) wl ?_);refine kZ (h:=?_);have m:k=0:=by simpa using f
  exact I _ _ (by by_cases g:i=0<;>simp [go_sem,m,g,mS,rule0,oQ,jJ,Part.d,Part.c,Stp26.c,Rule.c,Mat.c,Host.c,Cond.B,Cond.u,Cond.map,Cond.l,dLI,dI])
def Ys:Rule:=⟨⟨#[99,108,111,115,101]⟩,⟨⟨[3,1],[⟨0,0,1⟩]⟩,[],0,[]⟩,⟨⟨[3],[]⟩,[],0,[]⟩,⟨[0],[]⟩,⟨[0],[]⟩,true,.mk 1 [] ⟨[],[]⟩ oQ⟩
def shH:Host:=⟨⟨[3,1,1],[⟨0,0,1⟩,⟨0,0,2⟩]⟩,[[],[10],[5]]⟩
def clM:Mat:=⟨⟨[0,2],[1]⟩,[]⟩
def clS:Stp26:=gI exT Ys shH clM
theorem Sj:fewR Ys=true:=by decide +kernel
theorem cl1:lL exT Ys shH clM=0:=by decide +kernel
theorem cl2:Bj exT clS=0:=by decide +kernel
theorem cl3:(p9 exT clS).right.o=[⟨1,0,⟨-1,5⟩⟩]:=by decide +kernel
theorem cl4:Uc exT clS=0:=by decide +kernel
theorem cl5:(PS exT clS).after=shH:=by decide +kernel
theorem cl6:VI exT clS=⟨[0,1,2],[0,1]⟩:=by decide +kernel
theorem C7:Pua 24 [] shH.d:=by
 refine vY (by first|rfl|(simp [go_sem];done)) (λQ a=>(Tz.cK ⟨λt=>t==0,λ_=>[]⟩ func24 rfl ?_));have Y:=trivial;refine kZ (h:=?_);exact a _ _ (by simp [go_sem,shH,Host.d,Host.c,Edge.c,cL,dLI,cI,dI])
theorem JB:Pua 19 [] (.tup [.agg clS.c,dI 0]):=by
 have a:=GQ exT (Gu R7) Ys (My Sj) shH clM;rw [cl1] at a;have b:gI exT Ys shH clM=clS:=rfl;rw [b] at a;generalize clS=v at *;refine Tz.pK ⟨λt=>t==0||t==2,λr=>match r with|2=>[(0,3),(1,3),(2,3),(0,4),(1,4),(2,4),(3,4)]|_=>[]⟩ func19 rfl (λQ e=>?_);have Y:=xa2 @Stp26.c.eq_1 @Rule.c.eq_1 @Mat.c.eq_1 @Host.c.eq_1;refine kZ (h:=aI (Bu) wl ?_);refine kZ (h:=aI (C7) wl ?_);refine kZ (h:=aI (a.fg (by simp [go_sem,Kv,Fb,Ys,shH,clM,oQ,Rule.d,Rule.c,Types.d,Types.c,Host.d,Host.c,Mat.d,Mat.c,Slot.c,Edge.c,cL,dLI,cI,dI,Cond.B,Cond.u,Cond.map,Cond.l,mL,iU,fD])) wl ?_);exact kZ (h:=e _ _ wy)
theorem Oe (a:Host):Pua 23 [a.d,a.d] (.bool true):=by
 have:=Ac a a (λi _ _=>Ce _);rwa [show decide (a=a)=true by simp] at this
theorem Fc:Pua 5 [] (.bool true):=by
 have g:=Gu R7;have i:clS.G.ok:=by
  have e:clS.G=Ys:=by unfold clS gI;rw [if_pos cl1];rfl
  rw [e];exact My Sj
 have f:=LX exT g clS i;have b:=LW exT g clS i;have k:=JB;rw [cl2] at f;rw [cl4,cl6] at b;have m:=cl3;have j:=cl5;have o:=B8 [⟨1,0,⟨-1,5⟩⟩] [⟨1,0,⟨-1,5⟩⟩];have n:=Oe shH;generalize clS=s at *;generalize p9 exT s=R at *;generalize PS exT s=u at *;simp only [Stp26.c,Rule.c,Mat.c,Host.c,dN,dP] at f b k;refine Tz.pK ⟨λt=>t==1||t==2||t==4||t==6||t==7,λr=>match r with|5=>[(11,16),(12,16),(13,16),(26,27),(26,28),(27,28)]|_=>[]⟩ func5 rfl (λQ l=>?_);have Y:=xa4 @Stp26.c.eq_1 @Rule.c.eq_1 @Mat.c.eq_1 @Host.c.eq_1 m j;refine kZ (h:=aB (Bu) wl ?_);refine kZ (h:=aB (k) wl ?_);refine kZ (h:=aB (f) wl ?_);refine kZ (h:=aB (b) wl ?_);refine sM (h:=dJ (λa=>(by simpa [Slot.c,Term.c,dI] using o)) (λa=>wl) ?_);refine sM (h:=dJ (λa=>C7) (λa=>wl) ?_);refine sM (h:=dJ (λa=>(by simpa [Host.d,Host.c,j,dLI] using n)) (λa=>wl) ?_);refine sM (h:=dJ (λa=>Ol ⟨[0,1,2],[0,1]⟩) (λa=>wl) ?_);exact sM (h:=l _ _ wy)
def Xs (l:List Stp26)(i:Nat):Stp26:=l[i]?.getD mS
structure Chain (t:Types) (l:List Stp26):Prop where
 vf:(dA t).2=0
 pos:0<l.length
 b5:l.length<=30
 o6:∀ i,i<l.length->Et t (Xs l i)=true
 con:∀ i,0<i->i<l.length->(Xs l (i - 1)).after=(Xs l i).L
theorem HIso.inj {a b:Host}{s:Part}(I:HIso a b s){x y:Int}(d:0<=x/\x<a.i.h.length)(c:0<=y/\y<a.i.h.length)(h:iA s.h x=iA s.h y):x=y:=by
 have e:=I.nl;have:=BV I.nd (i:=x.toNat) (j:=y.toNat) aD aD (by rw [show ((x.toNat:Nat):Int)=x by omega,show ((y.toNat:Nat):Int)=y by omega];exact h);omega
theorem HIso.fr {a b:Host}{s:Part}(I:HIso a b s){v:Int}(h:0<=v/\v<b.i.h.length):∃ x:Int,(0<=x/\x<a.i.h.length)/\iA s.h x=v:=by
 obtain ⟨i,d,c⟩:=mO (AM (by rw [I.nl,I.nn]) I.ni I.nd h);have:=I.nl;exact ⟨i,aD,c⟩
theorem HIso.gf {a b:Host}{s:Part}(I:HIso a b s){v:Int}(h:0<=v/\v<b.i.j.length):∃ x:Int,(0<=x/\x<a.i.j.length)/\iA s.j x=v:=by
 obtain ⟨i,d,c⟩:=mO (AM (by rw [I.el,I.en]) I.ei I.ed h);have:=I.el;exact ⟨i,aD,c⟩
theorem HIso.fw {a b:Host}{s:Part}(I:HIso a b s){x y:Int}(d:0<=x/\x<a.i.j.length)(c:0<=y/\y<a.i.j.length)(h:iA s.j x=iA s.j y):x=y:=by
 have e:=I.el;have:=BV I.ed (i:=x.toNat) (j:=y.toNat) aD aD (by rw [show ((x.toNat:Nat):Int)=x by omega,show ((y.toNat:Nat):Int)=y by omega];exact h);omega
theorem HIso.g1 {a b:Host}{s:Part}(I:HIso a b s){x:Int}(h:0<=x/\x<a.i.h.length):0<=iA s.h x/\iA s.h x<b.i.h.length:=I.ni _ (d7 h.1 (by rw [I.nl];exact h.2))
theorem HIso.g2 {a b:Host}{s:Part}(I:HIso a b s){x:Int}(h:0<=x/\x<a.i.j.length):0<=iA s.j x/\iA s.j x<b.i.j.length:=I.ei _ (d7 h.1 (by rw [I.el];exact h.2))
theorem Ye {l:V2}{n:Nat}(a:∀ x∈l,0<=x/\x<n){i:Int}(b:0<=i)(h:i<l.length):0<=l[i.toNat]?.getD 0/\l[i.toNat]?.getD 0<n:=by
 rw [aA aD];exact a _ (aC _)
theorem Mg {l:V2}{f:Int->Int}{i:Int}(h0:0<=i)(h:i<l.length):(l.map f)[i.toNat]?.getD 0=f (l[i.toNat]?.getD 0):=by
 rw [aM,aA aD];rfl
theorem QE {l:V2}{f:Int->Int}{n:Nat}{k:Int}(b:∀ x∈l,0<=x/\x<n)(c:0<=k/\k<n)(d:∀ x y:Int,0<=x/\x<n->0<=y/\y<n->f x=f y->x=y):mem (l.map f) (f k)=mem l k:=by
 rw [aT,mem_iff,mem_iff,aX];exact ⟨λ⟨x,a,e⟩=>d x k (b x a) c e ▸ a,λh=>⟨k,h,rfl⟩⟩
theorem Id {α β:Type}{f g:α->List β}:∀ (l:List α),(∀ x∈l,f x=g x)->l.flatMap f=l.flatMap g
 | [],_=>rfl
 | a :: l,h=>by rw [oV,oV,h a aE,Id l λx hx=>h x (by simp [hx])]
def FV (s m:Part):Part:=⟨m.h.map (iA s.h),m.j.map (iA s.j)⟩
theorem HIso.haveV {a b:Host}{s:Part}(I:HIso a b s){m:Part}(g:∀ x∈m.h,0<=x/\x<a.i.h.length){c:Slot}(f:0<=c.node)(e:c.node<m.h.length):Abs.haveV b (FV s m) c=Abs.haveV a m c:=by
 have d:=Ye g f e;unfold Go.Abs.haveV FV;simp only;rw [Mg f e,I.va _ d.1 d.2]
theorem HIso.slotsV {a b:Host}{s:Part}(I:HIso a b s){m:Part}(hm:∀ x∈m.h,0<=x/\x<a.i.h.length):∀ (l:List Slot) (st:V2 × List Bool),(∀ c∈l,0<=c.node/\c.node<m.h.length)->Abs.slotsV b (FV s m) st l=Abs.slotsV a m st l
 | [],st,_=>rfl
 | c :: l,st,h=>by
  have hc:=h c aE;have e1:=I.haveV hm hc.1 hc.2;have e2:lX b (FV s m) st c=lX a m st c:=by unfold lX;rw [e1]
  simp only [Go.Abs.slotsV];rw [e1,e2,I.slotsV hm l _ λx hx=>h x (by simp [hx])]
theorem HIso.k {a b:Host}{s:Part}(I:HIso a b s){m:Part}(d:∀ x∈m.h,0<=x/\x<a.i.h.length){p:Pattern}(h:∀ c∈p.o,0<=c.node/\c.node<m.h.length)(vs:V2):eX p b (FV s m) vs=eX p a m vs:=by
 unfold eX;rw [I.slotsV d _ _ h]
theorem OL {l:V2}{f:Int->Int}{n:Nat}(c:∀ x∈l,0<=x/\x<n)(g:∀ x y:Int,0<=x/\x<n->0<=y/\y<n->f x=f y->x=y):(l.map f).Nodup↔l.Nodup:=by
 rw [eR,eR,zE];constructor
 .exact λh=>h.imp λa b=>a (by rw [b])
 .exact λh=>h.imp_of_mem λe d a b=>a (g _ _ (c _ e) (c _ d) b)
theorem C4 {l:V2}{f:Int->Int}{i:Nat}(h:i<l.length):(l.map f)[i]?.getD 0=f (l[i]?.getD 0):=by
 rw [aM,aA h];rfl
theorem HIso.mNE {t:Types}{a b:Host}{s:Part}(I:HIso a b s){p:Graph}{m:Part}{i:Nat}(f:i<m.h.length)(h:Abs.mNE t p a.i m i=0):Abs.mNE t p b.i (FV s m) i=0:=by
 unfold Go.Abs.mNE at h ⊢;split at h
 .cases h
 .rename_i h1;split at h
  .rename_i h2;have c:0<=m.h[i]?.getD 0/\m.h[i]?.getD 0<a.i.h.length:=aD;have e:(FV s m).h[i]?.getD 0=iA s.h (m.h[i]?.getD 0):=C4 f;have g:=I.g1 c;have d:=I.ty _ c.1 c.2;unfold gN at d;rw [e,if_neg aD,<- d,if_pos h2]
  .cases h
theorem HIso.mapEE {a b:Host}{s:Part}(I:HIso a b s)(q:graphF a.i=0){p:Graph}(g:graphF p=0){m:Part}(o:m.h.length=p.h.length){i:Nat}(k:i<m.j.length)(d:i<p.j.length)(h:Abs.mapEE p a.i m i=0):Abs.mapEE p b.i (FV s m) i=0:=by
 unfold Go.Abs.mapEE at h ⊢;split at h
 .cases h
 .rename_i h1;split at h
  .cases h
  .rename_i h2;split at h
   .cases h
   .rename_i h3;have e:0<=m.j[i]?.getD 0/\m.j[i]?.getD 0<a.i.j.length:=aD;have j:(FV s m).j[i]?.getD 0=iA s.j (m.j[i]?.getD 0):=C4 k;have r:=I.g2 e;have f:=I.eg _ e.1 e.2;have c:=((dX g).2 _ (aC d)).2;rw [j,if_neg aD];unfold eA at f;rw [f];rw [aA d,Option.getD_some] at h2 h3 ⊢;have n:(FV s m).h[p.j[i].w.toNat]?.getD 0=iA s.h (m.h[p.j[i].w.toNat]?.getD 0):=Mg c.1.1 aD;have l:(FV s m).h[p.j[i].M.toNat]?.getD 0=iA s.h (m.h[p.j[i].M.toNat]?.getD 0):=Mg c.2.1 aD;rw [n,l];simp only [not_or,ne_eq,iG] at h2 h3;rw [if_neg (bZ h2),if_neg];rintro (h6|h6)
    .exact h6 (by rw [h3.1])
    .exact h6 (by rw [h3.2])
theorem HIso.matchE {t:Types}{a b:Host}{s:Part}(I:HIso a b s)(B:graphF a.i=0){p:Graph}(A:graphF p=0){m:Part}{inj:Bool}(h:Abs.matchE t p a.i m inj=0):Abs.matchE t p b.i (FV s m) inj=0:=by
 have M:=rD h;unfold Go.Abs.matchE at h ⊢;have w:(FV s m).h.length=m.h.length:=aR ..;have v:(FV s m).j.length=m.j.length:=aR ..;rw [w,v];have z:=M.len;have E:=M.cb;rw [if_neg aD] at h ⊢;split at h
 .rename_i d;exact absurd h d
 .rename_i d;split at h
  .rename_i c;exact absurd h c
  .rename_i c;split at h
   .cases h
   .rename_i h3;rw [iG] at d c;have D:bV (Go.Abs.mNE t p b.i (FV s m)) 0 p.h.length=0:=iM _ _ λj k g=>I.mNE aD (eZ _ _ d j k g);have C:bV (Go.Abs.mapEE p b.i (FV s m)) 0 p.j.length=0:=iM _ _ λj k g=>I.mapEE B A z aD aD (eZ _ _ c j k g);rw [if_neg (by rw [D];simp),if_neg (by rw [C];simp),if_neg];rintro ⟨e,hd⟩;refine h3 ⟨e,?_⟩;have u:=OL (l:=m.h) (f:=iA s.h) (n:=a.i.h.length) (λx o=>by
     obtain ⟨i,e,rfl⟩:=aN o;exact (M.bO i e aD).1) (λx y d c h=>I.inj d c h)
    have r:=OL (l:=m.j) (f:=iA s.j) (n:=a.i.j.length) (λx o=>by
     obtain ⟨i,e,rfl⟩:=aN o;exact M.dm i e) (λx y d c h=>I.fw d c h)
    rcases hd with hd|hd
    .exact .inl λq=>hd (u.2 q)
    .exact .inr λq=>hd (r.2 q)
theorem H6 {t:Types}{b:Host}(H:HostOk t b):mR t b.i=true:=by
 rw [q7 H.gg];exact DU (λa d=>(pO H a d).2) λx c=>(H.ed x c).1
theorem Mv {t:Types}{p g:Graph}{b:Host}(h:eL t p g=0)(H:HostOk t b):eL t p b.i=0:=by
 have a:=H6 H;have c:=H.gg;unfold eL at h ⊢;rw [a,c];split at h
 .exact absurd h (by assumption)
 .rename_i h1;rw [if_neg h1];split at h
  .exact absurd h (by assumption)
  .rename_i h2;rw [if_neg h2];split at h
   .exact absurd h (by assumption)
   .split at h
    .cases h
    .rename_i h4;simp only [c7,cX,not_or,Bool.not_eq_false] at h4;rw [if_neg aE,h4.1];rfl
theorem ME {t:Types}{p g:Graph}{m:Part}{inj:Bool}(h:checkE t p g m inj=0):eL t p g=0:=by
 unfold checkE at h;split at h
 .exact absurd h (by assumption)
 .rename_i h1;simpa using h1
theorem HIso.checkE {t:Types}{a b:Host}{s:Part}(I:HIso a b s)(d:graphF a.i=0)(c:HostOk t b){p:Graph}{m:Part}{inj:Bool}(h:Abs.checkE t p a.i m inj=0):Abs.checkE t p b.i (FV s m) inj=0:=by
 have G:=pS h;unfold Go.Abs.checkE;rw [if_neg (by rw [Mv (ME h) c];simp)];exact I.matchE d G.1.gp G.2
theorem Sc {a keep:V2}{f:Int->Int}{n:Nat}(g:∀ x∈a,0<=x/\x<n)(c:∀ x y:Int,0<=x/\x<n->0<=y/\y<n->f x=f y->x=y):nZ (a.map f) keep=nZ a keep:=by
 have l:∀ i k:Nat,i<a.length->k<a.length->sQ (a.map f) keep i k=sQ a keep i k:=λi k e d=>by
  unfold sQ;rw [C4 e,C4 d,aA e,aA d,Option.getD_some,Option.getD_some];congr 1;exact decide_eq_decide.2 ⟨λh=>c _ _ (g _ (aC e)) (g _ (aC d)) h,λh=>by rw [h]⟩
 unfold nZ En;rw [aR];refine Id _ λi c=>?_;have b:=aW.1 c;unfold mF;congr 1;exact Gy λk j=>l _ _ b (by have:=aW.1 j;omega)
theorem U7 {a keep:V2}{f:Int->Int}:g6 (a.map f) keep=(g6 a keep).map f:=by
 unfold g6;rw [aR,List.map_map];refine cH λi b=>?_;exact C4 (aW.1 (fY.1 b).1)
theorem U6 {a keep:V2}{x:Int}(h:x∈g6 a keep):x∈a:=by
 obtain ⟨i,_,_,b⟩:=rK.1 h;exact aK b
theorem HIso.comp {a b:Host}{s:Part}(I:HIso a b s)(J:graphF b.i=0){l:Graph}{keep m:Part}(h:oN l a.i keep m=0):oN l b.i keep (FV s m)=0:=by
 obtain ⟨p,T,S,R,t⟩:=vP h;obtain ⟨A,M,E,D⟩:=kK p;obtain ⟨z,w⟩:=tG p;have r:=λ(x y:Int) (c:0<=x/\x<a.i.h.length) (h2:0<=y/\y<a.i.h.length) (h:iA s.h x=iA s.h y)=>I.inj c h2 h;have u:=λ(x y:Int) (c:0<=x/\x<a.i.j.length) (h2:0<=y/\y<a.i.j.length) (h:iA s.j x=iA s.j y)=>I.fw c h2 h;have gN_:∀ {k:Int},0<=k->k<l.h.length->iA (FV s m).h k=iA s.h (iA m.h k):=λd c=>t8 _ d aD;have gE_:∀ {k:Int},0<=k->k<l.j.length->iA (FV s m).j k=iA s.j (iA m.j k):=λd c=>t8 _ d aD;have K:eK l b.i (FV s m)=0:=by
  refine AO A J (by rw [<- E];exact aR ..) (by rw [<- D];exact aR ..) (λi d c=>?_) (λk d c=>?_)
  .obtain ⟨e,q⟩:=yE p d c;rw [gN_ d c];exact ⟨I.g1 e,by rw [<- I.ty _ e.1 e.2,q]⟩
  .obtain ⟨e,q,C,B⟩:=rC p d c;have f:=vK A d c;rw [gE_ d c,gN_ f.1.1 f.1.2,gN_ f.2.1.1 f.2.1.2,I.eg _ e.1 e.2,C,B];exact ⟨I.g2 e,q,rfl,rfl⟩
 have L:vN b.i (FV s m).j (g6 (FV s m).h keep.h)=[]:=by
  unfold vN at t ⊢;rw [List.map_eq_nil_iff,qW] at t ⊢;intro k H;obtain ⟨x,g,f⟩:=I.gf (v:=k) (by have:=aW.1 H;omega);have o:=t x.toNat (aW.2 aD);have j:=((dX M).2 _ (Mz g.1 g.2)).2;have c:=I.eg x g.1 g.2;rw [f] at c;have O:b.i.j[k]?.getD cY=⟨(eA a.i x).type,iA s.h (eA a.i x).w,iA s.h (eA a.i x).M⟩:=by
   unfold eA at c;rw [Int.toNat_natCast] at c;exact c
  have N:a.i.j[x.toNat]?.getD cY=eA a.i x:=rfl;have n:∀ v∈g6 m.h keep.h,0<=v/\v<a.i.h.length:=λv F=>z v (U6 F);unfold xH at o ⊢;rw [O];rw [N] at o;show ¬ (!mem (m.j.map (iA s.j)) (k:Int)&&(mem (g6 (m.h.map (iA s.h)) keep.h) (iA s.h (eA a.i x).w)||mem (g6 (m.h.map (iA s.h)) keep.h) (iA s.h (eA a.i x).M)))=true;rw [U7,QE n j.1 r,QE n j.2 r,<- f,QE w g u];rw [show ((x.toNat:Nat):Int)=x by omega] at o;exact o
 unfold oN compG;rw [if_neg (by rw [if_neg (by rw [K];simp)];have G:subF l keep=0:=T;rw [G];simp),if_neg,if_neg (by rw [L];simp)];have Q:nZ (FV s m).h keep.h=[]:=by rw [<- S];exact Sc z r
 have P:nZ (FV s m).j keep.j=[]:=by rw [<- R];exact Sc w u
 rw [Q,P];simp
theorem H8 {t:Types}{p:Graph}{h:Host}(a:graphF p=0)(b:fV t p=true)(H:HostOk t h):eL t p h.i=0:=by
 unfold eL;rw [if_neg (by rw [H.vf];simp),if_neg (by rw [a];simp),if_neg (by rw [H.gg];simp),q7 a,b,H6 H];rfl
theorem O7 {t:Types}{h:Host}{inj:Bool}{c:Cond}{m:Mat}:((l6 t h inj c m).2=0/\(l6 t h inj c m).1=true)↔Lu t h inj c m=0:=by
 unfold l6;constructor
 .intro hh;split at hh
  .exact absurd hh.2 aE
  .exact hh.1
 .intro hh;rw [hh,if_neg (by decide)];simp
theorem T5 (t:Types)(h:Host)(inj:Bool)(m:Mat):Lu t h inj trueC m=0:=by
 unfold Lu;rw [Cp];rfl
section
variable {t:Types} {r:Rule} {h:Host} {m:Mat}
theorem StepIn.fs (S:StepIn t r h m){x:Int}(c:x∈l7 r.q.h m.m.h h.i.h.length):gN (bS t r h m).i (iA (nD r.q.h m.m.h h.i.h.length) x)=gN h.i x /\
  (bS t r h m).k[(iA (nD r.q.h m.m.h h.i.h.length) x).toNat]?.getD []=h.k[x.toNat]?.getD []:=by
 obtain ⟨p,f,e,d⟩:=S.ak.a6 c;have a:p<(bW r h m).h.length:=by rw [S.bg];exact e
 have b:(bW r h m).h[p]=x:=by rw [<- iD a,S.bg];exact d
 rw [f];constructor
 .unfold gN;rw [Int.toNat_natCast,S.bt,aS (bZ a),aM,aA a,b];rfl
 .rw [Int.toNat_natCast,Lj,aS (bZ a),aM,aA a,b];rfl
theorem StepIn.ft (S:StepIn t r h m){x:Int}(c:x∈l7 r.q.j m.m.j h.i.j.length):eA (bS t r h m).i (iA (nD r.q.j m.m.j h.i.j.length) x) =
  ⟨(eA h.i x).type,iA (nD r.q.h m.m.h h.i.h.length) (eA h.i x).w,iA (nD r.q.h m.m.h h.i.h.length) (eA h.i x).M⟩:=by
 obtain ⟨p,n,l,j⟩:=S.ba.a6 c;have b:p<(bW r h m).j.length:=by rw [S.bs];exact l
 have i:(bW r h m).j[p]=x:=by rw [<- iD b,S.bs];exact j
 have e:eA (bS t r h m).i (p:Int)=gEd h.i (bW r h m) x:=by
  unfold eA;rw [Int.toNat_natCast,S.ch,aS (bZ b),aM,aA b,i];rfl
 rw [n,e,BZ];obtain ⟨g,f⟩:=p7 S.sub (k:=x) (by rw [S.bs];exact c);have a:∀ v:Int,v∈(bW r h m).h->iA (nD r.q.h m.m.h h.i.h.length) v=(oZ (bW r h m).h v:Int):=λv d=>by
  rw [S.ak.cR (S.cx v d),<- S.bg,A2 S.b1,if_pos ((mem_iff _ _).2 d)]
 rw [a _ g,a _ f]
theorem StepIn.gl (S:StepIn t r h m){x:Int}(a:x∈l7 r.q.j m.m.j h.i.j.length):(eA h.i x).w∈l7 r.q.h m.m.h h.i.h.length/\(eA h.i x).M∈l7 r.q.h m.m.h h.i.h.length:=by
 have:=p7 S.sub (k:=x) (by rw [S.bs];exact a);rwa [S.bg] at this
end
theorem RuleV.cy {t:Types}{r:Rule}(R:RuleV t r){q:Nat}(o:q<r.q.j.length):(eA r.left.i (iA r.q.j q)).type=(eA r.right.i (iA r.s.j q)).type /\
  (∃ p:Nat,p<r.q.h.length/\iA r.q.h p=(eA r.left.i (iA r.q.j q)).w/\iA r.s.h p=(eA r.right.i (iA r.s.j q)).w) /\
  (∃ p:Nat,p<r.q.h.length/\iA r.q.h p=(eA r.left.i (iA r.q.j q)).M/\iA r.s.h p=(eA r.right.i (iA r.s.j q)).M):=by
 obtain ⟨n,m⟩:=pQ R.sub;have d:=(nE R.sub).2.1;have l:iA r.q.j q∈r.q.j:=d7 aD aD;obtain ⟨_,c,b,a⟩:=rC R.mo (k:=(q:Int)) aD aD;rw [yL R.sub aD aD,BZ] at c b a;obtain ⟨f,e⟩:=p7 R.sub l;obtain ⟨j,i,_⟩:=yB d f;obtain ⟨h,g,_⟩:=yB d e;exact ⟨c,⟨_,j,i,b⟩,⟨_,h,g,a⟩⟩
section
variable {keep into mm:V2} {nL nR nH:Nat}
theorem Vd {c keep:V2}(h:∀ i k:Nat,i<k->k<c.length->c[i]?.getD 0=c[k]?.getD 0->mem keep i=true/\mem keep k=true):nZ c keep=[]:=by
 unfold nZ En mF;rw [List.flatMap_eq_nil_iff];intro i d;rw [List.map_eq_nil_iff,qW];intro b e a;have l:=aW.1 d;have j:=aW.1 e;unfold sQ at a;rw [aL,decide_eq_true_eq] at a;obtain ⟨g,f⟩:=h i (i+1+b) aD aD a.1;rw [g,f] at a;exact absurd a.2 aE
theorem Srt.ek (S:Srt keep into mm nL nR nH){j:Int}(b:j∈into):iA (tL keep into mm nR nH) j<(l7 keep mm nH).length:=by
 obtain ⟨q,d,rfl⟩:=mO b;have e:=S.kl;have a:iA keep q∈keep:=d7 aD aD;rw [S.bb aD];obtain ⟨p,c,f,_⟩:=S.a6 (S.am a);rw [c];omega
theorem Srt.e6 (S:Srt keep into mm nL nR nH):nZ (tL keep into mm nR nH) (fF into nR)=[]:=by
 refine Vd λi k d c h=>?_;rw [eM] at c;have e:iA (tL keep into mm nR nH) (i:Int)=iA (tL keep into mm nR nH) (k:Int):=h;have hi_:∀ {j:Nat},j<nR->(j:Int)∈into->mem (fF into nR) j=true:=λn l=>(mem_iff _ _).2 (fC.2 ⟨aD,l⟩);by_cases a:(i:Int)∈into
 .by_cases b:(k:Int)∈into
  .exact ⟨hi_ aD a,hi_ c b⟩
  .obtain ⟨f,_,_,m⟩:=S.ao (j:=(k:Int)) aD b;have:=S.ek a;omega
 .obtain ⟨f,s,r,m⟩:=S.ao (j:=(i:Int)) aD a;by_cases b:(k:Int)∈into
  .have:=S.ek b;omega
  .obtain ⟨g,q,p,o⟩:=S.ao (j:=(k:Int)) aD b;have:f=g:=aD;subst this;omega
theorem Srt.fl (S:Srt keep into mm nL nR nH){v:Int}(b:v∈g6 (tL keep into mm nR nH) (fF into nR)):(l7 keep mm nH).length<=v:=by
 obtain ⟨i,g,a,e⟩:=rK.1 b;rw [eM] at g;have c:(i:Int)∉into:=λd=>by
  rw [(mem_iff _ _).2 (fC.2 ⟨aD,d⟩)] at a;cases a
 obtain ⟨f,_,_,h⟩:=S.ao (j:=(i:Int)) aD c;have:iA (tL keep into mm nR nH) (i:Int)=v:=by unfold iA;rw [Int.toNat_natCast,e];rfl
 omega
theorem Cq (S:Srt keep into mm nL nR nH){i:Int}(c:0<=i)(b:i<(fF into nR).length):∃ q:Nat,q<keep.length/\iA (fF into nR) i=iA into q/\iA (cZ (fF into nR) into keep) i=iA keep q:=by
 have e:=fC.1 (d7 (l:=fF into nR) c b);obtain ⟨q,d,a⟩:=mO e.2;have f:=S.kl;refine ⟨q,aD,a.symm,?_⟩;unfold cZ;rw [t8 _ c b,<- a,yH S.cj d]
theorem wJ (S:Srt keep into mm nL nR nH){q:Nat}(d:q<keep.length):iA (cZ (fF into nR) into keep) (oZ (fF into nR) (iA into q))=iA keep q:=by
 have e:=S.kl;have a:iA into q∈into:=d7 aD aD;obtain ⟨c,b,_⟩:=yB (qJ into nR) (fC.2 ⟨S.ir _ a,a⟩);unfold cZ;rw [t8 _ aD aD,b,yH S.cj aD]
theorem tQ (S:Srt keep into mm nL nR nH)(g:keep.Nodup):(cZ (fF into nR) into keep).Nodup:=by
 unfold cZ;rw [eR,zE];refine List.Pairwise.imp_of_mem ?_ (eR.1 (i7 (qJ into nR)));intro x y d c a b;obtain ⟨q,e,rfl⟩:=mO (fC.1 d).2;obtain ⟨p,f,rfl⟩:=mO (fC.1 c).2;rw [yH S.cj e,yH S.cj f] at b;have:=S.kl;have:=BV g aD aD b;exact a (by rw [this])
end
section
variable {t:Types} {r:Rule} {h:Host} {m:Mat}
theorem StepIn.fk (S:StepIn t r h m){j:Int}(A:0<=j/\j<r.right.i.j.length):eA (bS t r h m).i (iA (cT r h m).j j) =
  ⟨(eA r.right.i j).type,iA (cT r h m).h (eA r.right.i j).w,iA (cT r h m).h (eA r.right.i j).M⟩:=by
 have N:=S.ak;have E:=S.ba;by_cases v:j∈r.s.j
 .obtain ⟨q,F,rfl⟩:=mO v;have z:=E.kl;have u:iA r.q.j q∈r.q.j:=d7 aD aD;have a:=E.kr _ u;obtain ⟨C,⟨p,y,x,w⟩,⟨D,d,c,b⟩⟩:=S.hR.cy (q:=q) aD;obtain ⟨_,o,l,g⟩:=rC (vP S.hc).1 (k:=iA r.q.j q) a.1 a.2;have n:(eA r.left.i (iA r.q.j q)).type=_:=o;have i:iA m.m.h (eA r.left.i (iA r.q.j q)).w=_:=l;have e:iA m.m.h (eA r.left.i (iA r.q.j q)).M=_:=g;rw [S.b0,E.bb aD,S.ft (E.am u),<- w,<- b,S.bc,N.bb y,N.bb d,x,c,<- C,n,i,e]
 .obtain ⟨f,o,l,g⟩:=E.ao A v;have s:=S.fv (f:=f) o;rw [S.bs] at s;have B:iA r.aa f=j:=l;rw [S.b0,g,s,B];rfl
theorem StepIn.cq (S:StepIn t r h m){p:Nat}(a:p<r.q.h.length):gN (bS t r h m).i (iA (cT r h m).h (iA r.s.h p))=gN h.i (iA m.m.h (iA r.q.h p)):=by
 rw [S.bc,S.ak.bb a,(S.fs (S.ak.am (d7 aD aD))).1]
def FD (t:Types)(r:Rule)(h:Host)(m:Mat):Graph:=kU r.right.i (bS t r h m).i (cT r h m)
def SA (r:Rule)(h:Host)(m:Mat):Graph:=kU r.left.i h.i m.m
theorem StepIn.dh (S:StepIn t r h m):(FD t r h m).h.length=r.right.i.h.length:=by
 show ((cT r h m).h.map _).length=_;rw [aR,S.bc,eM]
theorem StepIn.fQ (S:StepIn t r h m){i:Int}(h0:0<=i)(h1:i<r.right.i.h.length):gN (FD t r h m) i=gN (bS t r h m).i (iA (cT r h m).h i):=t8 _ h0 (by rw [S.bc,eM];omega)
theorem StepIn.dp (S:StepIn t r h m){i:Int}(h0:0<=i)(h1:i<r.left.i.h.length):gN (SA r h m) i=gN h.i (iA m.m.h i):=t8 _ h0 (by have:=S.hm.len;omega)
theorem StepIn.cd (S:StepIn t r h m):(SA r h m).h.length=r.left.i.h.length:=by
 show (m.m.h.map _).length=_;rw [aR];exact S.hm.len
theorem StepOk.ul (K:StepOk t r h m):graphF (FD t r h m)=0/\fV t (FD t r h m)=true/\eK (FD t r h m) (bS t r h m).i (cT r h m)=0:=by
 have S:=K.S;have H:HostOk t (bM t r h m):=nB K.after;have x:graphF (bS t r h m).i=0:=H.gg;have p:=dX x;have A:=bI S.hR.gr;have n:=dX S.hR.gr;have l:=j7 S.hR.gr S.hR.tr;have b:=S.dh;have c:=S.az;have o:=S.bh;have s:∀ a∈(FD t r h m).h,(0<=a/\a<=99)/\a<t.h.length:=λa d=>by
  obtain ⟨v,q,rfl⟩:=aX.1 d;have u:=BY (g:=(bS t r h m).i) (c v q).1 (c v q).2;exact ⟨p.1 _ u,(pO H _ u).2⟩
 have z:graphF (FD t r h m)=0:=Eh aD (by show r.right.i.j.length<=80;omega) (λa d=>(s a d).1) λy j=>by
  have:=n.2 y j;rw [<- b] at this;exact this
 refine ⟨z,DU (λa d=>(s a d).2) (λy j=>(l.2 y j).1.2),AO z x ?_ ?_ (λi f w=>?_) (λk f B=>?_)⟩
 .rw [b,S.bc,eM]
 .show _=r.right.i.j.length;rw [S.b0,eM]
 .rw [b] at w;exact ⟨c _ (d7 f (by rw [S.bc,eM];omega)),(S.fQ f w).symm⟩
 .have hk':k<r.right.i.j.length:=B;have e:=S.fk ⟨f,hk'⟩;have C:eA (FD t r h m) k=eA r.right.i k:=rfl;rw [e,C];exact ⟨o _ (d7 f (by rw [S.b0,eM];omega)),rfl,rfl,rfl⟩
theorem StepOk.fp (K:StepOk t r h m):subF (FD t r h m) (gQ r)=0:=by
 have S:=K.S;have e:=S.dh;have s:=S.ba;have j:=j7 S.hR.gr S.hR.tr;refine LA K.ul.1 (λx d=>by rw [e];exact (fC.1 d).1) (qJ _ _) (λx d=>(fC.1 d).1) (qJ _ _) λk o=>?_;obtain ⟨a,f⟩:=fC.1 o;obtain ⟨q,y,rfl⟩:=mO f;have n:=s.kl;obtain ⟨_,⟨p,v,_,g⟩,⟨w,i,_,c⟩⟩:=S.hR.cy (q:=q) aD;have b:=vK S.hR.gr a.1 a.2;have l:=S.ak.kl;have u:eA (FD t r h m) (iA r.s.j q)=eA r.right.i (iA r.s.j q):=rfl;rw [u];exact ⟨fC.2 ⟨b.1,g ▸ d7 aD aD⟩,fC.2 ⟨b.2.1,c ▸ d7 aD aD⟩⟩
theorem StepOk.f1 (K:StepOk t r h m):oN (FD t r h m) (bS t r h m).i (gQ r) (cT r h m)=0:=by
 have S:=K.S;have N:=S.ak;have E:=S.ba;have y:=K.ul.2.2;have w:=K.fp;have C:nZ (cT r h m).h (gQ r).h=[]:=by rw [S.bc];exact N.e6
 have B:nZ (cT r h m).j (gQ r).j=[]:=by rw [S.b0];exact E.e6
 have z:vN (bS t r h m).i (cT r h m).j (g6 (cT r h m).h (gQ r).h)=[]:=by
  unfold vN;rw [List.map_eq_nil_iff,qW];intro x s a;have o:=aW.1 s;have I:(bS t r h m).i.j.length=_:=S.bN;unfold xH at a;rw [aL,c7,cX] at a;have b:∀ {v:Int},mem (g6 (cT r h m).h (gQ r).h) v=true->(l7 r.q.h m.m.h h.i.h.length).length<=v:=λu=>by
   have:=(mem_iff _ _).1 u;rw [S.bc] at this;exact N.fl this
  by_cases e:x<(l7 r.q.j m.m.j h.i.j.length).length
  .obtain ⟨g,k⟩:=E.d3 e;have i:=S.ft g;rw [k] at i;have A:(bS t r h m).i.j[x]?.getD cY=_:=i;have c:=S.gl g;obtain ⟨p,H,G,_⟩:=N.a6 c.1;obtain ⟨q,F,D,_⟩:=N.a6 c.2;rw [A] at a;rcases a.2 with hh|hh
   .have:=b hh;simp only at this;omega
   .have:=b hh;simp only at this;omega
  .obtain ⟨j,n,_,l⟩:=E.em (f:=x - (l7 r.q.j m.m.j h.i.j.length).length) aD;have d:(x:Int)∈(cT r h m).j:=by
    rw [S.b0];have:iA (tL r.q.j r.s.j m.m.j r.right.i.j.length h.i.j.length) j=(x:Int):=by rw [l];omega
    rw [<- this];exact d7 n.1 (by rw [eM];omega)
   rw [(mem_iff _ _).2 d] at a;exact absurd a.1 aE
 unfold oN compG;rw [if_neg (by rw [if_neg (by rw [y];simp),w];simp),if_neg (by rw [C,B];simp),if_neg (by rw [z];simp)]
end
section
variable {t:Types} {r:Rule} {h:Host} {m:Mat}
theorem StepIn.eT (S:StepIn t r h m):graphF (SA r h m)=0/\fV t (SA r h m)=true:=by
 refine ⟨(kK (vP S.hc).1).1,DU (λa e=>?_) λy c=>((j7 S.hR.pl.gg S.hR.pl.ty).2 y c).1.2⟩;obtain ⟨v,d,rfl⟩:=aX.1 e;have b:=S.dy v d;exact (pO S.ho _ (BY b.1 b.2)).2
theorem StepOk.f0 (K:StepOk t r h m)(U:Rule)(y:U.left.i=FD t r h m)(G:U.right.i=SA r h m)(A:U.q=gQ r)(H:U.s=iT r):keptF U=0:=by
 have S:=K.S;have N:=S.ak;have E:=S.ba;have f:=K.fp;obtain ⟨F,D⟩:=pQ f;have V:=S.dh;have w:=S.cd;have e:=nE S.hR.sub;have x:r.q.h.Nodup:=i7 e.2.1;have FW:r.q.j.Nodup:=i7 (tT S.hR.sub);have R:(iT r).h.length=(gQ r).h.length:=by simp [iT,cZ]
 have T:(iT r).j.length=(gQ r).j.length:=by simp [iT,cZ]
 have W:graphF (cO (FD t r h m) (gQ r))=0:=Ig f;have I:eK (cO (FD t r h m) (gQ r)) (SA r h m) (iT r)=0:=by
  refine AO W S.eT.1 (by rw [F,R]) (by rw [D,T]) (λi d b=>?_) (λk d b=>?_)
  .rw [F] at b;obtain ⟨q,o,n,j⟩:=Cq N d b;have c:iA r.q.h q∈r.q.h:=d7 aD aD;have a:=N.kr _ c;have g:=(fC.1 (d7 (l:=(gQ r).h) d b)).1;have B:iA (iT r).h i=iA r.q.h q:=j;have C:iA (gQ r).h i=iA r.s.h q:=n;rw [B,qN f d b,w];refine ⟨a,?_⟩;rw [S.dp a.1 a.2,S.fQ g.1 g.2,C,S.cq o]
  .rw [D] at b;obtain ⟨q,o,n,j⟩:=Cq E d b;have c:iA r.q.j q∈r.q.j:=d7 aD aD;have a:=E.kr _ c;have B:iA (iT r).j k=iA r.q.j q:=j;have C:iA (gQ r).j k=iA r.s.j q:=n;obtain ⟨X,⟨p,P,O,M⟩,⟨Q,v,u,s⟩⟩:=S.hR.cy o;have Z:∀ z,eA (FD t r h m) z=eA r.right.i z:=λ_=>rfl;have Y:∀ z,eA (SA r h m) z=eA r.left.i z:=λ_=>rfl;have L:iA (iT r).h (oZ (gQ r).h (iA r.s.h p))=_:=wJ N P;have J:iA (iT r).h (oZ (gQ r).h (iA r.s.h Q))=_:=wJ N v;rw [B,yL f d b,BZ,C,Z,Y,<- M,<- s];simp only;rw [L,J,O,u];exact ⟨a,X.symm,rfl,rfl⟩
 refine O1 (by rw [y,A];exact f) (by rw [y,A,G,H];exact I) ?_;rw [y,A,G,H];unfold Ba;simp only [aL,decide_eq_true_eq];exact ⟨I,tQ N x,tQ E FW⟩
theorem StepIn.fy (S:StepIn t r h m){ns es:V2}(v:∀ i∈ns,0<=i/\i<r.left.i.h.length)(A:∀ k∈es,0<=k/\k<r.left.i.j.length):pN t (SA r h m) ns es=true:=by
 unfold pN;rw [aL,cX,cX,fZ,fZ];have f:=(vP S.hc).1;refine ⟨λi x=>?_,λk w=>?_⟩
 .have hr:=v i x;have C:=S.dy _ (d7 (l:=m.m.h) hr.1 (by have:=S.hm.len;omega));have s:=S.ho.vl;have j:(iA m.m.h i).toNat<h.i.h.length:=aD;have e:=(qK (S.ho.nd _ j aD)).2.1;have y:gN (SA r h m) i=h.i.h[(iA m.m.h i).toNat]:=by
   rw [S.dp hr.1 hr.2];unfold gN;rw [aA j];rfl
  unfold absB;unfold xO at e;rw [y];cases u:t.h[(h.i.h[(iA m.m.h i).toNat]).toNat]? with
  | none=>simp
  | some n=>rw [u] at e;simpa using e
 .have hr:=A k w;obtain ⟨g,q,p,o⟩:=rC f (k:=k) hr.1 hr.2;have a:=vK S.hR.pl.gg hr.1 hr.2;have z:=(S.ho.ed _ (Mz g.1 g.2)).2;have d:(eA r.left.i k).type=_:=q;have c:iA m.m.h (eA r.left.i k).w=_:=p;have b:iA m.m.h (eA r.left.i k).M=_:=o;have B:(SA r h m).j[k.toNat]?.getD cY=eA r.left.i k:=rfl;unfold unfitB;rw [B,S.dp a.1.1 a.1.2,S.dp a.2.1.1 a.2.1.2,c,b,d,z];simp
theorem Th {l:List Slot}(h:l.Pairwise λa b=>¬ (a.node=b.node/\a.H=b.H)):Rp l:=λi hi=>by
 rw [fZ];intro x hx hs;obtain ⟨j,hj,rfl⟩:=aN hx;rw [dH] at hj;have:=dD.1 h j i aD hi aD;rw [Gx] at hs;unfold sameSlot at hs;simp at hs;exact this ⟨hs.1,hs.2⟩
theorem NB (t:Types)(s:Stp26)(n:Nat):Rp (iZ t s n):=by
 refine Th ?_;have d:∀ i k x,x∈lY t s i k->x.node=(i:Int)/\x.H=(k:Int):=λi k x c=>by
  unfold lY at c;split at c
  .rw [bP] at c;subst c;exact ⟨rfl,rfl⟩
  .cases c
 unfold iZ;rw [List.pairwise_flatMap];refine ⟨λi _=>?_,List.Pairwise.imp (λ {i j} o x c y e f=>?_) Lr⟩
 .unfold sN;rw [List.pairwise_flatMap];refine ⟨λk _=>?_,List.Pairwise.imp (λ {k l} h x c y e f=>?_) Lr⟩
  .unfold lY;split<;>simp
  .have a:=(d i k x c).2;have b:=(d i l y e).2;omega
 .unfold sN at c e;obtain ⟨k,_,m⟩:=bT.1 c;obtain ⟨l,_,g⟩:=bT.1 e;have a:=(d i k x m).1;have b:=(d j l y g).1;omega
theorem StepIn.bu (S:StepIn t r h m){i:Nat}(s:i<r.left.i.h.length):(0<=iA m.m.h i/\iA m.m.h i<h.i.h.length)/\(nT (aP t r h m) i).length=(bQ t (gN h.i (iA m.m.h i))).length /\
  ∀ k:Nat,k<(nT (aP t r h m) i).length->∃ a:Attr,(bQ t (gN h.i (iA m.m.h i)))[k]?=some a/\a.ap<=(nT (aP t r h m) i)[k]?.getD 0/\(nT (aP t r h m) i)[k]?.getD 0<=a.a8:=by
 have g:=S.dy _ (d7 (l:=m.m.h) (n:=(i:Int)) aD (by have:=S.hm.len;omega));have f:=S.ho.vl;have e:(iA m.m.h i).toNat<h.i.h.length:=aD;have d:(iA m.m.h i).toNat<h.k.length:=aD;obtain ⟨_,_,o,j⟩:=qK (S.ho.nd _ e d);have q:gN h.i (iA m.m.h i)=h.i.h[(iA m.m.h i).toNat]:=by unfold gN;rw [aA e];rfl
 have p:nT (aP t r h m) i=h.k[(iA m.m.h i).toNat]:=by
  show h.k[(iA m.m.h i).toNat]?.getD []=_;rw [aA d];rfl
 rw [q,p];refine ⟨g,o,λk c=>?_⟩;have b:k<(bQ t h.i.h[(iA m.m.h i).toNat]).length:=aD;have:=j k c b;exact ⟨_,aA b,by rw [aA c,Option.getD_some];exact this.1,by rw [aA c,Option.getD_some];exact this.2⟩
theorem StepIn.fx (S:StepIn t r h m):∀ x∈iZ t (aP t r h m) m.m.h.length,SlotIn t (SA r h m).h 0 x:=λx hx=>by
 obtain ⟨i,hi,k,hk,_,rfl⟩:=pC.1 hx;have hml:=S.hm.len;have hi':i<r.left.i.h.length:=aD;obtain ⟨h1,h2,h3⟩:=S.bu hi';obtain ⟨a,_,a1,a2⟩:=h3 k hk;have hu:=S.cd;have e:(SA r h m).h[((i:Nat):Int).toNat]?.getD 0=gN h.i (iA m.m.h i):=S.dp (i:=(i:Int)) aD aD;have hrow:nT (aP t r h m) i∈h.k:=by
  have hvl:=S.ho.vl;show h.k[(iA m.m.h i).toNat]?.getD []∈_;rw [aA aD];exact aC _
 have hs:=(S.ho.row _ hrow).2 _ (aC hk);have e5:(nT (aP t r h m) i)[k]?.getD 0=(nT (aP t r h m) i)[k]:=by rw [aA hk];rfl
 refine ⟨by simp only;omega,by simp only;omega,by simp only;omega,?_,by simp only;omega,by simp only;omega,?_,?_⟩
 .simp only;rw [e];omega
 .simp only;rw [e5];exact hs.1
 .simp only;rw [e5];exact hs.2
theorem RQ {r:Rule}(h:ruleF t r=0):lA r.name=true:=by
 unfold ruleF at h;split at h
 .exact absurd h (by assumption)
 .split at h
  .cases h
  .rename_i h2;simpa using h2
theorem Ty {U:Rule}:(∀ i∈U.N,0<=i/\i<U.right.i.h.length)/\∀ k∈U.aa,0<=k/\k<U.right.i.j.length:=⟨λi hi=>(dV.1 hi).1,λk hk=>(dV.1 hk).1⟩
theorem StepOk.eu (K:StepOk t r h m)(g:ruleF t r=0)(d:(iZ t (aP t r h m) m.m.h.length).length<=10):ruleF t (c9 t (aP t r h m))=0:=by
 have S:=K.S;have a:=S.hR.vf;have L:=S.eT;have c:c8 t ⟨FD t r h m,[],0,[]⟩=0:=qD a K.ul.1 K.ul.2.1;refine NH a (show lA r.name=true from RQ g) c (Kg L.1 L.2 rfl rfl d (SH (p:=(c9 t (aP t r h m)).right) S.fx (NB _ _ _))) (K.f0 _ rfl rfl rfl rfl) ?_ (Nq c);have b:=Ty (U:=c9 t (aP t r h m));refine S.fy (λi f=>?_) (λk e=>b.2 k e);have:=b.1 i f;rw [show (c9 t (aP t r h m)).right.i=SA r h m from rfl,S.cd] at this;exact this
end
section
variable {t:Types} {r:Rule} {h:Host} {m:Mat}
theorem Lh {t:Types}(b:t.a7){a:Int}(h:0<=a/\a<t.h.length):uT t a a=true:=by
 unfold uT;have:=KF b (a:=a.toNat) aD;rw [show ((a.toNat:Nat):Int)=a by omega] at this;exact this
theorem StepOk.fd (K:StepOk t r h m){inj:Bool}(s:inj=true->(cT r h m).h.Nodup/\(cT r h m).j.Nodup):matchE t (FD t r h m) (bS t r h m).i (cT r h m) inj=0:=by
 have S:=K.S;have H:HostOk t (bM t r h m):=nB K.after;obtain ⟨z,y,c⟩:=K.ul;obtain ⟨_,_,x,w⟩:=kK c;obtain ⟨A,v⟩:=AN c;have o:=S.dh;have p:=(tG c).1;have u:bV (mNE t (FD t r h m) (bS t r h m).i (cT r h m)) 0 (FD t r h m).h.length=0:=iM _ _ λj _ b=>by
  have q:j<(cT r h m).h.length:=aD;have a:=p _ (d7 (l:=(cT r h m).h) (n:=(j:Int)) aD aD);have e:(cT r h m).h[j]?.getD 0=iA (cT r h m).h j:=rfl;have d:(FD t r h m).h[j]?.getD 0=gN (bS t r h m).i (iA (cT r h m).h j):=S.fQ (i:=(j:Int)) aD aD;unfold mNE;rw [e,if_neg aD,d];exact if_pos (Lh (mX S.hR.vf) (pO H _ (BY (g:=(bS t r h m).i) a.1 a.2)))
 have d:bV (mapEE (FD t r h m) (bS t r h m).i (cT r h m)) 0 (FD t r h m).j.length=0:=iM _ _ λj _ b=>v j aD;unfold matchE;rw [if_neg aD,if_neg (by rw [u];simp),if_neg (by rw [d];simp),if_neg];rintro ⟨b,hd⟩;obtain ⟨k,f⟩:=s b;rcases hd with hd|hd
 .exact hd k
 .exact hd f
theorem StepOk.dT (K:StepOk t r h m){inj:Bool}(a:inj=true->(cT r h m).h.Nodup/\(cT r h m).j.Nodup):checkE t (FD t r h m) (bS t r h m).i (cT r h m) inj=0:=by
 have b:eL t (FD t r h m) (bM t r h m).i=0:=H8 K.ul.1 K.ul.2.1 (nB K.after);unfold checkE;rw [if_neg (by show ¬ eL t (FD t r h m) (bM t r h m).i≠0;rw [b];simp)];exact K.fd a
theorem StepOk.gw (K:StepOk t r h m):pE t (c9 t (aP t r h m)) (bM t r h m) ⟨cT r h m,[]⟩=0:=by
 have e:checkE t (c9 t (aP t r h m)).left.i (bM t r h m).i (cT r h m) (c9 t (aP t r h m)).inj=0:=K.dT λb=>by
  have a:(decide (cT r h m).h.Nodup&&decide (cT r h m).j.Nodup)=true:=b;simpa using a
 have c:checkE t (c9 t (aP t r h m)).left.i (bM t r h m).i (cT r h m) false=0:=K.dT λb=>by cases b
 have f:c8 t (c9 t (aP t r h m)).left=0:=qD K.S.hR.vf K.ul.1 K.ul.2.1;have d:eF t (c9 t (aP t r h m)).left (bM t r h m) (cT r h m)=([],0):=by
  unfold eF;rw [if_neg (by rw [f];simp),if_neg (by rw [K.after];simp),if_neg (by rw [c];simp)];rfl
 unfold pE;simp only;rw [if_neg (by rw [e];simp),d,if_neg aE,if_neg aE];exact K.f1
end
section
variable {t:Types} {r:Rule} {h g:Host} {m:Mat} {m0 p:Part}
theorem BackI.at (B:BackI t r h m g m0 ⟨p,[]⟩){y:Int}(a:0<=y/\y<r.right.i.h.length):gN g.i (iA p.h y)=gN (bS t r h m).i (iA (cT r h m).h y):=by
 have U:=B.ct;have e:=B.K.S.ak.cc a;have i:=U.n;obtain ⟨d,f⟩:=U.of (iA (cT r h m).h y) (by rw [B.K.S.bc];exact e.1) (by rw [B.K.S.bc];omega);have b:=B.I.ty _ d.1 d.2;have c:=U.m y a.1 a.2;rw [<- B.K.S.bc] at c;rw [f] at b;rw [show iA p.h y=_ from c,b];rfl
theorem BackI.co (B:BackI t r h m g m0 ⟨p,[]⟩) :
  (cT (c9 t (aP t r h m)) g ⟨p,[]⟩).h=tL (fF r.s.h r.right.i.h.length) (cZ (fF r.s.h r.right.i.h.length) r.s.h r.q.h) p.h r.left.i.h.length g.i.h.length:=by
 have:=B.T.bc;have a:(c9 t (aP t r h m)).right.i.h.length=r.left.i.h.length:=B.K.S.cd;rw [a] at this;exact this
theorem BackI.type (B:BackI t r h m g m0 ⟨p,[]⟩){j:Int}(d:0<=j/\j<r.left.i.h.length) :
  gN (bS t (c9 t (aP t r h m)) g ⟨p,[]⟩).i (iA (cT (c9 t (aP t r h m)) g ⟨p,[]⟩).h j)=gN h.i (iA m.m.h j):=by
 have T:=B.T;have N:=B.K.S.ak;by_cases e:j∈(c9 t (aP t r h m)).s.h
 .obtain ⟨q,E,rfl⟩:=mO e;have u:=T.ak.kl;have w:=T.cq (p:=q) aD;rw [w];obtain ⟨x,s,o,k⟩:=Cq N (i:=(q:Int)) aD (by show (q:Int)<((c9 t (aP t r h m)).q.h.length:Int);omega);have D:iA (c9 t (aP t r h m)).q.h q=iA r.s.h x:=o;have C:iA (c9 t (aP t r h m)).s.h q=iA r.q.h x:=k;have c:=N.kl;have a:=N.ir _ (d7 (l:=r.s.h) (n:=(x:Int)) aD aD);rw [D,C];show gN g.i (iA p.h (iA r.s.h x))=_;rw [B.at a];exact B.K.S.cq s
 .have hz:(c9 t (aP t r h m)).right.i.h.length=r.left.i.h.length:=B.K.S.cd;obtain ⟨f,A,z,y⟩:=T.ak.ao (j:=j) aD e;have b:=(T.ee (f:=f) A).1;rw [T.bg] at b;have v:iA (c9 t (aP t r h m)).N f=j:=z;rw [T.bc,y,b,v];exact B.K.S.dp d.1 d.2
theorem BackI.hy (B:BackI t r h m g m0 ⟨p,[]⟩)(h0:ruleF t r=0)(O:(iZ t (aP t r h m) m.m.h.length).length<=10)(X:fM t g=0)(o:pE t (c9 t (aP t r h m)) g ⟨p,[]⟩=0):lL t (c9 t (aP t r h m)) g ⟨p,[]⟩=0:=by
 have K:=B.K;have T:=B.T;have z:=K.eu h0 O;have f:kT t (c9 t (aP t r h m)) g ⟨p,[]⟩=0:=by
  have W:=O7.2 (T5 t g (c9 t (aP t r h m)).inj ⟨p,[]⟩);have E:(c9 t (aP t r h m)).cond=trueC:=rfl;unfold kT;rw [if_neg (by rw [o];simp),E,if_neg (by rw [W.1];simp),if_neg (by rw [W.2];simp)]
 have u:=B.ct;have J:=B.dg;have I:=B.co;have P:=K.S.hm.len;have w:(c9 t (aP t r h m)).right.i.h.length=r.left.i.h.length:=K.S.cd;have zn:(bS t (c9 t (aP t r h m)) g ⟨p,[]⟩).i.h.length=h.i.h.length:=by
  have v:=T.b3;rw [w] at v;exact (u.ec v (CY _ _ _ _ _) (u.ez v)).2.2
 have ze:(bS t (c9 t (aP t r h m)) g ⟨p,[]⟩).i.j.length=h.i.j.length:=(J.ec T.bN (CY _ _ _ _ _) (J.ez T.bN)).2.2;have Q:=bI K.S.ho.gg;have c:∀ {i:Nat},i<r.left.i.h.length->0<=iA (cT (c9 t (aP t r h m)) g ⟨p,[]⟩).h i:=λ {i} G=>by
  have:=(u.S'.cc (j:=(i:Int)) aD).1;rw [I];exact this
 have n:r8 t (bS t (c9 t (aP t r h m)) g ⟨p,[]⟩).i (cT (c9 t (aP t r h m)) g ⟨p,[]⟩) [] (iZ t (aP t r h m) m.m.h.length)=0:=by
  have D:uE (cT (c9 t (aP t r h m)) g ⟨p,[]⟩) [] (iZ t (aP t r h m) m.m.h.length)=false:=by
   unfold uE;rw [fZ];intro a V;rw [JX,fZ];intro b U;have s:=aW.1 V;have R:=aW.1 U;have q:b<(iZ t (aP t r h m) m.m.h.length).length:=aD;rw [aA s,aA q];simp only;obtain ⟨i,G,k,F,_,ei⟩:=pC.1 (aC s);obtain ⟨j,hj,l,hl,_,ej⟩:=pC.1 (aC q);rw [ei,ej];unfold Cf;simp only [aL,decide_eq_true_eq];rintro ⟨h1,h2,Y⟩;have L:=c (i:=i) aD;have s2:=c (i:=j) aD;have Z:(iA (cT (c9 t (aP t r h m)) g ⟨p,[]⟩).h j).toNat=(iA (cT (c9 t (aP t r h m)) g ⟨p,[]⟩).h i).toNat:=h1;have H:iA (cT (c9 t (aP t r h m)) g ⟨p,[]⟩).h j=iA (cT (c9 t (aP t r h m)) g ⟨p,[]⟩).h i:=aD;rw [I] at H;have:=u.ew (.inr ⟨(i:Int),aD,rfl,rfl⟩) (.inr ⟨(j:Int),aD,H,rfl⟩);refine Y ?_;have ho:nT (aP t r h m) j=nT (aP t r h m) i:=by
    show h.k[(iA m.m.h j).toNat]?.getD []=h.k[(iA m.m.h i).toNat]?.getD [];rw [this]
   have C:l=k:=aD;rw [ho,C]
  have A:(iZ t (aP t r h m) m.m.h.length).any (yC t (bS t (c9 t (aP t r h m)) g ⟨p,[]⟩).i (cT (c9 t (aP t r h m)) g ⟨p,[]⟩) [])=false:=by
   rw [fZ];intro x N;obtain ⟨i,G,k,F,_,rfl⟩:=pC.1 N;obtain ⟨_,o2,M⟩:=K.S.bu (i:=i) aD;obtain ⟨a,a1,a2,a3⟩:=M k F;have L:=c (i:=i) aD;have y:=B.type (j:=(i:Int)) aD;unfold yC;have e1:(bS t (c9 t (aP t r h m)) g ⟨p,[]⟩).i.h[fT (cT (c9 t (aP t r h m)) g ⟨p,[]⟩) ⟨(i:Int),(k:Int),⟨-1,(nT (aP t r h m) i)[k]?.getD 0⟩⟩]?.getD 0=gN h.i (iA m.m.h i):=y;simp only;rw [e1,Int.toNat_natCast,a1];unfold dM;simp only [Option.getD_some];rw [if_pos aD];simp;omega
  unfold r8;rw [if_neg (by rw [D];simp),if_neg (by rw [A];simp)]
 have d:gS t (c9 t (aP t r h m)) g ⟨p,[]⟩=0:=by
  unfold gS;have e:r8 t (bS t (c9 t (aP t r h m)) g ⟨p,[]⟩).i (cT (c9 t (aP t r h m)) g ⟨p,[]⟩) (Mat.mk p []).vars (c9 t (aP t r h m)).right.o=0:=n;rw [if_neg (by rw [f];simp),if_neg (by rw [e];simp),if_neg aD]
 unfold lL f9;rw [if_neg (by rw [if_neg (by rw [z];simp),X];simp),d]
theorem StepOk.gx (K:StepOk t r h m)(c:r.ok)(f:ruleF t r=0)(e:(iZ t (aP t r h m) m.m.h.length).length<=10):lL t (c9 t (aP t r h m)) (bM t r h m) ⟨cT r h m,[]⟩=0:=by
 have d:(c9 t (aP t r h m)).ok:=GC (s:=aP t r h m) c (K.dr c);have a:=K.gw;refine (BackI.mk (m0:=vZ (bM t r h m).i) K (KM (nB K.after)) ?_ ?_ (LC (G6 d (K.eu f e)) (nB K.after) a)).hy f e K.after a
 .exact (wZ λx b=>C9 (K.S.az x b).1 (K.S.az x b).2).symm
 .exact (wZ λx b=>C9 (K.S.bh x b).1 (K.S.bh x b).2).symm
end
end Go.Abs
end
