/- Before of the program and of the reference. · Plain law: the -/
import Derived.Test.YtbgbahlipnaflaaGreatZuAG
import Derived.Test.YtbgbahlipnaflaaGreatZuAA
import Derived.Test.YtbgbahlipnaflaaGreatZuAY
set_option linter.unusedVariables false
set_option linter.unusedSimpArgs false
section
set_option maxRecDepth 100000
set_option maxHeartbeats 4000000
open Go Go.Proofs Tryz
namespace Go.Abs
structure BefOk (t:Types) (r q:Rule) (h:Host) (m:Mat):Prop where
 len:m.m.h.length=r.right.i.h.length
 bO:∀ x∈m.m.h,0<=x/\x<h.i.h.length
 b5:m.m.h.length<=1000
 il:r.s.h.length<=1000000
theorem MJ {t:Types}{r:Rule}{h:Host}{m:Mat}(a:r.ok)(d:sP t r=0)(hm:m∈(o7 t (iQ r) h).1):BefOk t r (iQ r) h m/\HostOk t h:=by
 obtain ⟨_,_,b,_⟩:=BS a d;have K:=r3 b (IK hm);have S:=K.S;have g:=bI S.hR.pl.gg;have c:m.m.h.length=r.right.i.h.length:=S.hm.len;exact ⟨⟨c,S.dy,by have:(iQ r).left.i.h.length=r.right.i.h.length:=rfl;omega,a.i1⟩,S.ho⟩
theorem Sp (t:Types)(r:Rule)(h:Host):JN t r h=if (dA t).2≠0 then (dA t).2 else if sP t r≠0 then sP t r else (o7 t (iQ r) h).2:=by
 unfold JN;by_cases a:(dA t).2=0
 .simp [a]
 .have e:ruleF t r=(dA t).2:=by unfold ruleF;rw [if_pos a]
  have:sP t r=(dA t).2:=by
   unfold sP;rw [if_pos (by rw [e];exact a),e]
  simp [this,a]
theorem Fk {α:Type}(p:α->Bool){l:List α}{i:Nat}(h:i<l.length):(l.take (i+1)).filter p=(l.take i).filter p++(if p l[i]=true then [l[i]] else []):=by
 rw [List.take_succ_eq_append_getElem h,fJ];congr 1;by_cases a:p l[i]=true
 .simp [a]
 .simp [a]
theorem Hc (t:Types)(ht:t.ok)(r:Rule)(hr:r.ok)(hth:r.bE)(h:Host):Pure prog 8 [t.d,r.d,h.d] (.tup [.list ((yP t r h).map Stp26.c),dI (JN t r h)]):=by
 have cV:=Bk t ht
 have cI:=LS t ht r hr hth
 obtain ⟨Z,hZ⟩:∃ x,x=JN t r h:=⟨_,rfl⟩
 obtain ⟨E0,hE0⟩:∃ x,x=(dA t).2:=⟨_,rfl⟩
 obtain ⟨E,hE⟩:∃ x,x=sP t r:=⟨_,rfl⟩
 obtain ⟨A,hA⟩:∃ x,x=(o7 t (iQ r) h).2:=⟨_,rfl⟩
 obtain ⟨L,hL⟩:∃ x,x=(o7 t (iQ r) h).1:=⟨_,rfl⟩
 obtain ⟨q,hq⟩:∃ x,x=FS t r:=⟨_,rfl⟩
 have hqr:E=0→q=iQ r:=fun e=>by rw [hq];unfold FS;rw [if_pos (by rw [← hE];exact e)]
 have hZ':Z=if E0≠0 then E0 else if E≠0 then E else A:=by rw [hZ,Sp,hE0,hE,hA]
 have hLl:L.length≤5000:=by rw [hL];exact MT _ _ _
 have cL:E=0→Pure prog 38 [t.d,q.d,h.d] (.tup [.list (L.map Mat.c),dI A]):=fun e=>by
  rw [hqr e,hL,hA];exact FI t ht (iQ r) (BS hr (by rw [← hE];exact e)).2.2.1 h
 obtain ⟨f,hf⟩:∃ f:Mat→Bool,f=fun m=>rG t r h m.m:=⟨_,rfl⟩
 have cC:E=0→∀ m∈L,Pure prog 39 [t.d,r.d,h.d,dLI m.m.h] (.bool (f m)):=fun e m hm=>by
  rw [hL] at hm
  obtain ⟨b,ho⟩:=MJ hr (by rw [← hE];exact e) hm
  rw [hf];exact FO t ht r h ho m.m.h m.m.j b.len b.bO b.b5 b.il
 have good:E=0→∀ m∈L,f m=true→_:=fun e m hm hl=>Rj (t:=t) (r:=r) (h:=h) (m:=m) hr (by rw [← hE];exact e) (by rw [← hL];exact hm) (by rw [hf] at hl;exact hl)
 have cA1:E=0→∀ m∈L,f m=true→Pure prog 40 [t.d,q.d,h.d,m.d] (.tup [.agg (aP t (iQ r) h m).c,dI 0]):=fun e m hm hl=>by
  obtain ⟨g1,g2,_⟩:=good e m hm hl
  rw [hqr e]
  exact sZ t ht (iQ r) (BS hr (by rw [← hE];exact e)).2.2.1 h m g2.symm g1.symm
 have cA2:E=0→∀ m∈L,f m=true→Pure prog 40 [t.d,r.d,(bM t (iQ r) h m).d,.agg [dLI (cT (iQ r) h m).h,dLI (cT (iQ r) h m).j,.nil]] (.tup [.agg (uU t r h m).c,dI 0]):=fun e m hm hl=>by
  obtain ⟨_,_,g3,g4,_⟩:=good e m hm hl
  have:=sZ t ht r hr (ML t r h m) (MK r h m) g4.symm g3.symm
  exact this.fg (Ua t r _ _ _)
 have hB:yP t r h=if Z=0 then (L.filter f).map (uU t r h) else []:=by rw [hZ,hL,hf];rfl
 rw [← hE,← hq] at cI
 rw [← hE0] at cV
 rw [hB,← hZ]
 clear hB hZ hE0 hE hA hL hq hqr hf good
 simp only [Stp26.c,Rule.c,Mat.c,Host.c,dN,dP] at cA1 cA2
 unfold Rule.d Host.d at cA1 cA2
 simp only [Rule.c,Host.c] at cA1 cA2
 refine Tz.pK ⟨fun t=>t==9||t==12||t==14||t==15||t==17,fun _=>[]⟩ func8 rfl (fun Q hQ=>?_)
 have Y:=wa @Stp26.c.eq_1 (wa @Rule.c.eq_1 (wa @Mat.c.eq_1 (wa @Host.c.eq_1 (wa @Rule.d.eq_1 @Host.d.eq_1))))
 refine kZ (h:=aB (cV) wl ?_)
 refine kZ (h:=wq (fun h2=>?_) fun h2=>?_)
 ·have hne:¬ E0=0:=by simpa using h2
  have hz:Z=E0:=by rw [hZ',if_pos hne]
  exact kZ (h:=hQ _ _ (by simp [go_sem,hz,hne]))
 ·rw [if_neg (by simpa using h2)] at hZ'
  refine kZ (h:=aB (cI) wl ?_)
  refine kZ (h:=wq (fun h5=>?_) fun h5=>?_)
  ·have hne:¬ E=0:=by simpa using h5
   have hz:Z=E:=by rw [hZ',if_pos hne]
   exact kZ (h:=hQ _ _ (by simp [go_sem,hz,hne]))
  ·have hg0:E=0:=by simpa using h5
   rw [if_neg (by simpa using hg0)] at hZ'
   refine kZ (h:=aB (cL hg0) wl ?_)
   refine kZ (h:=wq (fun h8=>?_) fun h8=>?_)
   ·have hne:¬ A=0:=by simpa using h8
    exact kZ (h:=hQ _ _ (by simp [go_sem,hZ',hne]))
   ·have hz:Z=0:=by rw [hZ'];simpa using h8
    refine sM (h:=bC (fun i e H=>∃ xs:List Stp26,(e 3=.adr t.c∧e 4=.adr r.c∧e 5=.adr h.c∧e 9=.ptr 0 1 0 0∧e 12=.own 1 xs.length∧e 42=.list (L.map Mat.c)∧e 43=dI L.length∧e 44=dI i)∧(H.get 0=some ⟨41,25,[q.c],false⟩)∧(0<H.next)∧(H.get 1=some ⟨57,38,xs.map Stp26.c,false⟩)∧(1<H.next)∧(i≤L.length)∧(xs.length≤i)∧(xs=((L.take i).filter f).map (uU t r h))) (fun i=>L.length - i) 0 ⟨([]),wg,wn,wn,wn,wn,wi,(by simp),(by rfl)⟩ fun I0 hI0 i e H hi0=>?_)
    obtain ⟨xs,E0,g0_0,n0_0,g1_0,n1_0,hi,hxl,hx⟩:=hi0
    have Y:=wa Y (wa E0 (wa g0_0 (wa (cW n0_0) (wa g1_0 (cW n1_0)))))
    refine kZ (h:=wq (fun h12=>?_) fun h12=>?_)
    ·obtain ⟨m,hm⟩:∃ m,m=L[i]:=⟨_,rfl⟩
     have hml:m∈L:=by rw [hm];exact aC h12
     have hS:=Fk f h12
     rw [← hm] at hS
     have Y:=wa Y (wa h12 (wa (aA h12) (Eq.symm hm)))
     refine sM (h:=aB (cC hg0 m hml) wl ?_)
     refine sM (h:=wq (fun h14=>?_) fun h14=>?_)
     ·have hfm:f m=false:=by simpa using h14
      obtain ⟨ys,hys'⟩:∃ x,x=xs:=⟨_,rfl⟩
      have hyl:ys.length≤i+1:=by rw [hys'];omega
      have hys:ys=((L.take (i+1)).filter f).map (uU t r h):=by rw [hys',hS,if_neg (by rw [hfm];simp),dL];exact hx
      have Y:=wa Y hys'
      exact sM (h:=wx hI0 (i+1) ⟨ys,wg,wn,wn,wn,wn,wj,(by (exact hyl)),(by (exact hys))⟩)
     ·have hfm:f m=true:=by simpa using h14
      obtain ⟨ys,hys'⟩:∃ x,x=xs++[uU t r h m]:=⟨_,rfl⟩
      have hyl:ys.length≤i+1:=by rw [hys'];simp;omega
      have hys:ys=((L.take (i+1)).filter f).map (uU t r h):=by rw [hys',hS,if_pos hfm,List.map_append,← hx];rfl
      have Y:=wa Y (wa h14 hys')
      refine kZ (h:=aB (cA1 hg0 m hml hfm) wl ?_)
      refine kZ (h:=aB (cA2 hg0 m hml hfm) wl ?_)
      exact sM (h:=wx hI0 (i+1) ⟨ys,wg,wn,wn,wn,wn,wj,(by (exact hyl)),(by (exact hys))⟩)
    ·have hX:xs=(L.filter f).map (uU t r h):=by rw [hx,aG (by omega)]
     exact kZ (h:=hQ _ _ (by simp [go_sem,Y,hz,← hX]))
theorem LZ (t:Types)(ht:t.ok)(r:Rule)(hr:r.ok)(hth:r.bE)(h:Host):Pure prog 9 [t.d,r.d,h.d] (.tup [.list ((yP t r h).map Stp26.c),dI (JN t r h)]):=by
 have cV:=pJ t ht
 have cI:=Bq t ht r hr hth
 obtain ⟨Z,hZ⟩:∃ x,x=JN t r h:=⟨_,rfl⟩
 obtain ⟨E0,hE0⟩:∃ x,x=(dA t).2:=⟨_,rfl⟩
 obtain ⟨E,hE⟩:∃ x,x=sP t r:=⟨_,rfl⟩
 obtain ⟨A,hA⟩:∃ x,x=(o7 t (iQ r) h).2:=⟨_,rfl⟩
 obtain ⟨L,hL⟩:∃ x,x=(o7 t (iQ r) h).1:=⟨_,rfl⟩
 obtain ⟨q,hq⟩:∃ x,x=FS t r:=⟨_,rfl⟩
 have hqr:E=0→q=iQ r:=fun e=>by rw [hq];unfold FS;rw [if_pos (by rw [← hE];exact e)]
 have hZ':Z=if E0≠0 then E0 else if E≠0 then E else A:=by rw [hZ,Sp,hE0,hE,hA]
 have hLl:L.length≤5000:=by rw [hL];exact MT _ _ _
 have cL:E=0→Pure prog 42 [t.d,q.d,h.d] (.tup [.list (L.map Mat.c),dI A]):=fun e=>by
  rw [hqr e,hL,hA];exact D5 t ht (iQ r) (BS hr (by rw [← hE];exact e)).2.2.1 h
 obtain ⟨f,hf⟩:∃ f:Mat→Bool,f=fun m=>rG t r h m.m:=⟨_,rfl⟩
 have cC:E=0→∀ m∈L,Pure prog 43 [t.d,r.d,h.d,m.m.d] (.bool (f m)):=fun e m hm=>by
  rw [hL] at hm
  obtain ⟨b,ho⟩:=MJ hr (by rw [← hE];exact e) hm
  rw [hf];exact NR t ht r hr (KI (by rw [← hE];exact e)).1 h ho m.m b.len b.bO b.b5
 have good:E=0→∀ m∈L,f m=true→_:=fun e m hm hl=>Rj (t:=t) (r:=r) (h:=h) (m:=m) hr (by rw [← hE];exact e) (by rw [← hL];exact hm) (by rw [hf] at hl;exact hl)
 have cA1:E=0→∀ m∈L,f m=true→Pure prog 44 [t.d,q.d,h.d,m.d] (.tup [.agg (aP t (iQ r) h m).c,dI 0]):=fun e m hm hl=>by
  obtain ⟨g1,g2,_⟩:=good e m hm hl
  rw [hqr e]
  exact MP t ht (iQ r) (BS hr (by rw [← hE];exact e)).2.2.1 h m g2.symm g1.symm
 have cA2:E=0→∀ m∈L,f m=true→Pure prog 44 [t.d,r.d,(bM t (iQ r) h m).d,.agg [dLI (cT (iQ r) h m).h,dLI (cT (iQ r) h m).j,.nil]] (.tup [.agg (uU t r h m).c,dI 0]):=fun e m hm hl=>by
  obtain ⟨_,_,g3,g4,_⟩:=good e m hm hl
  have:=MP t ht r hr (ML t r h m) (MK r h m) g4.symm g3.symm
  exact this.fg (Ua t r _ _ _)
 have hB:yP t r h=if Z=0 then (L.filter f).map (uU t r h) else []:=by rw [hZ,hL,hf];rfl
 rw [← hE,← hq] at cI
 rw [← hE0] at cV
 rw [hB,← hZ]
 clear hB hZ hE0 hE hA hL hq hqr hf good
 simp only [Stp26.c,Rule.c,Mat.c,Host.c,dN,dP] at cA1 cA2
 unfold Rule.d Host.d at cA1 cA2
 simp only [Rule.c,Host.c] at cA1 cA2
 refine Tz.pK ⟨fun t=>t==10||t==13||t==15||t==17,fun r=>match r with|15=>[(0,11),(1,11),(2,11),(5,11),(6,11),(7,11)]|_=>[]⟩ func9 rfl (fun Q hQ=>?_)
 have Y:=wa @Stp26.c.eq_1 (wa @Rule.c.eq_1 (wa @Mat.c.eq_1 (wa @Host.c.eq_1 (wa @Rule.d.eq_1 (wa @Host.d.eq_1 (wa @Part.c.eq_1 @Part.d.eq_1))))))
 refine kZ (h:=aB (cV) wl ?_)
 refine kZ (h:=wq (fun h2=>?_) fun h2=>?_)
 ·have hne:¬ E0=0:=by simpa using h2
  have hz:Z=E0:=by rw [hZ',if_pos hne]
  exact kZ (h:=hQ _ _ (by simp [go_sem,hz,hne]))
 ·rw [if_neg (by simpa using h2)] at hZ'
  refine kZ (h:=aB (cI) wl ?_)
  refine kZ (h:=wq (fun h5=>?_) fun h5=>?_)
  ·have hne:¬ E=0:=by simpa using h5
   have hz:Z=E:=by rw [hZ',if_pos hne]
   exact kZ (h:=hQ _ _ (by simp [go_sem,hz,hne]))
  ·have hg0:E=0:=by simpa using h5
   rw [if_neg (by simpa using hg0)] at hZ'
   refine kZ (h:=aB (cL hg0) wl ?_)
   refine kZ (h:=wq (fun h8=>?_) fun h8=>?_)
   ·have hne:¬ A=0:=by simpa using h8
    exact kZ (h:=hQ _ _ (by simp [go_sem,hZ',hne]))
   ·have hz:Z=0:=by rw [hZ'];simpa using h8
    refine kZ (h:=bC (fun i e H=>∃ xs:List Stp26,(e 3=.adr t.c∧e 4=.adr r.c∧e 5=.adr h.c∧e 10=.ptr 0 1 0 0∧e 12=.list (L.map Mat.c)∧e 13=.own 1 xs.length∧e 14=dI i)∧(H.get 0=some ⟨41,25,[q.c],false⟩)∧(0<H.next)∧(H.get 1=some ⟨57,38,xs.map Stp26.c,false⟩)∧(1<H.next)∧(i≤L.length)∧(xs.length≤i)∧(xs=((L.take i).filter f).map (uU t r h))) (fun i=>L.length - i) 0 ⟨([]),wg,wn,wn,wn,wn,wi,(by simp),(by rfl)⟩ fun I0 hI0 i e H hi0=>?_)
    obtain ⟨xs,E0,g0_0,n0_0,g1_0,n1_0,hi,hxl,hx⟩:=hi0
    have Y:=wa Y (wa E0 (wa g0_0 (wa (cW n0_0) (wa g1_0 (cW n1_0)))))
    refine sM (h:=wq (fun h12=>?_) fun h12=>?_)
    ·obtain ⟨m,hm⟩:∃ m,m=L[i]:=⟨_,rfl⟩
     have hml:m∈L:=by rw [hm];exact aC h12
     have hS:=Fk f h12
     rw [← hm] at hS
     have Y:=wa Y (wa h12 (wa (aA h12) (Eq.symm hm)))
     refine sM (h:=aI (cC hg0 m hml) wl ?_)
     refine sM (h:=wq (fun h14=>?_) fun h14=>?_)
     ·have hfm:f m=false:=by simpa using h14
      obtain ⟨ys,hys'⟩:∃ x,x=xs:=⟨_,rfl⟩
      have hyl:ys.length≤i+1:=by rw [hys'];omega
      have hys:ys=((L.take (i+1)).filter f).map (uU t r h):=by rw [hys',hS,if_neg (by rw [hfm];simp),dL];exact hx
      have Y:=wa Y hys'
      exact sM (h:=wx hI0 (i+1) ⟨ys,wg,wn,wn,wn,wn,wj,(by (exact hyl)),(by (exact hys))⟩)
     ·have hfm:f m=true:=by simpa using h14
      obtain ⟨ys,hys'⟩:∃ x,x=xs++[uU t r h m]:=⟨_,rfl⟩
      have hyl:ys.length≤i+1:=by rw [hys'];simp;omega
      have hys:ys=((L.take (i+1)).filter f).map (uU t r h):=by rw [hys',hS,if_pos hfm,List.map_append,← hx];rfl
      have Y:=wa Y (wa h14 hys')
      refine sM (h:=aI (cA1 hg0 m hml hfm) wl ?_)
      refine sM (h:=aB (cA2 hg0 m hml hfm) wl ?_)
      exact sM (h:=wx hI0 (i+1) ⟨ys,wg,wn,wn,wn,wn,wj,(by (exact hyl)),(by (exact hys))⟩)
    ·have hX:xs=(L.filter f).map (uU t r h):=by rw [hx,aG (by omega)]
     exact kZ (h:=hQ _ _ (by simp [go_sem,Y,hz,← hX]))
def pH (g:Graph)(k:Int):Int:=(eA g k).type
def w3 (g:Graph)(v:Int)(o:V2):Nat->Nat
 | 0=>0
 | k+1=>if v<pH g (iA o k) then w3 g v o k else k+1
def Mn (g:Graph)(o:V2)(i:Nat):V2:=o.take (w3 g (pH g i) o o.length)++[(i:Int)]++o.drop (w3 g (pH g i) o o.length)
def qR (g:Graph)(i j:Int):Nat->V2
 | 0=>[]
 | n+1=>if IG i j (eA g n)=true then Mn g (qR g i j n) n else qR g i j n
def Ee (g:Graph)(l:V2):V2:=(l.length:Int) :: l.map (pH g)
theorem Mo (g:Graph)(v:Int)(o:V2):∀ k,w3 g v o k<=k
 | 0=>bF _
 | k+1=>by
  have:=Mo g v o k;simp only [w3];split<;>omega
theorem RU {g:Graph}{v:Int}{o:V2}:∀ {k j:Nat},w3 g v o k<=j->j<k->v<pH g (iA o j)
 | 0,j,_,h=>absurd h (Nat.not_lt_zero _)
 | k+1,j,h1,h2=>by
  simp only [w3] at h1;split at h1
  .rename_i h;rcases bX j k with hc|hc
   .exact RU h1 hc
   .rw [(aD:j=k)];exact h
  .omega
theorem RT {g:Graph}{v:Int}{o:V2}:∀ {k:Nat},0<w3 g v o k->pH g (iA o ((w3 g v o k - 1:Nat):Int))<=v
 | 0,h=>absurd h (nG _)
 | k+1,h=>by
  simp only [w3] at h ⊢;split
  .rename_i hc;rw [if_pos hc] at h;exact RT h
  .rename_i hc;rw [(aD:k+1 - 1=k)];omega
theorem UX (g:Graph)(o:V2)(i:Nat):(Mn g o i).length=o.length+1:=by
 have:=Mo g (pH g i) o o.length;unfold Mn;simp;omega
theorem Dz (g:Graph)(i j:Int):∀ n,(qR g i j n).length<=n
 | 0=>bF _
 | n+1=>by
  have:=Dz g i j n;simp only [qR];split
  .rw [UX];omega
  .omega
theorem UW {g:Graph}{o:V2}{i:Nat}{x:Int}:x∈Mn g o i↔x=(i:Int)\/x∈o:=by
 unfold Mn;rw [aZ,aZ,bP];constructor
 .rintro ((h|h)|h)
  .exact .inr (dE h)
  .exact .inl h
  .exact .inr (eU h)
 .rintro (h|h)
  .exact .inl (.inr h)
  .rw [<- List.take_append_drop (w3 g (pH g i) o o.length) o,aZ] at h;rcases h with h|h
   .exact .inl (.inl h)
   .exact .inr h
theorem IF {g:Graph}{i j:Int}:∀ {n:Nat} {x:Int},x∈qR g i j n↔∃ k:Nat,k<n/\x=(k:Int)/\IG i j (eA g k)=true
 | 0,x=>by simp [qR]
 | n+1,x=>by
  simp only [qR];split
  .rename_i h;rw [UW,IF];constructor
   .rintro (rfl|⟨k,hk,e,hb⟩)
    .exact ⟨n,aD,rfl,h⟩
    .exact ⟨k,aD,e,hb⟩
   .rintro ⟨k,hk,e,hb⟩;rcases bX k n with hc|hc
    .exact .inr ⟨k,hc,e,hb⟩
    .left;rw [e,(aD:k=n)]
  .rename_i h;rw [IF];constructor
   .rintro ⟨k,hk,e,hb⟩;exact ⟨k,aD,e,hb⟩
   .rintro ⟨k,hk,e,hb⟩;rcases bX k n with hc|hc
    .exact ⟨k,hc,e,hb⟩
    .rw [(aD:k=n)] at hb;exact absurd hb h
theorem Fp (g:Graph)(i j:Int):∀ n,((qR g i j n).map (pH g)).Pairwise (·<=·)
 | 0=>List.Pairwise.nil
 | n+1=>by
  have ih:=Fp g i j n;simp only [qR];split
  .generalize hv:pH g (n:Int)=v;generalize qR g i j n=o at ih ⊢;rw [zE] at ih ⊢;unfold Mn;rw [hv];obtain ⟨k,hk⟩:=c6 (w3 g v o o.length);have hle:k<=o.length:=hk ▸ Mo g v o o.length;have hlo:∀ x∈o.take k,pH g x<=v:=λx hx=>by
    obtain ⟨p,hp,rfl⟩:=aN hx;rw [dH] at hp;rw [Gx];have h0:=RT (g:=g) (v:=v) (o:=o) (k:=o.length) aD;rw [<- hk,iD aD] at h0;rcases bX p (k - 1) with hc|hc
    .have:=dD.1 ih p (k - 1) aD aD hc;omega
    .have e:p=k - 1:=aD;subst e;exact h0
   have hhi:∀ x∈o.drop k,v<pH g x:=λx hx=>by
    obtain ⟨p,hp,rfl⟩:=aN hx;rw [fX] at hp;rw [List.getElem_drop];have:=RU (g:=g) (v:=v) (o:=o) (k:=o.length) (j:=k+p) aD aD;rwa [iD aD] at this
   rw [<- hk,List.append_assoc,List.singleton_append,List.pairwise_append];refine ⟨ih.sublist (List.take_sublist k o),?_,λa ha b hb=>?_⟩
   .rw [List.pairwise_cons];exact ⟨λa ha=>by have:=hhi a ha;omega,ih.sublist (List.drop_sublist k o)⟩
   .have h1:=hlo a ha;rcases aV.1 hb with rfl|hb
    .omega
    .have:=hhi b hb;omega
  .exact ih
theorem Lg {g:Graph}(i j:Int):∀ n,n<=g.j.length->((qR g i j n).map (pH g)).Perm (MI g i j n)
 | 0,_=>by simp [qR,MI]
 | n+1,hn=>by
  have ih:=Lg (g:=g) i j n aD;have hx:n<g.j.length:=aD;rw [TL hx];simp only [qR];have e:eA g (n:Int)=g.j[n]:=Sb hx;rw [e];split
  .have ht:pH g (n:Int)=g.j[n].type:=by unfold pH;rw [e]
   unfold Mn;rw [List.map_append,List.map_append,List.map_singleton,ht,List.append_assoc];refine (List.perm_append_comm_assoc _ _ _).trans ?_;rw [<- List.map_append,List.take_append_drop,List.singleton_append];exact (List.Perm.cons _ ih).trans (List.perm_append_singleton _ _).symm
  .rw [dL];exact ih
theorem S3 {l m:V2}(hl:l.Pairwise (·<=·))(hm:m.Pairwise (·<=·))(h:l.Perm m):l=m:=List.Perm.eq_of_pairwise (le:=λa b=>a<=b) (λa b _ _ h1 h2=>by omega) hl hm h
theorem rN (g:Graph)(i j:Int):(qR g i j g.j.length).map (pH g)=xM g i j:=by
 refine S3 (Fp g i j _) (wL _) ((Lg i j _ (bF _)).trans ?_);exact (uP _ _).symm
theorem lstR_eq {a b:Graph}{i j x y:Int}:Ee a (qR a i j a.j.length)=Ee b (qR b x y b.j.length)↔xM a i j=xM b x y:=by
 unfold Ee;rw [rN,rN];constructor
 .intro h;exact (List.cons.inj h).2
 .intro h;have d:(qR a i j a.j.length).length=(xM a i j).length:=by rw [<- rN,aR]
  have c:(qR b x y b.j.length).length=(xM b x y).length:=by rw [<- rN,aR]
  rw [d,c,h]
theorem SX (l:V2)(v:Int):Pua 108 [dLI l,dI v] (.bool (mem l v)):=by
 refine Tz.p0 func108 rfl λQ k Y=>?_;refine wv (h:=bC (λi e H=>(e 0=dLI l/\e 1=dI v/\e 5=dI i)/\(i<=l.length)/\(∀ (j:Nat) (p:j<l.length),j<i->¬ l[j]=v)) (λi=>l.length - i) 0 ⟨wg,wi,(by exact λj _ g=>absurd g aD)⟩ λq c i e H b=>?_);obtain ⟨n,o,f⟩:=b;have Y:=wa Y n;refine wv (h:=?_);repeat first|intro _|refine ⟨fS,?_⟩
 refine wq (λa=>?_) λa=>?_
 .have Y:=xa1 Y a (aA a);refine wv (h:=?_);repeat first|intro _|refine ⟨fS,?_⟩
  refine wq (λd=>?_) λd=>?_
  .have hm:mem l v=true:=(mem_iff _ _).2 (by have:=aC a;rwa [show l[i]=v by simpa using d] at this);exact wv (h:=k _ _ (by simp [go_sem,hm]))
  .have hn2:∀ (j:Nat) (p:j<l.length),j<i+1->¬ l[j]=v:=λj p g=>by
    rcases bX j i with hc|hc
    .exact f j p hc
    .have e:j=i:=aD;subst e;simpa using d
   exact wp (h:=wx c (i+1) ⟨wg,wj,(by exact hn2)⟩)
 .have hm:mem l v=false:=by
   rw [bK];intro hc;obtain ⟨j,m,e⟩:=aN ((mem_iff _ _).1 hc);exact f j m aD e
  exact wv (h:=k _ _ (by simp [go_sem,hm]))
theorem L6 (g:Graph)(l:V2)(v:∀ x∈l,0<=x/\x<g.j.length)(A:l.length<=100000):Pua 109 [g.d,dLI l] (dLI (Ee g l)):=by
 refine Tz.pK ⟨λt=>t==5||t==9,λ_=>[]⟩ func109 rfl (λQ y=>?_);have Y:=trivial;refine wp (h:=bC (λi e H=>∃ b:V2,(e 1=dLI l/\e 2=.adr g.c/\e 5=.own 0 b.length/\e 6=dI i)/\(H.get 0=some ⟨3,1,b.map cI,false⟩)/\(0<H.next)/\(i<=l.length)/\(b.length=i+1)/\(b=(l.length:Int) :: (l.take i).map (pH g))) (λi=>l.length - i) 0 ⟨([(l.length:Int)]),wg,wn,wn,wi,(by rfl),(by rfl)⟩ λC p i e H o=>?_);obtain ⟨b,z,k,f,B,n,s⟩:=o;have Y:=xa2 Y z k (cW f);refine mA (λj=>?_) λj=>?_
 .have hre:=v _ (aC j);have r:l[i].toNat<g.j.length:=aD;have w:=j5 (pH g) j;have u:pH g l[i]=g.j[l[i].toNat].type:=by unfold pH eA;rw [aA r];rfl
  obtain ⟨q,a⟩:∃ x,x=b++[g.j[l[i].toNat].type]:=⟨_,rfl⟩;have m:q=(l.length:Int) :: (l.take (i+1)).map (pH g):=by rw [a,w,u,s];rfl
  have Y:=xa3 Y j a (aA j) (aA r);exact wp (h:=wx p (i+1) ⟨q,wg,wn,wn,wj,(by rw [a];simp [n]),(by exact m)⟩)
 .have hE:Ee g l=b:=by unfold Ee;rw [s,lH _ aD]
  exact wv (h:=y _ _ (by simp [go_sem,Y,hE]))
theorem DA {g:Graph}{i j:Int}{n:Nat}{x:Int}(h:x∈qR g i j n):0<=x/\x<n:=by
 obtain ⟨k,hk,e,_⟩:=IF.1 h;omega
theorem mZ (g : Graph) (hl : g.j.length ≤ 100000) (a b : Int) : Pure prog 49 [g.d, dI a, dI b] (dLI (qR g a b g.j.length)) := by
  refine Tz.pK ⟨fun t => t == 7 || t == 60, fun r => match r with | 9 => [(0, 3), (0, 6), (3, 6), (4, 6), (0, 10), (4, 10), (6, 10), (7, 10)] | _ => []⟩ func49 rfl (fun Q hQ => ?_)
  try simp [go_sem, seval, o6]
  obtain ⟨I0, hI0⟩ : ∃ I0 : Nat → eB → AHeap → Prop, ∀ (n : Nat) (e : eB) (H : AHeap), I0 n e H ↔ (∃ xs : V2, (e 1 = dI a) ∧ (e 2 = dI b) ∧ (e 3 = .adr g.c) ∧ (e 7 = dLI xs) ∧ (e 8 = dI n) ∧ (n ≤ g.j.length) ∧ (xs = qR g a b n)) := ⟨fun n e H => _, fun _ _ _ => Iff.rfl⟩
  refine UO 7 (0) (0) ⟨3, 1, [], false⟩ (by simp [go_sem, o6]) (by simp [go_sem, o6]) (by simp [go_sem, o6]) I0 (fun n => g.j.length - n) (0) ((hI0 _ _ _).2 ⟨([]), ?_, ?_, ?_, ?_, ?_, (by first | assumption | omega | (simp [go_sem, o6]; done) | (simp_all; done)), (by rfl)⟩) ?_
  iterate 5 (first | omega | (simp [go_sem, seval, o6] <;> omega))
  intro n e H hi0
  obtain ⟨xs, q1_0, q2_0, q3_0, q7_0, q8_0, hn, hx⟩ := (hI0 _ _ _).1 hi0
  have F0 := And.intro q1_0 (And.intro q2_0 (And.intro q3_0 (And.intro q7_0 q8_0)))
  try simp [go_sem, seval, o6, F0]
  repeat first | intro _ | refine ⟨fS, ?_⟩
  refine bA (fun h3 => ?_) (fun h3 => ?_)
  · try simp [go_sem] at h3
    have hxl := Dz g a b n
    rw [← hx] at hxl
    have heq : eA g (n : Int) = g.j[n] := Sb h3
    have hR : qR g a b (n + 1) = if IG a b g.j[n] = true then Mn g xs n else xs := by simp only [qR, heq]; rw [← hx]
    try simp [go_sem, seval, o6, F0, h3, aA h3]
    repeat first | intro _ | refine ⟨fS, ?_⟩
    refine bA (fun h5 => ?_) (fun h5 => ?_)
    · try simp [go_sem] at h5
      have hb : IG a b g.j[n] = false := by
        unfold IG; rw [bK]; intro hc
        simp only [aL, decide_eq_true_eq] at hc
        revert h5; simp [hc.1, hc.2]
      obtain ⟨ys, hys'⟩ : ∃ x, x = xs := ⟨_, rfl⟩
      have hys : ys = qR g a b (n + 1) := by rw [hys', hR, if_neg (by rw [hb]; simp)]
      try simp [go_sem, seval, o6, F0, h3, aA h3, hys']
      repeat first | intro _ | refine ⟨fS, ?_⟩
      refine iW (n + 1) (by omega) ((hI0 _ _ _).2 ⟨(ys), ?_, ?_, ?_, ?_, ?_, (by first | assumption | omega | (simp [go_sem, o6, F0, h3, aA h3, hys', h5]; done) | (simp_all <;> omega)), (by (first | exact hys | exact hys hkk | exact hys (by rw [hki, hz]; rfl)))⟩) <;> first | omega | (simp [go_sem, seval, o6, F0, h3, aA h3, hys'] <;> omega)
    · try simp [go_sem] at h5
      have hb : IG a b g.j[n] = true := by
        unfold IG; simp only [aL, decide_eq_true_eq]
        revert h5; simp <;> omega
      have hv : pH g (n : Int) = g.j[n].type := by unfold pH; rw [heq]
      try simp [go_sem, seval, o6, F0, h3, aA h3, h5]
      repeat first | intro _ | refine ⟨fS, ?_⟩
      obtain ⟨I2, hI2⟩ : ∃ I2 : Nat → eB → AHeap → Prop, ∀ (k : Nat) (e : eB) (H : AHeap), I2 k e H ↔ ((e 1 = dI a) ∧ (e 2 = dI b) ∧ (e 3 = .adr g.c) ∧ (e 7 = dLI xs) ∧ (e 8 = dI n) ∧ (e 9 = dI k) ∧ (k ≤ xs.length) ∧ (w3 g g.j[n].type xs xs.length = w3 g g.j[n].type xs k)) := ⟨fun k e H => _, fun _ _ _ => Iff.rfl⟩
      refine yY I2 (fun k => k) (xs.length) ((hI2 _ _ _).2 ⟨?_, ?_, ?_, ?_, ?_, ?_, (by first | assumption | omega | (simp [go_sem, o6, F0, h3, aA h3, h5]; done) | (simp_all; done)), (by rfl)⟩) ?_
      iterate 6 (first | omega | (simp [go_sem, seval, o6, F0, h3, aA h3, h5] <;> omega))
      intro k e H hi2
      obtain ⟨q1_2, q2_2, q3_2, q7_2, q8_2, q9_2, hk, hki⟩ := (hI2 _ _ _).1 hi2
      have F2 := And.intro q1_2 (And.intro q2_2 (And.intro q3_2 (And.intro q7_2 (And.intro q8_2 q9_2))))
      have hk1 : ¬ k = 0 → ((k : Int) - 1).toNat = k - 1 := fun h => by omega
      obtain ⟨x, hx1, hx2⟩ : ∃ x : Int, (¬ k = 0 → xs[k - 1]? = some x) ∧ (0 < k → 0 ≤ x ∧ x < g.j.length) := by
        refine ⟨xs[k - 1]?.getD 0, fun h => ?_, fun h => ?_⟩
        · rw [aA (show k - 1 < xs.length by omega)]; rfl
        · have hl1 : k - 1 < xs.length := by omega
          rw [aA hl1, Option.getD_some]
          have hin := DA (g := g) (i := a) (j := b) (n := n) (x := xs[k - 1]) (by rw [← hx]; exact aC hl1)
          omega
      obtain ⟨x3, hx3, hxl3⟩ : ∃ x : Int, (0 < xs.length → xs[0]? = some x) ∧ (0 < xs.length → x.toNat < g.j.length) := by
        refine ⟨xs[0]?.getD 0, fun h => ?_, fun h => ?_⟩
        · rw [aA h]; rfl
        · rw [aA h, Option.getD_some]
          have hin := DA (g := g) (i := a) (j := b) (n := n) (x := xs[0]) (by rw [← hx]; exact aC h)
          omega
      have hxl : ¬ k = 0 → x.toNat < g.j.length := fun h => by have := hx2 (by omega); omega
      have hxi : ¬ k = 0 → iA xs ((k - 1 : Nat) : Int) = x := fun h => by unfold iA; rw [Int.toNat_natCast, hx1 h]; rfl
      have hT : (xs.map cI).take k = (xs.take k).map cI := (List.map_take).symm
      have hD : (xs.map cI).drop k = (xs.drop k).map cI := (List.map_drop).symm
      have hA : (xs.map cI).take xs.length = xs.map cI := aG (by simp)
      have hk0 : k = 0 → xs.take k = [] ∧ xs.drop k = xs := fun h => by subst h; exact ⟨rfl, rfl⟩
      have hkl : (xs.take k).length + (xs.drop k).length = xs.length := by simp only [dH, fX]; omega
      obtain ⟨ys, hys'⟩ : ∃ x, x = xs.take k ++ [(n : Int)] ++ xs.drop k := ⟨_, rfl⟩
      have hys : w3 g g.j[n].type xs xs.length = k → ys = qR g a b (n + 1) := fun hkk => by rw [hys', hR, if_pos hb]; unfold Mn; rw [hv, hkk]
      generalize xs.take k = xk at hT hk0 hkl hys'
      generalize xs.drop k = xd at hD hk0 hkl hys'
      have he0 : 0 < g.j.length := by omega
      by_cases hz : k = 0
      · skip
        by_cases hz2 : 0 < xs.length
        · skip
          try simp [go_sem, seval, o6, h3, aA h3, h5, F2, hys', hT, hD, hA, hz, (hk0 hz).1, (hk0 hz).2, hx3 hz2, aA (hxl3 hz2)]
          repeat first | intro _ | refine ⟨fS, ?_⟩
          refine HG 7 (H.next + 21) (xk.length + 1 + xd.length) ⟨3, 1, ys.map cI, false⟩ (by simp [go_sem, o6, h3, aA h3, h5, F2, hys', hT, hD, hA, hz, (hk0 hz).1, (hk0 hz).2, hx3 hz2, aA (hxl3 hz2)]) (by simp [go_sem, o6, h3, aA h3, h5, F2, hys', hT, hD, hA, hz, (hk0 hz).1, (hk0 hz).2, hx3 hz2, aA (hxl3 hz2)]) (by simp only [hys', aR, aQ, eQ, jQ] <;> omega) (n + 1) (by omega) ((hI0 _ _ _).2 ⟨(ys), ?_, ?_, ?_, ?_, ?_, (by first | assumption | omega | (simp [go_sem, o6, h3, aA h3, h5, F2, hys', hT, hD, hA, hz, (hk0 hz).1, (hk0 hz).2, hx3 hz2, aA (hxl3 hz2)]; done) | (simp_all <;> omega)), (by (first | exact hys | exact hys hkk | exact hys (by rw [hki, hz]; rfl)))⟩) <;> first | omega | (simp [go_sem, seval, o6, h3, aA h3, h5, F2, hys', hT, hD, hA, hz, (hk0 hz).1, (hk0 hz).2, hx3 hz2, aA (hxl3 hz2)] <;> omega)
        · skip
          try simp [go_sem, seval, o6, h3, aA h3, h5, F2, hys', hT, hD, hA, hz, (hk0 hz).1, (hk0 hz).2, bY (Gv.1 hz2), aA he0]
          repeat first | intro _ | refine ⟨fS, ?_⟩
          refine HG 7 (H.next + 21) (xk.length + 1 + xd.length) ⟨3, 1, ys.map cI, false⟩ (by simp [go_sem, o6, h3, aA h3, h5, F2, hys', hT, hD, hA, hz, (hk0 hz).1, (hk0 hz).2, bY (Gv.1 hz2), aA he0]) (by simp [go_sem, o6, h3, aA h3, h5, F2, hys', hT, hD, hA, hz, (hk0 hz).1, (hk0 hz).2, bY (Gv.1 hz2), aA he0]) (by simp only [hys', aR, aQ, eQ, jQ] <;> omega) (n + 1) (by omega) ((hI0 _ _ _).2 ⟨(ys), ?_, ?_, ?_, ?_, ?_, (by first | assumption | omega | (simp [go_sem, o6, h3, aA h3, h5, F2, hys', hT, hD, hA, hz, (hk0 hz).1, (hk0 hz).2, bY (Gv.1 hz2), aA he0]; done) | (simp_all <;> omega)), (by (first | exact hys | exact hys hkk | exact hys (by rw [hki, hz]; rfl)))⟩) <;> first | omega | (simp [go_sem, seval, o6, h3, aA h3, h5, F2, hys', hT, hD, hA, hz, (hk0 hz).1, (hk0 hz).2, bY (Gv.1 hz2), aA he0] <;> omega)
      · skip
        try simp [go_sem, seval, o6, h3, aA h3, h5, F2, hys', hT, hD, hA, hz, hk1 hz, hx1 hz, aA (hxl hz)]
        repeat first | intro _ | refine ⟨fS, ?_⟩
        refine bA (fun h7 => ?_) (fun h7 => ?_)
        · try simp [go_sem] at h7
          have hty : pH g x = (g.j[x.toNat]'(hxl hz)).type := by unfold pH eA; rw [aA (hxl hz)]; rfl
          have hlt : g.j[n].type < pH g x := by
            rw [hty]; first | omega | (revert h7; simp; omega)
          have hki2 : w3 g g.j[n].type xs xs.length = w3 g g.j[n].type xs (k - 1) := by
            rw [hki]
            have hxi' := hxi hz
            obtain ⟨k', rfl⟩ : ∃ k', k = k' + 1 := ⟨k - 1, by omega⟩
            simp only [w3]
            rw [if_pos (by rw [show iA xs (k' : Int) = x from hxi']; exact hlt)]; rfl
          try simp [go_sem, seval, o6, h3, aA h3, h5, F2, hys', hT, hD, hA, hz, hk1 hz, hx1 hz, aA (hxl hz), h7]
          repeat first | intro _ | refine ⟨fS, ?_⟩
          refine iW (k - 1) (by omega) ((hI2 _ _ _).2 ⟨?_, ?_, ?_, ?_, ?_, ?_, (by first | assumption | omega | (simp [go_sem, o6, h3, aA h3, h5, F2, hys', hT, hD, hA, hz, hk1 hz, hx1 hz, aA (hxl hz), h7]; done) | (simp_all <;> omega)), (by (exact hki2))⟩) <;> first | omega | (simp [go_sem, seval, o6, h3, aA h3, h5, F2, hys', hT, hD, hA, hz, hk1 hz, hx1 hz, aA (hxl hz), h7] <;> omega)
        · try simp [go_sem] at h7
          have hkk : w3 g g.j[n].type xs xs.length = k := by
            rw [hki]
            first
            | (rw [hz]; rfl)
            | (have hty : pH g x = (g.j[x.toNat]'(hxl hz)).type := by unfold pH eA; rw [aA (hxl hz)]; rfl
               have hlt : ¬ g.j[n].type < pH g x := by
                 rw [hty]; first | omega | (revert h7; simp; omega)
               have hxi' := hxi hz
               obtain ⟨k', rfl⟩ : ∃ k', k = k' + 1 := ⟨k - 1, by omega⟩
               simp only [w3]
               rw [if_neg (by rw [show iA xs (k' : Int) = x from hxi']; exact hlt)])
          try simp [go_sem, seval, o6, h3, aA h3, h5, F2, hys', hT, hD, hA, hz, hk1 hz, hx1 hz, aA (hxl hz)]
          repeat first | intro _ | refine ⟨fS, ?_⟩
          refine HG 7 (H.next + 21) (xk.length + 1 + xd.length) ⟨3, 1, ys.map cI, false⟩ (by simp [go_sem, o6, h3, aA h3, h5, F2, hys', hT, hD, hA, hz, hk1 hz, hx1 hz, aA (hxl hz)]) (by simp [go_sem, o6, h3, aA h3, h5, F2, hys', hT, hD, hA, hz, hk1 hz, hx1 hz, aA (hxl hz)]) (by simp only [hys', aR, aQ, eQ, jQ] <;> omega) (n + 1) (by omega) ((hI0 _ _ _).2 ⟨(ys), ?_, ?_, ?_, ?_, ?_, (by first | assumption | omega | (simp [go_sem, o6, h3, aA h3, h5, F2, hys', hT, hD, hA, hz, hk1 hz, hx1 hz, aA (hxl hz), h7]; done) | (simp_all <;> omega)), (by (first | exact hys | exact hys hkk | exact hys (by rw [hki, hz]; rfl)))⟩) <;> first | omega | (simp [go_sem, seval, o6, h3, aA h3, h5, F2, hys', hT, hD, hA, hz, hk1 hz, hx1 hz, aA (hxl hz)] <;> omega)
  · try simp [go_sem] at h3
    have hE : xs = qR g a b g.j.length := by rw [hx, show n = g.j.length by omega]
    try simp [go_sem, seval, o6, F0]
    exact hQ _ _ (by first | (left; (simp [go_sem, o6, F0, ← hE]); done) | (right; (simp [go_sem, o6, F0, ← hE]); done))
def PB (g:Graph)(i j:Int):V2:=qR g i j g.j.length
structure FnC (a b:Host):Prop where
 cv:∀ (i j:Nat) (h1:i<a.k.length) (h2:j<b.k.length),DN a.k[i] b.k[j]
 Q:∀ i j x y:Int,DN (Ee a.i (PB a.i i j)) (Ee b.i (PB b.i x y))
 ae:a.i.j.length<=100000
 be:b.i.j.length<=100000
def PP (a b:Host)(m:Nat):Prop:=∀ l:V2,l.length+m=a.i.h.length ->
 Pure prog 48 [a.d,b.d,dLI l] (.tup [dLI ((jT a b m l).getD []),.bool (jT a b m l).isSome])
theorem u7 (g:Graph)(hl:g.j.length<=100000)(a b:Int):Pua 109 [g.d,dLI (PB g a b)] (dLI (Ee g (PB g a b))) :=
 L6 g _ (λx hx=>by have:=DA hx;omega) (by have:=Dz g a b g.j.length;unfold PB;omega)
theorem Od (a b:Host):PP a b 0:=by
 intro l e;have c:l.length=a.i.h.length:=aD;refine Tz.pK ⟨λt=>t==64,λ_=>[]⟩ func48 rfl (λQ d=>?_);try simp [go_sem,seval,c]
 repeat first|intro _|refine ⟨fS,?_⟩
 exact d _ _ (by first|(left;(simp [go_sem,jT]);done)|(right;(simp [go_sem,jT]);done))
theorem Oc (a b:Host)(U:FhG a b)(hC:FnC a b)(m:Nat)(ih:PP a b m):PP a b (m+1):=by
 intro l hm;unfold PP at ih;have s:l.length<a.i.h.length:=aD;have q:l.length<a.k.length:=by rw [U.av];exact s
 have g:((l.length:Int)==(a.i.h.length:Int))=false:=by rw [beq_eq_false_iff_ne];omega
 have f:¬ ((l.length:Int)=(a.i.h.length:Int)):=aD;have d:¬ (l.length=a.i.h.length):=aD;have c9:l.length<=100000:=by have:=U.an;omega
 have c8:=U.bn;have c7:=U.bv;have L:=hC.ae;have K:=hC.be;have hR:jT a b (m+1) l=(List.range b.i.h.length).findSome? λ(k:Nat)=>if B5 a b l k=true then jT a b m (l++[(k:Int)]) else none:=rfl
 refine Tz.pK ⟨λt=>t==64,λ_=>[]⟩ func48 rfl (λQ hQ=>?_);try simp [go_sem,seval,g,f,d,Host.c,aA s,aA q,cL]
 repeat first|intro _|refine ⟨fS,?_⟩
 obtain ⟨I0,J⟩:∃ I0:Nat->eB->AHeap->Prop,∀ (i:Nat) (e:eB) (H:AHeap),I0 i e H↔((e 2=dLI l)/\(e 3=.adr a.c)/\(e 4=.adr b.c)/\(e 8=dI l.length)/\(e 9=dI i)/\(i<=b.i.h.length)/\(∀ j,j<i->(if B5 a b l j=true then jT a b m (l++[(j:Int)]) else none)=none)):=⟨λi e H=>_,λ_ _ _=>Iff.rfl⟩;refine yY I0 (λi=>b.i.h.length - i) (0) ((J _ _ _).2 ⟨?_,?_,?_,?_,?_,(by first|assumption|omega|(simp [go_sem,g,f,d,Host.c,aA s,aA q,cL];done)|(simp_all;done)),(by exact λj h=>absurd h aD)⟩) ?_;iterate 5 (first|omega|(simp [go_sem,seval,g,f,d,Host.c,aA s,aA q,cL]<;>omega))
 intro i e H b6;obtain ⟨a6,a4,a2,a0,Y,hi,G⟩:=(J _ _ _).1 b6;have E:=xa3 a6 a4 a2 a0 Y;try simp [go_sem,seval,g,f,d,Host.c,aA s,aA q,cL,E]
 repeat first|intro _|refine ⟨fS,?_⟩
 refine bA (λn=>?_) (λn=>?_)
 .try simp [go_sem] at n
  have u:i<b.k.length:=aD;obtain ⟨c0,c3,b3⟩:=hC.cv l.length i q u;have U:B5 a b l i=(!(mem l i)&&(decide (a.i.h[l.length]=b.i.h[i])&&(decide (a.k[l.length]=b.k[i])&&(List.range (l.length+1)).all (F1 a b l i)))):=by
   unfold B5 gN;simp [aA s,aA n,aA q,aA u]
  try simp [go_sem,seval,g,f,d,Host.c,aA s,aA q,cL,E,n,aA n,aA u]
  repeat first|intro _|refine ⟨fS,?_⟩
  refine aI (SX l i) ((by first|rfl|(simp [go_sem,<- List.map_take,<- List.map_drop,g,f,d,Host.c,aA s,aA q,cL,E,n,aA n,aA u];done))) ?_;try simp [go_sem,seval,g,f,d,Host.c,aA s,aA q,cL,E,n,aA n,aA u]
  repeat first|intro _|refine ⟨fS,?_⟩
  refine dJ (λI=>c3) (λI=>(by first|rfl|(simp [go_sem,<- List.map_take,<- List.map_drop,g,f,d,Host.c,aA s,aA q,cL,E,n,aA n,aA u];done))) ?_;try simp [go_sem,seval,g,f,d,Host.c,aA s,aA q,cL,E,n,aA n,aA u]
  repeat first|intro _|refine ⟨fS,?_⟩
  refine bA (λz=>?_) (λz=>?_)
  .try simp [go_sem] at z
   have V:B5 a b l i=false:=by
    rw [U,bK];intro hT;simp at hT z;obtain ⟨q1,q2,q3,_⟩:=hT;simp_all
   have hK:(if B5 a b l i=true then jT a b m (l++[(i:Int)]) else none)=none:=by rw [V];rfl
   try simp [go_sem,seval,g,f,d,Host.c,aA s,aA q,cL,E,n,aA n,aA u]
   repeat first|intro _|refine ⟨fS,?_⟩
   refine iW (i+1) aD ((J _ _ _).2 ⟨?_,?_,?_,?_,?_,(by first|assumption|omega|(simp [go_sem,g,f,d,Host.c,aA s,aA q,cL,E,n,aA n,aA u,z];done)|(simp_all<;>omega)),(by exact λj hj=>if hji:j<i then G j hji else (aD:i=j) ▸ hK)⟩)<;>first|omega|(simp [go_sem,seval,g,f,d,Host.c,aA s,aA q,cL,E,n,aA n,aA u]<;>omega)
  .try simp [go_sem] at z
   have a8:B5 a b l i=(List.range (l.length+1)).all (F1 a b l i):=by
    obtain ⟨⟨q1,q2⟩,q3⟩:=z;have b0:a.k[l.length]=b.k[i]:=by first|exact b3.1 q3|exact q3|(simp_all)
    rw [U,q1,decide_eq_true q2,decide_eq_true b0];rfl
   obtain ⟨M,C⟩:∃ x,x=l++[(i:Int)]:=⟨_,rfl⟩;have c5:M.length=l.length+1:=by rw [C];simp
   try simp [go_sem,seval,g,f,d,Host.c,aA s,aA q,cL,E,n,aA n,aA u,z,C]
   repeat first|intro _|refine ⟨fS,?_⟩
   obtain ⟨I2,T⟩:∃ I2:Nat->eB->AHeap->Prop,∀ (j:Nat) (e:eB) (H:AHeap),I2 j e H↔(∃ W:Bool,(e 2=dLI l)/\(e 3=.adr a.c)/\(e 4=.adr b.c)/\(e 8=dI l.length)/\(e 9=dI i)/\(e 10=dLI M)/\(e 11=.bool W)/\(e 12=dI j)/\(j<=l.length+1)/\(W=(List.range j).all (F1 a b l i))):=⟨λj e H=>_,λ_ _ _=>Iff.rfl⟩;refine UO 10 (H.next+32) (l.length+1) ⟨3,1,M.map cI,false⟩ (by simp [go_sem,g,f,d,Host.c,aA s,aA q,cL,E,n,aA n,aA u,z,C]) (by simp [go_sem,g,f,d,Host.c,aA s,aA q,cL,E,n,aA n,aA u,z,C]) (by simp [go_sem,g,f,d,Host.c,aA s,aA q,cL,E,n,aA n,aA u,z,C]) I2 (λj=>l.length+1 - j) (0) ((T _ _ _).2 ⟨(true),?_,?_,?_,?_,?_,?_,?_,?_,(by first|assumption|omega|(simp [go_sem,g,f,d,Host.c,aA s,aA q,cL,E,n,aA n,aA u,z,C];done)|(simp_all;done)),(by rfl)⟩) ?_;iterate 8 (first|omega|(simp [go_sem,seval,g,f,d,Host.c,aA s,aA q,cL,E,n,aA n,aA u,z,C]<;>omega))
   intro j e H b5;obtain ⟨W,a5,a3,a1,Z,X,R,P,O,hj,hF⟩:=(T _ _ _).1 b5;have A:=xa6 a5 a3 a1 Z X R P O;try simp [go_sem,seval,g,f,d,Host.c,aA s,aA q,cL,n,aA n,aA u,z,A]
   repeat first|intro _|refine ⟨fS,?_⟩
   refine bA (λp=>?_) (λp=>?_)
   .try simp [go_sem] at p
    have a7:j<M.length:=aD;obtain ⟨v,hv⟩:=c6 (M[j]);have b4:iA (l++[(i:Int)]) j=v:=by rw [<- C];unfold iA;rw [hv];simp [aA a7]
    have o:M[j]?=some v:=by rw [aA a7,hv]
    obtain ⟨c1,b8,b2⟩:=hC.Q j l.length v i;obtain ⟨c2,b7,b1⟩:=hC.Q l.length j i v;have D:F1 a b l i j=(decide (c1=0)&&decide (c2=0)):=by
     unfold F1;rw [b4];congr 1
     .exact decide_eq_decide.2 (lstR_eq.symm.trans b2.symm)
     .exact decide_eq_decide.2 (lstR_eq.symm.trans b1.symm)
    obtain ⟨f2,w⟩:∃ x,x=F1 a b l i j:=⟨_,rfl⟩;have c4:f2=(List.range (j+1)).all (F1 a b l i):=by
     rw [dO,oW,<- hF,w];simp_all
    have y:(c2==0)=decide (c2=0):=by by_cases h:c2=0<;>simp [h]
    try simp [go_sem,seval,g,f,d,Host.c,aA s,aA q,cL,n,aA n,aA u,z,A,p,o,w,D,y]
    repeat first|intro _|refine ⟨fS,?_⟩
    refine aI (mZ a.i L j l.length) ((by first|rfl|(simp [go_sem,<- List.map_take,<- List.map_drop,g,f,d,Host.c,aA s,aA q,cL,n,aA n,aA u,z,A,p,o,w,D,y];done))) ?_;try simp [go_sem,seval,g,f,d,Host.c,aA s,aA q,cL,n,aA n,aA u,z,A,p,o,w,D,y]
    repeat first|intro _|refine ⟨fS,?_⟩
    refine aI (u7 a.i L j l.length) ((by first|rfl|(simp [go_sem,<- List.map_take,<- List.map_drop,g,f,d,Host.c,aA s,aA q,cL,n,aA n,aA u,z,A,p,o,w,D,y];done))) ?_;try simp [go_sem,seval,g,f,d,Host.c,aA s,aA q,cL,n,aA n,aA u,z,A,p,o,w,D,y]
    repeat first|intro _|refine ⟨fS,?_⟩
    refine aI (mZ b.i K v i) ((by first|rfl|(simp [go_sem,<- List.map_take,<- List.map_drop,g,f,d,Host.c,aA s,aA q,cL,n,aA n,aA u,z,A,p,o,w,D,y];done))) ?_;try simp [go_sem,seval,g,f,d,Host.c,aA s,aA q,cL,n,aA n,aA u,z,A,p,o,w,D,y]
    repeat first|intro _|refine ⟨fS,?_⟩
    refine aI (u7 b.i K v i) ((by first|rfl|(simp [go_sem,<- List.map_take,<- List.map_drop,g,f,d,Host.c,aA s,aA q,cL,n,aA n,aA u,z,A,p,o,w,D,y];done))) ?_;try simp [go_sem,seval,g,f,d,Host.c,aA s,aA q,cL,n,aA n,aA u,z,A,p,o,w,D,y]
    repeat first|intro _|refine ⟨fS,?_⟩
    refine aI (b8) ((by first|rfl|(simp [go_sem,<- List.map_take,<- List.map_drop,g,f,d,Host.c,aA s,aA q,cL,n,aA n,aA u,z,A,p,o,w,D,y];done))) ?_;try simp [go_sem,seval,g,f,d,Host.c,aA s,aA q,cL,n,aA n,aA u,z,A,p,o,w,D,y]
    repeat first|intro _|refine ⟨fS,?_⟩
    refine dJ (λI=>mZ a.i L l.length j) (λI=>(by first|rfl|(simp [go_sem,<- List.map_take,<- List.map_drop,g,f,d,Host.c,aA s,aA q,cL,n,aA n,aA u,z,A,p,o,w,D,y];done))) ?_;try simp [go_sem,seval,g,f,d,Host.c,aA s,aA q,cL,n,aA n,aA u,z,A,p,o,w,D,y]
    repeat first|intro _|refine ⟨fS,?_⟩
    refine dJ (λI=>u7 a.i L l.length j) (λI=>(by first|rfl|(simp [go_sem,<- List.map_take,<- List.map_drop,g,f,d,Host.c,aA s,aA q,cL,n,aA n,aA u,z,A,p,o,w,D,y];done))) ?_;try simp [go_sem,seval,g,f,d,Host.c,aA s,aA q,cL,n,aA n,aA u,z,A,p,o,w,D,y]
    repeat first|intro _|refine ⟨fS,?_⟩
    refine dJ (λI=>mZ b.i K i v) (λI=>(by first|rfl|(simp [go_sem,<- List.map_take,<- List.map_drop,g,f,d,Host.c,aA s,aA q,cL,n,aA n,aA u,z,A,p,o,w,D,y];done))) ?_;try simp [go_sem,seval,g,f,d,Host.c,aA s,aA q,cL,n,aA n,aA u,z,A,p,o,w,D,y]
    repeat first|intro _|refine ⟨fS,?_⟩
    refine dJ (λI=>u7 b.i K i v) (λI=>(by first|rfl|(simp [go_sem,<- List.map_take,<- List.map_drop,g,f,d,Host.c,aA s,aA q,cL,n,aA n,aA u,z,A,p,o,w,D,y];done))) ?_;try simp [go_sem,seval,g,f,d,Host.c,aA s,aA q,cL,n,aA n,aA u,z,A,p,o,w,D,y]
    repeat first|intro _|refine ⟨fS,?_⟩
    refine dJ (λI=>b7) (λI=>(by first|rfl|(simp [go_sem,<- List.map_take,<- List.map_drop,g,f,d,Host.c,aA s,aA q,cL,n,aA n,aA u,z,A,p,o,w,D,y];done))) ?_;try simp [go_sem,seval,g,f,d,Host.c,aA s,aA q,cL,n,aA n,aA u,z,A,p,o,w,D,y]
    repeat first|intro _|refine ⟨fS,?_⟩
    refine iW (j+1) aD ((T _ _ _).2 ⟨(f2),?_,?_,?_,?_,?_,?_,?_,?_,(by first|assumption|omega|(simp [go_sem,g,f,d,Host.c,aA s,aA q,cL,n,aA n,aA u,z,A,p,o,w,D,y];done)|(simp_all<;>omega)),(by exact c4)⟩)<;>first|omega|(simp [go_sem,seval,g,f,d,Host.c,aA s,aA q,cL,n,aA n,aA u,z,A,p,o,w,D,y]<;>omega)
   .try simp [go_sem] at p
    have a9:(List.range (l.length+1)).all (F1 a b l i)=W:=by
     rcases bX l.length j with hlj|hlj
     .rw [hF,(aD:j=l.length+1)]
     .have hfb:W=false:=by revert p;cases W<;>simp<;>omega
      rw [hfb] at hF;rw [hfb,bK];intro hT;rw [b9] at hT;have:(List.range j).all (F1 a b l i)=true:=b9.2 λx hx=>hT x (aW.2 (by have:=aW.1 hx;omega));rw [this] at hF;cases hF
    try simp [go_sem,seval,g,f,d,Host.c,aA s,aA q,cL,n,aA n,aA u,z,A]
    repeat first|intro _|refine ⟨fS,?_⟩
    refine bA (λB=>?_) (λB=>?_)
    .try simp [go_sem] at B
     have V:B5 a b l i=false:=by rw [a8,a9];simpa using B
     have hK:(if B5 a b l i=true then jT a b m (l++[(i:Int)]) else none)=none:=by rw [V];rfl
     try simp [go_sem,seval,g,f,d,Host.c,aA s,aA q,cL,n,aA n,aA u,z,A]
     repeat first|intro _|refine ⟨fS,?_⟩
     refine iW (i+1) aD ((J _ _ _).2 ⟨?_,?_,?_,?_,?_,(by first|assumption|omega|(simp [go_sem,g,f,d,Host.c,aA s,aA q,cL,n,aA n,aA u,z,A,p,B];done)|(simp_all<;>omega)),(by exact λj hj=>if hji:j<i then G j hji else (aD:i=j) ▸ hK)⟩)<;>first|omega|(simp [go_sem,seval,g,f,d,Host.c,aA s,aA q,cL,n,aA n,aA u,z,A]<;>omega)
    .try simp [go_sem] at B
     have N:B5 a b l i=true:=by rw [a8,a9];simpa using B
     try simp [go_sem,seval,g,f,d,Host.c,aA s,aA q,cL,n,aA n,aA u,z,A,B]
     refine aB (ih M aD) ((by first|rfl|(simp [go_sem,<- List.map_take,<- List.map_drop,g,f,d,Host.c,aA s,aA q,cL,n,aA n,aA u,z,A,B];done))) ?_;try simp [go_sem,seval,g,f,d,Host.c,aA s,aA q,cL,n,aA n,aA u,z,A,B]
     refine bA (λF=>?_) (λF=>?_)
     .try simp [go_sem] at F
      obtain ⟨r,hr⟩:=gW.1 F;rw [C] at hr;have hE:jT a b (m+1) l=some r:=by rw [hR];exact Fj n G (by rw [if_pos N];exact hr)
      have S:jT a b m M=some r:=by rw [C];exact hr
      try simp [go_sem,seval,g,f,d,Host.c,aA s,aA q,cL,n,aA n,aA u,z,A,B,S]
      exact hQ _ _ (by first|(left;(simp [go_sem,hE,S]);done)|(right;(simp [go_sem,hE,S]);done))
     .try simp [go_sem] at F
      have hr:jT a b m (l++[(i:Int)])=none:=by rw [<- C];simpa using F
      have hK:(if B5 a b l i=true then jT a b m (l++[(i:Int)]) else none)=none:=by rw [if_pos N];exact hr
      try simp [go_sem,seval,g,f,d,Host.c,aA s,aA q,cL,n,aA n,aA u,z,A,B]
      repeat first|intro _|refine ⟨fS,?_⟩
      refine iW (i+1) aD ((J _ _ _).2 ⟨?_,?_,?_,?_,?_,(by first|assumption|omega|(simp [go_sem,g,f,d,Host.c,aA s,aA q,cL,n,aA n,aA u,z,A,B,p,F];done)|(simp_all<;>omega)),(by exact λj hj=>if hji:j<i then G j hji else (aD:i=j) ▸ hK)⟩)<;>first|omega|(simp [go_sem,seval,g,f,d,Host.c,aA s,aA q,cL,n,aA n,aA u,z,A,B]<;>omega)
 .try simp [go_sem] at n
  have hE:jT a b (m+1) l=none:=by rw [hR];exact Bz λj hj=>G j aD
  try simp [go_sem,seval,g,f,d,Host.c,aA s,aA q,cL,E]
  exact hQ _ _ (by first|(left;(simp [go_sem,hE]);done)|(right;(simp [go_sem,hE]);done))
theorem Hk (a b:Host)(hG:FhG a b)(hC:FnC a b):∀ m,PP a b m
 | 0=>Od a b
 | m+1=>Oc a b hG hC m (Hk a b hG hC m)
def VZ (es:V2)(p:Int × Int):V2:=es.set p.1.toNat p.2
def Um (a b:Host)(r:V2)(i:Nat)(es:V2)(k:Nat):V2:=((PB a.i i k).zip (PB b.i (iA r i) (iA r k))).foldl VZ es
def Xt (a b:Host)(r:V2)(es:V2)(i:Nat):V2:=(List.range r.length).foldl (Um a b r i) es
def abL (a b:Host)(r:V2):V2:=(List.range r.length).foldl (Xt a b r) (List.replicate a.i.j.length 0)
theorem w9 {α:Type}(f:α->Nat->α)(x:α)(i:Nat):(List.range (i+1)).foldl f x=f ((List.range i).foldl f x) i:=by rw [dO,sJ];rfl
theorem FY {α β:Type}(f:β->α->β)(x:β){l:List α}{i:Nat}(h:i<l.length):(l.take (i+1)).foldl f x=f ((l.take i).foldl f x) l[i]:=by rw [List.take_succ_eq_append_getElem h,sJ];rfl
theorem Og (t:Types)(h:t.ok)(a b:Host)(j:fM t a=0)(i:fM t b=0)(l:8<a.i.h.length\/8<b.i.h.length):Pua 12 [t.d,a.d,b.d] (.tup [(Part.mk [] []).d,dI 3]):=by
 have f:(l5 t a).2=0:=j;have e:(l5 t b).2=0:=i;have g:(decide ((8:Int)<(a.i.h.length:Int))||decide ((8:Int)<(b.i.h.length:Int)))=true:=by rw [c7,decide_eq_true_eq,decide_eq_true_eq];omega
 refine Tz.pK ⟨λt=>t==6,λ_=>[]⟩ func12 rfl (λQ k=>?_);try simp [go_sem,seval,f,e,g]
 refine aB (jH t h a) ((by first|rfl|(simp [go_sem,<- List.map_take,<- List.map_drop,f,e,g];done))) ?_;try simp [go_sem,seval,f,e,g]
 refine aB (jH t h b) ((by first|rfl|(simp [go_sem,<- List.map_take,<- List.map_drop,f,e,g];done))) ?_;try simp [go_sem,seval,f,e,g]
 repeat first|intro _|refine ⟨iI,?_⟩
 exact k _ _ (by first|(left;(simp [go_sem,f,e,g,Part.d,Part.c,dLI,Nf,mL,iU,oX]);done)|(right;(simp [go_sem,f,e,g,Part.d,Part.c,dLI,Nf,mL,iU,oX]);done))
theorem Ab (a b:Host)(hG:FhG a b)(hC:FnC a b):Pua 48 [a.d,b.d,.nil] (.tup [dLI ((jT a b a.i.h.length []).getD []),.bool (jT a b a.i.h.length []).isSome]) :=
 VC (by simp [go_sem,TZ,Host.d,Host.c,Graph.d,Graph.c,dLI]) (Hk a b hG hC a.i.h.length [] aE)
theorem L8 (t:Types)(i:t.ok)(a b:Host)(m:fM t a=0)(l:fM t b=0)(p:a.i.h.length<=8)(o:b.i.h.length<=8)(q:FhG a b)(r:FnC a b)
  (k:jT a b a.i.h.length []=none):Pua 12 [t.d,a.d,b.d] (.tup [(Part.mk [] []).d,dI 10]):=by
 have f:(l5 t a).2=0:=m;have e:(l5 t b).2=0:=l;have j:=Ab a b q r;rw [k] at j;have h:¬ (8:Int)<(a.i.h.length:Int):=aD;have g:¬ (8:Int)<(b.i.h.length:Int):=aD;refine Tz.pK ⟨λt=>t==6,λ_=>[]⟩ func12 rfl (λQ n=>?_);try simp [go_sem,seval,f,e,h,g]
 refine aB (jH t i a) ((by first|rfl|(simp [go_sem,<- List.map_take,<- List.map_drop,f,e,h,g];done))) ?_;try simp [go_sem,seval,f,e,h,g]
 refine aB (jH t i b) ((by first|rfl|(simp [go_sem,<- List.map_take,<- List.map_drop,f,e,h,g];done))) ?_;try simp [go_sem,seval,f,e,h,g]
 repeat first|intro _|refine ⟨iI,?_⟩
 refine aB (j) ((by first|rfl|(simp [go_sem,<- List.map_take,<- List.map_drop,f,e,h,g];done))) ?_;try simp [go_sem,seval,f,e,h,g]
 repeat first|intro _|refine ⟨iI,?_⟩
 exact n _ _ (by first|(left;(simp [go_sem,f,e,h,g,Part.d,Part.c,dLI,Nf,mL,iU,oX]);done)|(right;(simp [go_sem,f,e,h,g,Part.d,Part.c,dLI,Nf,mL,iU,oX]);done))
theorem L7 (t:Types)(l:t.ok)(a b:Host)(p:fM t a=0)(o:fM t b=0)(u:a.i.h.length<=8)(s:b.i.h.length<=8)(v:FhG a b)(w:FnC a b)
  (r:V2) (n:jT a b a.i.h.length []=some r) (e:a.i.h.length≠b.i.h.length):Pua 12 [t.d,a.d,b.d] (.tup [(Part.mk [] []).d,dI 10]):=by
 have i:(l5 t a).2=0:=p;have h:(l5 t b).2=0:=o;have m:=Ab a b v w;rw [n] at m;have k:¬ (8:Int)<(a.i.h.length:Int):=aD;have j:¬ (8:Int)<(b.i.h.length:Int):=aD;have g:¬ ((a.i.h.length:Int)=(b.i.h.length:Int)):=aD;have f:((a.i.h.length:Int) != (b.i.h.length:Int))=true:=by rw [bne_iff_ne];omega
 refine Tz.pK ⟨λt=>t==6,λ_=>[]⟩ func12 rfl (λQ q=>?_);try simp [go_sem,seval,i,h,k,j,g,f,e]
 refine aB (jH t l a) ((by first|rfl|(simp [go_sem,<- List.map_take,<- List.map_drop,i,h,k,j,g,f,e];done))) ?_;try simp [go_sem,seval,i,h,k,j,g,f,e]
 refine aB (jH t l b) ((by first|rfl|(simp [go_sem,<- List.map_take,<- List.map_drop,i,h,k,j,g,f,e];done))) ?_;try simp [go_sem,seval,i,h,k,j,g,f,e]
 repeat first|intro _|refine ⟨iI,?_⟩
 refine aB (m) ((by first|rfl|(simp [go_sem,<- List.map_take,<- List.map_drop,i,h,k,j,g,f,e];done))) ?_;try simp [go_sem,seval,i,h,k,j,g,f,e]
 repeat first|intro _|refine ⟨iI,?_⟩
 exact q _ _ (by first|(left;(simp [go_sem,i,h,k,j,g,f,e,Part.d,Part.c,dLI,Nf,mL,iU,oX]);done)|(right;(simp [go_sem,i,h,k,j,g,f,e,Part.d,Part.c,dLI,Nf,mL,iU,oX]);done))
theorem Of (t:Types)(ht:t.ok)(a b:Host)(ha:fM t a=0)(hb:fM t b=0)(f0:a.i.h.length<=8)(l:b.i.h.length=a.i.h.length)(hG:FhG a b)(hC:FnC a b)
  (r:V2) (hr:jT a b a.i.h.length []=some r) (e7:r.length=a.i.h.length)
  (hB:∀ i k:Nat,i<r.length->k<r.length->(PB a.i i k).length=(PB b.i (iA r i) (iA r k)).length):Pua 12 [t.d,a.d,b.d] (.tup [(Part.mk r (abL a b r)).d,dI 0]):=by
 have o:(l5 t a).2=0:=ha;have m:(l5 t b).2=0:=hb;have hF:=Ab a b hG hC;rw [hr] at hF;have e5:=hC.ae;have e4:=hC.be;have p:¬ (8:Int)<(a.i.h.length:Int):=aD;refine Tz.pK ⟨λt=>t==6||t==14||t==78,λ_=>[]⟩ func12 rfl (λQ hQ=>?_);try simp [go_sem,seval,o,m,l,p]
 refine aB (jH t ht a) ((by first|rfl|(simp [go_sem,<- List.map_take,<- List.map_drop,o,m,l,p];done))) ?_;try simp [go_sem,seval,o,m,l,p]
 refine aB (jH t ht b) ((by first|rfl|(simp [go_sem,<- List.map_take,<- List.map_drop,o,m,l,p];done))) ?_;try simp [go_sem,seval,o,m,l,p]
 repeat first|intro _|refine ⟨fS,?_⟩
 refine aB (hF) ((by first|rfl|(simp [go_sem,<- List.map_take,<- List.map_drop,o,m,l,p];done))) ?_;try simp [go_sem,seval,o,m,l,p]
 repeat first|intro _|refine ⟨fS,?_⟩
 obtain ⟨I0,a4⟩:∃ I0:Nat->eB->AHeap->Prop,∀ (i:Nat) (e:eB) (H:AHeap),I0 i e H↔(∃ I:V2,(e 3=.adr t.c)/\(e 4=.adr a.c)/\(e 5=.adr b.c)/\(e 6=.ptr 0 1 0 0)/\(e 12=dLI r)/\(e 14=.ptr 2 1 0 0)/\(e 15=dI i)/\(H.get 0=some ⟨36,2,[[.nil,.nil]],false⟩)/\(0<H.next)/\(H.get 1=some ⟨3,1,I.map cI,false⟩)/\(1<H.next)/\(H.get 2=some ⟨36,2,[[dLI r,.own 1 a.i.j.length]],false⟩)/\(2<H.next)/\(i<=r.length)/\(I=(List.range i).foldl (Xt a b r) (List.replicate a.i.j.length 0))/\(I.length=a.i.j.length)):=⟨λi e H=>_,λ_ _ _=>Iff.rfl⟩;refine yY I0 (λi=>r.length - i) (0) ((a4 _ _ _).2 ⟨((List.replicate a.i.j.length 0)),?_,?_,?_,?_,?_,?_,?_,?_,?_,(by simp [go_sem,o,m,l,p]),?_,?_,?_,(by first|assumption|omega|(simp [go_sem,o,m,l,p];done)|(simp_all;done)),(by rfl),(by simp)⟩) ?_;iterate 12 (first|omega|(simp [go_sem,seval,o,m,l,p]<;>omega))
 intro i e H e3;obtain ⟨I,b6,b3,b0,a7,a0,V,S,d6,c5,d3,c2,d0,b9,hi,hx,a1⟩:=(a4 _ _ _).1 e3;have x0:=cW c5;have x1:=cW c2;have x2:=cW b9;have J:=xa0 b6 (xb0 b3 b0 a7 a0 V S d6 d3 d0 x0 x1 x2);try simp [go_sem,seval,o,m,l,p,J]
 repeat first|intro _|refine ⟨fS,?_⟩
 refine bA (λf=>?_) (λf=>?_)
 .try simp [go_sem] at f
  try simp [go_sem,seval,o,m,l,p,J,f]
  obtain ⟨I2,a3⟩:∃ I2:Nat->eB->AHeap->Prop,∀ (k:Nat) (e:eB) (H:AHeap),I2 k e H↔(∃ D:V2,(e 3=.adr t.c)/\(e 4=.adr a.c)/\(e 5=.adr b.c)/\(e 6=.ptr 0 1 0 0)/\(e 12=dLI r)/\(e 14=.ptr 2 1 0 0)/\(e 15=dI i)/\(e 16=dI k)/\(H.get 0=some ⟨36,2,[[.nil,.nil]],false⟩)/\(0<H.next)/\(H.get 1=some ⟨3,1,D.map cI,false⟩)/\(1<H.next)/\(H.get 2=some ⟨36,2,[[dLI r,.own 1 a.i.j.length]],false⟩)/\(2<H.next)/\(k<=r.length)/\(D=(List.range k).foldl (Um a b r i) I)/\(D.length=a.i.j.length)):=⟨λk e H=>_,λ_ _ _=>Iff.rfl⟩;refine yY I2 (λk=>r.length - k) (0) ((a3 _ _ _).2 ⟨(I),?_,?_,?_,?_,?_,?_,?_,?_,?_,?_,(by simp [go_sem,o,m,l,p,J,f]),?_,?_,?_,(by first|assumption|omega|(simp [go_sem,o,m,l,p,J,f];done)|(simp_all;done)),(by rfl),(by exact a1)⟩) ?_;iterate 13 (first|omega|(simp [go_sem,seval,o,m,l,p,J,f]<;>omega))
  intro k e H e2;obtain ⟨D,b5,b2,a9,a6,Z,U,R,O,d5,c4,d2,c1,c9,b8,hk,hy,c7⟩:=(a3 _ _ _).1 e2;have x0:=cW c4;have x1:=cW c1;have x2:=cW b8;have C:=xa1 b5 b2 (xb0 a9 a6 Z U R O d5 d2 c9 x0 x1 x2);try simp [go_sem,seval,o,m,l,p,f,C]
  repeat first|intro _|refine ⟨fS,?_⟩
  refine bA (λh=>?_) (λh=>?_)
  .try simp [go_sem] at h
   obtain ⟨v,hv⟩:=c6 (r[i]);obtain ⟨w,hw⟩:=c6 (r[k]);have u:=hv.symm;have s:=hw.symm;obtain ⟨X,hX⟩:=c6 (PB a.i i k);obtain ⟨Y,hY⟩:=c6 (PB b.i v w);have e9:X.length=Y.length:=by
    rw [hX,hY,hB i k f h,iD f,iD h,<- hv,<- hw]
   have hS:Um a b r i D k=(X.zip Y).foldl VZ D:=by unfold Um;rw [iD f,iD h,<- hv,<- hw,<- hX,<- hY]
   have q:qR a.i i k a.i.j.length=X:=hX.symm;have y:qR b.i v w b.i.j.length=Y:=hY.symm;try simp [go_sem,seval,o,m,l,p,f,C,h,u,s,aA f,aA h,q,y]
   repeat first|intro _|refine ⟨fS,?_⟩
   refine aI (mZ a.i e5 i k) ((by first|rfl|(simp [go_sem,<- List.map_take,<- List.map_drop,o,m,l,p,f,C,h,u,s,aA f,aA h,q,y];done))) ?_;try simp [go_sem,seval,o,m,l,p,f,C,h,u,s,aA f,aA h,q,y]
   repeat first|intro _|refine ⟨fS,?_⟩
   refine aI (mZ b.i e4 v w) ((by first|rfl|(simp [go_sem,<- List.map_take,<- List.map_drop,o,m,l,p,f,C,h,u,s,aA f,aA h,q,y];done))) ?_;try simp [go_sem,seval,o,m,l,p,f,C,h,u,s,aA f,aA h,q,y]
   repeat first|intro _|refine ⟨fS,?_⟩
   obtain ⟨I4,a2⟩:∃ I4:Nat->eB->AHeap->Prop,∀ (j:Nat) (e:eB) (H:AHeap),I4 j e H↔(∃ G:V2,(e 3=.adr t.c)/\(e 4=.adr a.c)/\(e 5=.adr b.c)/\(e 6=.ptr 0 1 0 0)/\(e 12=dLI r)/\(e 14=.ptr 2 1 0 0)/\(e 15=dI i)/\(e 16=dI k)/\(e 17=dLI X)/\(e 18=dLI Y)/\(e 19=dI j)/\(H.get 0=some ⟨36,2,[[.nil,.nil]],false⟩)/\(0<H.next)/\(H.get 1=some ⟨3,1,G.map cI,false⟩)/\(1<H.next)/\(H.get 2=some ⟨36,2,[[dLI r,.own 1 a.i.j.length]],false⟩)/\(2<H.next)/\(j<=X.length)/\(G=((X.zip Y).take j).foldl VZ D)/\(G.length=a.i.j.length)):=⟨λj e H=>_,λ_ _ _=>Iff.rfl⟩;refine yY I4 (λj=>X.length - j) (0) ((a2 _ _ _).2 ⟨(D),?_,?_,?_,?_,?_,?_,?_,?_,?_,?_,?_,?_,?_,(by simp [go_sem,o,m,l,p,f,C,h,u,s,aA f,aA h,q,y]),?_,?_,?_,(by first|assumption|omega|(simp [go_sem,o,m,l,p,f,C,h,u,s,aA f,aA h,q,y];done)|(simp_all;done)),(by rfl),(by exact c7)⟩) ?_;iterate 16 (first|omega|(simp [go_sem,seval,o,m,l,p,f,C,h,u,s,aA f,aA h,q,y]<;>omega))
   intro j e H e1;obtain ⟨G,b4,b1,a8,a5,W,T,P,N,M,L,K,d4,c3,d1,c0,c8,b7,hj,hz,B⟩:=(a2 _ _ _).1 e1;have x0:=cW c3;have x1:=cW c0;have x2:=cW b7;have F:=xa4 b4 b1 a8 a5 W (xb0 T P N M L K d4 d1 c8 x0 x1 x2);try simp [go_sem,seval,o,m,l,p,f,h,u,s,aA f,aA h,q,y,F]
   repeat first|intro _|refine ⟨fS,?_⟩
   refine bA (λz=>?_) (λz=>?_)
   .try simp [go_sem] at z
    have E:j<Y.length:=aD;have d7:j<(X.zip Y).length:=by rw [List.length_zip];omega
    have d8:(X.zip Y)[j]=(X[j],Y[j]):=List.getElem_zip ..;have e8:=DA (g:=a.i) (i:=i) (j:=k) (n:=a.i.j.length) (x:=X[j]) (by rw [q];exact aC z);have A:X[j].toNat<G.length:=aD;have e6:X[j].toNat<a.i.j.length:=aD;try simp [go_sem,seval,o,m,l,p,f,h,u,s,aA f,aA h,q,y,F,z,aA z,aA E,aA A,B]
    repeat first|intro _|refine ⟨fS,?_⟩
    refine iW (j+1) aD ((a2 _ _ _).2 ⟨((G.set X[j].toNat Y[j])),?_,?_,?_,?_,?_,?_,?_,?_,?_,?_,?_,?_,?_,(by simp [go_sem,o,m,l,p,f,h,u,s,aA f,aA h,q,y,F,z,aA z,aA E,aA A,B,dB]),?_,?_,?_,(by first|assumption|omega|(simp [go_sem,o,m,l,p,f,h,u,s,aA f,aA h,q,y,F,z,aA z,aA E,aA A,B];done)|(simp_all<;>omega)),(by rw [FY VZ D d7,<- hz,d8];rfl),(by rw [jP];exact B)⟩)<;>first|omega|(simp [go_sem,seval,o,m,l,p,f,h,u,s,aA f,aA h,q,y,F,z,aA z,aA E,aA A,B]<;>omega)
   .try simp [go_sem] at z
    have d9:G=(List.range (k+1)).foldl (Um a b r i) I:=by
     rw [w9,<- hy,hS,hz,aG (by rw [List.length_zip];omega)]
    try simp [go_sem,seval,o,m,l,p,f,h,u,s,aA f,aA h,q,y,F]
    repeat first|intro _|refine ⟨fS,?_⟩
    refine iW (k+1) aD ((a3 _ _ _).2 ⟨(G),?_,?_,?_,?_,?_,?_,?_,?_,?_,?_,(by simp [go_sem,o,m,l,p,f,h,u,s,aA f,aA h,q,y,F]),?_,?_,?_,(by first|assumption|omega|(simp [go_sem,o,m,l,p,f,h,u,s,aA f,aA h,q,y,F,z];done)|(simp_all<;>omega)),(by exact d9),(by exact B)⟩)<;>first|omega|(simp [go_sem,seval,o,m,l,p,f,h,u,s,aA f,aA h,q,y,F]<;>omega)
  .try simp [go_sem] at h
   have e0:D=(List.range (i+1)).foldl (Xt a b r) (List.replicate a.i.j.length 0):=by
    rw [w9,<- hx,hy,(aD:k=r.length)];rfl
   try simp [go_sem,seval,o,m,l,p,f,C]
   repeat first|intro _|refine ⟨fS,?_⟩
   refine iW (i+1) aD ((a4 _ _ _).2 ⟨(D),?_,?_,?_,?_,?_,?_,?_,?_,?_,(by simp [go_sem,o,m,l,p,f,C]),?_,?_,?_,(by first|assumption|omega|(simp [go_sem,o,m,l,p,f,C,h];done)|(simp_all<;>omega)),(by exact e0),(by exact c7)⟩)<;>first|omega|(simp [go_sem,seval,o,m,l,p,f,C]<;>omega)
 .try simp [go_sem] at f
  have hU:I=abL a b r:=by rw [hx,(aD:i=r.length)];rfl
  try simp [go_sem,seval,o,m,l,p,J]
  exact hQ _ _ (by first|(left;(simp [go_sem,o,m,l,p,J,a1,<- hU,Part.d,Part.c,dLI]);done)|(right;(simp [go_sem,o,m,l,p,J,a1,<- hU,Part.d,Part.c,dLI]);done))
end Go.Abs
end
