/- slices.symMergeCmpFunc at integers: two stretches in order b -/
import Derived.Test.YtiklfilfhnfagaaGreatZfG
import Derived.Test.YtiklfilfhnfagaaGreatZfR
set_option linter.unusedVariables false
set_option linter.unusedSimpArgs false
section
set_option maxRecDepth 100000
set_option maxHeartbeats 4000000
open Go Go.Proofs
namespace Go.Abs
structure Mrg (f:Int→List Int) (l:List Int) (a m b:Nat):Prop where
 nd:l.Nodup
 le:a<m∧m<b∧b≤l.length
 s1:Srtd f l a m
 s2:Srtd f l m b
 low:P4 l a m b
def U9 (g:FuncId)(caps:List D)(f:Int→List Int)(n:Nat):Prop:=∀ (G:AHeap) (id:Nat) (xs:List Int) (hg:G.get id=some ⟨3,1,xs.map cI,false⟩) (hl:xs.length≤100000) (cg:CmpBy g caps f xs) (a m b:Nat) (hnb:b - a≤n) (M:Mrg f xs a m b)
  {N:Nat} {A MM B:Int} (eN:N=xs.length) (eA:A=a) (eM:MM=m) (eB:B=b) (Q:D→AHeap→Prop)
  (hQ:∀ ys H',Rng xs ys a b→Srtd f ys a b→H'.get id=some ⟨3,1,ys.map cI,false⟩→(∀ j,j≠id→H'.get j=G.get j)→G.next≤H'.next→Q (.tup []) H'),ACalls Tryz.prog 137 [.own id N,dI A,dI MM,dI B,.fn g caps] G Q
theorem Ge (g:FuncId)(caps:List D)(hc:D.clL caps=true)(f:Int→List Int)(n:Nat)(ih:U9 g caps f n):U9 g caps f (n+1):=by
 intro G id xs hg hl cg a m b hnb M N A MM B eN eA eM eB Q hQ
 subst eN eA eM eB
 obtain ⟨ham,hmb,hbl⟩:=M.le
 have cmp:∀ (p q:Nat) (hp:p<xs.length) (hq:q<xs.length),∃ c,Pure Tryz.prog g (dI xs[p] :: dI xs[q] :: caps) (dI c)∧(c<0↔bV (f (iA xs p)) (f (iA xs q))<0):=fun p q hp hq=>by
  rw [kJ hp,kJ hq];exact cg _ (aC hp) _ (aC hq)
 have s1:(m:Int) - a=((m - a:Nat):Int):=by omega
 have s2:(b:Int) - m=((b - m:Nat):Int):=by omega
 refine (aH (cfg:=⟨fun _=>false,fun _=>[]⟩) Tz.mixed Tryz.func137 rfl rfl (aD rfl) (by kernel_rfl) ?_)
 try simp [go_sem,seval,hg,bU,s1,s2,hc]
 repeat first|intro _|refine ⟨fT,?_⟩
 refine aP (fun h0=>?_) (fun h0=>?_)
 ·try simp [go_sem] at h0
  have hm1:m=a+1:=by omega
  try simp [go_sem,seval,hg,bU,s1,s2,hc]
  obtain ⟨I0,hI0⟩:∃ I0:Nat→c7→AHeap→Prop,∀ (c:Nat) (e:c7) (H:AHeap),I0 c e H↔(∃ i:Nat,∃ j:Nat,(e 0=.own id xs.length)∧(e 1=dI a)∧(e 2=dI m)∧(e 3=dI b)∧(e 4=.fn g caps)∧(e 10=dI i)∧(e 11=dI j)∧(m≤i∧i≤j∧j≤b)∧(j - i≤c)∧(m<i→bV (f (iA xs ((i - 1:Nat):Int))) (f (iA xs a))<0)∧(j<b→¬ bV (f (iA xs j)) (f (iA xs a))<0)∧(H.get id=some ⟨3,1,xs.map cI,false⟩)∧(∀ j,j≠id→H.get j=G.get j)∧(G.next≤H.next)):=⟨fun c e H=>_,fun _ _ _=>Iff.rfl⟩
  refine qV I0 (fun c=>c) (b) ((hI0 _ _ _).2 ⟨(m),(b),?_,?_,?_,?_,?_,?_,?_,(by omega),(by omega),(by (exact fun h=>by omega)),(by (exact fun h=>by omega)),(by exact hg),(by exact fun _ _=>rfl),(by exact aL _)⟩) ?_
  iterate 7 (first|omega|(simp [go_sem,seval,hg,bU,s1,s2,hc]<;>omega))
  intro c e H hi0
  obtain ⟨i,j,q0_0,q1_0,q2_0,q3_0,q4_0,q10_0,q11_0,hi,hj,k2,k1,hH,hfr,hnx⟩:=(hI0 _ _ _).1 hi0
  have F0:=And.intro q0_0 (And.intro q1_0 (And.intro q2_0 (And.intro q3_0 (And.intro q4_0 (And.intro q10_0 q11_0)))))
  try simp [go_sem,seval,hg,bU,s1,s2,hc,F0,hH]
  refine aP (fun h3=>?_) (fun h3=>?_)
  ·try simp [go_sem] at h3
   obtain ⟨h,hh⟩:∃ h:Nat,h=(i+j) / 2:=⟨_,rfl⟩
   have p1:h<xs.length:=by omega
   have p2:a<xs.length:=by omega
   have htn:(((i:Int)+(j:Int)) / 2)=(h:Int):=by omega
   have hu:=uR (show 0≤(i:Int)+(j:Int) by omega) (show (i:Int)+(j:Int)≤18446744073709551615 by omega)
   obtain ⟨c0,hcA,hz0⟩:=cmp h a p1 p2
   try simp [go_sem,seval,hg,bU,s1,s2,hc,F0,hH,h3,← hh,htn,aA p1,aA p2]
   repeat first|intro _|refine ⟨fT,?_⟩
   refine bB (hcA) ((by first|rfl|(simp [go_sem,← List.map_take,← List.map_drop,hg,bU,s1,s2,hc,F0,hH,h3,← hh,htn,aA p1,aA p2];done))) ?_
   try simp [go_sem,seval,hg,bU,s1,s2,hc,F0,hH,h3,← hh,htn,aA p1,aA p2]
   repeat first|intro _|refine ⟨fT,?_⟩
   refine aP (fun h5=>?_) (fun h5=>?_)
   ·try simp [go_sem] at h5
    obtain ⟨i',hi'⟩:∃ i':Nat,i'=h+1:=⟨_,rfl⟩
    obtain ⟨j',hj'⟩:∃ j':Nat,j'=j:=⟨_,rfl⟩
    have k2':m<i'→bV (f (iA xs ((i' - 1:Nat):Int))) (f (iA xs a))<0:=fun _=>by rw [show i' - 1=h by omega];exact hz0.1 (by omega)
    have k1':j'<b→¬ bV (f (iA xs j')) (f (iA xs a))<0:=fun q=>by rw [hj'];exact k1 (by omega)
    try simp [go_sem,seval,hg,bU,s1,s2,hc,F0,hH,h3,← hh,htn,aA p1,aA p2,hi',hj']
    repeat first|intro _|refine ⟨fT,?_⟩
    refine fN (c - 1) (by omega) ((hI0 _ _ _).2 ⟨(i'),(j'),?_,?_,?_,?_,?_,?_,?_,(by omega),(by omega),(by (exact k2')),(by (exact k1')),(by (first|exact hH|(simp [go_sem];exact hH))),(by (first|exact hfr|(intro j hj';simp [go_sem];exact hfr j hj'))),(by (first|exact hnx|(simp [go_sem];omega)))⟩)<;>first|omega|(simp [go_sem,seval,hg,bU,s1,s2,hc,F0,hH,h3,← hh,htn,aA p1,aA p2,hi',hj']<;>omega)
   ·try simp [go_sem] at h5
    obtain ⟨i',hi'⟩:∃ i':Nat,i'=i:=⟨_,rfl⟩
    obtain ⟨j',hj'⟩:∃ j':Nat,j'=h:=⟨_,rfl⟩
    have k2':m<i'→bV (f (iA xs ((i' - 1:Nat):Int))) (f (iA xs a))<0:=fun q=>by rw [hi'];exact k2 (by omega)
    have k1':j'<b→¬ bV (f (iA xs j')) (f (iA xs a))<0:=fun q=>by rw [hj'];exact fun w=>by have:=hz0.2 w;omega
    try simp [go_sem,seval,hg,bU,s1,s2,hc,F0,hH,h3,← hh,htn,aA p1,aA p2,hi',hj']
    refine fN (c - 1) (by omega) ((hI0 _ _ _).2 ⟨(i'),(j'),?_,?_,?_,?_,?_,?_,?_,(by omega),(by omega),(by (exact k2')),(by (exact k1')),(by (first|exact hH|(simp [go_sem];exact hH))),(by (first|exact hfr|(intro j hj';simp [go_sem];exact hfr j hj'))),(by (first|exact hnx|(simp [go_sem];omega)))⟩)<;>first|omega|(simp [go_sem,seval,hg,bU,s1,s2,hc,F0,hH,h3,← hh,htn,aA p1,aA p2,hi',hj']<;>omega)
  ·try simp [go_sem] at h3
   have hij:j=i:=by omega
   try simp [go_sem,seval,hg,bU,s1,s2,hc,F0,hH]
   obtain ⟨I2,hI2⟩:∃ I2:Nat→c7→AHeap→Prop,∀ (k:Nat) (e:c7) (H:AHeap),I2 k e H↔((e 0=.own id xs.length)∧(e 1=dI a)∧(e 2=dI m)∧(e 3=dI b)∧(e 4=.fn g caps)∧(e 10=dI i)∧(e 13=dI k)∧(a≤k∧k+1≤i)∧(H.get id=some ⟨3,1,(gG xs a (a+1) (k+1)).map cI,false⟩)∧(∀ j,j≠id→H.get j=G.get j)∧(G.next≤H.next)):=⟨fun k e H=>_,fun _ _ _=>Iff.rfl⟩
   refine qV I2 (fun k=>i - k) (a) ((hI2 _ _ _).2 ⟨?_,?_,?_,?_,?_,?_,?_,(by omega),(by (rw [(pA (bS a 1)).2];first|exact hH|(simp [go_sem];exact hH))),(by (first|exact hfr|(intro j hj';simp [go_sem];exact hfr j hj'))),(by (first|exact hnx|(simp [go_sem];omega)))⟩) ?_
   iterate 7 (first|omega|(simp [go_sem,seval,hg,bU,s1,s2,hc,F0,hH]<;>omega))
   intro k e H hi2
   obtain ⟨q0_2,q1_2,q2_2,q3_2,q4_2,q10_2,q13_2,hk,hH2,hfr2,hnx2⟩:=(hI2 _ _ _).1 hi2
   have F2:=And.intro q0_2 (And.intro q1_2 (And.intro q2_2 (And.intro q3_2 (And.intro q4_2 (And.intro q10_2 q13_2)))))
   try simp [go_sem,seval,hg,bU,s1,s2,hc,hH,F2,hH2]
   repeat first|intro _|refine ⟨fT,?_⟩
   refine aP (fun h9=>?_) (fun h9=>?_)
   ·try simp [go_sem] at h9
    obtain ⟨zs,hz⟩:∃ z,z=gG xs a (a+1) (k+1):=⟨_,rfl⟩
    have hzl:zs.length=xs.length:=by rw [hz,lG (bS a 1) (by omega)]
    rw [← hz] at hH2
    have p1:k<zs.length:=by omega
    have p2:k+1<zs.length:=by omega
    have e1:((k:Int)+1).toNat=k+1:=by omega
    have hsw:((zs.map cI).set k (cI zs[k+1])).set (k+1) (cI zs[k])=(gG xs a (a+1) (k+1+1)).map cI:=by rw [DH p1 p2,hz,TW hk.1 (by omega)]
    have q1:(0:Int)≤(k:Int)+1∧(k:Int)+1<xs.length:=by omega
    try simp [go_sem,seval,hg,bU,s1,s2,hc,hH,F2,hH2,h9,e1,q1,aA p1,aA p2,hzl,bR]
    repeat first|intro _|refine ⟨fT,?_⟩
    refine fN (k+1) (by omega) ((hI2 _ _ _).2 ⟨?_,?_,?_,?_,?_,?_,?_,(by omega),(by (simp [go_sem,hH2];exact hsw)),(by (intro j hj';simp [go_sem,hj',hfr2 j hj'])),(by (simp [go_sem];omega))⟩)<;>first|omega|(simp [go_sem,seval,hg,bU,s1,s2,hc,hH,F2,hH2,h9,e1,q1,aA p1,aA p2,hzl,bR]<;>omega)
   ·try simp [go_sem] at h9
    have hki:k+1=i:=by omega
    rw [hki] at hH2
    obtain ⟨r1,r2⟩:=Ul (f:=f) (e:=i) M.nd (by omega) (by omega) hbl (by rw [← hm1];exact M.s2) (fun p p1 p2=>M.low a p (by omega) (by omega) (by omega) p2) (fun h=>by rw [← hij];exact k1 (by omega)) (fun h=>k2 (by omega))
    try simp [go_sem,seval,hg,bU,s1,s2,hc,hH,F2,hH2]
    exact hQ _ _ r1 r2 hH2 hfr2 hnx2
 ·try simp [go_sem] at h0
  try simp [go_sem,seval,hg,bU,s1,s2,hc]
  repeat first|intro _|refine ⟨fT,?_⟩
  refine aP (fun h12=>?_) (fun h12=>?_)
  ·try simp [go_sem] at h12
   have hm1:b=m+1:=by omega
   try simp [go_sem,seval,hg,bU,s1,s2,hc]
   obtain ⟨I4,hI4⟩:∃ I4:Nat→c7→AHeap→Prop,∀ (c:Nat) (e:c7) (H:AHeap),I4 c e H↔(∃ i:Nat,∃ j:Nat,(e 0=.own id xs.length)∧(e 1=dI a)∧(e 2=dI m)∧(e 3=dI b)∧(e 4=.fn g caps)∧(e 14=dI i)∧(e 15=dI j)∧(a≤i∧i≤j∧j≤m)∧(j - i≤c)∧(a<i→¬ bV (f (iA xs m)) (f (iA xs ((i - 1:Nat):Int)))<0)∧(j<m→bV (f (iA xs m)) (f (iA xs j))<0)∧(H.get id=some ⟨3,1,xs.map cI,false⟩)∧(∀ j,j≠id→H.get j=G.get j)∧(G.next≤H.next)):=⟨fun c e H=>_,fun _ _ _=>Iff.rfl⟩
   refine qV I4 (fun c=>c) (m) ((hI4 _ _ _).2 ⟨(a),(m),?_,?_,?_,?_,?_,?_,?_,(by omega),(by omega),(by (exact fun h=>by omega)),(by (exact fun h=>by omega)),(by exact hg),(by exact fun _ _=>rfl),(by exact aL _)⟩) ?_
   iterate 7 (first|omega|(simp [go_sem,seval,hg,bU,s1,s2,hc]<;>omega))
   intro c e H hi4
   obtain ⟨i,j,q0_4,q1_4,q2_4,q3_4,q4_4,q14_4,q15_4,hi,hj,k1,k2,hH,hfr,hnx⟩:=(hI4 _ _ _).1 hi4
   have F4:=And.intro q0_4 (And.intro q1_4 (And.intro q2_4 (And.intro q3_4 (And.intro q4_4 (And.intro q14_4 q15_4)))))
   try simp [go_sem,seval,hg,bU,s1,s2,hc,F4,hH]
   refine aP (fun h15=>?_) (fun h15=>?_)
   ·try simp [go_sem] at h15
    obtain ⟨h,hh⟩:∃ h:Nat,h=(i+j) / 2:=⟨_,rfl⟩
    have p1:m<xs.length:=by omega
    have p2:h<xs.length:=by omega
    have htn:(((i:Int)+(j:Int)) / 2)=(h:Int):=by omega
    have hu:=uR (show 0≤(i:Int)+(j:Int) by omega) (show (i:Int)+(j:Int)≤18446744073709551615 by omega)
    obtain ⟨c0,hcB,hz0⟩:=cmp m h p1 p2
    try simp [go_sem,seval,hg,bU,s1,s2,hc,F4,hH,h15,← hh,htn,aA p1,aA p2]
    repeat first|intro _|refine ⟨fT,?_⟩
    refine bB (hcB) ((by first|rfl|(simp [go_sem,← List.map_take,← List.map_drop,hg,bU,s1,s2,hc,F4,hH,h15,← hh,htn,aA p1,aA p2];done))) ?_
    try simp [go_sem,seval,hg,bU,s1,s2,hc,F4,hH,h15,← hh,htn,aA p1,aA p2]
    repeat first|intro _|refine ⟨fT,?_⟩
    refine aP (fun h17=>?_) (fun h17=>?_)
    ·try simp [go_sem] at h17
     obtain ⟨i',hi'⟩:∃ i':Nat,i'=h+1:=⟨_,rfl⟩
     obtain ⟨j',hj'⟩:∃ j':Nat,j'=j:=⟨_,rfl⟩
     have k1':a<i'→¬ bV (f (iA xs m)) (f (iA xs ((i' - 1:Nat):Int)))<0:=fun _=>by rw [show i' - 1=h by omega];exact fun w=>by have:=hz0.2 w;omega
     have k2':j'<m→bV (f (iA xs m)) (f (iA xs j'))<0:=fun q=>by rw [hj'];exact k2 (by omega)
     try simp [go_sem,seval,hg,bU,s1,s2,hc,F4,hH,h15,← hh,htn,aA p1,aA p2,hi',hj']
     repeat first|intro _|refine ⟨fT,?_⟩
     refine fN (c - 1) (by omega) ((hI4 _ _ _).2 ⟨(i'),(j'),?_,?_,?_,?_,?_,?_,?_,(by omega),(by omega),(by (exact k1')),(by (exact k2')),(by (first|exact hH|(simp [go_sem];exact hH))),(by (first|exact hfr|(intro j hj';simp [go_sem];exact hfr j hj'))),(by (first|exact hnx|(simp [go_sem];omega)))⟩)<;>first|omega|(simp [go_sem,seval,hg,bU,s1,s2,hc,F4,hH,h15,← hh,htn,aA p1,aA p2,hi',hj']<;>omega)
    ·try simp [go_sem] at h17
     obtain ⟨i',hi'⟩:∃ i':Nat,i'=i:=⟨_,rfl⟩
     obtain ⟨j',hj'⟩:∃ j':Nat,j'=h:=⟨_,rfl⟩
     have k1':a<i'→¬ bV (f (iA xs m)) (f (iA xs ((i' - 1:Nat):Int)))<0:=fun q=>by rw [hi'];exact k1 (by omega)
     have k2':j'<m→bV (f (iA xs m)) (f (iA xs j'))<0:=fun q=>by rw [hj'];exact hz0.1 (by omega)
     try simp [go_sem,seval,hg,bU,s1,s2,hc,F4,hH,h15,← hh,htn,aA p1,aA p2,hi',hj']
     refine fN (c - 1) (by omega) ((hI4 _ _ _).2 ⟨(i'),(j'),?_,?_,?_,?_,?_,?_,?_,(by omega),(by omega),(by (exact k1')),(by (exact k2')),(by (first|exact hH|(simp [go_sem];exact hH))),(by (first|exact hfr|(intro j hj';simp [go_sem];exact hfr j hj'))),(by (first|exact hnx|(simp [go_sem];omega)))⟩)<;>first|omega|(simp [go_sem,seval,hg,bU,s1,s2,hc,F4,hH,h15,← hh,htn,aA p1,aA p2,hi',hj']<;>omega)
   ·try simp [go_sem] at h15
    have hij:j=i:=by omega
    try simp [go_sem,seval,hg,bU,s1,s2,hc,F4,hH]
    obtain ⟨I6,hI6⟩:∃ I6:Nat→c7→AHeap→Prop,∀ (k:Nat) (e:c7) (H:AHeap),I6 k e H↔((e 0=.own id xs.length)∧(e 1=dI a)∧(e 2=dI m)∧(e 3=dI b)∧(e 4=.fn g caps)∧(e 14=dI i)∧(e 17=dI k)∧(i≤k∧k≤m)∧(H.get id=some ⟨3,1,(gG xs k m (m+1)).map cI,false⟩)∧(∀ j,j≠id→H.get j=G.get j)∧(G.next≤H.next)):=⟨fun k e H=>_,fun _ _ _=>Iff.rfl⟩
    refine qV I6 (fun k=>k) (m) ((hI6 _ _ _).2 ⟨?_,?_,?_,?_,?_,?_,?_,(by omega),(by (rw [(pA (bS m 1)).1];first|exact hH|(simp [go_sem];exact hH))),(by (first|exact hfr|(intro j hj';simp [go_sem];exact hfr j hj'))),(by (first|exact hnx|(simp [go_sem];omega)))⟩) ?_
    iterate 7 (first|omega|(simp [go_sem,seval,hg,bU,s1,s2,hc,F4,hH]<;>omega))
    intro k e H hi6
    obtain ⟨q0_6,q1_6,q2_6,q3_6,q4_6,q14_6,q17_6,hk,hH2,hfr2,hnx2⟩:=(hI6 _ _ _).1 hi6
    have F6:=And.intro q0_6 (And.intro q1_6 (And.intro q2_6 (And.intro q3_6 (And.intro q4_6 (And.intro q14_6 q17_6)))))
    try simp [go_sem,seval,hg,bU,s1,s2,hc,hH,F6,hH2]
    refine aP (fun h21=>?_) (fun h21=>?_)
    ·try simp [go_sem] at h21
     obtain ⟨zs,hz⟩:∃ z,z=gG xs k m (m+1):=⟨_,rfl⟩
     have hzl:zs.length=xs.length:=by rw [hz,lG hk.2 (bS m 1)]
     rw [← hz] at hH2
     have p1:k<zs.length:=by omega
     have p2:k - 1<zs.length:=by omega
     have e1:((k:Int) - 1).toNat=k - 1:=by omega
     have hsw:((zs.map cI).set k (cI zs[k - 1])).set (k - 1) (cI zs[k])=(gG xs (k - 1) m (m+1)).map cI:=by rw [DH p1 p2,hz,JU (by omega) hk.2 (by omega)]
     have q1:(0:Int)≤(k:Int) - 1∧(k:Int) - 1<xs.length:=by omega
     have hkk:¬ k=k - 1:=by omega
     try simp [go_sem,seval,hg,bU,s1,s2,hc,hH,F6,hH2,h21,e1,q1,aA p1,aA p2,hzl,bR,hkk]
     repeat first|intro _|refine ⟨fT,?_⟩
     refine fN (k - 1) (by omega) ((hI6 _ _ _).2 ⟨?_,?_,?_,?_,?_,?_,?_,(by omega),(by (simp [go_sem,hH2];exact hsw)),(by (intro j hj';simp [go_sem,hj',hfr2 j hj'])),(by (simp [go_sem];omega))⟩)<;>first|omega|(simp [go_sem,seval,hg,bU,s1,s2,hc,hH,F6,hH2,h21,e1,q1,aA p1,aA p2,hzl,bR,hkk]<;>omega)
    ·try simp [go_sem] at h21
     have hki:k=i:=by omega
     rw [hki] at hH2
     obtain ⟨r1,r2⟩:=QV (f:=f) (s:=i) M.nd hi.1 (by omega) (by omega) M.s1 (fun p p1 p2=>M.low p m p1 p2 (by omega) (by omega)) k1 (fun h=>by have:=k2 (by omega);rw [hij] at this;exact this)
     rw [← hm1] at r1 r2 hH2
     try simp [go_sem,seval,hg,bU,s1,s2,hc,hH,F6,hH2]
     exact hQ _ _ r1 r2 hH2 hfr2 hnx2
  ·try simp [go_sem] at h12
   obtain ⟨mid,hmid⟩:∃ x:Nat,x=(a+b) / 2:=⟨_,rfl⟩
   obtain ⟨nn,hnn⟩:∃ x:Nat,x=mid+m:=⟨_,rfl⟩
   have htm:(((a:Int)+(b:Int)) / 2)=(mid:Int):=by omega
   have hum:=uR (show 0≤(a:Int)+(b:Int) by omega) (show (a:Int)+(b:Int)≤18446744073709551615 by omega)
   have htn2:(mid:Int)+(m:Int)=(nn:Int):=by omega
   try simp [go_sem,seval,hg,bU,s1,s2,hc,← hmid,htm,htn2]
   repeat first|intro _|refine ⟨fT,?_⟩
   refine aP (fun h27=>?_) (fun h27=>?_)
   ·try simp [go_sem] at h27
    obtain ⟨s0,hs0⟩:∃ x:Nat,x=nn - b:=⟨_,rfl⟩
    obtain ⟨r0,hr0⟩:∃ x:Nat,x=mid:=⟨_,rfl⟩
    have hbnd:(a≤s0∧s0≤r0∧r0≤m∧r0≤mid∧m≤nn - r0∧nn - s0≤b∧r0≤nn)∧(a<s0→nn - s0=b)∧(r0<m→nn - r0=m):=by omega
    have e9:(nn:Int) - b=(s0:Int):=by omega
    try simp [go_sem,seval,hg,bU,s1,s2,hc,← hmid,htm,htn2,e9,hr0]
    repeat first|intro _|refine ⟨fT,?_⟩
    obtain ⟨I8,hI8⟩:∃ I8:Nat→c7→AHeap→Prop,∀ (c:Nat) (e:c7) (H:AHeap),I8 c e H↔(∃ s:Nat,∃ r:Nat,(e 0=.own id xs.length)∧(e 1=dI a)∧(e 2=dI m)∧(e 3=dI b)∧(e 4=.fn g caps)∧(e 18=dI mid)∧(e 19=dI nn)∧(e 20=dI s)∧(e 21=dI r)∧(e 22=dI ((nn:Int) - 1))∧(s0≤s∧s≤r∧r≤r0)∧(r - s≤c)∧(s0<s→¬ bV (f (iA xs ((nn - s:Nat):Int))) (f (iA xs ((s - 1:Nat):Int)))<0)∧(r<r0→bV (f (iA xs ((nn - 1 - r:Nat):Int))) (f (iA xs r))<0)∧(H.get id=some ⟨3,1,xs.map cI,false⟩)∧(∀ j,j≠id→H.get j=G.get j)∧(G.next≤H.next)):=⟨fun c e H=>_,fun _ _ _=>Iff.rfl⟩
    refine qV I8 (fun c=>c) (r0) ((hI8 _ _ _).2 ⟨(s0),(r0),?_,?_,?_,?_,?_,?_,?_,?_,?_,?_,(by omega),(by omega),(by (exact fun h=>by omega)),(by (exact fun h=>by omega)),(by exact hg),(by exact fun _ _=>rfl),(by exact aL _)⟩) ?_
    iterate 10 (first|omega|(simp [go_sem,seval,hg,bU,s1,s2,hc,← hmid,htm,htn2,e9,hr0]<;>omega))
    intro c e H hi8
    obtain ⟨s,r,q0_8,q1_8,q2_8,q3_8,q4_8,q18_8,q19_8,q20_8,q21_8,q22_8,hi,hj,k1,k2,hH,hfr,hnx⟩:=(hI8 _ _ _).1 hi8
    have F8:=And.intro q0_8 (And.intro q1_8 (And.intro q2_8 (And.intro q3_8 (And.intro q4_8 (And.intro q18_8 (And.intro q19_8 (And.intro q20_8 (And.intro q21_8 q22_8))))))))
    try simp [go_sem,seval,hg,bU,s1,s2,hc,← hmid,htm,htn2,e9,hr0,F8,hH]
    refine aP (fun h33=>?_) (fun h33=>?_)
    ·try simp [go_sem] at h33
     obtain ⟨h,hh⟩:∃ h:Nat,h=(s+r) / 2:=⟨_,rfl⟩
     obtain ⟨pc,hpc⟩:∃ x:Nat,x=nn - 1 - h:=⟨_,rfl⟩
     have p1:pc<xs.length:=by omega
     have p2:h<xs.length:=by omega
     have htn:(((s:Int)+(r:Int)) / 2)=(h:Int):=by omega
     have hu:=uR (show 0≤(s:Int)+(r:Int) by omega) (show (s:Int)+(r:Int)≤18446744073709551615 by omega)
     have e8:(nn:Int) - 1 - h=(pc:Int):=by omega
     obtain ⟨c0,hcC,hz0⟩:=cmp pc h p1 p2
     try simp [go_sem,seval,hg,bU,s1,s2,hc,← hmid,htm,htn2,e9,hr0,F8,hH,h33,← hh,htn,e8,aA p1,aA p2]
     repeat first|intro _|refine ⟨fT,?_⟩
     refine bB (hcC) ((by first|rfl|(simp [go_sem,← List.map_take,← List.map_drop,hg,bU,s1,s2,hc,← hmid,htm,htn2,e9,hr0,F8,hH,h33,← hh,htn,e8,aA p1,aA p2];done))) ?_
     try simp [go_sem,seval,hg,bU,s1,s2,hc,← hmid,htm,htn2,e9,hr0,F8,hH,h33,← hh,htn,e8,aA p1,aA p2]
     repeat first|intro _|refine ⟨fT,?_⟩
     refine aP (fun h35=>?_) (fun h35=>?_)
     ·try simp [go_sem] at h35
      obtain ⟨i',hi'⟩:∃ i':Nat,i'=h+1:=⟨_,rfl⟩
      obtain ⟨j',hj'⟩:∃ j':Nat,j'=r:=⟨_,rfl⟩
      have k1':s0<i'→¬ bV (f (iA xs ((nn - i':Nat):Int))) (f (iA xs ((i' - 1:Nat):Int)))<0:=fun _=>by rw [show i' - 1=h by omega,show nn - i'=pc by omega];exact fun w=>by have:=hz0.2 w;omega
      have k2':j'<r0→bV (f (iA xs ((nn - 1 - j':Nat):Int))) (f (iA xs j'))<0:=fun q=>by rw [hj'];exact k2 (by omega)
      try simp [go_sem,seval,hg,bU,s1,s2,hc,← hmid,htm,htn2,e9,hr0,F8,hH,h33,← hh,htn,e8,aA p1,aA p2,hi',hj']
      repeat first|intro _|refine ⟨fT,?_⟩
      refine fN (c - 1) (by omega) ((hI8 _ _ _).2 ⟨(i'),(j'),?_,?_,?_,?_,?_,?_,?_,?_,?_,?_,(by omega),(by omega),(by (exact k1')),(by (exact k2')),(by (first|exact hH|(simp [go_sem];exact hH))),(by (first|exact hfr|(intro j hj';simp [go_sem];exact hfr j hj'))),(by (first|exact hnx|(simp [go_sem];omega)))⟩)<;>first|omega|(simp [go_sem,seval,hg,bU,s1,s2,hc,← hmid,htm,htn2,e9,hr0,F8,hH,h33,← hh,htn,e8,aA p1,aA p2,hi',hj']<;>omega)
     ·try simp [go_sem] at h35
      obtain ⟨i',hi'⟩:∃ i':Nat,i'=s:=⟨_,rfl⟩
      obtain ⟨j',hj'⟩:∃ j':Nat,j'=h:=⟨_,rfl⟩
      have k1':s0<i'→¬ bV (f (iA xs ((nn - i':Nat):Int))) (f (iA xs ((i' - 1:Nat):Int)))<0:=fun q=>by rw [hi'];exact k1 (by omega)
      have k2':j'<r0→bV (f (iA xs ((nn - 1 - j':Nat):Int))) (f (iA xs j'))<0:=fun q=>by rw [hj',← hpc];exact hz0.1 (by omega)
      try simp [go_sem,seval,hg,bU,s1,s2,hc,← hmid,htm,htn2,e9,hr0,F8,hH,h33,← hh,htn,e8,aA p1,aA p2,hi',hj']
      refine fN (c - 1) (by omega) ((hI8 _ _ _).2 ⟨(i'),(j'),?_,?_,?_,?_,?_,?_,?_,?_,?_,?_,(by omega),(by omega),(by (exact k1')),(by (exact k2')),(by (first|exact hH|(simp [go_sem];exact hH))),(by (first|exact hfr|(intro j hj';simp [go_sem];exact hfr j hj'))),(by (first|exact hnx|(simp [go_sem];omega)))⟩)<;>first|omega|(simp [go_sem,seval,hg,bU,s1,s2,hc,← hmid,htm,htn2,e9,hr0,F8,hH,h33,← hh,htn,e8,aA p1,aA p2,hi',hj']<;>omega)
    ·try simp [go_sem] at h33
     have hsr:r=s:=by omega
     have C:Cut f xs a m b s (nn - s):=⟨M.nd,by omega,M.s1,M.s2,M.low,fun q1 q2=>k1 (by omega),fun q1 q2=>by
      have:=k2 (by omega);rw [hsr,show nn - 1 - s=nn - s - 1 by omega] at this;exact this⟩
     obtain ⟨ys,hys⟩:∃ y,y=gG xs s m (nn - s):=⟨_,rfl⟩
     have hyl:ys.length=xs.length:=by rw [hys];exact C.rng.len
     have hyn:ys.Nodup:=by rw [hys];exact C.rng.1.nodup_iff.2 M.nd
     have cy:CmpBy g caps f ys:=by rw [hys];exact cg.perm C.rng.1
     have hL:=C.left
     have hRt:=C.right
     have hDn:=@Cut.done f xs a m b s (nn - s) C
     rw [← hys,show s+(nn - s - m)=mid by omega] at hL hRt
     rw [← hys,show s+(nn - s - m)=mid by omega] at hDn
     have e7:(nn:Int) - s=((nn - s:Nat):Int):=by omega
     try simp [go_sem,seval,hg,bU,s1,s2,hc,← hmid,htm,htn2,e9,hr0,F8,hH,e7]
     repeat first|intro _|refine ⟨fT,?_⟩
     refine aP (fun h39=>?_) (fun h39=>?_)
     ·try simp [go_sem] at h39
      have hrot:s<m∧m<nn - s:=by omega
      try simp [go_sem,seval,hg,bU,s1,s2,hc,← hmid,htm,htn2,e9,hr0,F8,hH,e7]
      unfold dO;refine Eu (N:=xs.length) (A:=(s:Int)) (M:=(m:Int)) (B:=((nn - s:Nat):Int)) _ _ xs hH hl g caps s m (nn - s) hrot.1 hrot.2 (by omega) rfl rfl rfl rfl _ fun H1 gY fR nR=>?_
      have frY:∀ j,j≠id→H1.get j=G.get j:=fun j hj=>(fR j hj).trans (hfr j hj)
      have nxY:G.next≤H1.next:=by omega
      rw [← hys] at gY
      try simp [go_sem,seval,hg,bU,s1,s2,hc,← hmid,htm,htn2,e9,hr0,F8,hH,e7]
      repeat first|intro _|refine ⟨fT,?_⟩
      refine aP (fun h41=>?_) (fun h41=>?_)
      ·try simp [go_sem] at h41
       try simp [go_sem,seval,hg,bU,s1,s2,hc,← hmid,htm,htn2,e9,hr0,F8,hH,e7]
       unfold dO;refine ih (N:=xs.length) (A:=(a:Int)) (MM:=(s:Int)) (B:=(mid:Int)) _ _ ys gY (by omega) cy a s mid (by omega) ⟨hyn,by omega,hL.1,hL.2.1,hL.2.2⟩ hyl.symm rfl rfl rfl _ fun k H2 R1 S1 gK fK nK=>?_
       have frK:∀ j,j≠id→H2.get j=G.get j:=fun j hj=>(fK j hj).trans (frY j hj)
       have nxK:G.next≤H2.next:=by omega
       try simp [go_sem,seval,hg,bU,s1,s2,hc,← hmid,htm,htn2,e9,hr0,F8,hH,e7]
       repeat first|intro _|refine ⟨fT,?_⟩
       refine aP (fun h43=>?_) (fun h43=>?_)
       ·try simp [go_sem] at h43
        have hkn:k.Nodup:=R1.1.nodup_iff.2 hyn
        have hkl:=R1.len
        have hRk:Srtd f k mid (nn - s)∧Srtd f k (nn - s) b∧P4 k mid (nn - s) b:=by
         refine ⟨fun i j p1 p2 p3=>?_,fun i j p1 p2 p3=>?_,fun i j p1 p2 p3 p4=>?_⟩
         ·rw [R1.2 i (by omega),R1.2 j (by omega)];exact hRt.1 i j p1 p2 p3
         ·rw [R1.2 i (by omega),R1.2 j (by omega)];exact hRt.2.1 i j p1 p2 p3
         ·rw [R1.2 i (by omega),R1.2 j (by omega)];exact hRt.2.2 i j p1 p2 p3 p4
        try simp [go_sem,seval,hg,bU,s1,s2,hc,← hmid,htm,htn2,e9,hr0,F8,hH,e7]
        unfold dO;refine ih (N:=xs.length) (A:=(mid:Int)) (MM:=((nn - s:Nat):Int)) (B:=(b:Int)) _ _ k gK (by omega) (cy.perm R1.1) mid (nn - s) b (by omega) ⟨hkn,by omega,hRk.1,hRk.2.1,hRk.2.2⟩ (by omega) rfl rfl rfl _ fun z H3 R2 S2 gZ fZ nZ=>?_
        have frZ:∀ j,j≠id→H3.get j=G.get j:=fun j hj=>(fZ j hj).trans (frK j hj)
        have nxZ:G.next≤H3.next:=by omega
        try simp [go_sem,seval,hg,bU,s1,s2,hc,← hmid,htm,htn2,e9,hr0,F8,hH,e7]
        obtain ⟨w1,w2⟩:=hDn R1 S1 R2 S2;exact hQ z _ w1 w2 gZ frZ nxZ
       ·try simp [go_sem] at h43
        obtain ⟨z,hz⟩:∃ x,x=k:=⟨_,rfl⟩
        have R2:Rng k z mid b:=by rw [hz];exact Rng.refl _ _ _
        have S2:Srtd f z mid b:=fun i j p1 p2 p3=>by
         rw [hz,R1.2 i (by omega),R1.2 j (by omega)]
         rcases bQ mid (nn - s) with h|h
         ·rw [show b=nn - s by omega] at p3;exact hRt.1 i j p1 p2 p3
         ·rw [show mid=nn - s by omega] at p1;exact hRt.2.1 i j p1 p2 p3
        have gZ:=gK
        rw [← hz] at gZ
        have frZ:=frK
        have nxZ:=nxK
        try simp [go_sem,seval,hg,bU,s1,s2,hc,← hmid,htm,htn2,e9,hr0,F8,hH,e7]
        obtain ⟨w1,w2⟩:=hDn R1 S1 R2 S2;exact hQ z _ w1 w2 gZ frZ nxZ
      ·try simp [go_sem] at h41
       obtain ⟨k,hk⟩:∃ x,x=ys:=⟨_,rfl⟩
       have R1:Rng ys k a mid:=by rw [hk];exact Rng.refl _ _ _
       have S1:Srtd f k a mid:=by
        rw [hk]
        rcases bQ a s with h|h
        ·rw [show mid=s by omega];exact hL.1
        ·rw [show a=s by omega];exact hL.2.1
       have gK:=gY
       rw [← hk] at gK
       have frK:=frY
       have nxK:=nxY
       try simp [go_sem,seval,hg,bU,s1,s2,hc,← hmid,htm,htn2,e9,hr0,F8,hH,e7,gK]
       repeat first|intro _|refine ⟨fT,?_⟩
       refine aP (fun h43=>?_) (fun h43=>?_)
       ·try simp [go_sem] at h43
        have hkn:k.Nodup:=R1.1.nodup_iff.2 hyn
        have hkl:=R1.len
        have hRk:Srtd f k mid (nn - s)∧Srtd f k (nn - s) b∧P4 k mid (nn - s) b:=by
         refine ⟨fun i j p1 p2 p3=>?_,fun i j p1 p2 p3=>?_,fun i j p1 p2 p3 p4=>?_⟩
         ·rw [R1.2 i (by omega),R1.2 j (by omega)];exact hRt.1 i j p1 p2 p3
         ·rw [R1.2 i (by omega),R1.2 j (by omega)];exact hRt.2.1 i j p1 p2 p3
         ·rw [R1.2 i (by omega),R1.2 j (by omega)];exact hRt.2.2 i j p1 p2 p3 p4
        try simp [go_sem,seval,hg,bU,s1,s2,hc,← hmid,htm,htn2,e9,hr0,F8,hH,e7,gK]
        unfold dO;refine ih (N:=xs.length) (A:=(mid:Int)) (MM:=((nn - s:Nat):Int)) (B:=(b:Int)) _ _ k gK (by omega) (cy.perm R1.1) mid (nn - s) b (by omega) ⟨hkn,by omega,hRk.1,hRk.2.1,hRk.2.2⟩ (by omega) rfl rfl rfl _ fun z H3 R2 S2 gZ fZ nZ=>?_
        have frZ:∀ j,j≠id→H3.get j=G.get j:=fun j hj=>(fZ j hj).trans (frK j hj)
        have nxZ:G.next≤H3.next:=by omega
        try simp [go_sem,seval,hg,bU,s1,s2,hc,← hmid,htm,htn2,e9,hr0,F8,hH,e7,gK]
        obtain ⟨w1,w2⟩:=hDn R1 S1 R2 S2;exact hQ z _ w1 w2 gZ frZ nxZ
       ·try simp [go_sem] at h43
        obtain ⟨z,hz⟩:∃ x,x=k:=⟨_,rfl⟩
        have R2:Rng k z mid b:=by rw [hz];exact Rng.refl _ _ _
        have S2:Srtd f z mid b:=fun i j p1 p2 p3=>by
         rw [hz,R1.2 i (by omega),R1.2 j (by omega)]
         rcases bQ mid (nn - s) with h|h
         ·rw [show b=nn - s by omega] at p3;exact hRt.1 i j p1 p2 p3
         ·rw [show mid=nn - s by omega] at p1;exact hRt.2.1 i j p1 p2 p3
        have gZ:=gK
        rw [← hz] at gZ
        have frZ:=frK
        have nxZ:=nxK
        try simp [go_sem,seval,hg,bU,s1,s2,hc,← hmid,htm,htn2,e9,hr0,F8,hH,e7,gK]
        obtain ⟨w1,w2⟩:=hDn R1 S1 R2 S2;exact hQ z _ w1 w2 gZ frZ nxZ
     ·try simp [go_sem] at h39
      have gY:H.get id=some ⟨3,1,ys.map cI,false⟩:=by
       have:ys=xs:=by
        rw [hys]
        rcases bQ s m with h|h
        ·rw [show nn - s=m by omega];exact (pA (by omega)).2
        ·rw [show s=m by omega];exact (pA (by omega)).1
       rw [this];exact hH
      have frY:=hfr
      have nxY:=hnx
      try simp [go_sem,seval,hg,bU,s1,s2,hc,← hmid,htm,htn2,e9,hr0,F8,hH,e7,gY]
      repeat first|intro _|refine ⟨fT,?_⟩
      refine aP (fun h41=>?_) (fun h41=>?_)
      ·try simp [go_sem] at h41
       try simp [go_sem,seval,hg,bU,s1,s2,hc,← hmid,htm,htn2,e9,hr0,F8,hH,e7,gY]
       unfold dO;refine ih (N:=xs.length) (A:=(a:Int)) (MM:=(s:Int)) (B:=(mid:Int)) _ _ ys gY (by omega) cy a s mid (by omega) ⟨hyn,by omega,hL.1,hL.2.1,hL.2.2⟩ hyl.symm rfl rfl rfl _ fun k H2 R1 S1 gK fK nK=>?_
       have frK:∀ j,j≠id→H2.get j=G.get j:=fun j hj=>(fK j hj).trans (frY j hj)
       have nxK:G.next≤H2.next:=by omega
       try simp [go_sem,seval,hg,bU,s1,s2,hc,← hmid,htm,htn2,e9,hr0,F8,hH,e7,gY]
       repeat first|intro _|refine ⟨fT,?_⟩
       refine aP (fun h43=>?_) (fun h43=>?_)
       ·try simp [go_sem] at h43
        have hkn:k.Nodup:=R1.1.nodup_iff.2 hyn
        have hkl:=R1.len
        have hRk:Srtd f k mid (nn - s)∧Srtd f k (nn - s) b∧P4 k mid (nn - s) b:=by
         refine ⟨fun i j p1 p2 p3=>?_,fun i j p1 p2 p3=>?_,fun i j p1 p2 p3 p4=>?_⟩
         ·rw [R1.2 i (by omega),R1.2 j (by omega)];exact hRt.1 i j p1 p2 p3
         ·rw [R1.2 i (by omega),R1.2 j (by omega)];exact hRt.2.1 i j p1 p2 p3
         ·rw [R1.2 i (by omega),R1.2 j (by omega)];exact hRt.2.2 i j p1 p2 p3 p4
        try simp [go_sem,seval,hg,bU,s1,s2,hc,← hmid,htm,htn2,e9,hr0,F8,hH,e7,gY]
        unfold dO;refine ih (N:=xs.length) (A:=(mid:Int)) (MM:=((nn - s:Nat):Int)) (B:=(b:Int)) _ _ k gK (by omega) (cy.perm R1.1) mid (nn - s) b (by omega) ⟨hkn,by omega,hRk.1,hRk.2.1,hRk.2.2⟩ (by omega) rfl rfl rfl _ fun z H3 R2 S2 gZ fZ nZ=>?_
        have frZ:∀ j,j≠id→H3.get j=G.get j:=fun j hj=>(fZ j hj).trans (frK j hj)
        have nxZ:G.next≤H3.next:=by omega
        try simp [go_sem,seval,hg,bU,s1,s2,hc,← hmid,htm,htn2,e9,hr0,F8,hH,e7,gY]
        obtain ⟨w1,w2⟩:=hDn R1 S1 R2 S2;exact hQ z _ w1 w2 gZ frZ nxZ
       ·try simp [go_sem] at h43
        obtain ⟨z,hz⟩:∃ x,x=k:=⟨_,rfl⟩
        have R2:Rng k z mid b:=by rw [hz];exact Rng.refl _ _ _
        have S2:Srtd f z mid b:=fun i j p1 p2 p3=>by
         rw [hz,R1.2 i (by omega),R1.2 j (by omega)]
         rcases bQ mid (nn - s) with h|h
         ·rw [show b=nn - s by omega] at p3;exact hRt.1 i j p1 p2 p3
         ·rw [show mid=nn - s by omega] at p1;exact hRt.2.1 i j p1 p2 p3
        have gZ:=gK
        rw [← hz] at gZ
        have frZ:=frK
        have nxZ:=nxK
        try simp [go_sem,seval,hg,bU,s1,s2,hc,← hmid,htm,htn2,e9,hr0,F8,hH,e7,gY]
        obtain ⟨w1,w2⟩:=hDn R1 S1 R2 S2;exact hQ z _ w1 w2 gZ frZ nxZ
      ·try simp [go_sem] at h41
       obtain ⟨k,hk⟩:∃ x,x=ys:=⟨_,rfl⟩
       have R1:Rng ys k a mid:=by rw [hk];exact Rng.refl _ _ _
       have S1:Srtd f k a mid:=by
        rw [hk]
        rcases bQ a s with h|h
        ·rw [show mid=s by omega];exact hL.1
        ·rw [show a=s by omega];exact hL.2.1
       have gK:=gY
       rw [← hk] at gK
       have frK:=frY
       have nxK:=nxY
       try simp [go_sem,seval,hg,bU,s1,s2,hc,← hmid,htm,htn2,e9,hr0,F8,hH,e7,gY,gK]
       repeat first|intro _|refine ⟨fT,?_⟩
       refine aP (fun h43=>?_) (fun h43=>?_)
       ·try simp [go_sem] at h43
        have hkn:k.Nodup:=R1.1.nodup_iff.2 hyn
        have hkl:=R1.len
        have hRk:Srtd f k mid (nn - s)∧Srtd f k (nn - s) b∧P4 k mid (nn - s) b:=by
         refine ⟨fun i j p1 p2 p3=>?_,fun i j p1 p2 p3=>?_,fun i j p1 p2 p3 p4=>?_⟩
         ·rw [R1.2 i (by omega),R1.2 j (by omega)];exact hRt.1 i j p1 p2 p3
         ·rw [R1.2 i (by omega),R1.2 j (by omega)];exact hRt.2.1 i j p1 p2 p3
         ·rw [R1.2 i (by omega),R1.2 j (by omega)];exact hRt.2.2 i j p1 p2 p3 p4
        try simp [go_sem,seval,hg,bU,s1,s2,hc,← hmid,htm,htn2,e9,hr0,F8,hH,e7,gY,gK]
        unfold dO;refine ih (N:=xs.length) (A:=(mid:Int)) (MM:=((nn - s:Nat):Int)) (B:=(b:Int)) _ _ k gK (by omega) (cy.perm R1.1) mid (nn - s) b (by omega) ⟨hkn,by omega,hRk.1,hRk.2.1,hRk.2.2⟩ (by omega) rfl rfl rfl _ fun z H3 R2 S2 gZ fZ nZ=>?_
        have frZ:∀ j,j≠id→H3.get j=G.get j:=fun j hj=>(fZ j hj).trans (frK j hj)
        have nxZ:G.next≤H3.next:=by omega
        try simp [go_sem,seval,hg,bU,s1,s2,hc,← hmid,htm,htn2,e9,hr0,F8,hH,e7,gY,gK]
        obtain ⟨w1,w2⟩:=hDn R1 S1 R2 S2;exact hQ z _ w1 w2 gZ frZ nxZ
       ·try simp [go_sem] at h43
        obtain ⟨z,hz⟩:∃ x,x=k:=⟨_,rfl⟩
        have R2:Rng k z mid b:=by rw [hz];exact Rng.refl _ _ _
        have S2:Srtd f z mid b:=fun i j p1 p2 p3=>by
         rw [hz,R1.2 i (by omega),R1.2 j (by omega)]
         rcases bQ mid (nn - s) with h|h
         ·rw [show b=nn - s by omega] at p3;exact hRt.1 i j p1 p2 p3
         ·rw [show mid=nn - s by omega] at p1;exact hRt.2.1 i j p1 p2 p3
        have gZ:=gK
        rw [← hz] at gZ
        have frZ:=frK
        have nxZ:=nxK
        try simp [go_sem,seval,hg,bU,s1,s2,hc,← hmid,htm,htn2,e9,hr0,F8,hH,e7,gY,gK]
        obtain ⟨w1,w2⟩:=hDn R1 S1 R2 S2;exact hQ z _ w1 w2 gZ frZ nxZ
   ·try simp [go_sem] at h27
    obtain ⟨s0,hs0⟩:∃ x:Nat,x=a:=⟨_,rfl⟩
    obtain ⟨r0,hr0⟩:∃ x:Nat,x=m:=⟨_,rfl⟩
    have hbnd:(a≤s0∧s0≤r0∧r0≤m∧r0≤mid∧m≤nn - r0∧nn - s0≤b∧r0≤nn)∧(a<s0→nn - s0=b)∧(r0<m→nn - r0=m):=by omega
    try simp [go_sem,seval,hg,bU,s1,s2,hc,← hmid,htm,htn2,hs0,hr0]
    repeat first|intro _|refine ⟨fT,?_⟩
    obtain ⟨I8,hI8⟩:∃ I8:Nat→c7→AHeap→Prop,∀ (c:Nat) (e:c7) (H:AHeap),I8 c e H↔(∃ s:Nat,∃ r:Nat,(e 0=.own id xs.length)∧(e 1=dI a)∧(e 2=dI m)∧(e 3=dI b)∧(e 4=.fn g caps)∧(e 18=dI mid)∧(e 19=dI nn)∧(e 20=dI s)∧(e 21=dI r)∧(e 22=dI ((nn:Int) - 1))∧(s0≤s∧s≤r∧r≤r0)∧(r - s≤c)∧(s0<s→¬ bV (f (iA xs ((nn - s:Nat):Int))) (f (iA xs ((s - 1:Nat):Int)))<0)∧(r<r0→bV (f (iA xs ((nn - 1 - r:Nat):Int))) (f (iA xs r))<0)∧(H.get id=some ⟨3,1,xs.map cI,false⟩)∧(∀ j,j≠id→H.get j=G.get j)∧(G.next≤H.next)):=⟨fun c e H=>_,fun _ _ _=>Iff.rfl⟩
    refine qV I8 (fun c=>c) (r0) ((hI8 _ _ _).2 ⟨(s0),(r0),?_,?_,?_,?_,?_,?_,?_,?_,?_,?_,(by omega),(by omega),(by (exact fun h=>by omega)),(by (exact fun h=>by omega)),(by exact hg),(by exact fun _ _=>rfl),(by exact aL _)⟩) ?_
    iterate 10 (first|omega|(simp [go_sem,seval,hg,bU,s1,s2,hc,← hmid,htm,htn2,hs0,hr0]<;>omega))
    intro c e H hi8
    obtain ⟨s,r,q0_8,q1_8,q2_8,q3_8,q4_8,q18_8,q19_8,q20_8,q21_8,q22_8,hi,hj,k1,k2,hH,hfr,hnx⟩:=(hI8 _ _ _).1 hi8
    have F8:=And.intro q0_8 (And.intro q1_8 (And.intro q2_8 (And.intro q3_8 (And.intro q4_8 (And.intro q18_8 (And.intro q19_8 (And.intro q20_8 (And.intro q21_8 q22_8))))))))
    try simp [go_sem,seval,hg,bU,s1,s2,hc,← hmid,htm,htn2,hs0,hr0,F8,hH]
    refine aP (fun h33=>?_) (fun h33=>?_)
    ·try simp [go_sem] at h33
     obtain ⟨h,hh⟩:∃ h:Nat,h=(s+r) / 2:=⟨_,rfl⟩
     obtain ⟨pc,hpc⟩:∃ x:Nat,x=nn - 1 - h:=⟨_,rfl⟩
     have p1:pc<xs.length:=by omega
     have p2:h<xs.length:=by omega
     have htn:(((s:Int)+(r:Int)) / 2)=(h:Int):=by omega
     have hu:=uR (show 0≤(s:Int)+(r:Int) by omega) (show (s:Int)+(r:Int)≤18446744073709551615 by omega)
     have e8:(nn:Int) - 1 - h=(pc:Int):=by omega
     obtain ⟨c0,hcC,hz0⟩:=cmp pc h p1 p2
     try simp [go_sem,seval,hg,bU,s1,s2,hc,← hmid,htm,htn2,hs0,hr0,F8,hH,h33,← hh,htn,e8,aA p1,aA p2]
     repeat first|intro _|refine ⟨fT,?_⟩
     refine bB (hcC) ((by first|rfl|(simp [go_sem,← List.map_take,← List.map_drop,hg,bU,s1,s2,hc,← hmid,htm,htn2,hs0,hr0,F8,hH,h33,← hh,htn,e8,aA p1,aA p2];done))) ?_
     try simp [go_sem,seval,hg,bU,s1,s2,hc,← hmid,htm,htn2,hs0,hr0,F8,hH,h33,← hh,htn,e8,aA p1,aA p2]
     repeat first|intro _|refine ⟨fT,?_⟩
     refine aP (fun h35=>?_) (fun h35=>?_)
     ·try simp [go_sem] at h35
      obtain ⟨i',hi'⟩:∃ i':Nat,i'=h+1:=⟨_,rfl⟩
      obtain ⟨j',hj'⟩:∃ j':Nat,j'=r:=⟨_,rfl⟩
      have k1':s0<i'→¬ bV (f (iA xs ((nn - i':Nat):Int))) (f (iA xs ((i' - 1:Nat):Int)))<0:=fun _=>by rw [show i' - 1=h by omega,show nn - i'=pc by omega];exact fun w=>by have:=hz0.2 w;omega
      have k2':j'<r0→bV (f (iA xs ((nn - 1 - j':Nat):Int))) (f (iA xs j'))<0:=fun q=>by rw [hj'];exact k2 (by omega)
      try simp [go_sem,seval,hg,bU,s1,s2,hc,← hmid,htm,htn2,hs0,hr0,F8,hH,h33,← hh,htn,e8,aA p1,aA p2,hi',hj']
      repeat first|intro _|refine ⟨fT,?_⟩
      refine fN (c - 1) (by omega) ((hI8 _ _ _).2 ⟨(i'),(j'),?_,?_,?_,?_,?_,?_,?_,?_,?_,?_,(by omega),(by omega),(by (exact k1')),(by (exact k2')),(by (first|exact hH|(simp [go_sem];exact hH))),(by (first|exact hfr|(intro j hj';simp [go_sem];exact hfr j hj'))),(by (first|exact hnx|(simp [go_sem];omega)))⟩)<;>first|omega|(simp [go_sem,seval,hg,bU,s1,s2,hc,← hmid,htm,htn2,hs0,hr0,F8,hH,h33,← hh,htn,e8,aA p1,aA p2,hi',hj']<;>omega)
     ·try simp [go_sem] at h35
      obtain ⟨i',hi'⟩:∃ i':Nat,i'=s:=⟨_,rfl⟩
      obtain ⟨j',hj'⟩:∃ j':Nat,j'=h:=⟨_,rfl⟩
      have k1':s0<i'→¬ bV (f (iA xs ((nn - i':Nat):Int))) (f (iA xs ((i' - 1:Nat):Int)))<0:=fun q=>by rw [hi'];exact k1 (by omega)
      have k2':j'<r0→bV (f (iA xs ((nn - 1 - j':Nat):Int))) (f (iA xs j'))<0:=fun q=>by rw [hj',← hpc];exact hz0.1 (by omega)
      try simp [go_sem,seval,hg,bU,s1,s2,hc,← hmid,htm,htn2,hs0,hr0,F8,hH,h33,← hh,htn,e8,aA p1,aA p2,hi',hj']
      refine fN (c - 1) (by omega) ((hI8 _ _ _).2 ⟨(i'),(j'),?_,?_,?_,?_,?_,?_,?_,?_,?_,?_,(by omega),(by omega),(by (exact k1')),(by (exact k2')),(by (first|exact hH|(simp [go_sem];exact hH))),(by (first|exact hfr|(intro j hj';simp [go_sem];exact hfr j hj'))),(by (first|exact hnx|(simp [go_sem];omega)))⟩)<;>first|omega|(simp [go_sem,seval,hg,bU,s1,s2,hc,← hmid,htm,htn2,hs0,hr0,F8,hH,h33,← hh,htn,e8,aA p1,aA p2,hi',hj']<;>omega)
    ·try simp [go_sem] at h33
     have hsr:r=s:=by omega
     have C:Cut f xs a m b s (nn - s):=⟨M.nd,by omega,M.s1,M.s2,M.low,fun q1 q2=>k1 (by omega),fun q1 q2=>by
      have:=k2 (by omega);rw [hsr,show nn - 1 - s=nn - s - 1 by omega] at this;exact this⟩
     obtain ⟨ys,hys⟩:∃ y,y=gG xs s m (nn - s):=⟨_,rfl⟩
     have hyl:ys.length=xs.length:=by rw [hys];exact C.rng.len
     have hyn:ys.Nodup:=by rw [hys];exact C.rng.1.nodup_iff.2 M.nd
     have cy:CmpBy g caps f ys:=by rw [hys];exact cg.perm C.rng.1
     have hL:=C.left
     have hRt:=C.right
     have hDn:=@Cut.done f xs a m b s (nn - s) C
     rw [← hys,show s+(nn - s - m)=mid by omega] at hL hRt
     rw [← hys,show s+(nn - s - m)=mid by omega] at hDn
     have e7:(nn:Int) - s=((nn - s:Nat):Int):=by omega
     try simp [go_sem,seval,hg,bU,s1,s2,hc,← hmid,htm,htn2,hs0,hr0,F8,hH,e7]
     repeat first|intro _|refine ⟨fT,?_⟩
     refine aP (fun h39=>?_) (fun h39=>?_)
     ·try simp [go_sem] at h39
      have hrot:s<m∧m<nn - s:=by omega
      try simp [go_sem,seval,hg,bU,s1,s2,hc,← hmid,htm,htn2,hs0,hr0,F8,hH,e7]
      unfold dO;refine Eu (N:=xs.length) (A:=(s:Int)) (M:=(m:Int)) (B:=((nn - s:Nat):Int)) _ _ xs hH hl g caps s m (nn - s) hrot.1 hrot.2 (by omega) rfl rfl rfl rfl _ fun H1 gY fR nR=>?_
      have frY:∀ j,j≠id→H1.get j=G.get j:=fun j hj=>(fR j hj).trans (hfr j hj)
      have nxY:G.next≤H1.next:=by omega
      rw [← hys] at gY
      try simp [go_sem,seval,hg,bU,s1,s2,hc,← hmid,htm,htn2,hs0,hr0,F8,hH,e7]
      repeat first|intro _|refine ⟨fT,?_⟩
      refine aP (fun h41=>?_) (fun h41=>?_)
      ·try simp [go_sem] at h41
       try simp [go_sem,seval,hg,bU,s1,s2,hc,← hmid,htm,htn2,hs0,hr0,F8,hH,e7]
       unfold dO;refine ih (N:=xs.length) (A:=(a:Int)) (MM:=(s:Int)) (B:=(mid:Int)) _ _ ys gY (by omega) cy a s mid (by omega) ⟨hyn,by omega,hL.1,hL.2.1,hL.2.2⟩ hyl.symm rfl rfl rfl _ fun k H2 R1 S1 gK fK nK=>?_
       have frK:∀ j,j≠id→H2.get j=G.get j:=fun j hj=>(fK j hj).trans (frY j hj)
       have nxK:G.next≤H2.next:=by omega
       try simp [go_sem,seval,hg,bU,s1,s2,hc,← hmid,htm,htn2,hs0,hr0,F8,hH,e7]
       repeat first|intro _|refine ⟨fT,?_⟩
       refine aP (fun h43=>?_) (fun h43=>?_)
       ·try simp [go_sem] at h43
        have hkn:k.Nodup:=R1.1.nodup_iff.2 hyn
        have hkl:=R1.len
        have hRk:Srtd f k mid (nn - s)∧Srtd f k (nn - s) b∧P4 k mid (nn - s) b:=by
         refine ⟨fun i j p1 p2 p3=>?_,fun i j p1 p2 p3=>?_,fun i j p1 p2 p3 p4=>?_⟩
         ·rw [R1.2 i (by omega),R1.2 j (by omega)];exact hRt.1 i j p1 p2 p3
         ·rw [R1.2 i (by omega),R1.2 j (by omega)];exact hRt.2.1 i j p1 p2 p3
         ·rw [R1.2 i (by omega),R1.2 j (by omega)];exact hRt.2.2 i j p1 p2 p3 p4
        try simp [go_sem,seval,hg,bU,s1,s2,hc,← hmid,htm,htn2,hs0,hr0,F8,hH,e7]
        unfold dO;refine ih (N:=xs.length) (A:=(mid:Int)) (MM:=((nn - s:Nat):Int)) (B:=(b:Int)) _ _ k gK (by omega) (cy.perm R1.1) mid (nn - s) b (by omega) ⟨hkn,by omega,hRk.1,hRk.2.1,hRk.2.2⟩ (by omega) rfl rfl rfl _ fun z H3 R2 S2 gZ fZ nZ=>?_
        have frZ:∀ j,j≠id→H3.get j=G.get j:=fun j hj=>(fZ j hj).trans (frK j hj)
        have nxZ:G.next≤H3.next:=by omega
        try simp [go_sem,seval,hg,bU,s1,s2,hc,← hmid,htm,htn2,hs0,hr0,F8,hH,e7]
        obtain ⟨w1,w2⟩:=hDn R1 S1 R2 S2;exact hQ z _ w1 w2 gZ frZ nxZ
       ·try simp [go_sem] at h43
        obtain ⟨z,hz⟩:∃ x,x=k:=⟨_,rfl⟩
        have R2:Rng k z mid b:=by rw [hz];exact Rng.refl _ _ _
        have S2:Srtd f z mid b:=fun i j p1 p2 p3=>by
         rw [hz,R1.2 i (by omega),R1.2 j (by omega)]
         rcases bQ mid (nn - s) with h|h
         ·rw [show b=nn - s by omega] at p3;exact hRt.1 i j p1 p2 p3
         ·rw [show mid=nn - s by omega] at p1;exact hRt.2.1 i j p1 p2 p3
        have gZ:=gK
        rw [← hz] at gZ
        have frZ:=frK
        have nxZ:=nxK
        try simp [go_sem,seval,hg,bU,s1,s2,hc,← hmid,htm,htn2,hs0,hr0,F8,hH,e7]
        obtain ⟨w1,w2⟩:=hDn R1 S1 R2 S2;exact hQ z _ w1 w2 gZ frZ nxZ
      ·try simp [go_sem] at h41
       obtain ⟨k,hk⟩:∃ x,x=ys:=⟨_,rfl⟩
       have R1:Rng ys k a mid:=by rw [hk];exact Rng.refl _ _ _
       have S1:Srtd f k a mid:=by
        rw [hk]
        rcases bQ a s with h|h
        ·rw [show mid=s by omega];exact hL.1
        ·rw [show a=s by omega];exact hL.2.1
       have gK:=gY
       rw [← hk] at gK
       have frK:=frY
       have nxK:=nxY
       try simp [go_sem,seval,hg,bU,s1,s2,hc,← hmid,htm,htn2,hs0,hr0,F8,hH,e7,gK]
       repeat first|intro _|refine ⟨fT,?_⟩
       refine aP (fun h43=>?_) (fun h43=>?_)
       ·try simp [go_sem] at h43
        have hkn:k.Nodup:=R1.1.nodup_iff.2 hyn
        have hkl:=R1.len
        have hRk:Srtd f k mid (nn - s)∧Srtd f k (nn - s) b∧P4 k mid (nn - s) b:=by
         refine ⟨fun i j p1 p2 p3=>?_,fun i j p1 p2 p3=>?_,fun i j p1 p2 p3 p4=>?_⟩
         ·rw [R1.2 i (by omega),R1.2 j (by omega)];exact hRt.1 i j p1 p2 p3
         ·rw [R1.2 i (by omega),R1.2 j (by omega)];exact hRt.2.1 i j p1 p2 p3
         ·rw [R1.2 i (by omega),R1.2 j (by omega)];exact hRt.2.2 i j p1 p2 p3 p4
        try simp [go_sem,seval,hg,bU,s1,s2,hc,← hmid,htm,htn2,hs0,hr0,F8,hH,e7,gK]
        unfold dO;refine ih (N:=xs.length) (A:=(mid:Int)) (MM:=((nn - s:Nat):Int)) (B:=(b:Int)) _ _ k gK (by omega) (cy.perm R1.1) mid (nn - s) b (by omega) ⟨hkn,by omega,hRk.1,hRk.2.1,hRk.2.2⟩ (by omega) rfl rfl rfl _ fun z H3 R2 S2 gZ fZ nZ=>?_
        have frZ:∀ j,j≠id→H3.get j=G.get j:=fun j hj=>(fZ j hj).trans (frK j hj)
        have nxZ:G.next≤H3.next:=by omega
        try simp [go_sem,seval,hg,bU,s1,s2,hc,← hmid,htm,htn2,hs0,hr0,F8,hH,e7,gK]
        obtain ⟨w1,w2⟩:=hDn R1 S1 R2 S2;exact hQ z _ w1 w2 gZ frZ nxZ
       ·try simp [go_sem] at h43
        obtain ⟨z,hz⟩:∃ x,x=k:=⟨_,rfl⟩
        have R2:Rng k z mid b:=by rw [hz];exact Rng.refl _ _ _
        have S2:Srtd f z mid b:=fun i j p1 p2 p3=>by
         rw [hz,R1.2 i (by omega),R1.2 j (by omega)]
         rcases bQ mid (nn - s) with h|h
         ·rw [show b=nn - s by omega] at p3;exact hRt.1 i j p1 p2 p3
         ·rw [show mid=nn - s by omega] at p1;exact hRt.2.1 i j p1 p2 p3
        have gZ:=gK
        rw [← hz] at gZ
        have frZ:=frK
        have nxZ:=nxK
        try simp [go_sem,seval,hg,bU,s1,s2,hc,← hmid,htm,htn2,hs0,hr0,F8,hH,e7,gK]
        obtain ⟨w1,w2⟩:=hDn R1 S1 R2 S2;exact hQ z _ w1 w2 gZ frZ nxZ
     ·try simp [go_sem] at h39
      have gY:H.get id=some ⟨3,1,ys.map cI,false⟩:=by
       have:ys=xs:=by
        rw [hys]
        rcases bQ s m with h|h
        ·rw [show nn - s=m by omega];exact (pA (by omega)).2
        ·rw [show s=m by omega];exact (pA (by omega)).1
       rw [this];exact hH
      have frY:=hfr
      have nxY:=hnx
      try simp [go_sem,seval,hg,bU,s1,s2,hc,← hmid,htm,htn2,hs0,hr0,F8,hH,e7,gY]
      repeat first|intro _|refine ⟨fT,?_⟩
      refine aP (fun h41=>?_) (fun h41=>?_)
      ·try simp [go_sem] at h41
       try simp [go_sem,seval,hg,bU,s1,s2,hc,← hmid,htm,htn2,hs0,hr0,F8,hH,e7,gY]
       unfold dO;refine ih (N:=xs.length) (A:=(a:Int)) (MM:=(s:Int)) (B:=(mid:Int)) _ _ ys gY (by omega) cy a s mid (by omega) ⟨hyn,by omega,hL.1,hL.2.1,hL.2.2⟩ hyl.symm rfl rfl rfl _ fun k H2 R1 S1 gK fK nK=>?_
       have frK:∀ j,j≠id→H2.get j=G.get j:=fun j hj=>(fK j hj).trans (frY j hj)
       have nxK:G.next≤H2.next:=by omega
       try simp [go_sem,seval,hg,bU,s1,s2,hc,← hmid,htm,htn2,hs0,hr0,F8,hH,e7,gY]
       repeat first|intro _|refine ⟨fT,?_⟩
       refine aP (fun h43=>?_) (fun h43=>?_)
       ·try simp [go_sem] at h43
        have hkn:k.Nodup:=R1.1.nodup_iff.2 hyn
        have hkl:=R1.len
        have hRk:Srtd f k mid (nn - s)∧Srtd f k (nn - s) b∧P4 k mid (nn - s) b:=by
         refine ⟨fun i j p1 p2 p3=>?_,fun i j p1 p2 p3=>?_,fun i j p1 p2 p3 p4=>?_⟩
         ·rw [R1.2 i (by omega),R1.2 j (by omega)];exact hRt.1 i j p1 p2 p3
         ·rw [R1.2 i (by omega),R1.2 j (by omega)];exact hRt.2.1 i j p1 p2 p3
         ·rw [R1.2 i (by omega),R1.2 j (by omega)];exact hRt.2.2 i j p1 p2 p3 p4
        try simp [go_sem,seval,hg,bU,s1,s2,hc,← hmid,htm,htn2,hs0,hr0,F8,hH,e7,gY]
        unfold dO;refine ih (N:=xs.length) (A:=(mid:Int)) (MM:=((nn - s:Nat):Int)) (B:=(b:Int)) _ _ k gK (by omega) (cy.perm R1.1) mid (nn - s) b (by omega) ⟨hkn,by omega,hRk.1,hRk.2.1,hRk.2.2⟩ (by omega) rfl rfl rfl _ fun z H3 R2 S2 gZ fZ nZ=>?_
        have frZ:∀ j,j≠id→H3.get j=G.get j:=fun j hj=>(fZ j hj).trans (frK j hj)
        have nxZ:G.next≤H3.next:=by omega
        try simp [go_sem,seval,hg,bU,s1,s2,hc,← hmid,htm,htn2,hs0,hr0,F8,hH,e7,gY]
        obtain ⟨w1,w2⟩:=hDn R1 S1 R2 S2;exact hQ z _ w1 w2 gZ frZ nxZ
       ·try simp [go_sem] at h43
        obtain ⟨z,hz⟩:∃ x,x=k:=⟨_,rfl⟩
        have R2:Rng k z mid b:=by rw [hz];exact Rng.refl _ _ _
        have S2:Srtd f z mid b:=fun i j p1 p2 p3=>by
         rw [hz,R1.2 i (by omega),R1.2 j (by omega)]
         rcases bQ mid (nn - s) with h|h
         ·rw [show b=nn - s by omega] at p3;exact hRt.1 i j p1 p2 p3
         ·rw [show mid=nn - s by omega] at p1;exact hRt.2.1 i j p1 p2 p3
        have gZ:=gK
        rw [← hz] at gZ
        have frZ:=frK
        have nxZ:=nxK
        try simp [go_sem,seval,hg,bU,s1,s2,hc,← hmid,htm,htn2,hs0,hr0,F8,hH,e7,gY]
        obtain ⟨w1,w2⟩:=hDn R1 S1 R2 S2;exact hQ z _ w1 w2 gZ frZ nxZ
      ·try simp [go_sem] at h41
       obtain ⟨k,hk⟩:∃ x,x=ys:=⟨_,rfl⟩
       have R1:Rng ys k a mid:=by rw [hk];exact Rng.refl _ _ _
       have S1:Srtd f k a mid:=by
        rw [hk]
        rcases bQ a s with h|h
        ·rw [show mid=s by omega];exact hL.1
        ·rw [show a=s by omega];exact hL.2.1
       have gK:=gY
       rw [← hk] at gK
       have frK:=frY
       have nxK:=nxY
       try simp [go_sem,seval,hg,bU,s1,s2,hc,← hmid,htm,htn2,hs0,hr0,F8,hH,e7,gY,gK]
       repeat first|intro _|refine ⟨fT,?_⟩
       refine aP (fun h43=>?_) (fun h43=>?_)
       ·try simp [go_sem] at h43
        have hkn:k.Nodup:=R1.1.nodup_iff.2 hyn
        have hkl:=R1.len
        have hRk:Srtd f k mid (nn - s)∧Srtd f k (nn - s) b∧P4 k mid (nn - s) b:=by
         refine ⟨fun i j p1 p2 p3=>?_,fun i j p1 p2 p3=>?_,fun i j p1 p2 p3 p4=>?_⟩
         ·rw [R1.2 i (by omega),R1.2 j (by omega)];exact hRt.1 i j p1 p2 p3
         ·rw [R1.2 i (by omega),R1.2 j (by omega)];exact hRt.2.1 i j p1 p2 p3
         ·rw [R1.2 i (by omega),R1.2 j (by omega)];exact hRt.2.2 i j p1 p2 p3 p4
        try simp [go_sem,seval,hg,bU,s1,s2,hc,← hmid,htm,htn2,hs0,hr0,F8,hH,e7,gY,gK]
        unfold dO;refine ih (N:=xs.length) (A:=(mid:Int)) (MM:=((nn - s:Nat):Int)) (B:=(b:Int)) _ _ k gK (by omega) (cy.perm R1.1) mid (nn - s) b (by omega) ⟨hkn,by omega,hRk.1,hRk.2.1,hRk.2.2⟩ (by omega) rfl rfl rfl _ fun z H3 R2 S2 gZ fZ nZ=>?_
        have frZ:∀ j,j≠id→H3.get j=G.get j:=fun j hj=>(fZ j hj).trans (frK j hj)
        have nxZ:G.next≤H3.next:=by omega
        try simp [go_sem,seval,hg,bU,s1,s2,hc,← hmid,htm,htn2,hs0,hr0,F8,hH,e7,gY,gK]
        obtain ⟨w1,w2⟩:=hDn R1 S1 R2 S2;exact hQ z _ w1 w2 gZ frZ nxZ
       ·try simp [go_sem] at h43
        obtain ⟨z,hz⟩:∃ x,x=k:=⟨_,rfl⟩
        have R2:Rng k z mid b:=by rw [hz];exact Rng.refl _ _ _
        have S2:Srtd f z mid b:=fun i j p1 p2 p3=>by
         rw [hz,R1.2 i (by omega),R1.2 j (by omega)]
         rcases bQ mid (nn - s) with h|h
         ·rw [show b=nn - s by omega] at p3;exact hRt.1 i j p1 p2 p3
         ·rw [show mid=nn - s by omega] at p1;exact hRt.2.1 i j p1 p2 p3
        have gZ:=gK
        rw [← hz] at gZ
        have frZ:=frK
        have nxZ:=nxK
        try simp [go_sem,seval,hg,bU,s1,s2,hc,← hmid,htm,htn2,hs0,hr0,F8,hH,e7,gY,gK]
        obtain ⟨w1,w2⟩:=hDn R1 S1 R2 S2;exact hQ z _ w1 w2 gZ frZ nxZ
theorem uI (g:FuncId)(caps:List D)(hc:D.clL caps=true)(f:Int→List Int):∀ n,U9 g caps f n
 | 0=>fun G id xs hg hl cg a m b hnb M=>by have:=M.le;omega
 | n+1=>Ge g caps hc f n (uI g caps hc f n)
def LowAt (l:List Int)(t:Nat):Prop:=∀ p q:Nat,p<t→t≤q→q<l.length→iA l p<iA l q
theorem LowAt.rng {l m:List Int}{a b t:Nat}(hn:l.Nodup)(h:LowAt l t)(R:Rng l m a b)(hb:b≤l.length)(ht:t≤a∨b≤t):LowAt m t:=fun p q h1 h2 h3=>by
 have hl:=R.len
 have key:∀ i:Nat,i<l.length→∃ j:Nat,iA m i=iA l j∧j<l.length∧(i<t↔j<t):=fun i hi=>by
  by_cases hc:a≤i∧i<b
  ·obtain ⟨j,hj,e⟩:=R.from hn hb hc.1 hc.2
   exact ⟨j,e,by omega,by omega⟩
  ·exact ⟨i,R.2 i (by omega),hi,Iff.rfl⟩
 obtain ⟨x,ex,x1,x2⟩:=key p (by omega)
 obtain ⟨y,ey,y1,y2⟩:=key q (by omega)
 rw [ex,ey];exact h x y (by omega) (by omega) y1
theorem Srtd.rng {f:Int→List Int}{l m:List Int}{a b c d:Nat}(h:Srtd f l c d)(R:Rng l m a b)(hd:d≤a∨b≤c):Srtd f m c d:=fun i j h1 h2 h3=>by
 rw [R.2 i (by omega),R.2 j (by omega)];exact h i j h1 h2 h3
structure Blks (f:Int→List Int) (xs l:List Int) (s k:Nat):Prop where
 pm:l.Perm xs
 two:∀ j:Nat,j<k→Srtd f l (j * (2 * s)) (j * (2 * s)+2 * s)
 one:∀ j:Nat,2 * k≤j→Srtd f l (j * s) (min (j * s+s) l.length)
 low:∀ j:Nat,LowAt l (j * (2 * s))∧(2 * k≤j→LowAt l (j * s))
theorem Blks.next {f:Int→List Int}{xs l m:List Int}{s k:Nat}(hn:xs.Nodup)(h:Blks f xs l s k)(hs:0<s)(hk:k * (2 * s)+2 * s≤l.length)(R:Rng l m (k * (2 * s)) (k * (2 * s)+2 * s))(S:Srtd f m (k * (2 * s)) (k * (2 * s)+2 * s)):Blks f xs m s (k+1):=by
 have hln:l.Nodup:=h.pm.nodup_iff.2 hn
 have hl:=R.len
 have mul:∀ {i j:Nat},i<j→i * (2 * s)+2 * s≤j * (2 * s):=fun {i j} hij=>by
  have:=bZ (2 * s) (show i+1≤j by omega)
  rw [Nat.add_mul,vS] at this;exact this
 have half:∀ {j:Nat},2 * (k+1)≤j→k * (2 * s)+2 * s≤j * s:=fun {j} hj=>by
  have:=bZ s hj
  have e:2 * (k+1) * s=k * (2 * s)+2 * s:=by rw [oZ 2,Nat.mul_assoc,Nat.add_mul,vS]
  omega
 refine ⟨R.1.trans h.pm,fun j hj=>?_,fun j hj=>?_,fun j=>⟨?_,fun hj=>?_⟩⟩
 ·by_cases hc:j<k
  ·exact (h.two j hc).rng R (.inl (mul hc))
  ·rw [show j=k by omega];exact S
 ·rw [hl];exact (h.one j (by omega)).rng R (.inr (half hj))
 ·refine (h.low j).1.rng hln R hk ?_
  by_cases hc:j≤k
  ·exact .inl (bZ _ hc)
  ·exact .inr (mul (by omega))
 ·exact ((h.low j).2 (by omega)).rng hln R hk (.inr (half hj))
theorem Blks.last {f:Int→List Int}{xs l m:List Int}{s k:Nat}(hn:xs.Nodup)(h:Blks f xs l s k)(hs:0<s)(hk:k * (2 * s)≤l.length∧l.length<k * (2 * s)+2 * s)(R:Rng l m (k * (2 * s)) l.length)(S:Srtd f m (k * (2 * s)) l.length):Blks f xs m (2 * s) 0:=by
 have hln:l.Nodup:=h.pm.nodup_iff.2 hn
 have hl:=R.len
 have mul:∀ {i j:Nat},i<j→i * (2 * s)+2 * s≤j * (2 * s):=fun {i j} hij=>by
  have:=bZ (2 * s) (show i+1≤j by omega)
  rw [Nat.add_mul,vS] at this;exact this
 have lo:∀ j:Nat,LowAt m (j * (2 * s)):=fun j=>by
  by_cases hc:j≤k
  ·exact (h.low j).1.rng hln R (aL _) (.inl (bZ _ hc))
  ·have:=mul (Nat.lt_of_not_le hc)
   exact fun p q p1 p2 p3=>by omega
 refine ⟨R.1.trans h.pm,fun j hj=>by omega,fun j _=>?_,fun j=>⟨?_,fun _=>lo j⟩⟩
 ·by_cases hc:j<k
  ·have:=(h.two j hc).rng R (.inl (mul hc))
   exact fun p q p1 p2 p3=>this p q p1 p2 (by omega)
  ·by_cases hj:j=k
   ·subst hj;exact fun p q p1 p2 p3=>S p q p1 p2 (by omega)
   ·have:=mul (show k<j by omega)
    exact fun p q p1 p2 p3=>by omega
 ·have:=lo (2 * j)
  rw [show 2 * j * (2 * s)=j * (2 * (2 * s)) by rw [oZ 2 j,Nat.mul_assoc]] at this
  exact this
theorem Blks.mrg {f:Int→List Int}{xs l:List Int}{s k e:Nat}(hn:xs.Nodup)(h:Blks f xs l s k)(hs:0<s)(h1:k * (2 * s)+s<e)(h2:e≤l.length)(h3:e≤k * (2 * s)+2 * s):Mrg f l (k * (2 * s)) (k * (2 * s)+s) e:=by
 have e1:2 * k * s=k * (2 * s):=by rw [oZ 2 k,Nat.mul_assoc]
 have e2:(2 * k+1) * s=k * (2 * s)+s:=by rw [Nat.add_mul,e1,vS]
 refine ⟨h.pm.nodup_iff.2 hn,by omega,fun i j p1 p2 p3=>?_,fun i j p1 p2 p3=>?_,fun i j p1 p2 p3 p4=>?_⟩
 ·exact h.one (2 * k) (aL _) i j (by omega) p2 (by omega)
 ·exact h.one (2 * k+1) (by omega) i j (by omega) p2 (by omega)
 ·exact (h.low (2 * k+1)).2 (by omega) i j (by omega) (by omega) (by omega)
theorem R6 {f:Int→List Int}{l:List Int}{n:Nat}(hp:l.Perm (lL n))(S:Srtd f l 0 l.length):l=xB f (fun _=>true) n:=by
 refine QQ (b6.2 fun i j hi hj hij=>?_) (DI n).1 fun x=>?_
 ·have:=S i j (dE i) hij hj
  rwa [kJ hi,kJ hj] at this
 ·rw [hp.mem_iff,(DI n).2]
  unfold lL
  rw [aS]
  constructor
  ·rintro ⟨k,hk,rfl⟩;exact ⟨k,b7.1 hk,rfl,rfl⟩
  ·rintro ⟨k,hk,rfl,_⟩;exact ⟨k,b7.2 hk,rfl⟩
theorem DD {n k:Nat}(hk:k<n):iA (lL n) k=(k:Int):=by
 unfold iA lL;simp [hk]
theorem LR (G:AHeap)(id:Nat)(n:Nat)(hg:G.get id=some ⟨3,1,(lL n).map cI,false⟩)(hl:n≤100000)(g:FuncId)(caps:List D)(hc:D.clL caps=true)(f:Int→List Int)(cg:CmpBy g caps f (lL n)){A:Int}(eA:A=n)(Q:D→AHeap→Prop)
  (hQ:∀ H',H'.get id=some ⟨3,1,(xB f (fun _=>true) n).map cI,false⟩→(∀ j,j≠id→H'.get j=G.get j)→G.next≤H'.next→Q (.tup []) H'):ACalls Tryz.prog 103 [.own id n,dI A,.fn g caps] G Q:=by
 subst eA
 have hxl:(lL n).length=n:=by simp [lL]
 have hxn:(lL n).Nodup:=j7.2 (List.nodup_range.imp fun h e=>h (by omega))
 refine (aH (cfg:=⟨fun _=>false,fun _=>[]⟩) Tz.mixed Tryz.func103 rfl rfl (aD rfl) (by kernel_rfl) ?_)
 have Y:=wa hg hc
 refine wv (h:=cD (fun k e H=>∃ ys:List Int,(e 0=.own id n∧e 1=dI n∧e 2=.fn g caps∧e 6=dI 20∧e 7=dI ((k:Int) * 20)∧e 8=dI ((k:Int) * 20+20))∧(k * 20≤n)∧(ys.Perm (lL n))∧(∀ j:Nat,j<k→Srtd f ys (j * 20) (j * 20+20))∧(∀ j:Nat,LowAt ys (j * 20))∧(∀ p:Nat,k * 20≤p→iA ys p=iA (lL n) p)∧(H.get id=some ⟨3,1,ys.map cI,false⟩)∧(∀ j,j≠id→H.get j=G.get j)∧(G.next≤H.next)) (fun k=>n - k * 20) 0 ⟨(lL n),wg,(by omega),(by (exact List.Perm.refl _)),(by (exact fun j hj=>by omega)),(by (exact fun j p q h1 h2 h3=>by rw [DD (by omega),DD (by omega)];omega)),(by (exact fun p _=>rfl)),(by exact hg),(by exact fun _ _=>rfl),(by exact aL _)⟩ fun I0 hI0 k e H hi0=>?_)
 obtain ⟨ys,E0,hk,hpm,hst,hlo,hrs,hH,hfr,hnx⟩:=hi0
 have hyl:ys.length=n:=by rw [hpm.length_eq,hxl]
 have hyn:ys.Nodup:=hpm.nodup_iff.2 hxn
 have cy:=cg.perm hpm
 have hya:∀ e:Nat,e≤n→Zl ys (k * 20) e:=fun e he i j p1 p2 p3=>by rw [hrs i p1,hrs j (by omega),DD (by omega),DD (by omega)];omega
 have Y:=wa Y (wa E0 hH)
 refine dU (fun h2=>?_) fun h2=>?_
 ·have Y:=wa Y h2
  refine wv (h:=?_)
  unfold dO;refine zH (N:=n) (A:=(k:Int) * 20) (B:=(k:Int) * 20+20) _ _ ys hH (by omega) hyn g caps hc f cy (k * 20) (k * 20+20) (by omega) (by omega) (hya _ (by omega)) (by omega) (by omega) (by omega) _ fun zs H1 R1 S1 gR fR nR=>?_
  have hzl:=R1.len
  have frR:∀ j,j≠id→H1.get j=G.get j:=fun j hj=>(fR j hj).trans (hfr j hj)
  have nxR:G.next≤H1.next:=by omega
  have hpm2:=R1.1.trans hpm
  have hst2:∀ j:Nat,j<k+1→Srtd f zs (j * 20) (j * 20+20):=fun j hj=>by
   by_cases hc:j<k
   ·exact (hst j hc).rng R1 (.inl (by omega))
   ·rw [show j=k by omega];exact S1
  have hlo2:∀ j:Nat,LowAt zs (j * 20):=fun j=>(hlo j).rng hyn R1 (by omega) (by omega)
  have hrs2:∀ p:Nat,(k+1) * 20≤p→iA zs p=iA (lL n) p:=fun p hp=>by rw [R1.2 p (by omega)];exact hrs p (by omega)
  exact wp (h:=wx hI0 (k+1) ⟨zs,wg,(by omega),(by (exact hpm2)),(by (exact hst2)),(by (exact hlo2)),(by (exact hrs2)),(by (first|exact gR|(simp [go_sem];exact gR))),(by (exact frR)),(by (exact nxR))⟩)
 ·refine wv (h:=?_)
  unfold dO;refine zH (N:=n) (A:=(k:Int) * 20) (B:=(n:Int)) _ _ ys hH (by omega) hyn g caps hc f cy (k * 20) n (by omega) (by omega) (hya _ (by omega)) (by omega) (by omega) rfl _ fun zs H1 R1 S1 gR fR nR=>?_
  have hzl:=R1.len
  have frR:∀ j,j≠id→H1.get j=G.get j:=fun j hj=>(fR j hj).trans (hfr j hj)
  have nxR:G.next≤H1.next:=by omega
  have B0:Blks f (lL n) zs 20 0:=⟨R1.1.trans hpm,fun j hj=>by omega,fun j _=>by
   by_cases hc:j<k
   ·have:=(hst j hc).rng R1 (.inl (by omega))
    exact fun p q p1 p2 p3=>this p q p1 p2 (by omega)
   ·by_cases hj:j=k
    ·subst hj;exact fun p q p1 p2 p3=>S1 p q p1 p2 (by omega)
    ·exact fun p q p1 p2 p3=>by omega,fun j=>⟨by have:=(hlo (2 * j)).rng hyn R1 (by omega) (by omega);rw [show 2 * j * 20=j * (2 * 20) by omega] at this;exact this,fun _=>(hlo j).rng hyn R1 (by omega) (by omega)⟩⟩
  refine wv (h:=cD (fun c e H=>∃ s:Nat,∃ vs:List Int,(e 0=.own id n∧e 1=dI n∧e 2=.fn g caps∧e 6=dI s)∧(c=n - s)∧(0<s∧s≤200000)∧(Blks f (lL n) vs s 0)∧(H.get id=some ⟨3,1,vs.map cI,false⟩)∧(∀ j,j≠id→H.get j=G.get j)∧(G.next≤H.next)) (fun c=>c) (n - 20) ⟨20,zs,wg,(by rfl),(by omega),(by (exact B0)),(by exact gR),(by exact frR),(by exact nxR)⟩ fun I2 hI2 c e H hi2=>?_)
  obtain ⟨s,vs,E2,hc0,hs0,BB0,hH2,hfr2,hnx2⟩:=hi2
  have Y:=wa Y (wa E2 hH2)
  refine dU (fun h7=>?_) fun h7=>?_
  ·have Y:=wa Y h7
   refine wp (h:=cD (fun c2 e H=>∃ k2:Nat,∃ X:Nat,∃ ws:List Int,(e 0=.own id n∧e 1=dI n∧e 2=.fn g caps∧e 6=dI s∧e 7=dI X∧e 8=dI ((X:Int)+2 * s))∧(c2=n - X)∧(X≤n)∧(X=k2 * (2 * s))∧(Blks f (lL n) ws s k2)∧(H.get id=some ⟨3,1,ws.map cI,false⟩)∧(∀ j,j≠id→H.get j=G.get j)∧(G.next≤H.next)) (fun c2=>c2) n ⟨0,0,vs,wg,(by (simp)),(by omega),(by (simp)),(by (exact BB0)),(by exact hH2),(by exact hfr2),(by exact hnx2)⟩ fun I4 hI4 c2 e H hi4=>?_)
   obtain ⟨k2,X,ws,E4,hc2,hXn,hX,BB,hH3,hfr3,hnx3⟩:=hi4
   have hwl:ws.length=n:=by rw [BB.pm.length_eq,hxl]
   have cw:=cg.perm BB.pm
   have Y:=wa Y (wa E4 hH3)
   refine dU (fun h9=>?_) fun h9=>?_
   ·have hlt:X+2 * s≤n:=by omega
    have Y:=wa Y h9
    refine wp (h:=?_)
    unfold dO;refine uI g caps hc f _ (N:=n) (A:=(X:Int)) (MM:=(X:Int)+s) (B:=(X:Int)+2 * s) _ _ ws hH3 (by omega) cw X (X+s) (X+2 * s) (aL _) (by rw [hX];exact BB.mrg hxn hs0.1 (by omega) (by omega) (by omega)) (by omega) rfl (by omega) (by omega) _ fun zs H1 R1 S1 gR fR nR=>?_
    have frR:∀ j,j≠id→H1.get j=G.get j:=fun j hj=>(fR j hj).trans (hfr3 j hj)
    have nxR:G.next≤H1.next:=by omega
    have hzl:=R1.len
    have B3:Blks f (lL n) zs s (k2+1):=BB.next hxn hs0.1 (by omega) (by rw [← hX];exact R1) (by rw [← hX];exact S1)
    exact wp (h:=wx hI4 (n - (X+2 * s)) ⟨(k2+1),(X+2 * s),zs,wg,(by rfl),(by omega),(by (rw [Nat.add_mul,vS,← hX])),(by (exact B3)),(by (first|exact gR|(simp [go_sem];exact gR))),(by (exact frR)),(by (exact nxR))⟩)
   ·refine qJ (fun h14=>?_) fun h14=>?_
    ·refine wv (h:=?_)
     unfold dO;refine uI g caps hc f _ (N:=n) (A:=(X:Int)) (MM:=(X:Int)+s) (B:=(n:Int)) _ _ ws hH3 (by omega) cw X (X+s) n (aL _) (by rw [hX];exact BB.mrg hxn hs0.1 (by omega) (by omega) (by omega)) (by omega) rfl (by omega) rfl _ fun v2 H1 R1 S1 gR fR nR=>?_
     have frR:∀ j,j≠id→H1.get j=G.get j:=fun j hj=>(fR j hj).trans (hfr3 j hj)
     have nxR:G.next≤H1.next:=by omega
     have B4:Blks f (lL n) v2 (2 * s) 0:=BB.last hxn hs0.1 (by omega) (by rw [← hX,hwl];exact R1) (by rw [← hX,hwl];exact S1)
     exact wp (h:=wx hI2 (n - 2 * s) ⟨(2 * s),v2,wg,(by rfl),(by omega),(by (exact B4)),(by (first|exact gR|(simp [go_sem];exact gR))),(by (exact frR)),(by (exact nxR))⟩)
    ·obtain ⟨v2,hv2⟩:∃ x,x=ws:=⟨_,rfl⟩
     have B4:Blks f (lL n) v2 (2 * s) 0:=by
      rw [hv2];exact BB.last hxn hs0.1 (by omega) (Rng.refl _ _ _) (by
       rw [← hX,hwl]
       have h1:=BB.one (2 * k2) (aL _)
       rw [show 2 * k2 * s=X by rw [hX,oZ 2 k2,Nat.mul_assoc]] at h1
       exact fun p q p1 p2 p3=>h1 p q p1 p2 (by omega))
     have gR:H.get id=some ⟨3,1,v2.map cI,false⟩:=by rw [hv2];exact hH3
     have frR:=hfr3
     have nxR:=hnx3
     exact wp (h:=wx hI2 (n - 2 * s) ⟨(2 * s),v2,wg,(by rfl),(by omega),(by (exact B4)),(by (first|exact gR|(simp [go_sem];exact gR))),(by (exact frR)),(by (exact nxR))⟩)
  ·have hvl:vs.length=n:=by rw [BB0.pm.length_eq,hxl]
   have hE:vs=xB f (fun _=>true) n:=R6 BB0.pm (fun p q p1 p2 p3=>BB0.one 0 (aL _) p q (by omega) p2 (by omega))
   refine wv (h:=?_)
   exact hQ _ (by rw [← hE];exact hH2) hfr2 hnx2
end Go.Abs
end
