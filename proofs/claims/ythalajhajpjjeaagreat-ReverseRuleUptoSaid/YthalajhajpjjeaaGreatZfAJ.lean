/- Layer 6: morphisms. · Layers 6 (the reference) and 7: morphi -/
import Derived.Test.YthalajhajpjjeaaGreatZfAF
import Derived.Test.YthalajhajpjjeaaGreatZfAI
import Derived.Test.YthalajhajpjjeaaGreatZfAA
set_option linter.unusedVariables false
set_option linter.unusedSimpArgs false
section
set_option maxRecDepth 100000
set_option maxHeartbeats 4000000
open Go Go.Proofs
namespace Go.Abs
theorem Ia (xs:List Int):(jZ xs).Pairwise (·<=·):=by
 have:=List.pairwise_mergeSort (le:=λ(x y:Int)=>decide (x<=y)) (λa b c h1 h2=>by simp at *;omega) (λa b=>by simp;omega) xs
 exact this.imp λh=>by simpa using h
theorem yE (xs:List Int):imagesN xs=xs.length↔xs.Nodup:=by
 have hp:(jZ xs).Perm xs:=List.mergeSort_perm xs _
 rw [<- hp.nodup_iff,<- kD xs]
 unfold imagesN Lib.compact Lib.compactUpTo
 rw [aW]
 have hpw:=dK.1 (Ia xs)
 generalize jZ xs=s at *
 have key:(List.filter (Lib.keeps s.toArray) (List.range s.length)).length=s.length↔∀ j,j<s.length->Lib.keeps s.toArray j=true:=by
  have:=List.length_filter_eq_length_iff (p:=Lib.keeps s.toArray) (l:=List.range s.length)
  rw [List.length_range] at this
  rw [this];simp
 rw [key]
 have hk:∀ j (hj:j<s.length),Lib.keeps s.toArray j=true↔(j=0\/s[j]≠s[j - 1]' aD):=λj hj=>by
  simp only [Lib.keeps,decide_eq_true_eq]
  rw [getElem!_pos _ j (bW hj),getElem!_pos _ (j - 1) (by simp;omega)]
  simp
 constructor
 .intro h
  rw [qN,dK]
  intro i j hi hj hij
  rcases (hk j hj).1 (h j hj) with h0|h0
  .omega
  .have h1:=hpw (j - 1) j aD hj aD
   by_cases hij':i=j - 1
   .subst hij';omega
   .have h2:=hpw i (j - 1) hi aD aD
    omega
 .intro h j hj
  rw [hk j hj]
  by_cases h0:j=0
  .exact .inl h0
  .right
   intro he
   have:=(l4 h).1 he
   omega
def cC:Edge:=⟨0,0,0⟩
def j9 (a b:Graph)(m:Part)(i:Nat):Int :=
 if m.nodes[i]?.getD 0<0\/(b.nodes.length:Int)<=m.nodes[i]?.getD 0 then 6
 else if b.nodes[(m.nodes[i]?.getD 0).toNat]?.getD 0≠a.nodes[i]?.getD 0 then 13 else 0
def iE (a b:Graph)(m:Part)(i:Nat):Int :=
 if m.edges[i]?.getD 0<0\/(b.edges.length:Int)<=m.edges[i]?.getD 0 then 6
 else if (a.edges[i]?.getD cC).type≠(b.edges[(m.edges[i]?.getD 0).toNat]?.getD cC).type then 13
 else if m.nodes[(a.edges[i]?.getD cC).from_.toNat]?.getD 0≠(b.edges[(m.edges[i]?.getD 0).toNat]?.getD cC).from_\/m.nodes[(a.edges[i]?.getD cC).to_.toNat]?.getD 0≠(b.edges[(m.edges[i]?.getD 0).toNat]?.getD cC).to_ then 11 else 0
def eJ (a b:Graph)(m:Part):Int :=
 if graphF a≠0 then graphF a
 else if graphF b≠0 then graphF b
 else if m.nodes.length≠a.nodes.length\/m.edges.length≠a.edges.length then 20
 else if bT (j9 a b m) 0 a.nodes.length≠0 then bT (j9 a b m) 0 a.nodes.length
 else bT (iE a b m) 0 a.edges.length
theorem oR (a b:Graph)(m:Part):Pure Tryz.prog 315 [a.d,b.d,m.d] (dI (eJ a b m)):=by
 refine Tz.pK ⟨λt=>t==13||t==14,λr=>match r with|22=>[(0,10),(1,10),(3,10),(4,10),(5,10),(6,10),(8,10),(9,10),(0,11),(1,11),(3,11),(4,11),(5,11),(6,11),(8,11),(9,11),(10,11),(5,12),(6,12),(8,12),(9,12)]|_=>[]⟩ Tryz.func315 rfl (λQ hQ=>?_)
 have Y:=trivial
 refine wv (h:=aB (mC a) wl ?_)
 refine dP (λh2=>?_) λh2=>?_
 .exact wv (h:=hQ _ _ (.inl (by simp [go_sem,eJ,h2])))
 .refine wv (h:=aB (mC b) wl ?_)
  refine dP (λh5=>?_) λh5=>?_
  .exact wv (h:=hQ _ _ (.inl (by simp [go_sem,eJ,h2,h5])))
  .refine fA (λh7=>?_) λh7=>?_
   .exact wv (h:=hQ _ _ (.inl (by simp [go_sem,eJ,h2,h5,(aD:m.nodes.length≠a.nodes.length\/m.edges.length≠a.edges.length)])))
   .have hM:eJ a b m=(if bT (j9 a b m) 0 a.nodes.length≠0 then bT (j9 a b m) 0 a.nodes.length else bT (iE a b m) 0 a.edges.length):=by
     unfold eJ;rw [if_neg (by simp [h2]),if_neg (by simp [h5]),if_neg aD]
    have hga:=bR h2
    have hgb:=bR h5
    have hia:=(eL h2).2
    refine wo (h:=bF (λi e H=>(e 3=.adr a.c/\e 4=.adr b.c/\e 5=.adr m.c/\e 42=dLI m.nodes/\e 43=dI m.nodes.length/\e 44=dI i)/\(i<=m.nodes.length)/\(bT (j9 a b m) i (a.nodes.length - i)=bT (j9 a b m) 0 a.nodes.length)) (λi=>m.nodes.length - i) 0 ⟨wg,wi,(by rfl)⟩ λI0 hI0 i e H hi0=>?_)
    obtain ⟨E0,hi,hF⟩:=hi0
    have Y:=wa Y E0
    refine dP (λh10=>?_) λh10=>?_
    .have hn:i<a.nodes.length:=aD
     have hst:=eZ (j9 a b m) hn
     rw [hF] at hst
     have hNE:j9 a b m i=(if m.nodes[i]<0\/(b.nodes.length:Int)<=m.nodes[i] then 6 else if b.nodes[m.nodes[i].toNat]?.getD 0≠a.nodes[i] then 13 else 0):=by simp only [j9,aA h10,aA hn,Option.getD_some]
     have Y:=wa Y (wa h10 hn)
     refine fA (λh12=>?_) λh12=>?_
     .rw [if_pos aD] at hNE
      rw [hNE,if_pos aD] at hst
      exact wv (h:=hQ _ _ (.inl (by simp [go_sem,hM,hst])))
     .have hkb:m.nodes[i].toNat<b.nodes.length:=aD
      rw [if_neg aD,aA hkb,Option.getD_some] at hNE
      have Y:=wa Y (aA hkb)
      refine fA (λh14=>?_) λh14=>?_
      .rw [if_pos h14] at hNE
       rw [hNE,if_pos aD] at hst
       exact wv (h:=hQ _ _ (.inl (by simp [go_sem,hM,hst])))
      .rw [if_neg (bW h14)] at hNE
       rw [hNE,if_neg aD] at hst
       exact wo (h:=wx hI0 (i+1) ⟨wg,wj,(by exact hst.symm)⟩)
    .have hN0:bT (j9 a b m) 0 a.nodes.length=0:=by rw [<- hF,(aD:a.nodes.length - i=0)];rfl
     rw [hN0,if_neg aD] at hM
     refine wo (h:=bF (λk e H=>(e 3=.adr a.c/\e 4=.adr b.c/\e 5=.adr m.c/\e 71=dLI m.edges/\e 72=dI m.edges.length/\e 73=dI k)/\(k<=m.edges.length)/\(bT (iE a b m) k (a.edges.length - k)=eJ a b m)) (λk=>m.edges.length - k) 0 ⟨wg,wi,(by exact hM.symm)⟩ λI2 hI2 k e H hi2=>?_)
     obtain ⟨E2,hk,hE⟩:=hi2
     have Y:=wa Y E2
     refine dP (λh18=>?_) λh18=>?_
     .have hn:k<a.edges.length:=aD
      have hst:=eZ (iE a b m) hn
      rw [hE] at hst
      have hx:=hia _ (aC hn)
      have hxf:a.edges[k].from_.toNat<m.nodes.length:=aD
      have hxt:a.edges[k].to_.toNat<m.nodes.length:=aD
      have hEE:iE a b m k=(if m.edges[k]<0\/(b.edges.length:Int)<=m.edges[k] then 6 else if a.edges[k].type≠(b.edges[m.edges[k].toNat]?.getD cC).type then 13 else if m.nodes[a.edges[k].from_.toNat]≠(b.edges[m.edges[k].toNat]?.getD cC).from_\/m.nodes[a.edges[k].to_.toNat]≠(b.edges[m.edges[k].toNat]?.getD cC).to_ then 11 else 0):=by
       simp only [iE,aA h18,aA hn,Option.getD_some,aA hxf,aA hxt]
      have Y:=wa Y (wa h18 (wa hn (wa (aA hxf) (aA hxt))))
      refine fA (λh20=>?_) λh20=>?_
      .rw [if_pos aD] at hEE
       rw [hEE,if_pos aD] at hst
       exact wv (h:=hQ _ _ (.inl (by simp [go_sem,<- hst])))
      .have hkb:m.edges[k].toNat<b.edges.length:=aD
       rw [if_neg aD,aA hkb,Option.getD_some] at hEE
       have Y:=wa Y (aA hkb)
       refine fA (λh23=>?_) λh23=>?_
       .rw [if_pos h23] at hEE
        rw [hEE,if_pos aD] at hst
        exact wv (h:=hQ _ _ (.inl (by simp [go_sem,<- hst])))
       .rw [if_neg (bW h23)] at hEE
        refine fA (λh25=>?_) λh25=>?_
        .rw [if_pos aD] at hEE
         rw [hEE,if_pos aD] at hst
         exact wv (h:=hQ _ _ (.inl (by simp [go_sem,<- hst])))
        .rw [if_neg aD] at hEE
         rw [hEE,if_neg aD] at hst
         exact wo (h:=wx hI2 (k+1) ⟨wg,wj,(by exact hst.symm)⟩)
     .exact wv (h:=hQ _ _ (.inl (by rw [<- hE,(aD:a.edges.length - k=0)];rfl)))
def CQ (a b:Graph)(m:Part):Bool:=decide (eJ a b m=0)&&(decide m.nodes.Nodup&&decide m.edges.Nodup)
theorem nO {a b:Graph}{m:Part}(h:eJ a b m=0):graphF a=0/\graphF b=0/\m.nodes.length=a.nodes.length/\m.edges.length=a.edges.length:=by
 unfold eJ at h
 split at h
 .rename_i h1;exact absurd h h1
 .rename_i h1
  split at h
  .rename_i h2;exact absurd h h2
  .rename_i h2
   split at h
   .cases h
   .omega
theorem IL (xs:List Int):((imagesN xs:Int)==(xs.length:Int))=decide xs.Nodup:=by
 rw [aT]
 simp only [beq_iff_eq,decide_eq_true_eq]
 rw [<- yE]
 omega
theorem rW (a b:Graph)(m:Part)(h1:m.nodes.length<=1000000)(h2:m.edges.length<=1000000):Pure Tryz.prog 316 [a.d,b.d,m.d] (.bool (CQ a b m)):=by
 refine Tz.pK ⟨λ_=>false,λ_=>[]⟩ Tryz.func316 rfl (λQ hQ=>?_)
 have Y:=@IL
 refine wo (h:=aJ (oR a b m) wl ?_)
 refine wo (h:=d8 (λhg=>wI m.nodes h1) (λhg=>wl) ?_)
 refine wo (h:=d8 (λhg=>wI m.edges h2) (λhg=>wl) ?_)
 exact wo (h:=hQ _ _ (by simp [go_sem,CQ,IL,lB]))
theorem qB (a b:Graph)(m:Part):Pure Tryz.prog 188 [a.d,b.d,m.d] (dI (eJ a b m)):=by
 refine Tz.pK ⟨λt=>t==11||t==12,λr=>match r with|21=>[(0,14),(1,14),(3,14),(4,14),(5,14),(6,14),(7,14),(8,14),(10,14),(11,14),(12,14),(13,14),(0,15),(1,15),(3,15),(4,15),(5,15),(6,15),(7,15),(8,15),(10,15),(11,15),(12,15),(13,15),(14,15),(5,16),(6,16),(7,16),(8,16),(10,16),(11,16),(12,16),(13,16)]|_=>[]⟩ Tryz.func188 rfl (λQ hQ=>?_)
 have Y:=trivial
 refine wv (h:=?_)
 refine aB (lD a) wl ?_
 refine wv (h:=?_)
 refine wq (λh2=>?_) λh2=>?_
 .refine wv (h:=?_)
  exact hQ _ _ (.inl (by simp [go_sem,eJ,h2]))
 .refine wv (h:=?_)
  refine aB (lD b) wl ?_
  refine wv (h:=?_)
  refine wq (λh5=>?_) λh5=>?_
  .refine wv (h:=?_)
   exact hQ _ _ (.inl (by simp [go_sem,eJ,h2,h5]))
  .refine wv (h:=?_)
   repeat first|intro _|refine ⟨eO,?_⟩
   refine wq (λh7=>?_) λh7=>?_
   .refine wv (h:=?_)
    exact hQ _ _ (.inl (by simp [go_sem,eJ,h2,h5,(aD:m.nodes.length≠a.nodes.length\/m.edges.length≠a.edges.length)]))
   .have hM:eJ a b m=(if bT (j9 a b m) 0 a.nodes.length≠0 then bT (j9 a b m) 0 a.nodes.length else bT (iE a b m) 0 a.edges.length):=by
     unfold eJ;rw [if_neg (by simp [h2]),if_neg (by simp [h5]),if_neg aD]
    have hga:=bR h2
    have hgb:=bR h5
    have hia:=(eL h2).2
    refine wv (h:=?_)
    refine bF (λi e H=>(e 3=.adr a.c/\e 4=.adr b.c/\e 5=.adr m.c/\e 9=dI i)/\(i<=a.nodes.length)/\(bT (j9 a b m) i (a.nodes.length - i)=bT (j9 a b m) 0 a.nodes.length)) (λi=>a.nodes.length - i) 0 ⟨wg,wi,(by rfl)⟩ λI0 hI0 i e H hi0=>?_
    obtain ⟨E0,hi,hF⟩:=hi0
    have Y:=wa Y E0
    refine wv (h:=?_)
    repeat first|intro _|refine ⟨eO,?_⟩
    refine wq (λh10=>?_) λh10=>?_
    .have hn:i<m.nodes.length:=aD
     have hst:=eZ (j9 a b m) h10
     rw [hF] at hst
     have hNE:j9 a b m i=(if m.nodes[i]<0\/(b.nodes.length:Int)<=m.nodes[i] then 6 else if b.nodes[m.nodes[i].toNat]?.getD 0≠a.nodes[i] then 13 else 0):=by simp only [j9,aA h10,aA hn,Option.getD_some]
     have Y:=wa Y (wa h10 hn)
     refine wv (h:=?_)
     repeat first|intro _|refine ⟨eO,?_⟩
     refine wq (λh12=>?_) λh12=>?_
     .rw [if_pos aD] at hNE
      rw [hNE,if_pos aD] at hst
      refine wv (h:=?_)
      exact hQ _ _ (.inl (by simp [go_sem,hM,hst]))
     .have hkb:m.nodes[i].toNat<b.nodes.length:=aD
      rw [if_neg aD,aA hkb,Option.getD_some] at hNE
      have Y:=wa Y (aA hkb)
      refine wv (h:=?_)
      repeat first|intro _|refine ⟨eO,?_⟩
      refine wq (λh14=>?_) λh14=>?_
      .rw [if_pos h14] at hNE
       rw [hNE,if_pos aD] at hst
       refine wv (h:=?_)
       exact hQ _ _ (.inl (by simp [go_sem,hM,hst]))
      .rw [if_neg (bW h14)] at hNE
       rw [hNE,if_neg aD] at hst
       refine wv (h:=?_)
       repeat first|intro _|refine ⟨eO,?_⟩
       exact wx hI0 (i+1) ⟨wg,wj,(by exact hst.symm)⟩
    .have hN0:bT (j9 a b m) 0 a.nodes.length=0:=by rw [<- hF,(aD:a.nodes.length - i=0)];rfl
     rw [hN0,if_neg aD] at hM
     refine wv (h:=?_)
     refine bF (λk e H=>(e 3=.adr a.c/\e 4=.adr b.c/\e 5=.adr m.c/\e 10=dI k)/\(k<=a.edges.length)/\(bT (iE a b m) k (a.edges.length - k)=eJ a b m)) (λk=>a.edges.length - k) 0 ⟨wg,wi,(by exact hM.symm)⟩ λI2 hI2 k e H hi2=>?_
     obtain ⟨E2,hk,hE⟩:=hi2
     have Y:=wa Y E2
     refine wv (h:=?_)
     repeat first|intro _|refine ⟨eO,?_⟩
     refine wq (λh17=>?_) λh17=>?_
     .have hn:k<m.edges.length:=aD
      have hst:=eZ (iE a b m) h17
      rw [hE] at hst
      have hx:=hia _ (aC h17)
      have hxf:a.edges[k].from_.toNat<m.nodes.length:=aD
      have hxt:a.edges[k].to_.toNat<m.nodes.length:=aD
      have hEE:iE a b m k=(if m.edges[k]<0\/(b.edges.length:Int)<=m.edges[k] then 6 else if a.edges[k].type≠(b.edges[m.edges[k].toNat]?.getD cC).type then 13 else if m.nodes[a.edges[k].from_.toNat]≠(b.edges[m.edges[k].toNat]?.getD cC).from_\/m.nodes[a.edges[k].to_.toNat]≠(b.edges[m.edges[k].toNat]?.getD cC).to_ then 11 else 0):=by
       simp only [iE,aA h17,aA hn,Option.getD_some,aA hxf,aA hxt]
      have Y:=wa Y (wa h17 (wa hn (wa (aA hxf) (aA hxt))))
      refine wv (h:=?_)
      repeat first|intro _|refine ⟨eO,?_⟩
      refine wq (λh19=>?_) λh19=>?_
      .rw [if_pos aD] at hEE
       rw [hEE,if_pos aD] at hst
       refine wv (h:=?_)
       exact hQ _ _ (.inl (by simp [go_sem,<- hst]))
      .have hkb:m.edges[k].toNat<b.edges.length:=aD
       rw [if_neg aD,aA hkb,Option.getD_some] at hEE
       have Y:=wa Y (aA hkb)
       refine wv (h:=?_)
       repeat first|intro _|refine ⟨eO,?_⟩
       refine wq (λh22=>?_) λh22=>?_
       .rw [if_pos h22] at hEE
        rw [hEE,if_pos aD] at hst
        refine wv (h:=?_)
        exact hQ _ _ (.inl (by simp [go_sem,<- hst]))
       .rw [if_neg (bW h22)] at hEE
        refine wv (h:=?_)
        repeat first|intro _|refine ⟨eO,?_⟩
        refine wq (λh24=>?_) λh24=>?_
        .rw [if_pos aD] at hEE
         rw [hEE,if_pos aD] at hst
         refine wv (h:=?_)
         exact hQ _ _ (.inl (by simp [go_sem,<- hst]))
        .rw [if_neg aD] at hEE
         rw [hEE,if_neg aD] at hst
         refine wv (h:=?_)
         repeat first|intro _|refine ⟨eO,?_⟩
         exact wx hI2 (k+1) ⟨wg,wj,(by exact hst.symm)⟩
     .refine wv (h:=?_)
      exact hQ _ _ (.inl (by rw [<- hE,(aD:a.edges.length - k=0)];rfl))
theorem kY (l:List Int):Pure Tryz.prog 185 [dLI l] (.bool (decide l.Nodup)):=by
 refine Tz.pK ⟨λ_=>false,λ_=>[]⟩ Tryz.func185 rfl (λQ hQ=>?_)
 have Y:=trivial
 refine wv (h:=bF (λi e H=>(e 0=dLI l/\e 3=dI i)/\(i<=l.length)/\(∀ (a b:Nat) (hb:b<l.length),b<i->(hab:a<b)->l[a]≠l[b])) (λi=>l.length - i) 0 ⟨wg,wi,(by intro a b hb h;omega)⟩ λI0 hI0 i e H hi0=>?_)
 obtain ⟨E0,hi,hd⟩:=hi0
 have Y:=wa Y E0
 refine wv (h:=?_)
 repeat first|intro _|refine ⟨eO,?_⟩
 refine wq (λh2=>?_) λh2=>?_
 .have Y:=wa Y h2
  refine wv (h:=bF (λk e H=>(e 0=dLI l/\e 3=dI i/\e 4=dI k)/\(k<=i)/\(∀ a,a<k->l[a]?≠some l[i])) (λk=>i - k) 0 ⟨wg,wi,(by intro a h;omega)⟩ λI2 hI2 k e H hi2=>?_)
  obtain ⟨E2,hk,hn⟩:=hi2
  have Y:=wa Y E2
  refine dP (λh5=>?_) λh5=>?_
  .have hkl:k<l.length:=aD
   have Y:=wa Y (wa h5 hkl)
   refine wv (h:=?_)
   repeat first|intro _|refine ⟨eO,?_⟩
   refine wq (λh7=>?_) λh7=>?_
   .refine wv (h:=?_)
    have hx:¬ l.Nodup:=λh=>by
     have:=(l4 h).1 h7
     omega
    exact hQ _ _ (by simp [go_sem,hx])
   .exact wo (h:=wx hI2 (k+1) ⟨wg,wj,(by exact iP hn (by rw [aA hkl];simpa using λhe=>h7 he.symm))⟩)
  .have hd':∀ (a b:Nat) (hb:b<l.length),b<i+1->(hab:a<b)->l[a]≠l[b]:=λa b hb h hab=>by
    rcases bZ b i with h'|h'
    .exact hd a b hb h' hab
    .have:b=i:=aD
     subst this;exact λhe=>hn a aD (by rw [aA aD,he])
   exact wo (h:=wx hI0 (i+1) ⟨wg,wj,(by exact hd')⟩)
 .refine wv (h:=?_)
  have hx:l.Nodup:=by
   rw [qN,dK]
   exact λa b ha hb hab=>hd a b hb aD hab
  exact hQ _ _ (by simp [go_sem,hx])
def GV (l:List Int)(n:Int)(i:Nat):Int :=
 if l[i]?.getD 0<0\/n<=l[i]?.getD 0 then 6 else if 0<i/\l[i]?.getD 0<=l[i - 1]?.getD 0 then 12 else 0
def Er (l:List Int)(n:Int):Int:=bT (GV l n) 0 l.length
theorem eY {f:Nat->Int}:∀ (n k:Nat),bT f k n=0->∀ j,k<=j->j<k+n->f j=0
 | 0,k,_=>λj h1 h2=>by omega
 | n+1,k,h=>λj h1 h2=>by
  unfold bT at h
  split at h
  .rename_i hne;exact absurd h hne
  .rename_i hz
   rcases Nat.eq_or_lt_of_le h1 with h3|h3
   .subst h3;exact bB λhne=>hz hne
   .exact eY n (k+1) h j h3 aD
theorem C8 {l:List Int}{n:Int}(h:Er l n=0):(∀ x∈l,0<=x/\x<n)/\l.Pairwise (· < ·):=by
 have hz:=eY _ _ h
 have h1:∀ i (hi:i<l.length),(0<=l[i]/\l[i]<n)/\(∀ h0:0<i,l[i - 1]<l[i]):=λi hi=>by
  have:=hz i aD aD
  unfold GV at this
  rw [aA hi,Option.getD_some] at this
  split at this
  .cases this
  .rename_i h2
   split at this
   .cases this
   .rename_i h3
    refine ⟨aD,λh0=>?_⟩
    rw [aA (aD:i - 1<l.length),Option.getD_some] at h3
    omega
 refine ⟨λx hx=>?_,dK.2 λi j hi hj hij=>?_⟩
 .obtain ⟨i,hi,rfl⟩:=aO hx;exact (h1 i hi).1
 .induction j with
  | zero=>omega
  | succ j ih =>
   have h2:=(h1 (j+1) hj).2 aD
   simp only [Nat.add_sub_cancel] at h2
   rcases bZ i j with h3|h3
   .have:=ih aD h3;omega
   .have:i=j:=aD
    subst this;exact h2
theorem zV (l:List Int)(n:Int):Pure Tryz.prog 437 [dLI l,dI n] (dI (Er l n)):=by
 refine Tz.pK ⟨λ_=>false,λ_=>[]⟩ Tryz.func437 rfl (λQ hQ=>?_)
 have Y:=trivial
 refine wv (h:=?_)
 repeat first|intro _|refine ⟨eO,?_⟩
 refine bF (λi e H=>(e 0=dLI l/\e 1=dI n/\e 7=dLI l/\e 8=dI l.length/\e 9=dI i)/\(i<=l.length)/\(bT (GV l n) i (l.length - i)=Er l n)) (λi=>l.length - i) 0 ⟨wg,wi,(by rfl)⟩ λI0 hI0 i e H hi0=>?_
 obtain ⟨E0,hi,hF⟩:=hi0
 have Y:=wa Y E0
 refine wv (h:=?_)
 refine wq (λh2=>?_) λh2=>?_
 .have hst:=eZ (GV l n) h2
  rw [hF] at hst
  have hA:GV l n i=(if l[i]<0\/n<=l[i] then 6 else if 0<i/\l[i]<=l[i - 1]?.getD 0 then 12 else 0):=by simp only [GV,aA h2,Option.getD_some]
  have hi1:i - 1<l.length:=aD
  rw [aA hi1,Option.getD_some] at hA
  have htn:((i:Int) - 1).toNat=i - 1:=aD
  have Y:=wa Y (wa h2 (wa htn (aA hi1)))
  refine wv (h:=?_)
  repeat first|intro _|refine ⟨eO,?_⟩
  refine wq (λh4=>?_) λh4=>?_
  .rw [if_pos aD] at hA
   rw [hA,if_pos aD] at hst
   refine wv (h:=?_)
   exact hQ _ _ (.inl (by simp [go_sem,hst]))
  .rw [if_neg aD] at hA
   refine wv (h:=?_)
   repeat first|intro _|refine ⟨eO,?_⟩
   refine wq (λh6=>?_) λh6=>?_
   .rw [if_pos aD] at hA
    rw [hA,if_pos aD] at hst
    refine wv (h:=?_)
    exact hQ _ _ (.inl (by simp [go_sem,hst]))
   .rw [if_neg aD] at hA
    rw [hA,if_neg aD] at hst
    refine wv (h:=?_)
    repeat first|intro _|refine ⟨eO,?_⟩
    exact wx hI0 (i+1) ⟨wg,wj,(by exact hst.symm)⟩
 .refine wv (h:=?_)
  exact hQ _ _ (.inl (by rw [<- hF,(aD:l.length - i=0)];rfl))
theorem wF (l:List Int)(n:Int):Pure Tryz.prog 396 [dLI l,dI n] (dI (Er l n)):=by
 refine Tz.pK ⟨λ_=>false,λ_=>[]⟩ Tryz.func396 rfl (λQ hQ=>?_)
 have Y:=trivial
 refine wv (h:=?_)
 refine bF (λi e H=>(e 0=dLI l/\e 1=dI n/\e 5=dI i)/\(i<=l.length)/\(bT (GV l n) i (l.length - i)=Er l n)) (λi=>l.length - i) 0 ⟨wg,wi,(by rfl)⟩ λI0 hI0 i e H hi0=>?_
 obtain ⟨E0,hi,hF⟩:=hi0
 have Y:=wa Y E0
 refine wv (h:=?_)
 repeat first|intro _|refine ⟨eO,?_⟩
 refine wq (λh2=>?_) λh2=>?_
 .have hst:=eZ (GV l n) h2
  rw [hF] at hst
  have hA:GV l n i=(if l[i]<0\/n<=l[i] then 6 else if 0<i/\l[i]<=l[i - 1]?.getD 0 then 12 else 0):=by simp only [GV,aA h2,Option.getD_some]
  have hi1:i - 1<l.length:=aD
  rw [aA hi1,Option.getD_some] at hA
  have htn:((i:Int) - 1).toNat=i - 1:=aD
  have Y:=wa Y (wa h2 (wa htn (aA hi1)))
  refine wv (h:=?_)
  repeat first|intro _|refine ⟨eO,?_⟩
  refine wq (λh4=>?_) λh4=>?_
  .rw [if_pos aD] at hA
   rw [hA,if_pos aD] at hst
   refine wv (h:=?_)
   exact hQ _ _ (.inl (by simp [go_sem,hst]))
  .rw [if_neg aD] at hA
   refine wv (h:=?_)
   repeat first|intro _|refine ⟨eO,?_⟩
   refine wq (λh6=>?_) λh6=>?_
   .rw [if_pos aD] at hA
    rw [hA,if_pos aD] at hst
    refine wv (h:=?_)
    exact hQ _ _ (.inl (by simp [go_sem,hst]))
   .rw [if_neg aD] at hA
    rw [hA,if_neg aD] at hst
    refine wv (h:=?_)
    repeat first|intro _|refine ⟨eO,?_⟩
    exact wx hI0 (i+1) ⟨wg,wj,(by exact hst.symm)⟩
 .refine wv (h:=?_)
  exact hQ _ _ (.inl (by rw [<- hF,(aD:l.length - i=0)];rfl))
theorem Ik (l:List Int)(v:Int):Pure Tryz.prog 397 [dLI l,dI v] (.bool (mem l v)):=by
 refine Tz.pK ⟨λ_=>false,λ_=>[]⟩ Tryz.func397 rfl (λQ hQ=>?_)
 have Y:=trivial
 refine wv (h:=bF (λi e H=>(e 0=dLI l/\e 1=dI v/\e 5=dI i)/\(i<=l.length)/\(∀ j,j<i->l[j]?≠some v)) (λi=>l.length - i) 0 ⟨wg,wi,(by intro j hj;omega)⟩ λI0 hI0 i e H hi0=>?_)
 obtain ⟨E0,hi,hne⟩:=hi0
 have Y:=wa Y E0
 refine wv (h:=?_)
 repeat first|intro _|refine ⟨eO,?_⟩
 refine wq (λh2=>?_) λh2=>?_
 .have Y:=wa Y h2
  refine wv (h:=?_)
  repeat first|intro _|refine ⟨eO,?_⟩
  refine wq (λh4=>?_) λh4=>?_
  .refine wv (h:=?_)
   have hm:mem l v=true:=(mem_iff l v).2 (h4 ▸ aC h2)
   exact hQ _ _ (by simp [go_sem,hm])
  .exact wo (h:=wx hI0 (i+1) ⟨wg,wj,(by exact iP hne (by rw [aA h2];simpa using h4))⟩)
 .refine wv (h:=?_)
  have hm:mem l v=false:=by rw [bH];intro h;obtain ⟨j,hj,he⟩:=aO ((mem_iff l v).1 h);exact hne j aD (by rw [aA hj,he])
  exact hQ _ _ (by simp [go_sem,hm])
theorem Dv (l:List Int)(v:Int):Pure Tryz.prog 264 [dLI l,dI v] (dI (idx l v)):=by
 refine Tz.pK ⟨λ_=>false,λ_=>[]⟩ Tryz.func264 rfl (λQ hQ=>?_)
 have Y:=trivial
 refine wv (h:=bF (λi e H=>(e 0=dLI l/\e 1=dI v/\e 5=dI i)/\(i<=l.length)/\(∀ j,j<i->l[j]?≠some v)) (λi=>l.length - i) 0 ⟨wg,wi,(by intro j hj;omega)⟩ λI0 hI0 i e H hi0=>?_)
 obtain ⟨E0,hi,hne⟩:=hi0
 have Y:=wa Y E0
 refine wv (h:=?_)
 repeat first|intro _|refine ⟨eO,?_⟩
 refine wq (λh2=>?_) λh2=>?_
 .have Y:=wa Y h2
  refine wv (h:=?_)
  repeat first|intro _|refine ⟨eO,?_⟩
  refine wq (λh4=>?_) λh4=>?_
  .exact wv (h:=hQ _ _ (by rw [rZ hne (by rw [aA h2,h4])];simp [go_sem]))
  .exact wo (h:=wx hI0 (i+1) ⟨wg,wj,(by exact iP hne (by rw [aA h2];simpa using h4))⟩)
 .exact wv (h:=hQ _ _ (by rw [yF λj hj=>hne j aD];simp [go_sem]))
theorem qW (a:Int):Pure Tryz.prog 334 [dI a] (.bool false):=by
 refine Tz.pK ⟨λ_=>false,λ_=>[]⟩ Tryz.func334 rfl (λQ hQ=>?_)
 have Y:=trivial
 exact wv (h:=hQ _ _ wy)
theorem zC (a:Int):Pure Tryz.prog 389 [dI a] (.bool false):=by
 refine Tz.pK ⟨λ_=>false,λ_=>[]⟩ Tryz.func389 rfl (λQ hQ=>?_)
 have Y:=trivial
 exact wv (h:=hQ _ _ wy)
theorem R5 (a b:Int):Pure Tryz.prog 333 [dI a,dI b] (.bool (decide (a<b))):=by
 refine Tz.pK ⟨λ_=>false,λ_=>[]⟩ Tryz.func333 rfl (λQ hQ=>?_)
 have Y:=trivial
 refine wo (h:=aB (zC a) wl ?_)
 refine wo (h:=aG (λhg=>zC b) (λhg=>wl) ?_)
 exact wo (h:=hQ _ _ wy)
def tL (l:List Int)(v:Int):Nat:=(l.takeWhile λy=>decide (y<v)).length
theorem Pc {l:List Int}{v:Int}{n:Nat}(h1:∀ j (hj:j<l.length),j<n->l[j]<v)(h2:n<=l.length)(h3:∀ hn:n<l.length,¬ l[n]<v):tL l v=n :=
 tH _ l n (λj x hj hx=>by
  obtain ⟨hjl,rfl⟩:=aM.1 hx
  simpa using h1 j hjl hj) h2 λx hx=>by
  obtain ⟨hjl,rfl⟩:=aM.1 hx
  simpa using h3 hjl
theorem Xw (a b:Nat):((a:Int)+(b:Int)).fdiv 2=(((a+b) / 2:Nat):Int):=by
 rw [Int.fdiv_eq_ediv_of_nonneg _ aD];omega
theorem tD (l:List Int)(v:Int)(hs:l.Pairwise (· < ·))(hl:l.length<=1000000):Pure Tryz.prog 241 [dLI l,dI v] (.tup [dI (tL l v),.bool (mem l v)]):=by
 have hpw:=dK.1 hs
 refine Tz.pK ⟨λ_=>false,λ_=>[]⟩ Tryz.func241 rfl (λQ hQ=>?_)
 have Y:=@Xw
 refine wo (h:=bF (λm e H=>∃ i:Nat,∃ j:Nat,(e 0=dLI l/\e 1=dI v/\e 6=dI l.length/\e 7=dI i/\e 8=dI j)/\(i<=j)/\(j<=l.length)/\(j - i<=m)/\(∀ a (h:a<l.length),a<i->l[a]<v)/\(∀ a (h:a<l.length),j<=a->¬ l[a]<v)) (λm=>m) l.length ⟨0,l.length,wg,aD,aD,aD,(by intro a h h';omega),(by intro a h h';omega)⟩ λI0 hI0 m e H hi0=>?_)
 obtain ⟨i,j,E0,hj,hjl,hjm,ha,hb⟩:=hi0
 have Y:=wa Y E0
 refine dP (λh3=>?_) λh3=>?_
 .have hk:(i+j) / 2<l.length:=aD
  have htn:(((i:Int)+(j:Int)) / 2).toNat=(i+j) / 2:=aD
  have hu:=Pm (aD:0<=(i:Int)+(j:Int)) (aD:(i:Int)+(j:Int)<=18446744073709551615)
  have Y:=wa Y (wa h3 (wa htn (aA hk)))
  refine wo (h:=aB (R5 _ _) wl ?_)
  refine fA (λh5=>?_) λh5=>?_
  .obtain ⟨i',hi'⟩:∃ i':Nat,i'=(i+j) / 2+1:=⟨_,rfl⟩
   obtain ⟨j',hj'⟩:∃ j':Nat,j'=j:=⟨_,rfl⟩
   have ha':∀ a (h:a<l.length),a<i'->l[a]<v:=λa h h'=>by
    rcases bZ a ((i+j) / 2) with h1|h1
    .have:=hpw a _ h hk h1;omega
    .have:a=(i+j) / 2:=aD
     subst this;exact h5
   have hb':∀ a (h:a<l.length),j'<=a->¬ l[a]<v:=λa h h'=>hb a h aD
   exact wo (h:=wx hI0 (m - 1) ⟨i',j',wg,aD,aD,aD,(by exact ha'),(by exact hb')⟩)
  .obtain ⟨i',hi'⟩:∃ i':Nat,i'=i:=⟨_,rfl⟩
   obtain ⟨j',hj'⟩:∃ j':Nat,j'=(i+j) / 2:=⟨_,rfl⟩
   have ha':∀ a (h:a<l.length),a<i'->l[a]<v:=λa h h'=>ha a h aD
   have hb':∀ a (h:a<l.length),j'<=a->¬ l[a]<v:=λa h h'=>by
    rcases bZ ((i+j) / 2) a with h1|h1
    .have:=hpw _ a hk h h1;omega
    .have:a=(i+j) / 2:=aD
     subst this;omega
   exact wv (h:=wx hI0 (m - 1) ⟨i',j',wg,aD,aD,aD,(by exact ha'),(by exact hb')⟩)
 .have hij:j=i:=aD
  have hp:tL l v=i:=Pc (λa h h'=>ha a h h') aD (λh=>hb i h aD)
  have hm:mem l v=(decide (i<l.length)&&(l[i]?.getD 0==v)):=by
   rw [aT,mem_iff]
   constructor
   .intro h
    obtain ⟨a,h1,h2⟩:=aO h
    have h3:i<=a:=Nat.le_of_not_lt λh'=>by have:=ha a h1 h';omega
    have h4:a=i:=by
     rcases Nat.eq_or_lt_of_le h3 with h5|h5
     .exact h5.symm
     .have:=hpw i a aD h1 h5
      exact absurd aD (hb i aD aD)
    subst h4
    simp [h1,h2]
   .intro h
    simp only [aR,decide_eq_true_eq,beq_iff_eq] at h
    rw [aA h.1,Option.getD_some] at h
    rw [<- h.2];exact aC h.1
  by_cases hil:i<l.length
  .have Y:=wa Y (wa (aA hil) hil)
   refine wo (h:=aG (λhg=>qW _) (λhg=>wl) ?_)
   refine wo (h:=aG (λhg=>qW _) (λhg=>wl) ?_)
   exact wo (h:=hQ _ _ (by rw [hp,hm];simp [go_sem,Y];rw [aT];simp))
  .have Y:=wa Y hil
   refine wo (h:=aG (λhg=>qW _) (λhg=>wl) ?_)
   refine wo (h:=aG (λhg=>qW _) (λhg=>wl) ?_)
   exact wo (h:=hQ _ _ (by rw [hp,hm];simp [go_sem,Y]))
theorem A3 (l:List Int)(v:Int)(hs:l.Pairwise (· < ·))(hl:l.length<=1000000):Pure Tryz.prog 438 [dLI l,dI v] (.bool (mem l v)):=by
 refine Tz.pK ⟨λ_=>false,λ_=>[]⟩ Tryz.func438 rfl (λQ hQ=>?_)
 have Y:=trivial
 refine wv (h:=aB (tD l v hs hl) wl ?_)
 exact wv (h:=hQ _ _ wy)
def yM (g:Graph)(p:Part)(k:Int):Int:=if (mem p.nodes (g.edges[k.toNat]?.getD cC).from_&&mem p.nodes (g.edges[k.toNat]?.getD cC).to_)=true then 0 else 14
def qR (g:Graph)(p:Part):Int :=
 if Er p.nodes g.nodes.length≠0 then Er p.nodes g.nodes.length
 else if Er p.edges g.edges.length≠0 then Er p.edges g.edges.length
 else gK (yM g p) p.edges
def subF (g:Graph)(p:Part):Int:=if graphF g≠0 then graphF g else qR g p
theorem Hb (g:Graph)(p:Part)(hl:p.nodes.length<=1000000):Pure Tryz.prog 387 [g.d,p.d] (dI (qR g p)):=by
 refine Tz.pK ⟨λ_=>false,λ_=>[]⟩ Tryz.func387 rfl (λQ hQ=>?_)
 have Y:=trivial
 refine wv (h:=?_)
 repeat first|intro _|refine ⟨eO,?_⟩
 refine aB (zV p.nodes _) wl ?_
 refine wv (h:=?_)
 repeat first|intro _|refine ⟨eO,?_⟩
 refine wq (λh2=>?_) λh2=>?_
 .exact wv (h:=hQ _ _ (by simp [go_sem,qR,h2]))
 .refine wv (h:=?_)
  repeat first|intro _|refine ⟨eO,?_⟩
  refine aB (zV p.edges _) wl ?_
  refine wv (h:=?_)
  repeat first|intro _|refine ⟨eO,?_⟩
  refine wq (λh5=>?_) λh5=>?_
  .exact wv (h:=hQ _ _ (by simp [go_sem,qR,h2,h5]))
  .have hP:qR g p=gK (yM g p) p.edges:=by unfold qR;rw [if_neg (by simp [h2]),if_neg (by simp [h5])]
   have hs:=(C8 h2).2
   have hin:=(C8 h5).1
   refine wv (h:=?_)
   repeat first|intro _|refine ⟨eO,?_⟩
   refine bF (λi e H=>(e 2=.adr g.c/\e 3=.adr p.c/\e 28=dLI p.edges/\e 29=dI p.edges.length/\e 30=dI i)/\(i<=p.edges.length)/\(gK (yM g p) (p.edges.drop i)=qR g p)) (λi=>p.edges.length - i) 0 ⟨wg,wi,(by exact hP.symm)⟩ λI0 hI0 i e H hi0=>?_
   obtain ⟨E0,hi,hF⟩:=hi0
   have Y:=wa Y E0
   refine dP (λh8=>?_) λh8=>?_
   .have hst:=hF
    rw [kI _ h8] at hst
    have hin':=hin _ (aC h8)
    have hk:p.edges[i].toNat<g.edges.length:=aD
    have hD:yM g p p.edges[i]=if (mem p.nodes g.edges[p.edges[i].toNat].from_&&mem p.nodes g.edges[p.edges[i].toNat].to_)=true then 0 else 14:=by simp only [yM,aA hk,Option.getD_some]
    have Y:=wa Y (wa h8 (aA hk))
    refine wv (h:=?_)
    repeat first|intro _|refine ⟨eO,?_⟩
    refine aJ (A3 p.nodes _ hs hl) wl ?_
    refine wv (h:=?_)
    repeat first|intro _|refine ⟨eO,?_⟩
    refine d8 (λhg=>A3 p.nodes _ hs hl) (λhg=>wl) ?_
    refine wv (h:=?_)
    repeat first|intro _|refine ⟨eO,?_⟩
    refine wq (λh10=>?_) λh10=>?_
    .rw [if_neg (by rcases h10 with h|h<;>simp [h])] at hD
     rw [hD,if_pos aD] at hst
     exact wv (h:=hQ _ _ (by simp [go_sem,<- hst]))
    .rw [if_pos (by simp [h10])] at hD
     rw [hD,if_neg aD] at hst
     refine wv (h:=?_)
     repeat first|intro _|refine ⟨eO,?_⟩
     exact wx hI0 (i+1) ⟨wg,wj,(by exact hst)⟩
   .exact wv (h:=hQ _ _ (by rw [<- hF,lS _ aD];simp [go_sem]))
theorem xB (g:Graph)(p:Part)(hl:p.nodes.length<=1000000):Pure Tryz.prog 328 [g.d,p.d] (dI (subF g p)):=by
 refine Tz.pK ⟨λ_=>false,λ_=>[]⟩ Tryz.func328 rfl (λQ hQ=>?_)
 have Y:=trivial
 refine wv (h:=aB (mC g) wl ?_)
 refine dP (λh2=>?_) λh2=>?_
 .have Y:=wa Y (wa h2 @subF.eq_1)
  exact wv (h:=hQ _ _ wy)
 .refine wv (h:=aB (Hb g p hl) wl ?_)
  have Y:=wa Y (wa h2 @subF.eq_1)
  exact wv (h:=hQ _ _ wy)
theorem LQ (g:Graph)(p:Part):Pure Tryz.prog 345 [g.d,p.d] (dI (qR g p)):=by
 refine Tz.pK ⟨λt=>t==8,λr=>match r with|10=>[(0,9),(1,9),(2,9),(3,9),(5,9),(6,9),(7,9),(8,9)]|_=>[]⟩ Tryz.func345 rfl (λQ hQ=>?_)
 have Y:=trivial
 refine wo (h:=aB (wF p.nodes _) wl ?_)
 refine wv (h:=?_)
 repeat first|intro _|refine ⟨eO,?_⟩
 refine wq (λh2=>?_) λh2=>?_
 .exact wv (h:=hQ _ _ (by simp [go_sem,qR,h2]))
 .refine wo (h:=aB (wF p.edges _) wl ?_)
  refine wv (h:=?_)
  repeat first|intro _|refine ⟨eO,?_⟩
  refine wq (λh5=>?_) λh5=>?_
  .exact wv (h:=hQ _ _ (by simp [go_sem,qR,h2,h5]))
  .have hP:qR g p=gK (yM g p) p.edges:=by unfold qR;rw [if_neg (by simp [h2]),if_neg (by simp [h5])]
   have hin:=(C8 h5).1
   refine wv (h:=bF (λi e H=>(e 2=.adr g.c/\e 3=.adr p.c/\e 7=dI i)/\(i<=p.edges.length)/\(gK (yM g p) (p.edges.drop i)=qR g p)) (λi=>p.edges.length - i) 0 ⟨wg,wi,(by exact hP.symm)⟩ λI0 hI0 i e H hi0=>?_)
   obtain ⟨E0,hi,hF⟩:=hi0
   have Y:=wa Y E0
   refine wv (h:=?_)
   repeat first|intro _|refine ⟨eO,?_⟩
   refine wq (λh8=>?_) λh8=>?_
   .have hst:=hF
    rw [kI _ h8] at hst
    have hin':=hin _ (aC h8)
    have hk:p.edges[i].toNat<g.edges.length:=aD
    have hD:yM g p p.edges[i]=if (mem p.nodes g.edges[p.edges[i].toNat].from_&&mem p.nodes g.edges[p.edges[i].toNat].to_)=true then 0 else 14:=by simp only [yM,aA hk,Option.getD_some]
    have Y:=wa Y (wa h8 (aA hk))
    refine wo (h:=aB (Ik p.nodes _) wl ?_)
    refine wo (h:=aG (λhg=>Ik p.nodes _) (λhg=>wl) ?_)
    refine wv (h:=?_)
    repeat first|intro _|refine ⟨eO,?_⟩
    refine wq (λh11=>?_) λh11=>?_
    .rw [if_neg (by rcases h11 with h|h<;>simp [h])] at hD
     rw [hD,if_pos aD] at hst
     exact wv (h:=hQ _ _ (by simp [go_sem,<- hst]))
    .rw [if_pos (by simp [h11])] at hD
     rw [hD,if_neg aD] at hst
     exact wo (h:=wx hI0 (i+1) ⟨wg,wj,(by exact hst)⟩)
   .exact wv (h:=hQ _ _ (by rw [<- hF,lS _ aD];simp [go_sem]))
theorem xQ (g:Graph)(p:Part):Pure Tryz.prog 263 [g.d,p.d] (dI (subF g p)):=by
 refine Tz.pK ⟨λ_=>false,λ_=>[]⟩ Tryz.func263 rfl (λQ hQ=>?_)
 have Y:=trivial
 refine wv (h:=aB (lD g) wl ?_)
 refine dP (λh2=>?_) λh2=>?_
 .have Y:=wa Y (wa h2 @subF.eq_1)
  exact wv (h:=hQ _ _ wy)
 .refine wv (h:=aB (LQ g p) wl ?_)
  have Y:=wa Y (wa h2 @subF.eq_1)
  exact wv (h:=hQ _ _ wy)
def gN (g:Graph)(n:Int):Int:=g.nodes[n.toNat]?.getD 0
def gEd (g:Graph)(p:Part)(k:Int):Edge:=⟨(g.edges[k.toNat]?.getD cC).type,tL p.nodes (g.edges[k.toNat]?.getD cC).from_,tL p.nodes (g.edges[k.toNat]?.getD cC).to_⟩
def cY (g:Graph)(p:Part):Graph:=if subF g p=0 then ⟨p.nodes.map (gN g),p.edges.map (gEd g p)⟩ else ⟨[],[]⟩
def Ae (g:Graph)(p:Part):Part:=if subF g p=0 then p else ⟨[],[]⟩
theorem yW {g:Graph}{p:Part}(h:subF g p=0):graphF g=0/\p.nodes.Pairwise (· < ·)/\(∀ n∈p.nodes,0<=n/\n<g.nodes.length)/\∀ k∈p.edges,0<=k/\k<g.edges.length:=by
 unfold subF qR at h
 split at h
 .rename_i h1;exact absurd h h1
 .rename_i h1
  split at h
  .rename_i h2;exact absurd h h2
  .rename_i h2
   split at h
   .rename_i h3;exact absurd h h3
   .rename_i h3
    have h2':Er p.nodes g.nodes.length=0:=aD
    have h3':Er p.edges g.edges.length=0:=aD
    exact ⟨aD,(C8 h2').2,(C8 h2').1,(C8 h3').1⟩
theorem kH {α β:Type}(f:α->β){l:List α}{i:Nat}(h:i<l.length):(l.take (i+1)).map f=(l.take i).map f++[f l[i]]:=by
 rw [aE h,List.map_append];rfl
theorem lK {α β:Type}(f:α->β){l:List α}{i:Nat}(h:l.length<=i):(l.take i).map f=l.map f:=by
 rw [aH h]
theorem Cu (g:Graph)(p:Part)(hl:p.nodes.length<=1000000)(hle:p.edges.length<=1000000):Pure Tryz.prog 314 [g.d,p.d] (.tup [(cY g p).d,(Ae g p).d,dI (subF g p)]):=by
 refine Tz.pK ⟨λt=>t==4||t==5||t==8||t==13,λr=>match r with|8=>[(0,7),(1,7)]|_=>[]⟩ Tryz.func314 rfl (λQ hQ=>?_)
 have Y:=trivial
 refine wv (h:=aB (xB g p hl) wl ?_)
 refine dP (λh2=>?_) λh2=>?_
 .exact wv (h:=hQ _ _ (by simp [go_sem,cY,Ae,h2]))
 .obtain ⟨hg,hs,hin,hie⟩:=yW h2
  refine wo (h:=tN (Ghosts.step (Ghosts.refl _) 2 0 0 3 1 _ _ (rfl) rfl rfl rfl) (λi e H=>∃ xs:List Int,(e 2=.adr g.c/\e 3=.adr p.c/\e 4=.ptr 0 1 0 0/\e 5=.ptr 1 1 0 0/\e 8=.ptr 2 1 0 0/\e 23=dLI p.nodes/\e 24=dI p.nodes.length/\e 25=dI i)/\(H.get 0=some ⟨29,2,[[.nil,.nil]],false⟩)/\(0<H.next)/\(H.get 1=some ⟨36,2,[[.nil,.nil]],false⟩)/\(1<H.next)/\(H.get 2=some ⟨29,2,[[.own 3 xs.length,.nil]],false⟩)/\(2<H.next)/\(H.get 3=some ⟨3,1,xs.map cI,false⟩)/\(3<H.next)/\(i<=p.nodes.length)/\(xs=(p.nodes.take i).map (gN g))) (λi=>p.nodes.length - i) 0 ⟨([]),wg,wn,wn,wn,wn,wn,wn,wn,wn,wi,(by rfl)⟩ λI0 hI0 i e H hi0=>?_)
  obtain ⟨xs,E0,g0_0,n0_0,g1_0,n1_0,g2_0,n2_0,g3_0,n3_0,hi,hx⟩:=hi0
  have Y:=wa Y (wa E0 (wa g0_0 (wa (cD n0_0) (wa g1_0 (wa (cD n1_0) (wa g2_0 (wa (cD n2_0) (wa g3_0 (cD n3_0)))))))))
  refine dP (λh6=>?_) λh6=>?_
  .have hin':=hin _ (aC h6)
   have hk:p.nodes[i].toNat<g.nodes.length:=aD
   have hxl:xs.length=i:=by rw [hx];simp;omega
   have Y:=wa Y (wa h6 (wa (aA hk) @gN.eq_1))
   exact wo (h:=wx hI0 (i+1) ⟨(xs++[gN g p.nodes[i]]),wg,wn,wn,wn,wn,wn,wn,wn,wn,wj,(by rw [kH _ h6,<- hx])⟩)
  .have hX:xs=p.nodes.map (gN g):=by rw [hx,lK _ aD]
   refine wo (h:=tN (Ghosts.step (Ghosts.refl _) 2 0 1 122 3 _ _ (g2_0) rfl rfl rfl) (λk e H=>∃ j:Nat,∃ ys:List Edge,(e 2=.adr g.c/\e 3=.adr p.c/\e 4=.ptr 0 1 0 0/\e 5=.ptr 1 1 0 0/\e 8=.ptr 2 1 0 0/\e 41=dLI p.edges/\e 42=dI p.edges.length/\e 43=dI k)/\(H.get 0=some ⟨29,2,[[.nil,.nil]],false⟩)/\(0<H.next)/\(H.get 1=some ⟨36,2,[[.nil,.nil]],false⟩)/\(1<H.next)/\(H.get 2=some ⟨29,2,[[.own 3 xs.length,.own j ys.length]],false⟩)/\(2<H.next)/\(H.get 3=some ⟨3,1,xs.map cI,false⟩)/\(3<H.next)/\(H.get j=some ⟨122,3,ys.map Edge.c,false⟩)/\(j<H.next)/\(k<=p.edges.length)/\(ys=(p.edges.take k).map (gEd g p))/\(j≠0)/\(j≠1)/\(j≠2)/\(j≠3)) (λk=>p.edges.length - k) 0 ⟨H.next,([]),wg,wn,wn,wn,wn,wn,wn,wn,wn,wn,wn,wi,(by rfl),aD,aD,aD,aD⟩ λI2 hI2 k e H hi2=>?_)
   obtain ⟨j,ys,E2,g0_2,n0_2,g1_2,n1_2,g2_2,n2_2,g3_2,n3_2,gj_2,nj_2,hk,hy,j0,j1,j2,j3⟩:=hi2
   have Y:=wa Y (wa E2 (wa g0_2 (wa (cD n0_2) (wa g1_2 (wa (cD n1_2) (wa g2_2 (wa (cD n2_2) (wa g3_2 (wa (cD n3_2) (wa gj_2 (wa (cD nj_2) (wa j0 (wa j1 (wa j2 (wa j3 (wa j0.symm (wa j1.symm (wa j2.symm j3.symm))))))))))))))))))
   refine dP (λh11=>?_) λh11=>?_
   .have hie':=hie _ (aC h11)
    have hke:p.edges[k].toNat<g.edges.length:=aD
    have hyl:ys.length=k:=by rw [hy];simp;omega
    have Y:=wa Y (wa h11 (wa (aA hke) @gEd.eq_1))
    refine wo (h:=aB (tD p.nodes _ hs hl) wl ?_)
    refine wo (h:=aB (tD p.nodes _ hs hl) wl ?_)
    exact wo (h:=wx hI2 (k+1) ⟨j,(ys++[gEd g p p.edges[k]]),wg,wn,wn,wn,wn,wn,wn,wn,wn,wn,wn,wj,(by rw [kH _ h11,<- hy]),wj,wj,wj,wj⟩)
   .have hY:ys=p.edges.map (gEd g p):=by rw [hy,lK _ aD]
    refine wv (h:=aJ ((jG p.nodes hl).pure) wl ?_)
    refine wv (h:=aJ ((jG p.edges hle).pure) wl ?_)
    exact wv (h:=hQ _ _ (by simp [go_sem,Y,cY,Ae,h2,hX,hY]))
mutual
theorem i9 {p:Cond→Prop}(h:∀ c:Cond,(∀ k∈c.kids,p k)→p c):∀ c:Cond,p c
 | .mk k l m q=>h _ (Jk h l)
theorem Jk {p:Cond→Prop}(h:∀ c:Cond,(∀ k∈c.kids,p k)→p c):∀ l:List Cond,∀ k∈l,p k
 | []=>fun k hk=>absurd hk (by simp)
 | c :: l=>fun k hk=>by
  rcases aU.1 hk with h1|h1
  ·rw [h1];exact i9 h c
  ·exact Jk h l k h1
end
def bareB (c:Cond):Bool:=decide ((c.map.nodes.length:Int)+c.map.edges.length+c.pattern.graph.nodes.length+c.pattern.graph.edges.length+c.pattern.slots.length+c.pattern.tests.length=0)&&decide (c.pattern.vars=0)
structure Cond.short (c:Cond):Prop where
 m1:c.map.nodes.length<=1000000
 m2:c.map.edges.length<=1000000
 p1:c.pattern.graph.nodes.length<=1000000
 p2:c.pattern.graph.edges.length<=1000000
 p3:c.pattern.slots.length<=1000000
 p4:c.pattern.tests.length<=1000000
theorem GG (c:Cond)(hc:c.short):Pure Tryz.prog 430 [.agg c.c] (.bool (bareB c)):=by
 obtain ⟨h1,h2,h3,h4,h5,h6⟩:=hc
 refine Tz.pK ⟨λt=>t==3,λ_=>[]⟩ Tryz.func430 rfl (λQ hQ=>?_)
 have Y:=@Cond.c_eq
 have Y:=wa Y @bareB.eq_1
 exact wo (h:=hQ _ _ wy)
theorem Gf (xs:List Cond)(g:FuncId)(caps:List D)(p:Cond->Bool)(hc:D.clL caps=true)(hg:∀ x∈xs,Pure Tryz.prog g (.agg x.c :: caps) (.bool (p x))) :
  Pure Tryz.prog 455 [.list (xs.map Cond.c),.fn g caps] (dI (CS xs p)):=by
 refine aS (aI (cfg:=⟨λ_=>false,λ_=>[]⟩) Tz.mixed Tryz.func455 rfl rfl (aF rfl) (by kernel_rfl) ?_)
 simp [go_sem,seval,dI,dLI]
 intro hlen
 refine fS (ι:=Nat) (λi e H=>H=.emp/\i<=xs.length/\e 0=.list (xs.map Cond.c)/\e 1=.fn g caps/\e 7=dI xs.length/\e 8=dI i/\(∀ j x,j<i->xs[j]?=some x->p x=false)) (λi=>xs.length - i) 0 (by simp [go_sem,seval,dI,dLI]) ?_
 intro i e H ⟨hH,hi,h0,h1,h7,h8,hn⟩
 subst hH
 simp [go_sem,seval,h0,h1,h7,h8,dI,dLI]
 refine f9 (λhlt=>?_) (λhge=>?_)
 .have hgx:=hg xs[i] (aC hlt)
  simp [go_sem,seval,h0,h1,h7,h8,dI,dLI,hlt,Cond.c_eq] at hgx ⊢
  refine aB hgx (by simp [go_sem,hc]) ?_
  simp [go_sem,seval,h0,h1,h7,h8,dI,dLI]
  refine aP (λh=>?_) (λh=>?_)
  .simp [go_sem,seval,h0,h1,h7,h8,dI,dLI]
   rw [pI hn hlt h]
  .simp [go_sem,seval,h0,h1,h7,h8,dI,dLI]
   refine ⟨dE aD aD,i+1,aD,aD,aD,λj x hj hx=>?_⟩
   rcases bZ j i with hj'|hj'
   .exact hn j x hj' hx
   .have:j=i:=aD
    subst this
    rw [aA hlt] at hx
    cases hx;exact h
 .simp [go_sem,seval,h0,h1,h7,h8,dI,dLI]
  rw [pJ λj x hj=>hn j x aD]
theorem B0 (xs:List Cond)(g:FuncId)(caps:List D)(p:Cond->Bool)(hc:D.clL caps=true)(hl:D.cl (.list (xs.map Cond.c))=true)(hg:∀ x∈xs,Pure Tryz.prog g (.agg x.c :: caps) (.bool (p x))) :
  Pure Tryz.prog 431 [.list (xs.map Cond.c),.fn g caps] (.bool (xs.any p)):=by
 refine aS (aI (cfg:=⟨λ_=>false,λ_=>[]⟩) Tz.mixed Tryz.func431 rfl rfl (aF rfl) (by kernel_rfl) ?_)
 simp [go_sem,seval]
 refine aB (Gf xs g caps p hc hg) (by simp only [D.clL,hl,gM];simp [D.cl,hc]) ?_
 simp [go_sem,seval,dI,r3]
def qU (c:Cond):Bool :=
 if c.kind=1 then decide ((c.kids.length:Int)=0)&&bareB c
 else if c.kind=2 then decide ((c.kids.length:Int)=1)&&bareB c
 else if c.kind=3\/c.kind=4 then decide (1<=(c.kids.length:Int))&&bareB c
 else decide (c.kind=5)&&decide ((c.kids.length:Int)=1)
mutual
def KQ:Cond→Bool
 | .mk k l m p=>qU (.mk k l m p)&&SH l
def SH:List Cond→Bool
 | []=>true
 | c :: l=>KQ c&&SH l
end
theorem SF (l:List Cond):SH l=l.all KQ:=by
 induction l with
 | nil=>rfl
 | cons a l ih=>simp [SH,ih]
theorem tG (c:Cond):KQ c=(qU c&&c.kids.all KQ):=by cases c;simp [KQ,SF,Cond.kids]
mutual
def Cond.ok:Cond→Prop
 | .mk k l m p=>(Cond.mk k l m p).short∧Cond.oks l
def Cond.oks:List Cond→Prop
 | []=>True
 | c :: l=>c.ok∧Cond.oks l
end
theorem KJ (l:List Cond):Cond.oks l↔∀ c∈l,c.ok:=by
 induction l with
 | nil=>simp [Cond.oks]
 | cons a l ih=>simp [Cond.oks,ih]
theorem qH (c:Cond):c.ok↔c.short/\∀ k∈c.kids,k.ok:=by cases c;simp [Cond.ok,KJ,Cond.kids]
theorem wf1 (c:Cond)(h:Pure Tryz.prog 377 [.agg c.c] (.bool (KQ c))):Pure Tryz.prog 432 [.agg c.c] (.bool (!KQ c)):=by
 refine Tz.pK ⟨λ_=>false,λ_=>[]⟩ Tryz.func432 rfl (λQ hQ=>?_)
 have Y:=@Cond.c_eq
 refine wo (h:=aB ((by simpa [Cond.c_eq,go_sem] using h)) wl ?_)
 exact wo (h:=hQ _ _ wy)
theorem yP:∀ c:Cond,c.ok->Pure Tryz.prog 377 [.agg c.c] (.bool (KQ c)):=by
 refine i9 λc ih hc=>?_
 obtain ⟨hs,hk⟩:=(qH c).1 hc
 have hkids:=B0 c.kids 432 [] (λk=>!KQ k) rfl (by simp [go_sem]) (λk hm=>wf1 k (ih k hm (hk k hm)))
 have hbare:∀ k':Int,k'=c.kind->Pure Tryz.prog 430 [.agg [dI k',.list (c.kids.map Cond.c),dLI c.map.nodes,dLI c.map.edges,dLI c.pattern.graph.nodes,.list (c.pattern.graph.edges.map Edge.c),.list (c.pattern.slots.map Slot.c),dI c.pattern.vars,.list (c.pattern.tests.map Test.c)]] (.bool (bareB c)):=by
  intro k' hk'
  have:=GG c hs
  rwa [Cond.c_eq,<- hk'] at this
 have hall:(!(c.kids.any λk=>!KQ k))=c.kids.all KQ:=by simp [List.not_any_eq_all_not]
 refine Tz.pK ⟨λ_=>false,λ_=>[]⟩ Tryz.func377 rfl (λQ hQ=>?_)
 have Y:=@Cond.c_eq
 refine fA (λh4=>?_) λh4=>?_
 .have Y:=wa Y h4
  refine wo (h:=aG (λhg=>(hbare _ aD)) (λhg=>wl) ?_)
  refine wo (h:=aG (λhg=>hkids) (λhg=>wl) ?_)
  exact wo (h:=hQ _ _ (by simp [go_sem,tG,<- hall,qU,Y]))
 .have Y:=wa Y h4
  refine dP (λh6=>?_) λh6=>?_
  .have Y:=wa Y h6
   refine wo (h:=aG (λhg=>(hbare _ aD)) (λhg=>wl) ?_)
   refine wo (h:=aG (λhg=>hkids) (λhg=>wl) ?_)
   exact wo (h:=hQ _ _ (by simp [go_sem,tG,<- hall,qU,Y]))
  .have Y:=wa Y h6
   refine dP (λh8=>?_) λh8=>?_
   .have Y:=wa Y h8
    refine wo (h:=aG (λhg=>(hbare _ aD)) (λhg=>wl) ?_)
    refine wo (h:=aG (λhg=>hkids) (λhg=>wl) ?_)
    exact wo (h:=hQ _ _ (by simp [go_sem,tG,<- hall,qU,Y]))
   .have Y:=wa Y h8
    refine dP (λh9=>?_) λh9=>?_
    .have Y:=wa Y h9
     refine wo (h:=aG (λhg=>(hbare _ aD)) (λhg=>wl) ?_)
     refine wo (h:=aG (λhg=>hkids) (λhg=>wl) ?_)
     exact wo (h:=hQ _ _ (by simp [go_sem,tG,<- hall,qU,Y]))
    .have Y:=wa Y h9
     refine dP (λh11=>?_) λh11=>?_
     .have Y:=wa Y h11
      refine wo (h:=aG (λhg=>hkids) (λhg=>wl) ?_)
      exact wo (h:=hQ _ _ (by simp [go_sem,tG,<- hall,qU,Y]))
     .have Y:=wa Y h11
      refine wo (h:=aG (λhg=>hkids) (λhg=>wl) ?_)
      exact wo (h:=hQ _ _ (by simp [go_sem,tG,<- hall,qU,Y]))
mutual
def Cond.size:Cond→Nat
 | .mk _ l _ _=>1+Cond.sizes l
def Cond.sizes:List Cond→Nat
 | []=>0
 | c :: l=>c.size+Cond.sizes l
end
mutual
def Cond.dep:Cond→Nat
 | .mk k l _ _=>Cond.deps l+(if k=5 then 1 else 0)
def Cond.deps:List Cond→Nat
 | []=>0
 | c :: l=>max c.dep (Cond.deps l)
end
theorem Ff (l:List Cond)(c:Cond):Cond.sizes (l++[c])=Cond.sizes l+c.size:=by
 induction l with
 | nil=>simp [Cond.sizes]
 | cons a l ih=>simp [Cond.sizes,ih];omega
theorem IX (l:List Cond)(c:Cond):Cond.deps (l++[c])=max (Cond.deps l) c.dep:=by
 induction l with
 | nil=>simp [Cond.deps]
 | cons a l ih=>simp only [c7,Cond.deps,ih];omega
theorem vF (c:Cond):c.size=1+Cond.sizes c.kids:=by cases c;simp [Cond.size,Cond.kids]
theorem R1 (c:Cond):c.dep=Cond.deps c.kids+(if c.kind=5 then 1 else 0):=by cases c;rw [Cond.dep];rfl
@[go_sem] theorem Vn:Cond.sizes []=0:=by simp [Cond.sizes]
@[go_sem] theorem XD:Cond.deps []=0:=by simp [Cond.deps]
theorem A9 {l:List Cond}{c:Cond}(h:c∈l):c.size<=Cond.sizes l:=by
 induction l with
 | nil=>cases h
 | cons a l ih =>
  rcases aU.1 h with h1|h1
  .subst h1;simp only [Cond.sizes];omega
  .have:=ih h1;simp only [Cond.sizes];omega
theorem Fe (l:List Cond)(i:Nat):Cond.sizes (l.take i)<=Cond.sizes l:=by
 induction l generalizing i with
 | nil=>simp
 | cons a l ih=>cases i with
  | zero=>simp [Cond.sizes]
  | succ i=>have:=ih i;simp only [sH,Cond.sizes];omega
mutual
theorem Ov:∀ c:Cond,c.dep≤c.size
 | .mk k l m p=>by have:=y8 l;simp only [Cond.dep,Cond.size];split<;>omega
theorem y8:∀ l:List Cond,Cond.deps l≤Cond.sizes l
 | []=>by simp [Cond.deps]
 | c :: l=>by have:=Ov c;have:=y8 l;simp only [Cond.deps,Cond.sizes];omega
end
theorem Hz (a b:Nat):(if (a:Int)<(b:Int) then (b:Int) else (a:Int))=((max a b:Nat):Int):=by split<;>omega
theorem B6:∀ c:Cond,c.size<=1000000->Pure Tryz.prog 378 [.agg c.c] (.tup [dI c.size,dI c.dep]):=by
 refine i9 λc ih hc=>?_
 have hse:=vF c
 have hde:=R1 c
 have hle:=y8 c.kids
 refine Tz.pK ⟨λt=>t==7,λ_=>[]⟩ Tryz.func378 rfl (λQ hQ=>?_)
 try simp [go_sem,seval,Cond.c_eq]
 repeat first|intro _|refine ⟨eO,?_⟩
 obtain ⟨I0,hI0⟩:∃ I0:Nat->dM->AHeap->Prop,∀ (i:Nat) (e:dM) (H:AHeap),I0 i e H↔((e 1=.adr c.c)/\(e 11=.list (c.kids.map Cond.c))/\(e 12=dI c.kids.length)/\(e 4=dI ((1+Cond.sizes (c.kids.take i):Nat):Int))/\(e 5=dI (Cond.deps (c.kids.take i):Nat))/\(e 13=dI i)/\(i<=c.kids.length)):=⟨λi e H=>_,λ_ _ _=>Iff.rfl⟩
 refine oS I0 (λi=>c.kids.length - i) (0) ((hI0 _ _ _).2 ⟨?_,?_,?_,?_,?_,?_,(by first|assumption|omega|(simp [go_sem,Cond.c_eq];done)|(simp_all;done))⟩) ?_
 iterate 6 (first|omega|(simp [go_sem,seval,Cond.c_eq]<;>omega))
 intro i e H hi0
 obtain ⟨q1_0,q11_0,q12_0,q4_0,q5_0,q13_0,hi⟩:=(hI0 _ _ _).1 hi0
 have F0:=And.intro q1_0 (And.intro q11_0 (And.intro q12_0 q13_0))
 try simp [go_sem,seval,Cond.c_eq,F0,q4_0,q5_0]
 refine aP (λh3=>?_) (λh3=>?_)
 .try simp [go_sem] at h3
  have hsm:=A9 (aC h3)
  have hdm:=Ov c.kids[i]
  have hts:=aE h3
  have h1s:=Ff (c.kids.take i) c.kids[i]
  have h1d:=IX (c.kids.take i) c.kids[i]
  have hst:=Fe c.kids (i+1)
  have hS:Cond.sizes (c.kids.take (i+1))=Cond.sizes (c.kids.take i)+c.kids[i].size:=by rw [hts,h1s]
  have hD:Cond.deps (c.kids.take (i+1))=max (Cond.deps (c.kids.take i)) c.kids[i].dep:=by rw [hts,h1d]
  have hdt:=y8 (c.kids.take i)
  try simp [go_sem,seval,Cond.c_eq,F0,q4_0,q5_0,h3,hS,hD,Hz]
  repeat first|intro _|refine ⟨eO,?_⟩
  refine aB ((by have:=ih _ (aC h3) aD;rwa [Cond.c_eq] at this)) ((by first|rfl|(simp [go_sem,<- List.map_take,<- List.map_drop,Cond.c_eq,F0,q4_0,q5_0,h3,hS,hD,Hz];done))) ?_
  try simp [go_sem,seval,Cond.c_eq,F0,q4_0,q5_0,h3,hS,hD,Hz]
  repeat first|intro _|refine ⟨eO,?_⟩
  refine eB (i+1) aD ((hI0 _ _ _).2 ⟨?_,?_,?_,?_,?_,?_,(by first|assumption|omega|(simp [go_sem,Cond.c_eq,F0,q4_0,q5_0,h3,hS,hD,Hz];done)|(simp_all<;>omega))⟩)<;>first|omega|(simp [go_sem,seval,Cond.c_eq,F0,q4_0,q5_0,h3,hS,hD,Hz]<;>omega)
 .try simp [go_sem] at h3
  have hU:c.kids.take i=c.kids:=aH h3
  rw [hU] at q4_0 q5_0
  try simp [go_sem,seval,Cond.c_eq,F0,q4_0,q5_0]
  refine aP (λh8=>?_) (λh8=>?_)
  .try simp [go_sem] at h8
   try simp [go_sem,seval,Cond.c_eq,F0,q4_0,q5_0]
   repeat first|intro _|refine ⟨eO,?_⟩
   exact hQ _ _ (by first|(left;(simp [go_sem,hse,hde,h8]);done)|(right;(simp [go_sem,hse,hde,h8]);done))
  .try simp [go_sem] at h8
   try simp [go_sem,seval,Cond.c_eq,F0,q4_0,q5_0]
   exact hQ _ _ (by first|(left;(simp [go_sem,hse,hde,h8]);done)|(right;(simp [go_sem,hse,hde,h8]);done))
def rO (c:Cond):Int:=if KQ c=false then 1 else if 12<c.size\/3<c.dep then 3 else 0
theorem Ej (c:Cond)(hc:c.ok)(hs:c.size<=1000000):Pure Tryz.prog 317 [.agg c.c] (dI (rO c)):=by
 refine Tz.pK ⟨λ_=>false,λ_=>[]⟩ Tryz.func317 rfl (λQ hQ=>?_)
 have Y:=@Cond.c_eq
 refine wo (h:=aB ((by have:=yP c hc;rwa [Cond.c_eq] at this)) wl ?_)
 refine fA (λh1=>?_) λh1=>?_
 .exact wv (h:=hQ _ _ (by simp [go_sem,rO,h1]))
 .refine wv (h:=aB ((by have:=B6 c hs;rwa [Cond.c_eq] at this)) wl ?_)
  refine fA (λh4=>?_) λh4=>?_
  .exact wv (h:=hQ _ _ (by simp [go_sem,rO,h1];omega))
  .exact wv (h:=hQ _ _ (by simp [go_sem,rO,h1];omega))
def nP (t:Types)(q:Pattern)(outer:Int):Int :=
 if c5 t q≠9 then c5 t q
 else if ((List.range q.vars.toNat).all λ(v:Nat)=>decide ((v:Int)<outer)||jP q v)=true then 0 else 9
theorem DI {t:Types}{q:Pattern}{outer:Int}(h:c5 t q=9)(h0:0<=outer)(ho:∀ v:Int,outer<=v->v<q.vars->jP q v=true):nP t q outer=0:=by
 unfold nP
 rw [if_neg aD,if_pos]
 rw [cO]
 intro v hv
 simp at hv ⊢
 by_cases hlt:(v:Int)<outer
 .exact .inl hlt
 .exact .inr (ho v aD aD)
theorem DK {t:Types}{q:Pattern}{outer:Int}(h:c5 t q=9)(h0:0<=outer){v:Int}(h1:outer<=v)(h2:v<q.vars)(h3:jP q v=false):nP t q outer=9:=by
 unfold nP
 rw [if_neg aD,if_neg]
 intro ha
 rw [cO] at ha
 have:=ha v.toNat (by simp;omega)
 simp at this
 rw [(aD:max v 0=v),h3] at this
 simp at this;omega
theorem IU {f:Nat->Int}{m:Int}(h0:(0:Int)≠m)(h:∀ j,f j≠m):∀ n k,bT f k n≠m
 | 0,k=>h0
 | n+1,k=>by unfold bT;split;exact h k;exact IU h0 h n (k+1)
theorem AH {f:Nat->Int}{nm:Nat->ByteArray}{last:ByteArray × Int}{m:Int}(h0:last.2≠m)(h:∀ j,f j≠m):∀ n k,(eU f nm last k n).2≠m
 | 0,k=>h0
 | n+1,k=>by unfold eU;split;exact h k;exact AH h0 h n (k+1)
theorem IC:∀ (r l:List ByteArray),mX l r≠9
 | [],l=>by simp [mX]
 | s :: r,l=>by
  unfold mX
  split
  .decide
  .split
   .decide
   .exact IC r _
theorem Qw (l:List ByteArray):nM l≠9:=by unfold nM;split;decide;exact IC l []
theorem HP (x:Attr)(l:List Attr):dN x l≠9:=by
 have:=Qw x.names
 unfold dN
 repeat' split
 all_goals first|assumption|decide
theorem RC (t:Types)(i:Nat):g5 t i≠9:=by
 unfold g5
 split
 .decide
 .repeat' split
  all_goals first|decide|skip
  refine IU (by decide) (λj=>?_) _ _
  split
  .exact HP _ _
  .decide
theorem RY (t:Types)(i:Nat):jW t i≠9:=by
 unfold jW
 split
 .decide
 .repeat' split
  all_goals decide
theorem H5 (t:Types):(cZ t).2≠9:=by
 unfold cZ
 split
 .decide
 .split
  .decide
  .exact AH (AH (by decide) (RY t) _ _) (RC t) _ _
theorem AM (s:Slot)(v:Int):Pure Tryz.prog 433 [.agg s.c,.adr [dI v]] (.bool (decide (s.term.var=v))):=by
 refine Tz.pK ⟨λ_=>false,λ_=>[]⟩ Tryz.func433 rfl (λQ hQ=>?_)
 have Y:=trivial
 exact wv (h:=hQ _ _ wy)
theorem Gc (xs:List Slot)(g:FuncId)(caps:List D)(p:Slot->Bool)(hc:D.clL caps=true)(hg:∀ x∈xs,Pure Tryz.prog g (.agg x.c :: caps) (.bool (p x))) :
  Pure Tryz.prog 429 [.list (xs.map Slot.c),.fn g caps] (dI (CS xs p)):=by
 refine aS (aI (cfg:=⟨λ_=>false,λ_=>[]⟩) Tz.mixed Tryz.func429 rfl rfl (aF rfl) (by kernel_rfl) ?_)
 simp [go_sem,seval,dI,dLI]
 intro hlen
 refine fS (ι:=Nat) (λi e H=>H=.emp/\i<=xs.length/\e 0=.list (xs.map Slot.c)/\e 1=.fn g caps/\e 7=dI xs.length/\e 8=dI i/\(∀ j x,j<i->xs[j]?=some x->p x=false)) (λi=>xs.length - i) 0 (by simp [go_sem,seval,dI,dLI]) ?_
 intro i e H ⟨hH,hi,h0,h1,h7,h8,hn⟩
 subst hH
 simp [go_sem,seval,h0,h1,h7,h8,dI,dLI]
 refine f9 (λhlt=>?_) (λhge=>?_)
 .have hgx:=hg xs[i] (aC hlt)
  simp [go_sem,seval,h0,h1,h7,h8,dI,dLI,hlt,Slot.c] at hgx ⊢
  refine aB hgx (by simp [go_sem,hc]) ?_
  simp [go_sem,seval,h0,h1,h7,h8,dI,dLI]
  refine aP (λh=>?_) (λh=>?_)
  .simp [go_sem,seval,h0,h1,h7,h8,dI,dLI]
   rw [pI hn hlt h]
  .simp [go_sem,seval,h0,h1,h7,h8,dI,dLI]
   refine ⟨dE aD aD,i+1,aD,aD,aD,λj x hj hx=>?_⟩
   rcases bZ j i with hj'|hj'
   .exact hn j x hj' hx
   .have:j=i:=aD
    subst this
    rw [aA hlt] at hx
    cases hx;exact h
 .simp [go_sem,seval,h0,h1,h7,h8,dI,dLI]
  rw [pJ λj x hj=>hn j x aD]
theorem tB (xs:List Slot)(g:FuncId)(caps:List D)(p:Slot->Bool)(hc:D.clL caps=true)(hl:D.cl (.list (xs.map Slot.c))=true)(hg:∀ x∈xs,Pure Tryz.prog g (.agg x.c :: caps) (.bool (p x))) :
  Pure Tryz.prog 374 [.list (xs.map Slot.c),.fn g caps] (.bool (xs.any p)):=by
 refine aS (aI (cfg:=⟨λ_=>false,λ_=>[]⟩) Tz.mixed Tryz.func374 rfl rfl (aF rfl) (by kernel_rfl) ?_)
 simp [go_sem,seval]
 refine aB (Gc xs g caps p hc hg) (by simp only [D.clL,hl,gM];simp [D.cl,hc]) ?_
 simp [go_sem,seval,dI,r3]
theorem kG {t : Types} {q : Pattern} (h : c5 t q = 9 ∨ c5 t q = 0) : 0 ≤ q.vars ∧ q.vars ≤ 12 := by
  have hne := H5 t
  unfold c5 at h
  by_cases h1 : (cZ t).2 = 0
  · rw [if_neg (by omega)] at h
    by_cases h2 : graphF q.graph = 0
    · rw [if_neg (by omega)] at h
      split at h
      · omega
      · split at h
        · omega
        · rename_i h3; simp [inF] at h3; omega
    · rw [if_pos h2] at h
      have h3 : graphF q.graph ≠ 9 := by unfold graphF; repeat' split
                                         all_goals decide
      omega
  · rw [if_pos h1] at h
    omega
theorem B5 (t:Types)(ht:t.ok)(q:Pattern)(outer:Int)(h0:0<=outer):Pure Tryz.prog 379 [t.d,q.d,dI outer] (dI (nP t q outer)):=by
 refine Tz.pK ⟨λt=>t==8,λ_=>[]⟩ Tryz.func379 rfl (λQ hQ=>?_)
 have Y:=trivial
 refine wv (h:=aB (nI t ht q) wl ?_)
 refine dP (λh2=>?_) λh2=>?_
 .exact wv (h:=hQ _ _ (by simp [go_sem,nP,h2]))
 .have hv:=kG (.inl h2)
  refine wv (h:=bF (λv e H=>∃ id:Nat,(e 4=.adr q.c/\e 7=dI 9/\e 8=.ptr id 1 0 0)/\(H.get id=some ⟨3,1,[[dI (outer+v)]],false⟩)/\(id<H.next)/\(∀ u:Int,outer<=u->u<outer+v->jP q u=true)) (λv=>(q.vars - outer).toNat - v) 0 ⟨0,wg,wn,wn,(by intro u hu hv;omega)⟩ λI0 hI0 v e H hi0=>?_)
  obtain ⟨id,E0,gid_0,nid_0,ho⟩:=hi0
  have Y:=wa Y (wa E0 (wa gid_0 (cD nid_0)))
  refine dP (λh5=>?_) λh5=>?_
  .have hOv:(q.slots.any λs=>decide (s.term.var=outer+v))=jP q (outer+v):=rfl
   have Y:=wa Y (wa h5 hOv)
   refine wo (h:=tC ((tB q.slots 433 [.adr [dI (outer+v)]] (λs=>decide (s.term.var=outer+v)) (by simp [go_sem]) (by simp [go_sem]) (λs _=>AM s (outer+v)))) wr wl rfl ?_)
   refine fA (λh7=>?_) λh7=>?_
   .exact wv (h:=hQ _ _ (by rw [DK h2 h0 (v:=outer+v) aD h5 (bW h7)];simp [go_sem]))
   .have ho':∀ u:Int,outer<=u->u<outer+((v+1:Nat):Int)->jP q u=true:=λu hu hv=>by
     by_cases hc:u<outer+v
     .exact ho u hu hc
     .rw [(aD:u=outer+v)];simpa using h7
    exact wo (h:=wx hI0 (v+1) ⟨H.next,wg,wn,wn,(by exact ho')⟩)
  .exact wv (h:=hQ _ _ (by rw [DI h2 h0 λu hu hv=>ho u hu aD];simp [go_sem]))
def jQ (t:Types)(p:Pattern)(m:Part)(q:Pattern):Int :=
 if q.vars<p.vars then 20
 else if nP t q p.vars≠0 then nP t q p.vars
 else if eJ p.graph q.graph m≠0 then eJ p.graph q.graph m
 else if CQ p.graph q.graph m=false then 1 else 0
mutual
def qD (t:Types):Pattern→Cond→Int
 | p,.mk k l m q=>if (if k=5 then jQ t p m q else 0)≠0 then (if k=5 then jQ t p m q else 0) else RM t (if k=5 then q else p) l
def RM (t:Types):Pattern→List Cond→Int
 | _,[]=>0
 | p,c :: l=>if qD t p c≠0 then qD t p c else RM t p l
end
theorem S9 (t:Types)(p:Pattern)(l:List Cond):RM t p l=gK (qD t p) l:=by
 induction l with
 | nil=>simp [RM,gK]
 | cons a l ih=>simp only [RM,gK,ih]
theorem EF (t:Types)(p:Pattern)(c:Cond):qD t p c=if (if c.kind=5 then jQ t p c.map c.pattern else 0)≠0 then (if c.kind=5 then jQ t p c.map c.pattern else 0) else gK (qD t (if c.kind=5 then c.pattern else p)) c.kids:=by
 cases c;simp only [qD,S9];rfl
theorem DJ {t:Types}{q:Pattern}{o:Int}(h:nP t q o=0):0<=q.vars/\q.vars<=12:=by
 unfold nP at h
 split at h
 .exact kG (.inr h)
 .rename_i h1;exact kG (t:=t) (.inl aD)
theorem CZ (t:Types)(ht:t.ok):∀ (c:Cond) (p:Pattern),0<=p.vars->p.vars<=12->Pure Tryz.prog 318 [t.d,p.d,.agg c.c] (dI (qD t p c)):=by
 refine i9 λc ih p hp0 hp1=>?_
 have hF:=EF t p c
 refine Tz.pK ⟨λt=>t==4||t==7||t==11,λ_=>[]⟩ Tryz.func318 rfl (λQ hQ=>?_)
 have Y:=@Cond.c_eq
 refine dP (λh1=>?_) λh1=>?_
 .rw [if_pos h1,if_pos h1] at hF
  refine dP (λh3=>?_) λh3=>?_
  .exact wv (h:=hQ _ _ (by simp [go_sem,hF,jQ,h3]))
  .refine wv (h:=aB (B5 t ht c.pattern p.vars hp0) wl ?_)
   refine dP (λh6=>?_) λh6=>?_
   .exact wv (h:=hQ _ _ (by simp [go_sem,hF,jQ,h6];omega))
   .refine wv (h:=aB (oR p.graph c.pattern.graph c.map) wl ?_)
    refine dP (λh9=>?_) λh9=>?_
    .exact wv (h:=hQ _ _ (by simp [go_sem,hF,jQ,h6,h9];omega))
    .have hm:=nO h9
     have hga:=bR hm.1
     refine wv (h:=?_)
     repeat first|intro _|refine ⟨eO,?_⟩
     refine aB (rW p.graph c.pattern.graph c.map aD aD) wl ?_
     refine wv (h:=?_)
     repeat first|intro _|refine ⟨eO,?_⟩
     refine wq (λh11=>?_) λh11=>?_
     .exact wv (h:=hQ _ _ (by simp [go_sem,hF,jQ,h6,h9,h11];omega))
     .have hE0:jQ t p c.map c.pattern=0:=by simp [jQ,h6,h9,h11];omega
      rw [hE0,if_neg aD] at hF
      obtain ⟨w,hw⟩:=cF (c.pattern)
      have hv:=DJ h6
      have hw0:0<=w.vars:=by rw [hw];exact hv.1
      have hw1:w.vars<=12:=by rw [hw];exact hv.2
      have hF':qD t p c=gK (qD t w) c.kids:=by rw [hF,hw]
      refine wv (h:=?_)
      repeat first|intro _|refine ⟨eO,?_⟩
      refine bF (λi e H=>(e 3=.adr t.c/\e 5=.adr c.c/\e 51=.list (c.kids.map Cond.c)/\e 52=dI c.kids.length/\e 4=.ptr 0 1 0 0/\e 53=dI i)/\(H.get 0=some ⟨33,5,[w.c],false⟩)/\(0<H.next)/\(i<=c.kids.length)/\(gK (qD t w) (c.kids.drop i)=qD t p c)) (λi=>c.kids.length - i) 0 ⟨wg,(by simp [go_sem,hw]),wn,wi,(by exact hF'.symm)⟩ λI0 hI0 i e H hi0=>?_
      obtain ⟨E0,g0_0,n0_0,hi,hL⟩:=hi0
      have Y:=wa Y (wa E0 (wa g0_0 (cD n0_0)))
      refine dP (λh15=>?_) λh15=>?_
      .have hst:=hL
       rw [kI _ h15] at hst
       have Y:=wa Y h15
       refine wv (h:=?_)
       repeat first|intro _|refine ⟨eO,?_⟩
       refine aB ((by have:=ih _ (aC h15) w hw0 hw1;rwa [Cond.c_eq] at this)) wl ?_
       refine wv (h:=?_)
       repeat first|intro _|refine ⟨eO,?_⟩
       refine wq (λh18=>?_) λh18=>?_
       .rw [if_pos aD] at hst
        exact wv (h:=hQ _ _ (by simp [go_sem,hst]))
       .rw [if_neg aD] at hst
        refine wv (h:=?_)
        repeat first|intro _|refine ⟨eO,?_⟩
        exact wx hI0 (i+1) ⟨wg,(by simp [go_sem,Y]),wn,wj,(by exact hst)⟩
      .exact wv (h:=hQ _ _ (by rw [<- hL,lS _ aD];simp [go_sem]))
 .rw [if_neg h1,if_neg aD,if_neg h1] at hF
  obtain ⟨w,hw⟩:=cF (p)
  have hw0:0<=w.vars:=by rw [hw];exact hp0
  have hw1:w.vars<=12:=by rw [hw];exact hp1
  have hF':qD t p c=gK (qD t w) c.kids:=by rw [hF,hw]
  refine wv (h:=?_)
  repeat first|intro _|refine ⟨eO,?_⟩
  refine bF (λi e H=>(e 3=.adr t.c/\e 5=.adr c.c/\e 51=.list (c.kids.map Cond.c)/\e 52=dI c.kids.length/\e 4=.ptr 0 1 0 0/\e 53=dI i)/\(H.get 0=some ⟨33,5,[w.c],false⟩)/\(0<H.next)/\(i<=c.kids.length)/\(gK (qD t w) (c.kids.drop i)=qD t p c)) (λi=>c.kids.length - i) 0 ⟨wg,(by simp [go_sem,hw]),wn,wi,(by exact hF'.symm)⟩ λI0 hI0 i e H hi0=>?_
  obtain ⟨E0,g0_0,n0_0,hi,hL⟩:=hi0
  have Y:=wa Y (wa E0 (wa g0_0 (cD n0_0)))
  refine dP (λh15=>?_) λh15=>?_
  .have hst:=hL
   rw [kI _ h15] at hst
   have Y:=wa Y h15
   refine wv (h:=?_)
   repeat first|intro _|refine ⟨eO,?_⟩
   refine aB ((by have:=ih _ (aC h15) w hw0 hw1;rwa [Cond.c_eq] at this)) wl ?_
   refine wv (h:=?_)
   repeat first|intro _|refine ⟨eO,?_⟩
   refine wq (λh18=>?_) λh18=>?_
   .rw [if_pos aD] at hst
    exact wv (h:=hQ _ _ (by simp [go_sem,hst]))
   .rw [if_neg aD] at hst
    refine wv (h:=?_)
    repeat first|intro _|refine ⟨eO,?_⟩
    exact wx hI0 (i+1) ⟨wg,(by simp [go_sem,Y]),wn,wj,(by exact hst)⟩
  .exact wv (h:=hQ _ _ (by rw [<- hL,lS _ aD];simp [go_sem]))
def condF (t:Types)(p:Pattern)(c:Cond):Int :=
 if c5 t p≠0 then c5 t p else if rO c≠0 then rO c else qD t p c
theorem wL (t:Types)(ht:t.ok)(p:Pattern)(c:Cond)(hc:c.ok)(hs:c.size<=1000000):Pure Tryz.prog 226 [t.d,p.d,.agg c.c] (dI (condF t p c)):=by
 refine Tz.pK ⟨λ_=>false,λ_=>[]⟩ Tryz.func226 rfl (λQ hQ=>?_)
 have Y:=@Cond.c_eq
 refine wv (h:=aB (nI t ht p) wl ?_)
 refine dP (λh2=>?_) λh2=>?_
 .have Y:=wa Y (wa h2 @condF.eq_1)
  exact wv (h:=hQ _ _ wy)
 .have hv:=kG (.inr h2)
  refine wv (h:=aB ((by have:=Ej c hc hs;rwa [Cond.c_eq] at this)) wl ?_)
  refine dP (λh5=>?_) λh5=>?_
  .have Y:=wa Y (wa h2 (wa h5 @condF.eq_1))
   exact wv (h:=hQ _ _ wy)
  .refine wv (h:=aB ((by have:=CZ t ht c p hv.1 hv.2;rwa [Cond.c_eq] at this)) wl ?_)
   have Y:=wa Y (wa h2 (wa h5 @condF.eq_1))
   exact wv (h:=hQ _ _ wy)
attribute [go_sem] Rule.c Rule.d
@[go_sem] theorem YI (o:Option Attr)(a0 a1 a2 a3:D):((Option.map Attr.c o).getD [a0,a1,a2,a3]).length=4:=by cases o<;>rfl
@[go_sem] theorem YG (o:Option NodeTy)(a0 a1 a2 a3:D):((Option.map NodeTy.c o).getD [a0,a1,a2,a3]).length=4:=by cases o<;>rfl
@[go_sem] theorem VR (o:Option EdgeTy)(a0 a1 a2 a3 a4 a5 a6:D):((Option.map EdgeTy.c o).getD [a0,a1,a2,a3,a4,a5,a6]).length=7:=by cases o<;>rfl
@[go_sem] theorem Xs (o:Option Edge)(a0 a1 a2:D):((Option.map Edge.c o).getD [a0,a1,a2]).length=3:=by cases o<;>rfl
@[go_sem] theorem YE (o:Option Slot)(a0 a1 a2 a3:D):((Option.map Slot.c o).getD [a0,a1,a2,a3]).length=4:=by cases o<;>rfl
@[go_sem] theorem YD (o:Option Test)(a0 a1 a2 a3 a4:D):((Option.map Test.c o).getD [a0,a1,a2,a3,a4]).length=5:=by cases o<;>rfl
@[go_sem] theorem Xr (o:Option Stage)(a0 a1:D):((Option.map Stage.c o).getD [a0,a1]).length=2:=by cases o<;>rfl
@[go_sem] theorem Z8 (o:Option Int)(a0:D):((Option.map cI o).getD [a0]).length=1:=by cases o<;>rfl
@[go_sem] theorem Z6 (o:Option ByteArray)(a0:D):((Option.map cS o).getD [a0]).length=1:=by cases o<;>rfl
@[go_sem] theorem YH (o:Option Bool)(a0:D):((Option.map cB o).getD [a0]).length=1:=by cases o<;>rfl
theorem Lj (t:Types)(a:Int):Pure Tryz.prog 372 [dI a,.adr t.c] (.bool (decide ((t.nodes.length:Int)<=a))):=by
 refine Tz.pK ⟨λ_=>false,λ_=>[]⟩ Tryz.func372 rfl (λQ hQ=>?_)
 have Y:=trivial
 exact wo (h:=hQ _ _ wy)
theorem Li (t:Types)(x:Edge):Pure Tryz.prog 373 [.agg x.c,.adr t.c] (.bool (decide ((t.edges.length:Int)<=x.type))):=by
 refine Tz.pK ⟨λ_=>false,λ_=>[]⟩ Tryz.func373 rfl (λQ hQ=>?_)
 have Y:=trivial
 exact wo (h:=hQ _ _ wy)
theorem NE (t:Types)(g:Graph):Pure Tryz.prog 312 [t.d,g.d] (.bool (g7 t g)):=by
 have h1:=gC g.nodes 372 [.adr t.c] (λa=>decide ((t.nodes.length:Int)<=a)) (by simp [go_sem]) (by simp [go_sem]) (λa _=>Lj t a)
 have h2:=lM g.edges 373 [.adr t.c] (λx=>decide ((t.edges.length:Int)<=x.type)) (by simp [go_sem]) (by simp [go_sem]) (λx _=>Li t x)
 have he:g7 t g=((!(g.nodes.any λn=>decide ((t.nodes.length:Int)<=n)))&&!(g.edges.any λx=>decide ((t.edges.length:Int)<=x.type))):=rfl
 generalize (g.nodes.any λn=>decide ((t.nodes.length:Int)<=n))=u at *
 generalize (g.edges.any λx=>decide ((t.edges.length:Int)<=x.type))=v at *
 rw [he]
 refine Tz.pK ⟨λ_=>false,λ_=>[]⟩ Tryz.func312 rfl (λQ hQ=>?_)
 have Y:=trivial
 refine wo (h:=aB (h1) wl ?_)
 refine wo (h:=aG (λhg=>h2) (λhg=>wl) ?_)
 exact wo (h:=hQ _ _ wy)
def sameSlot (x y:Slot):Bool:=decide (y.node=x.node)&&decide (y.attr=x.attr)
theorem NF (x y:Slot):Pure Tryz.prog 375 [.agg y.c,.adr x.c] (.bool (sameSlot x y)):=by
 refine Tz.pK ⟨λ_=>false,λ_=>[]⟩ Tryz.func375 rfl (λQ hQ=>?_)
 have Y:=trivial
 have Y:=wa Y @sameSlot.eq_1
 exact wo (h:=hQ _ _ wy)
def vE (t:Types)(p:Pattern)(i:Nat):Int:=match p.slots[i]? with
 | some s=>if gJ t p s≠0 then 6 else if ((p.slots.take i).any (sameSlot s))=true then 5 else 0
 | none=>0
theorem Cx {t:Types}{p:Pattern}{i:Nat}(h:i<p.slots.length):vE t p i=if gJ t p p.slots[i]≠0 then 6 else if ((p.slots.take i).any (sameSlot p.slots[i]))=true then 5 else 0:=by
 unfold vE;rw [aA h]
theorem PZ (t:Types)(ht:t.ok)(r:Rule)(hr:r.right.graph.nodes.length<=1000)(i:Nat)(hi:i<r.right.slots.length):Pure Tryz.prog 313 [t.d,r.d,dI i] (dI (vE t r.right i)):=by
 have hS:=Cx (t:=t) hi
 have h8:=pR ht (r.right.kind r.right.slots[i].node)
 have hdup:=tB (r.right.slots.take i) 375 [.adr r.right.slots[i].c] (sameSlot r.right.slots[i]) (by simp [go_sem]) (by simp only [D.cl];exact Fa _) (λy _=>NF r.right.slots[i] y)
 refine Tz.pK ⟨λt=>t==7||t==10,λ_=>[]⟩ Tryz.func313 rfl (λQ hQ=>?_)
 have Y:=wa (aA hi) hi
 refine fA (λh2=>?_) λh2=>?_
 .have hE:gJ t r.right r.right.slots[i]≠0:=by
   unfold gJ;rw [if_neg];decide;intro h;simp [lJ] at h;omega
  rw [if_pos hE] at hS
  exact wv (h:=hQ _ _ (by simp [go_sem,hS]))
 .have hn:r.right.slots[i].node.toNat<r.right.graph.nodes.length:=aD
  have hk:r.right.kind r.right.slots[i].node=r.right.graph.nodes[r.right.slots[i].node.toNat]:=by simp [Pattern.kind,hn]
  rw [hk] at h8
  have Y:=wa Y (wa (aA hn) hk)
  refine wo (h:=aJ (nS t ht r.right.graph.nodes[r.right.slots[i].node.toNat]) wl ?_)
  refine fA (λh6=>?_) λh6=>?_
  .have hE:gJ t r.right r.right.slots[i]≠0:=by
    unfold gJ;rw [if_neg];decide;intro h;simp [lJ,inF,hk] at h;omega
   rw [if_pos hE] at hS
   exact wv (h:=hQ _ _ (by simp [go_sem,hS]))
  .have hE:gJ t r.right r.right.slots[i]=0:=by
    unfold gJ;rw [if_pos];simp [lJ,inF,hk];omega
   rw [if_neg aD] at hS
   have hsl:(i:Int)<=r.right.slots.length:=aD
   refine wo (h:=tC (hdup) wr wl rfl ?_)
   refine fA (λh8=>?_) λh8=>?_
   .exact wv (h:=hQ _ _ (by rw [hS,if_pos (by rw [aX];exact h8)];simp [go_sem]))
   .exact wv (h:=hQ _ _ (by rw [hS,if_neg (by rw [aX];rintro ⟨x,hx,hs⟩;have:=h8 x hx;rw [this] at hs;cases hs)];simp [go_sem]))
end Go.Abs
end
