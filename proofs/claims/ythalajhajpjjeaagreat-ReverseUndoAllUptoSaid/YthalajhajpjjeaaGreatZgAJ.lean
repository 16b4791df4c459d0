/- Layer 6: morphisms. · Layers 6 (the reference) and 7: morphi -/
import Derived.Test.YthalajhajpjjeaaGreatZgAF
import Derived.Test.YthalajhajpjjeaaGreatZgAI
import Derived.Test.YthalajhajpjjeaaGreatZgAA
set_option linter.unusedVariables false
set_option linter.unusedSimpArgs false
section
set_option maxRecDepth 100000
set_option maxHeartbeats 4000000
open Go Go.Proofs
namespace Go.Abs
theorem Ix (xs:List Int):(j5 xs).Pairwise (·<=·):=by
 have:=List.pairwise_mergeSort (le:=λ(x y:Int)=>decide (x<=y)) (λa b c e d=>by simp at *;omega) (λa b=>by simp;omega) xs
 exact this.imp λh=>by simpa using h
theorem y5 (xs:List Int):imagesN xs=xs.length↔xs.Nodup:=by
 have f:(j5 xs).Perm xs:=List.mergeSort_perm xs _
 rw [<- f.nodup_iff,<- kO xs]
 unfold imagesN Lib.compact Lib.compactUpTo
 rw [aV]
 have b:=dH.1 (Ix xs)
 generalize j5 xs=s at *
 have d:(List.filter (Lib.keeps s.toArray) (List.range s.length)).length=s.length↔∀ j,j<s.length->Lib.keeps s.toArray j=true:=by
  have:=List.length_filter_eq_length_iff (p:=Lib.keeps s.toArray) (l:=List.range s.length)
  rw [List.length_range] at this
  rw [this];simp
 rw [d]
 have e:∀ j (a:j<s.length),Lib.keeps s.toArray j=true↔(j=0\/s[j]≠s[j - 1]' aD):=λj a=>by
  simp only [Lib.keeps,decide_eq_true_eq]
  rw [getElem!_pos _ j (bX a),getElem!_pos _ (j - 1) (by simp;omega)]
  simp
 constructor
 .intro h
  rw [q9,dH]
  intro i j k a g
  rcases (e j a).1 (h j a) with h0|h0
  .omega
  .have h1:=b (j - 1) j aD a aD
   by_cases c:i=j - 1
   .subst c;omega
   .have h2:=b i (j - 1) k aD aD
    omega
 .intro h j a
  rw [e j a]
  by_cases h0:j=0
  .exact .inl h0
  .right
   intro m
   have:=(mF h).1 m
   omega
def cF:Edge:=⟨0,0,0⟩
def lJ (a b:Graph)(m:Part)(i:Nat):Int :=
 if m.nodes[i]?.getD 0<0\/(b.nodes.length:Int)<=m.nodes[i]?.getD 0 then 6
 else if b.nodes[(m.nodes[i]?.getD 0).toNat]?.getD 0≠a.nodes[i]?.getD 0 then 13 else 0
def iP (a b:Graph)(m:Part)(i:Nat):Int :=
 if m.edges[i]?.getD 0<0\/(b.edges.length:Int)<=m.edges[i]?.getD 0 then 6
 else if (a.edges[i]?.getD cF).type≠(b.edges[(m.edges[i]?.getD 0).toNat]?.getD cF).type then 13
 else if m.nodes[(a.edges[i]?.getD cF).from_.toNat]?.getD 0≠(b.edges[(m.edges[i]?.getD 0).toNat]?.getD cF).from_\/m.nodes[(a.edges[i]?.getD cF).to_.toNat]?.getD 0≠(b.edges[(m.edges[i]?.getD 0).toNat]?.getD cF).to_ then 11 else 0
def eV (a b:Graph)(m:Part):Int :=
 if graphF a≠0 then graphF a
 else if graphF b≠0 then graphF b
 else if m.nodes.length≠a.nodes.length\/m.edges.length≠a.edges.length then 20
 else if bQ (lJ a b m) 0 a.nodes.length≠0 then bQ (lJ a b m) 0 a.nodes.length
 else bQ (iP a b m) 0 a.edges.length
theorem pA (a b:Graph)(m:Part):Pure Tryz.prog 315 [a.d,b.d,m.d] (dI (eV a b m)):=by
 refine Tz.pK ⟨λt=>t==13||t==14,λr=>match r with|22=>[(0,10),(1,10),(3,10),(4,10),(5,10),(6,10),(8,10),(9,10),(0,11),(1,11),(3,11),(4,11),(5,11),(6,11),(8,11),(9,11),(10,11),(5,12),(6,12),(8,12),(9,12)]|_=>[]⟩ Tryz.func315 rfl (λQ hQ=>?_)
 have Y:=trivial
 refine wv (h:=aB (mO a) wl ?_)
 refine dP (λh2=>?_) λh2=>?_
 .exact wv (h:=hQ _ _ (.inl (by simp [go_sem,eV,h2])))
 .refine wv (h:=aB (mO b) wl ?_)
  refine dP (λh5=>?_) λh5=>?_
  .exact wv (h:=hQ _ _ (.inl (by simp [go_sem,eV,h2,h5])))
  .refine fA (λh7=>?_) λh7=>?_
   .exact wv (h:=hQ _ _ (.inl (by simp [go_sem,eV,h2,h5,(aD:m.nodes.length≠a.nodes.length\/m.edges.length≠a.edges.length)])))
   .have hM:eV a b m=(if bQ (lJ a b m) 0 a.nodes.length≠0 then bQ (lJ a b m) 0 a.nodes.length else bQ (iP a b m) 0 a.edges.length):=by
     unfold eV;rw [if_neg (by simp [h2]),if_neg (by simp [h5]),if_neg aD]
    have hga:=bS h2
    have hgb:=bS h5
    have hia:=(eK h2).2
    refine wo (h:=bD (λi e H=>(e 3=.adr a.c/\e 4=.adr b.c/\e 5=.adr m.c/\e 42=dLI m.nodes/\e 43=dI m.nodes.length/\e 44=dI i)/\(i<=m.nodes.length)/\(bQ (lJ a b m) i (a.nodes.length - i)=bQ (lJ a b m) 0 a.nodes.length)) (λi=>m.nodes.length - i) 0 ⟨wg,wi,(by rfl)⟩ λI0 hI0 i e H hi0=>?_)
    obtain ⟨E0,hi,hF⟩:=hi0
    have Y:=wa Y E0
    refine dP (λh10=>?_) λh10=>?_
    .have hn:i<a.nodes.length:=aD
     have hst:=eI (lJ a b m) hn
     rw [hF] at hst
     have hNE:lJ a b m i=(if m.nodes[i]<0\/(b.nodes.length:Int)<=m.nodes[i] then 6 else if b.nodes[m.nodes[i].toNat]?.getD 0≠a.nodes[i] then 13 else 0):=by simp only [lJ,aA h10,aA hn,Option.getD_some]
     have Y:=wa Y (wa h10 hn)
     refine fA (λh12=>?_) λh12=>?_
     .rw [if_pos aD] at hNE
      rw [hNE,if_pos aD] at hst
      exact wv (h:=hQ _ _ (.inl (by simp [go_sem,hM,hst])))
     .have hkb:m.nodes[i].toNat<b.nodes.length:=aD
      rw [if_neg aD,aA hkb,Option.getD_some] at hNE
      have Y:=wa Y (aA hkb)
      refine fA (λh14=>?_) λh14=>?_
      .rw [if_pos h14] at hNE
       rw [hNE,if_pos aD] at hst
       exact wv (h:=hQ _ _ (.inl (by simp [go_sem,hM,hst])))
      .rw [if_neg (bX h14)] at hNE
       rw [hNE,if_neg aD] at hst
       exact wo (h:=wx hI0 (i+1) ⟨wg,wj,(by exact hst.symm)⟩)
    .have hN0:bQ (lJ a b m) 0 a.nodes.length=0:=by rw [<- hF,(aD:a.nodes.length - i=0)];rfl
     rw [hN0,if_neg aD] at hM
     refine wo (h:=bD (λk e H=>(e 3=.adr a.c/\e 4=.adr b.c/\e 5=.adr m.c/\e 71=dLI m.edges/\e 72=dI m.edges.length/\e 73=dI k)/\(k<=m.edges.length)/\(bQ (iP a b m) k (a.edges.length - k)=eV a b m)) (λk=>m.edges.length - k) 0 ⟨wg,wi,(by exact hM.symm)⟩ λI2 hI2 k e H hi2=>?_)
     obtain ⟨E2,hk,hE⟩:=hi2
     have Y:=wa Y E2
     refine dP (λh18=>?_) λh18=>?_
     .have hn:k<a.edges.length:=aD
      have hst:=eI (iP a b m) hn
      rw [hE] at hst
      have hx:=hia _ (aC hn)
      have hxf:a.edges[k].from_.toNat<m.nodes.length:=aD
      have hxt:a.edges[k].to_.toNat<m.nodes.length:=aD
      have hEE:iP a b m k=(if m.edges[k]<0\/(b.edges.length:Int)<=m.edges[k] then 6 else if a.edges[k].type≠(b.edges[m.edges[k].toNat]?.getD cF).type then 13 else if m.nodes[a.edges[k].from_.toNat]≠(b.edges[m.edges[k].toNat]?.getD cF).from_\/m.nodes[a.edges[k].to_.toNat]≠(b.edges[m.edges[k].toNat]?.getD cF).to_ then 11 else 0):=by
       simp only [iP,aA h18,aA hn,Option.getD_some,aA hxf,aA hxt]
      have Y:=wa Y (wa h18 (wa hn (wa (aA hxf) (aA hxt))))
      refine fA (λh20=>?_) λh20=>?_
      .rw [if_pos aD] at hEE
       rw [hEE,if_pos aD] at hst
       exact wv (h:=hQ _ _ (.inl (by simp [go_sem,<- hst])))
      .have hkb:m.edges[k].toNat<b.edges.length:=aD
       rw [if_neg aD,aA hkb,Option.getD_some] at hEE
       have Y:=wa Y (aA hkb)
       refine fA (λh23=>?_) λh23=>?_
       .rw [if_pos h23] at hEE
        rw [hEE,if_pos aD] at hst
        exact wv (h:=hQ _ _ (.inl (by simp [go_sem,<- hst])))
       .rw [if_neg (bX h23)] at hEE
        refine fA (λh25=>?_) λh25=>?_
        .rw [if_pos aD] at hEE
         rw [hEE,if_pos aD] at hst
         exact wv (h:=hQ _ _ (.inl (by simp [go_sem,<- hst])))
        .rw [if_neg aD] at hEE
         rw [hEE,if_neg aD] at hst
         exact wo (h:=wx hI2 (k+1) ⟨wg,wj,(by exact hst.symm)⟩)
     .exact wv (h:=hQ _ _ (.inl (by rw [<- hE,(aD:a.edges.length - k=0)];rfl)))
def Gy (a b:Graph)(m:Part):Bool:=decide (eV a b m=0)&&(decide m.nodes.Nodup&&decide m.edges.Nodup)
theorem n4 {a b:Graph}{m:Part}(h:eV a b m=0):graphF a=0/\graphF b=0/\m.nodes.length=a.nodes.length/\m.edges.length=a.edges.length:=by
 unfold eV at h
 split at h
 .rename_i h1;exact absurd h h1
 .rename_i h1
  split at h
  .rename_i h2;exact absurd h h2
  .rename_i h2
   split at h
   .cases h
   .omega
theorem Jf (xs:List Int):((imagesN xs:Int)==(xs.length:Int))=decide xs.Nodup:=by
 rw [aR]
 simp only [beq_iff_eq,decide_eq_true_eq]
 rw [<- y5]
 omega
theorem sH (a b:Graph)(m:Part)(h1:m.nodes.length<=1000000)(h2:m.edges.length<=1000000):Pure Tryz.prog 316 [a.d,b.d,m.d] (.bool (Gy a b m)):=by
 refine Tz.pK ⟨λ_=>false,λ_=>[]⟩ Tryz.func316 rfl (λQ hQ=>?_)
 have Y:=@Jf
 refine wo (h:=aI (pA a b m) wl ?_)
 refine wo (h:=dL (λhg=>w4 m.nodes h1) (λhg=>wl) ?_)
 refine wo (h:=dL (λhg=>w4 m.edges h2) (λhg=>wl) ?_)
 exact wo (h:=hQ _ _ (by simp [go_sem,Gy,Jf,lO]))
theorem tK (a b:Graph)(m:Part):Pure Tryz.prog 188 [a.d,b.d,m.d] (dI (eV a b m)):=by
 refine Tz.pK ⟨λt=>t==11||t==12,λr=>match r with|21=>[(0,14),(1,14),(3,14),(4,14),(5,14),(6,14),(7,14),(8,14),(10,14),(11,14),(12,14),(13,14),(0,15),(1,15),(3,15),(4,15),(5,15),(6,15),(7,15),(8,15),(10,15),(11,15),(12,15),(13,15),(14,15),(5,16),(6,16),(7,16),(8,16),(10,16),(11,16),(12,16),(13,16)]|_=>[]⟩ Tryz.func188 rfl (λQ hQ=>?_)
 have Y:=trivial
 refine wv (h:=?_)
 refine aB (lP a) wl ?_
 refine wv (h:=?_)
 refine wq (λh2=>?_) λh2=>?_
 .refine wv (h:=?_)
  exact hQ _ _ (.inl (by simp [go_sem,eV,h2]))
 .refine wv (h:=?_)
  refine aB (lP b) wl ?_
  refine wv (h:=?_)
  refine wq (λh5=>?_) λh5=>?_
  .refine wv (h:=?_)
   exact hQ _ _ (.inl (by simp [go_sem,eV,h2,h5]))
  .refine wv (h:=?_)
   repeat first|intro _|refine ⟨eO,?_⟩
   refine wq (λh7=>?_) λh7=>?_
   .refine wv (h:=?_)
    exact hQ _ _ (.inl (by simp [go_sem,eV,h2,h5,(aD:m.nodes.length≠a.nodes.length\/m.edges.length≠a.edges.length)]))
   .have hM:eV a b m=(if bQ (lJ a b m) 0 a.nodes.length≠0 then bQ (lJ a b m) 0 a.nodes.length else bQ (iP a b m) 0 a.edges.length):=by
     unfold eV;rw [if_neg (by simp [h2]),if_neg (by simp [h5]),if_neg aD]
    have hga:=bS h2
    have hgb:=bS h5
    have hia:=(eK h2).2
    refine wv (h:=?_)
    refine bD (λi e H=>(e 3=.adr a.c/\e 4=.adr b.c/\e 5=.adr m.c/\e 9=dI i)/\(i<=a.nodes.length)/\(bQ (lJ a b m) i (a.nodes.length - i)=bQ (lJ a b m) 0 a.nodes.length)) (λi=>a.nodes.length - i) 0 ⟨wg,wi,(by rfl)⟩ λI0 hI0 i e H hi0=>?_
    obtain ⟨E0,hi,hF⟩:=hi0
    have Y:=wa Y E0
    refine wv (h:=?_)
    repeat first|intro _|refine ⟨eO,?_⟩
    refine wq (λh10=>?_) λh10=>?_
    .have hn:i<m.nodes.length:=aD
     have hst:=eI (lJ a b m) h10
     rw [hF] at hst
     have hNE:lJ a b m i=(if m.nodes[i]<0\/(b.nodes.length:Int)<=m.nodes[i] then 6 else if b.nodes[m.nodes[i].toNat]?.getD 0≠a.nodes[i] then 13 else 0):=by simp only [lJ,aA h10,aA hn,Option.getD_some]
     have Y:=wa Y (wa h10 hn)
     refine wv (h:=?_)
     repeat first|intro _|refine ⟨eO,?_⟩
     refine wq (λh12=>?_) λh12=>?_
     .rw [if_pos aD] at hNE
      rw [hNE,if_pos aD] at hst
      refine wv (h:=?_)
      exact hQ _ _ (.inl (by simp [go_sem,hM,hst]))
     .have hkb:m.nodes[i].toNat<b.nodes.length:=aD
      rw [if_neg aD,aA hkb,Option.getD_some] at hNE
      have Y:=wa Y (aA hkb)
      refine wv (h:=?_)
      repeat first|intro _|refine ⟨eO,?_⟩
      refine wq (λh14=>?_) λh14=>?_
      .rw [if_pos h14] at hNE
       rw [hNE,if_pos aD] at hst
       refine wv (h:=?_)
       exact hQ _ _ (.inl (by simp [go_sem,hM,hst]))
      .rw [if_neg (bX h14)] at hNE
       rw [hNE,if_neg aD] at hst
       refine wv (h:=?_)
       repeat first|intro _|refine ⟨eO,?_⟩
       exact wx hI0 (i+1) ⟨wg,wj,(by exact hst.symm)⟩
    .have hN0:bQ (lJ a b m) 0 a.nodes.length=0:=by rw [<- hF,(aD:a.nodes.length - i=0)];rfl
     rw [hN0,if_neg aD] at hM
     refine wv (h:=?_)
     refine bD (λk e H=>(e 3=.adr a.c/\e 4=.adr b.c/\e 5=.adr m.c/\e 10=dI k)/\(k<=a.edges.length)/\(bQ (iP a b m) k (a.edges.length - k)=eV a b m)) (λk=>a.edges.length - k) 0 ⟨wg,wi,(by exact hM.symm)⟩ λI2 hI2 k e H hi2=>?_
     obtain ⟨E2,hk,hE⟩:=hi2
     have Y:=wa Y E2
     refine wv (h:=?_)
     repeat first|intro _|refine ⟨eO,?_⟩
     refine wq (λh17=>?_) λh17=>?_
     .have hn:k<m.edges.length:=aD
      have hst:=eI (iP a b m) h17
      rw [hE] at hst
      have hx:=hia _ (aC h17)
      have hxf:a.edges[k].from_.toNat<m.nodes.length:=aD
      have hxt:a.edges[k].to_.toNat<m.nodes.length:=aD
      have hEE:iP a b m k=(if m.edges[k]<0\/(b.edges.length:Int)<=m.edges[k] then 6 else if a.edges[k].type≠(b.edges[m.edges[k].toNat]?.getD cF).type then 13 else if m.nodes[a.edges[k].from_.toNat]≠(b.edges[m.edges[k].toNat]?.getD cF).from_\/m.nodes[a.edges[k].to_.toNat]≠(b.edges[m.edges[k].toNat]?.getD cF).to_ then 11 else 0):=by
       simp only [iP,aA h17,aA hn,Option.getD_some,aA hxf,aA hxt]
      have Y:=wa Y (wa h17 (wa hn (wa (aA hxf) (aA hxt))))
      refine wv (h:=?_)
      repeat first|intro _|refine ⟨eO,?_⟩
      refine wq (λh19=>?_) λh19=>?_
      .rw [if_pos aD] at hEE
       rw [hEE,if_pos aD] at hst
       refine wv (h:=?_)
       exact hQ _ _ (.inl (by simp [go_sem,<- hst]))
      .have hkb:m.edges[k].toNat<b.edges.length:=aD
       rw [if_neg aD,aA hkb,Option.getD_some] at hEE
       have Y:=wa Y (aA hkb)
       refine wv (h:=?_)
       repeat first|intro _|refine ⟨eO,?_⟩
       refine wq (λh22=>?_) λh22=>?_
       .rw [if_pos h22] at hEE
        rw [hEE,if_pos aD] at hst
        refine wv (h:=?_)
        exact hQ _ _ (.inl (by simp [go_sem,<- hst]))
       .rw [if_neg (bX h22)] at hEE
        refine wv (h:=?_)
        repeat first|intro _|refine ⟨eO,?_⟩
        refine wq (λh24=>?_) λh24=>?_
        .rw [if_pos aD] at hEE
         rw [hEE,if_pos aD] at hst
         refine wv (h:=?_)
         exact hQ _ _ (.inl (by simp [go_sem,<- hst]))
        .rw [if_neg aD] at hEE
         rw [hEE,if_neg aD] at hst
         refine wv (h:=?_)
         repeat first|intro _|refine ⟨eO,?_⟩
         exact wx hI2 (k+1) ⟨wg,wj,(by exact hst.symm)⟩
     .refine wv (h:=?_)
      exact hQ _ _ (.inl (by rw [<- hE,(aD:a.edges.length - k=0)];rfl))
theorem lG (l:List Int):Pure Tryz.prog 185 [dLI l] (.bool (decide l.Nodup)):=by
 refine Tz.pK ⟨λ_=>false,λ_=>[]⟩ Tryz.func185 rfl (λQ hQ=>?_)
 have Y:=trivial
 refine wv (h:=bD (λi e H=>(e 0=dLI l/\e 3=dI i)/\(i<=l.length)/\(∀ (a b:Nat) (hb:b<l.length),b<i->(hab:a<b)->l[a]≠l[b])) (λi=>l.length - i) 0 ⟨wg,wi,(by intro a b hb h;omega)⟩ λI0 hI0 i e H hi0=>?_)
 obtain ⟨E0,hi,hd⟩:=hi0
 have Y:=wa Y E0
 refine wv (h:=?_)
 repeat first|intro _|refine ⟨eO,?_⟩
 refine wq (λh2=>?_) λh2=>?_
 .have Y:=wa Y h2
  refine wv (h:=bD (λk e H=>(e 0=dLI l/\e 3=dI i/\e 4=dI k)/\(k<=i)/\(∀ a,a<k->l[a]?≠some l[i])) (λk=>i - k) 0 ⟨wg,wi,(by intro a h;omega)⟩ λI2 hI2 k e H hi2=>?_)
  obtain ⟨E2,hk,hn⟩:=hi2
  have Y:=wa Y E2
  refine dP (λh5=>?_) λh5=>?_
  .have hkl:k<l.length:=aD
   have Y:=wa Y (wa h5 hkl)
   refine wv (h:=?_)
   repeat first|intro _|refine ⟨eO,?_⟩
   refine wq (λh7=>?_) λh7=>?_
   .refine wv (h:=?_)
    have hx:¬ l.Nodup:=λh=>by
     have:=(mF h).1 h7
     omega
    exact hQ _ _ (by simp [go_sem,hx])
   .exact wo (h:=wx hI2 (k+1) ⟨wg,wj,(by exact iQ hn (by rw [aA hkl];simpa using λhe=>h7 he.symm))⟩)
  .have hd':∀ (a b:Nat) (hb:b<l.length),b<i+1->(hab:a<b)->l[a]≠l[b]:=λa b hb h hab=>by
    rcases b6 b i with h'|h'
    .exact hd a b hb h' hab
    .have:b=i:=aD
     subst this;exact λhe=>hn a aD (by rw [aA aD,he])
   exact wo (h:=wx hI0 (i+1) ⟨wg,wj,(by exact hd')⟩)
 .refine wv (h:=?_)
  have hx:l.Nodup:=by
   rw [q9,dH]
   exact λa b ha hb hab=>hd a b hb aD hab
  exact hQ _ _ (by simp [go_sem,hx])
def Hf (l:List Int)(n:Int)(i:Nat):Int :=
 if l[i]?.getD 0<0\/n<=l[i]?.getD 0 then 6 else if 0<i/\l[i]?.getD 0<=l[i - 1]?.getD 0 then 12 else 0
def EO (l:List Int)(n:Int):Int:=bQ (Hf l n) 0 l.length
theorem eP {f:Nat->Int}:∀ (n k:Nat),bQ f k n=0->∀ j,k<=j->j<k+n->f j=0
 | 0,k,_=>λj h1 h2=>by omega
 | n+1,k,h=>λj h1 h2=>by
  unfold bQ at h
  split at h
  .rename_i hne;exact absurd h hne
  .rename_i hz
   rcases Nat.eq_or_lt_of_le h1 with h3|h3
   .subst h3;exact bA λhne=>hz hne
   .exact eP n (k+1) h j h3 aD
theorem Dy {l:List Int}{n:Int}(h:EO l n=0):(∀ x∈l,0<=x/\x<n)/\l.Pairwise (· < ·):=by
 have d:=eP _ _ h
 have c:∀ i (a:i<l.length),(0<=l[i]/\l[i]<n)/\(∀ k:0<i,l[i - 1]<l[i]):=λi a=>by
  have:=d i aD aD
  unfold Hf at this
  rw [aA a,Option.getD_some] at this
  split at this
  .cases this
  .rename_i b
   split at this
   .cases this
   .rename_i h3
    refine ⟨aD,λk=>?_⟩
    rw [aA (aD:i - 1<l.length),Option.getD_some] at h3
    omega
 refine ⟨λx e=>?_,dH.2 λi j a f g=>?_⟩
 .obtain ⟨i,a,rfl⟩:=aO e;exact (c i a).1
 .induction j with
  | zero=>omega
  | succ j ih =>
   have b:=(c (j+1) f).2 aD
   simp only [Nat.add_sub_cancel] at b
   rcases b6 i j with h3|h3
   .have:=ih aD h3;omega
   .have:i=j:=aD
    subst this;exact b
theorem Av (l:List Int)(n:Int):Pure Tryz.prog 437 [dLI l,dI n] (dI (EO l n)):=by
 refine Tz.pK ⟨λ_=>false,λ_=>[]⟩ Tryz.func437 rfl (λQ hQ=>?_)
 have Y:=trivial
 refine wv (h:=?_)
 repeat first|intro _|refine ⟨eO,?_⟩
 refine bD (λi e H=>(e 0=dLI l/\e 1=dI n/\e 7=dLI l/\e 8=dI l.length/\e 9=dI i)/\(i<=l.length)/\(bQ (Hf l n) i (l.length - i)=EO l n)) (λi=>l.length - i) 0 ⟨wg,wi,(by rfl)⟩ λI0 hI0 i e H hi0=>?_
 obtain ⟨E0,hi,hF⟩:=hi0
 have Y:=wa Y E0
 refine wv (h:=?_)
 refine wq (λh2=>?_) λh2=>?_
 .have hst:=eI (Hf l n) h2
  rw [hF] at hst
  have hA:Hf l n i=(if l[i]<0\/n<=l[i] then 6 else if 0<i/\l[i]<=l[i - 1]?.getD 0 then 12 else 0):=by simp only [Hf,aA h2,Option.getD_some]
  have hi1:i - 1<l.length:=aD
  rw [aA hi1,Option.getD_some] at hA
  have htn:((i:Int) - 1).toNat=i - 1:=aD
  have Y:=wa Y (wa h2 (wa htn (aA hi1)))
  refine wv (h:=?_)
  repeat first|intro _|refine ⟨eO,?_⟩
  refine wq (λh4=>?_) λh4=>?_
  .rw [if_pos aD] at hA
   rw [hA,if_pos aD] at hst
   refine wv (h:=?_)
   exact hQ _ _ (.inl (by simp [go_sem,hst]))
  .rw [if_neg aD] at hA
   refine wv (h:=?_)
   repeat first|intro _|refine ⟨eO,?_⟩
   refine wq (λh6=>?_) λh6=>?_
   .rw [if_pos aD] at hA
    rw [hA,if_pos aD] at hst
    refine wv (h:=?_)
    exact hQ _ _ (.inl (by simp [go_sem,hst]))
   .rw [if_neg aD] at hA
    rw [hA,if_neg aD] at hst
    refine wv (h:=?_)
    repeat first|intro _|refine ⟨eO,?_⟩
    exact wx hI0 (i+1) ⟨wg,wj,(by exact hst.symm)⟩
 .refine wv (h:=?_)
  exact hQ _ _ (.inl (by rw [<- hF,(aD:l.length - i=0)];rfl))
theorem wZ (l:List Int)(n:Int):Pure Tryz.prog 396 [dLI l,dI n] (dI (EO l n)):=by
 refine Tz.pK ⟨λ_=>false,λ_=>[]⟩ Tryz.func396 rfl (λQ hQ=>?_)
 have Y:=trivial
 refine wv (h:=?_)
 refine bD (λi e H=>(e 0=dLI l/\e 1=dI n/\e 5=dI i)/\(i<=l.length)/\(bQ (Hf l n) i (l.length - i)=EO l n)) (λi=>l.length - i) 0 ⟨wg,wi,(by rfl)⟩ λI0 hI0 i e H hi0=>?_
 obtain ⟨E0,hi,hF⟩:=hi0
 have Y:=wa Y E0
 refine wv (h:=?_)
 repeat first|intro _|refine ⟨eO,?_⟩
 refine wq (λh2=>?_) λh2=>?_
 .have hst:=eI (Hf l n) h2
  rw [hF] at hst
  have hA:Hf l n i=(if l[i]<0\/n<=l[i] then 6 else if 0<i/\l[i]<=l[i - 1]?.getD 0 then 12 else 0):=by simp only [Hf,aA h2,Option.getD_some]
  have hi1:i - 1<l.length:=aD
  rw [aA hi1,Option.getD_some] at hA
  have htn:((i:Int) - 1).toNat=i - 1:=aD
  have Y:=wa Y (wa h2 (wa htn (aA hi1)))
  refine wv (h:=?_)
  repeat first|intro _|refine ⟨eO,?_⟩
  refine wq (λh4=>?_) λh4=>?_
  .rw [if_pos aD] at hA
   rw [hA,if_pos aD] at hst
   refine wv (h:=?_)
   exact hQ _ _ (.inl (by simp [go_sem,hst]))
  .rw [if_neg aD] at hA
   refine wv (h:=?_)
   repeat first|intro _|refine ⟨eO,?_⟩
   refine wq (λh6=>?_) λh6=>?_
   .rw [if_pos aD] at hA
    rw [hA,if_pos aD] at hst
    refine wv (h:=?_)
    exact hQ _ _ (.inl (by simp [go_sem,hst]))
   .rw [if_neg aD] at hA
    rw [hA,if_neg aD] at hst
    refine wv (h:=?_)
    repeat first|intro _|refine ⟨eO,?_⟩
    exact wx hI0 (i+1) ⟨wg,wj,(by exact hst.symm)⟩
 .refine wv (h:=?_)
  exact hQ _ _ (.inl (by rw [<- hF,(aD:l.length - i=0)];rfl))
theorem II (l:List Int)(v:Int):Pure Tryz.prog 397 [dLI l,dI v] (.bool (mem l v)):=by
 refine Tz.pK ⟨λ_=>false,λ_=>[]⟩ Tryz.func397 rfl (λQ hQ=>?_)
 have Y:=trivial
 refine wv (h:=bD (λi e H=>(e 0=dLI l/\e 1=dI v/\e 5=dI i)/\(i<=l.length)/\(∀ j,j<i->l[j]?≠some v)) (λi=>l.length - i) 0 ⟨wg,wi,(by intro j hj;omega)⟩ λI0 hI0 i e H hi0=>?_)
 obtain ⟨E0,hi,hne⟩:=hi0
 have Y:=wa Y E0
 refine wv (h:=?_)
 repeat first|intro _|refine ⟨eO,?_⟩
 refine wq (λh2=>?_) λh2=>?_
 .have Y:=wa Y h2
  refine wv (h:=?_)
  repeat first|intro _|refine ⟨eO,?_⟩
  refine wq (λh4=>?_) λh4=>?_
  .refine wv (h:=?_)
   have hm:mem l v=true:=(mem_iff l v).2 (h4 ▸ aC h2)
   exact hQ _ _ (by simp [go_sem,hm])
  .exact wo (h:=wx hI0 (i+1) ⟨wg,wj,(by exact iQ hne (by rw [aA h2];simpa using h4))⟩)
 .refine wv (h:=?_)
  have hm:mem l v=false:=by rw [bH];intro h;obtain ⟨j,hj,he⟩:=aO ((mem_iff l v).1 h);exact hne j aD (by rw [aA hj,he])
  exact hQ _ _ (by simp [go_sem,hm])
theorem DT (l:List Int)(v:Int):Pure Tryz.prog 264 [dLI l,dI v] (dI (idx l v)):=by
 refine Tz.pK ⟨λ_=>false,λ_=>[]⟩ Tryz.func264 rfl (λQ hQ=>?_)
 have Y:=trivial
 refine wv (h:=bD (λi e H=>(e 0=dLI l/\e 1=dI v/\e 5=dI i)/\(i<=l.length)/\(∀ j,j<i->l[j]?≠some v)) (λi=>l.length - i) 0 ⟨wg,wi,(by intro j hj;omega)⟩ λI0 hI0 i e H hi0=>?_)
 obtain ⟨E0,hi,hne⟩:=hi0
 have Y:=wa Y E0
 refine wv (h:=?_)
 repeat first|intro _|refine ⟨eO,?_⟩
 refine wq (λh2=>?_) λh2=>?_
 .have Y:=wa Y h2
  refine wv (h:=?_)
  repeat first|intro _|refine ⟨eO,?_⟩
  refine wq (λh4=>?_) λh4=>?_
  .exact wv (h:=hQ _ _ (by rw [sK hne (by rw [aA h2,h4])];simp [go_sem]))
  .exact wo (h:=wx hI0 (i+1) ⟨wg,wj,(by exact iQ hne (by rw [aA h2];simpa using h4))⟩)
 .exact wv (h:=hQ _ _ (by rw [y6 λj hj=>hne j aD];simp [go_sem]))
theorem rH (a:Int):Pure Tryz.prog 334 [dI a] (.bool false):=by
 refine Tz.pK ⟨λ_=>false,λ_=>[]⟩ Tryz.func334 rfl (λQ b=>?_)
 have Y:=trivial
 exact wv (h:=b _ _ wy)
theorem Ab (a:Int):Pure Tryz.prog 389 [dI a] (.bool false):=by
 refine Tz.pK ⟨λ_=>false,λ_=>[]⟩ Tryz.func389 rfl (λQ b=>?_)
 have Y:=trivial
 exact wv (h:=b _ _ wy)
theorem SK (a b:Int):Pure Tryz.prog 333 [dI a,dI b] (.bool (decide (a<b))):=by
 refine Tz.pK ⟨λ_=>false,λ_=>[]⟩ Tryz.func333 rfl (λQ d=>?_)
 have Y:=trivial
 refine wo (h:=aB (Ab a) wl ?_)
 refine wo (h:=aH (λc=>Ab b) (λc=>wl) ?_)
 exact wo (h:=d _ _ wy)
def uG (l:List Int)(v:Int):Nat:=(l.takeWhile λy=>decide (y<v)).length
theorem PK {l:List Int}{v:Int}{n:Nat}(h1:∀ j (hj:j<l.length),j<n->l[j]<v)(h2:n<=l.length)(h3:∀ hn:n<l.length,¬ l[n]<v):uG l v=n :=
 uC _ l n (λj x hj hx=>by
  obtain ⟨hjl,rfl⟩:=aM.1 hx
  simpa using h1 j hjl hj) h2 λx hx=>by
  obtain ⟨hjl,rfl⟩:=aM.1 hx
  simpa using h3 hjl
theorem X9 (a b:Nat):((a:Int)+(b:Int)).fdiv 2=(((a+b) / 2:Nat):Int):=by
 rw [Int.fdiv_eq_ediv_of_nonneg _ aD];omega
theorem t7 (l:List Int)(v:Int)(hs:l.Pairwise (· < ·))(hl:l.length<=1000000):Pure Tryz.prog 241 [dLI l,dI v] (.tup [dI (uG l v),.bool (mem l v)]):=by
 have hpw:=dH.1 hs
 refine Tz.pK ⟨λ_=>false,λ_=>[]⟩ Tryz.func241 rfl (λQ hQ=>?_)
 have Y:=@X9
 refine wo (h:=bD (λm e H=>∃ i:Nat,∃ j:Nat,(e 0=dLI l/\e 1=dI v/\e 6=dI l.length/\e 7=dI i/\e 8=dI j)/\(i<=j)/\(j<=l.length)/\(j - i<=m)/\(∀ a (h:a<l.length),a<i->l[a]<v)/\(∀ a (h:a<l.length),j<=a->¬ l[a]<v)) (λm=>m) l.length ⟨0,l.length,wg,aD,aD,aD,(by intro a h h';omega),(by intro a h h';omega)⟩ λI0 hI0 m e H hi0=>?_)
 obtain ⟨i,j,E0,hj,hjl,hjm,ha,hb⟩:=hi0
 have Y:=wa Y E0
 refine dP (λh3=>?_) λh3=>?_
 .have hk:(i+j) / 2<l.length:=aD
  have htn:(((i:Int)+(j:Int)) / 2).toNat=(i+j) / 2:=aD
  have hu:=PV (aD:0<=(i:Int)+(j:Int)) (aD:(i:Int)+(j:Int)<=18446744073709551615)
  have Y:=wa Y (wa h3 (wa htn (aA hk)))
  refine wo (h:=aB (SK _ _) wl ?_)
  refine fA (λh5=>?_) λh5=>?_
  .obtain ⟨i',hi'⟩:∃ i':Nat,i'=(i+j) / 2+1:=⟨_,rfl⟩
   obtain ⟨j',hj'⟩:∃ j':Nat,j'=j:=⟨_,rfl⟩
   have ha':∀ a (h:a<l.length),a<i'->l[a]<v:=λa h h'=>by
    rcases b6 a ((i+j) / 2) with h1|h1
    .have:=hpw a _ h hk h1;omega
    .have:a=(i+j) / 2:=aD
     subst this;exact h5
   have hb':∀ a (h:a<l.length),j'<=a->¬ l[a]<v:=λa h h'=>hb a h aD
   exact wo (h:=wx hI0 (m - 1) ⟨i',j',wg,aD,aD,aD,(by exact ha'),(by exact hb')⟩)
  .obtain ⟨i',hi'⟩:∃ i':Nat,i'=i:=⟨_,rfl⟩
   obtain ⟨j',hj'⟩:∃ j':Nat,j'=(i+j) / 2:=⟨_,rfl⟩
   have ha':∀ a (h:a<l.length),a<i'->l[a]<v:=λa h h'=>ha a h aD
   have hb':∀ a (h:a<l.length),j'<=a->¬ l[a]<v:=λa h h'=>by
    rcases b6 ((i+j) / 2) a with h1|h1
    .have:=hpw _ a hk h h1;omega
    .have:a=(i+j) / 2:=aD
     subst this;omega
   exact wv (h:=wx hI0 (m - 1) ⟨i',j',wg,aD,aD,aD,(by exact ha'),(by exact hb')⟩)
 .have hij:j=i:=aD
  have hp:uG l v=i:=PK (λa h h'=>ha a h h') aD (λh=>hb i h aD)
  have hm:mem l v=(decide (i<l.length)&&(l[i]?.getD 0==v)):=by
   rw [aR,mem_iff]
   constructor
   .intro h
    obtain ⟨a,h1,h2⟩:=aO h
    have h3:i<=a:=Nat.le_of_not_lt λh'=>by have:=ha a h1 h';omega
    have h4:a=i:=by
     rcases Nat.eq_or_lt_of_le h3 with h5|h5
     .exact h5.symm
     .have:=hpw i a aD h1 h5
      exact absurd aD (hb i aD aD)
    subst h4
    simp [h1,h2]
   .intro h
    simp only [aQ,decide_eq_true_eq,beq_iff_eq] at h
    rw [aA h.1,Option.getD_some] at h
    rw [<- h.2];exact aC h.1
  by_cases hil:i<l.length
  .have Y:=wa Y (wa (aA hil) hil)
   refine wo (h:=aH (λhg=>rH _) (λhg=>wl) ?_)
   refine wo (h:=aH (λhg=>rH _) (λhg=>wl) ?_)
   exact wo (h:=hQ _ _ (by rw [hp,hm];simp [go_sem,Y];rw [aR];simp))
  .have Y:=wa Y hil
   refine wo (h:=aH (λhg=>rH _) (λhg=>wl) ?_)
   refine wo (h:=aH (λhg=>rH _) (λhg=>wl) ?_)
   exact wo (h:=hQ _ _ (by rw [hp,hm];simp [go_sem,Y]))
theorem Bx (l:List Int)(v:Int)(a:l.Pairwise (· < ·))(b:l.length<=1000000):Pure Tryz.prog 438 [dLI l,dI v] (.bool (mem l v)):=by
 refine Tz.pK ⟨λ_=>false,λ_=>[]⟩ Tryz.func438 rfl (λQ c=>?_)
 have Y:=trivial
 refine wv (h:=aB (t7 l v a b) wl ?_)
 exact wv (h:=c _ _ wy)
def zF (g:Graph)(p:Part)(k:Int):Int:=if (mem p.nodes (g.edges[k.toNat]?.getD cF).from_&&mem p.nodes (g.edges[k.toNat]?.getD cF).to_)=true then 0 else 14
def rC (g:Graph)(p:Part):Int :=
 if EO p.nodes g.nodes.length≠0 then EO p.nodes g.nodes.length
 else if EO p.edges g.edges.length≠0 then EO p.edges g.edges.length
 else gK (zF g p) p.edges
def subF (g:Graph)(p:Part):Int:=if graphF g≠0 then graphF g else rC g p
theorem Hw (g:Graph)(p:Part)(hl:p.nodes.length<=1000000):Pure Tryz.prog 387 [g.d,p.d] (dI (rC g p)):=by
 refine Tz.pK ⟨λ_=>false,λ_=>[]⟩ Tryz.func387 rfl (λQ hQ=>?_)
 have Y:=trivial
 refine wv (h:=?_)
 repeat first|intro _|refine ⟨eO,?_⟩
 refine aB (Av p.nodes _) wl ?_
 refine wv (h:=?_)
 repeat first|intro _|refine ⟨eO,?_⟩
 refine wq (λh2=>?_) λh2=>?_
 .exact wv (h:=hQ _ _ (by simp [go_sem,rC,h2]))
 .refine wv (h:=?_)
  repeat first|intro _|refine ⟨eO,?_⟩
  refine aB (Av p.edges _) wl ?_
  refine wv (h:=?_)
  repeat first|intro _|refine ⟨eO,?_⟩
  refine wq (λh5=>?_) λh5=>?_
  .exact wv (h:=hQ _ _ (by simp [go_sem,rC,h2,h5]))
  .have hP:rC g p=gK (zF g p) p.edges:=by unfold rC;rw [if_neg (by simp [h2]),if_neg (by simp [h5])]
   have hs:=(Dy h2).2
   have hin:=(Dy h5).1
   refine wv (h:=?_)
   repeat first|intro _|refine ⟨eO,?_⟩
   refine bD (λi e H=>(e 2=.adr g.c/\e 3=.adr p.c/\e 28=dLI p.edges/\e 29=dI p.edges.length/\e 30=dI i)/\(i<=p.edges.length)/\(gK (zF g p) (p.edges.drop i)=rC g p)) (λi=>p.edges.length - i) 0 ⟨wg,wi,(by exact hP.symm)⟩ λI0 hI0 i e H hi0=>?_
   obtain ⟨E0,hi,hF⟩:=hi0
   have Y:=wa Y E0
   refine dP (λh8=>?_) λh8=>?_
   .have hst:=hF
    rw [kX _ h8] at hst
    have hin':=hin _ (aC h8)
    have hk:p.edges[i].toNat<g.edges.length:=aD
    have hD:zF g p p.edges[i]=if (mem p.nodes g.edges[p.edges[i].toNat].from_&&mem p.nodes g.edges[p.edges[i].toNat].to_)=true then 0 else 14:=by simp only [zF,aA hk,Option.getD_some]
    have Y:=wa Y (wa h8 (aA hk))
    refine wv (h:=?_)
    repeat first|intro _|refine ⟨eO,?_⟩
    refine aI (Bx p.nodes _ hs hl) wl ?_
    refine wv (h:=?_)
    repeat first|intro _|refine ⟨eO,?_⟩
    refine dL (λhg=>Bx p.nodes _ hs hl) (λhg=>wl) ?_
    refine wv (h:=?_)
    repeat first|intro _|refine ⟨eO,?_⟩
    refine wq (λh10=>?_) λh10=>?_
    .rw [if_neg (by rcases h10 with h|h<;>simp [h])] at hD
     rw [hD,if_pos aD] at hst
     exact wv (h:=hQ _ _ (by simp [go_sem,<- hst]))
    .rw [if_pos (by simp [h10])] at hD
     rw [hD,if_neg aD] at hst
     refine wv (h:=?_)
     repeat first|intro _|refine ⟨eO,?_⟩
     exact wx hI0 (i+1) ⟨wg,wj,(by exact hst)⟩
   .exact wv (h:=hQ _ _ (by rw [<- hF,l6 _ aD];simp [go_sem]))
theorem x8 (g:Graph)(p:Part)(c:p.nodes.length<=1000000):Pure Tryz.prog 328 [g.d,p.d] (dI (subF g p)):=by
 refine Tz.pK ⟨λ_=>false,λ_=>[]⟩ Tryz.func328 rfl (λQ b=>?_)
 have Y:=trivial
 refine wv (h:=aB (mO g) wl ?_)
 refine dP (λa=>?_) λa=>?_
 .have Y:=wa Y (wa a @subF.eq_1)
  exact wv (h:=b _ _ wy)
 .refine wv (h:=aB (Hw g p c) wl ?_)
  have Y:=wa Y (wa a @subF.eq_1)
  exact wv (h:=b _ _ wy)
theorem Mh (g:Graph)(p:Part):Pure Tryz.prog 345 [g.d,p.d] (dI (rC g p)):=by
 refine Tz.pK ⟨λt=>t==8,λr=>match r with|10=>[(0,9),(1,9),(2,9),(3,9),(5,9),(6,9),(7,9),(8,9)]|_=>[]⟩ Tryz.func345 rfl (λQ hQ=>?_)
 have Y:=trivial
 refine wo (h:=aB (wZ p.nodes _) wl ?_)
 refine wv (h:=?_)
 repeat first|intro _|refine ⟨eO,?_⟩
 refine wq (λh2=>?_) λh2=>?_
 .exact wv (h:=hQ _ _ (by simp [go_sem,rC,h2]))
 .refine wo (h:=aB (wZ p.edges _) wl ?_)
  refine wv (h:=?_)
  repeat first|intro _|refine ⟨eO,?_⟩
  refine wq (λh5=>?_) λh5=>?_
  .exact wv (h:=hQ _ _ (by simp [go_sem,rC,h2,h5]))
  .have hP:rC g p=gK (zF g p) p.edges:=by unfold rC;rw [if_neg (by simp [h2]),if_neg (by simp [h5])]
   have hin:=(Dy h5).1
   refine wv (h:=bD (λi e H=>(e 2=.adr g.c/\e 3=.adr p.c/\e 7=dI i)/\(i<=p.edges.length)/\(gK (zF g p) (p.edges.drop i)=rC g p)) (λi=>p.edges.length - i) 0 ⟨wg,wi,(by exact hP.symm)⟩ λI0 hI0 i e H hi0=>?_)
   obtain ⟨E0,hi,hF⟩:=hi0
   have Y:=wa Y E0
   refine wv (h:=?_)
   repeat first|intro _|refine ⟨eO,?_⟩
   refine wq (λh8=>?_) λh8=>?_
   .have hst:=hF
    rw [kX _ h8] at hst
    have hin':=hin _ (aC h8)
    have hk:p.edges[i].toNat<g.edges.length:=aD
    have hD:zF g p p.edges[i]=if (mem p.nodes g.edges[p.edges[i].toNat].from_&&mem p.nodes g.edges[p.edges[i].toNat].to_)=true then 0 else 14:=by simp only [zF,aA hk,Option.getD_some]
    have Y:=wa Y (wa h8 (aA hk))
    refine wo (h:=aB (II p.nodes _) wl ?_)
    refine wo (h:=aH (λhg=>II p.nodes _) (λhg=>wl) ?_)
    refine wv (h:=?_)
    repeat first|intro _|refine ⟨eO,?_⟩
    refine wq (λh11=>?_) λh11=>?_
    .rw [if_neg (by rcases h11 with h|h<;>simp [h])] at hD
     rw [hD,if_pos aD] at hst
     exact wv (h:=hQ _ _ (by simp [go_sem,<- hst]))
    .rw [if_pos (by simp [h11])] at hD
     rw [hD,if_neg aD] at hst
     exact wo (h:=wx hI0 (i+1) ⟨wg,wj,(by exact hst)⟩)
   .exact wv (h:=hQ _ _ (by rw [<- hF,l6 _ aD];simp [go_sem]))
theorem yN (g:Graph)(p:Part):Pure Tryz.prog 263 [g.d,p.d] (dI (subF g p)):=by
 refine Tz.pK ⟨λ_=>false,λ_=>[]⟩ Tryz.func263 rfl (λQ b=>?_)
 have Y:=trivial
 refine wv (h:=aB (lP g) wl ?_)
 refine dP (λa=>?_) λa=>?_
 .have Y:=wa Y (wa a @subF.eq_1)
  exact wv (h:=b _ _ wy)
 .refine wv (h:=aB (Mh g p) wl ?_)
  have Y:=wa Y (wa a @subF.eq_1)
  exact wv (h:=b _ _ wy)
def gN (g:Graph)(n:Int):Int:=g.nodes[n.toNat]?.getD 0
def gEd (g:Graph)(p:Part)(k:Int):Edge:=⟨(g.edges[k.toNat]?.getD cF).type,uG p.nodes (g.edges[k.toNat]?.getD cF).from_,uG p.nodes (g.edges[k.toNat]?.getD cF).to_⟩
def cY (g:Graph)(p:Part):Graph:=if subF g p=0 then ⟨p.nodes.map (gN g),p.edges.map (gEd g p)⟩ else ⟨[],[]⟩
def AI (g:Graph)(p:Part):Part:=if subF g p=0 then p else ⟨[],[]⟩
theorem zQ {g:Graph}{p:Part}(h:subF g p=0):graphF g=0/\p.nodes.Pairwise (· < ·)/\(∀ n∈p.nodes,0<=n/\n<g.nodes.length)/\∀ k∈p.edges,0<=k/\k<g.edges.length:=by
 unfold subF rC at h
 split at h
 .rename_i h1;exact absurd h h1
 .rename_i h1
  split at h
  .rename_i h2;exact absurd h h2
  .rename_i h2
   split at h
   .rename_i h3;exact absurd h h3
   .rename_i h3
    have a:EO p.nodes g.nodes.length=0:=aD
    have b:EO p.edges g.edges.length=0:=aD
    exact ⟨aD,(Dy a).2,(Dy a).1,(Dy b).1⟩
theorem kW {α β:Type}(f:α->β){l:List α}{i:Nat}(h:i<l.length):(l.take (i+1)).map f=(l.take i).map f++[f l[i]]:=by
 rw [aE h,List.map_append];rfl
theorem lW {α β:Type}(f:α->β){l:List α}{i:Nat}(h:l.length<=i):(l.take i).map f=l.map f:=by
 rw [aG h]
theorem CW (g:Graph)(p:Part)(hl:p.nodes.length<=1000000)(hle:p.edges.length<=1000000):Pure Tryz.prog 314 [g.d,p.d] (.tup [(cY g p).d,(AI g p).d,dI (subF g p)]):=by
 refine Tz.pK ⟨λt=>t==4||t==5||t==8||t==13,λr=>match r with|8=>[(0,7),(1,7)]|_=>[]⟩ Tryz.func314 rfl (λQ hQ=>?_)
 have Y:=trivial
 refine wv (h:=aB (x8 g p hl) wl ?_)
 refine dP (λh2=>?_) λh2=>?_
 .exact wv (h:=hQ _ _ (by simp [go_sem,cY,AI,h2]))
 .obtain ⟨hg,hs,hin,hie⟩:=zQ h2
  refine wo (h:=uI (Ghosts.step (Ghosts.refl _) 2 0 0 3 1 _ _ (rfl) rfl rfl rfl) (λi e H=>∃ xs:List Int,(e 2=.adr g.c/\e 3=.adr p.c/\e 4=.ptr 0 1 0 0/\e 5=.ptr 1 1 0 0/\e 8=.ptr 2 1 0 0/\e 23=dLI p.nodes/\e 24=dI p.nodes.length/\e 25=dI i)/\(H.get 0=some ⟨29,2,[[.nil,.nil]],false⟩)/\(0<H.next)/\(H.get 1=some ⟨36,2,[[.nil,.nil]],false⟩)/\(1<H.next)/\(H.get 2=some ⟨29,2,[[.own 3 xs.length,.nil]],false⟩)/\(2<H.next)/\(H.get 3=some ⟨3,1,xs.map cI,false⟩)/\(3<H.next)/\(i<=p.nodes.length)/\(xs=(p.nodes.take i).map (gN g))) (λi=>p.nodes.length - i) 0 ⟨([]),wg,wn,wn,wn,wn,wn,wn,wn,wn,wi,(by rfl)⟩ λI0 hI0 i e H hi0=>?_)
  obtain ⟨xs,E0,g0_0,n0_0,g1_0,n1_0,g2_0,n2_0,g3_0,n3_0,hi,hx⟩:=hi0
  have Y:=wa Y (wa E0 (wa g0_0 (wa (b8 n0_0) (wa g1_0 (wa (b8 n1_0) (wa g2_0 (wa (b8 n2_0) (wa g3_0 (b8 n3_0)))))))))
  refine dP (λh6=>?_) λh6=>?_
  .have hin':=hin _ (aC h6)
   have hk:p.nodes[i].toNat<g.nodes.length:=aD
   have hxl:xs.length=i:=by rw [hx];simp;omega
   have Y:=wa Y (wa h6 (wa (aA hk) @gN.eq_1))
   exact wo (h:=wx hI0 (i+1) ⟨(xs++[gN g p.nodes[i]]),wg,wn,wn,wn,wn,wn,wn,wn,wn,wj,(by rw [kW _ h6,<- hx])⟩)
  .have hX:xs=p.nodes.map (gN g):=by rw [hx,lW _ aD]
   refine wo (h:=uI (Ghosts.step (Ghosts.refl _) 2 0 1 122 3 _ _ (g2_0) rfl rfl rfl) (λk e H=>∃ j:Nat,∃ ys:List Edge,(e 2=.adr g.c/\e 3=.adr p.c/\e 4=.ptr 0 1 0 0/\e 5=.ptr 1 1 0 0/\e 8=.ptr 2 1 0 0/\e 41=dLI p.edges/\e 42=dI p.edges.length/\e 43=dI k)/\(H.get 0=some ⟨29,2,[[.nil,.nil]],false⟩)/\(0<H.next)/\(H.get 1=some ⟨36,2,[[.nil,.nil]],false⟩)/\(1<H.next)/\(H.get 2=some ⟨29,2,[[.own 3 xs.length,.own j ys.length]],false⟩)/\(2<H.next)/\(H.get 3=some ⟨3,1,xs.map cI,false⟩)/\(3<H.next)/\(H.get j=some ⟨122,3,ys.map Edge.c,false⟩)/\(j<H.next)/\(k<=p.edges.length)/\(ys=(p.edges.take k).map (gEd g p))/\(j≠0)/\(j≠1)/\(j≠2)/\(j≠3)) (λk=>p.edges.length - k) 0 ⟨H.next,([]),wg,wn,wn,wn,wn,wn,wn,wn,wn,wn,wn,wi,(by rfl),aD,aD,aD,aD⟩ λI2 hI2 k e H hi2=>?_)
   obtain ⟨j,ys,E2,g0_2,n0_2,g1_2,n1_2,g2_2,n2_2,g3_2,n3_2,gj_2,nj_2,hk,hy,j0,j1,j2,j3⟩:=hi2
   have Y:=wa Y (wa E2 (wa g0_2 (wa (b8 n0_2) (wa g1_2 (wa (b8 n1_2) (wa g2_2 (wa (b8 n2_2) (wa g3_2 (wa (b8 n3_2) (wa gj_2 (wa (b8 nj_2) (wa j0 (wa j1 (wa j2 (wa j3 (wa j0.symm (wa j1.symm (wa j2.symm j3.symm))))))))))))))))))
   refine dP (λh11=>?_) λh11=>?_
   .have hie':=hie _ (aC h11)
    have hke:p.edges[k].toNat<g.edges.length:=aD
    have hyl:ys.length=k:=by rw [hy];simp;omega
    have Y:=wa Y (wa h11 (wa (aA hke) @gEd.eq_1))
    refine wo (h:=aB (t7 p.nodes _ hs hl) wl ?_)
    refine wo (h:=aB (t7 p.nodes _ hs hl) wl ?_)
    exact wo (h:=wx hI2 (k+1) ⟨j,(ys++[gEd g p p.edges[k]]),wg,wn,wn,wn,wn,wn,wn,wn,wn,wn,wn,wj,(by rw [kW _ h11,<- hy]),wj,wj,wj,wj⟩)
   .have hY:ys=p.edges.map (gEd g p):=by rw [hy,lW _ aD]
    refine wv (h:=aI ((jG p.nodes hl).pure) wl ?_)
    refine wv (h:=aI ((jG p.edges hle).pure) wl ?_)
    exact wv (h:=hQ _ _ (by simp [go_sem,Y,cY,AI,h2,hX,hY]))
mutual
theorem i9 {p:Cond→Prop}(h:∀ c:Cond,(∀ k∈c.kids,p k)→p c):∀ c:Cond,p c
 | .mk k l m q=>h _ (JJ h l)
theorem JJ {p:Cond→Prop}(h:∀ c:Cond,(∀ k∈c.kids,p k)→p c):∀ l:List Cond,∀ k∈l,p k
 | []=>fun k hk=>absurd hk (by simp)
 | c :: l=>fun k hk=>by
  rcases aU.1 hk with h1|h1
  ·rw [h1];exact i9 h c
  ·exact JJ h l k h1
end
def bareB (c:Cond):Bool:=decide ((c.map.nodes.length:Int)+c.map.edges.length+c.pattern.graph.nodes.length+c.pattern.graph.edges.length+c.pattern.slots.length+c.pattern.tests.length=0)&&decide (c.pattern.vars=0)
structure Cond.short (c:Cond):Prop where
 m1:c.map.nodes.length<=1000000
 m2:c.map.edges.length<=1000000
 p1:c.pattern.graph.nodes.length<=1000000
 p2:c.pattern.graph.edges.length<=1000000
 p3:c.pattern.slots.length<=1000000
 p4:c.pattern.tests.length<=1000000
theorem G1 (c:Cond)(a:c.short):Pure Tryz.prog 430 [.agg c.c] (.bool (bareB c)):=by
 obtain ⟨j,i,g,f,e,d⟩:=a
 refine Tz.pK ⟨λt=>t==3,λ_=>[]⟩ Tryz.func430 rfl (λQ b=>?_)
 have Y:=@Cond.c_eq
 have Y:=wa Y @bareB.eq_1
 exact wo (h:=b _ _ wy)
theorem GC (xs:List Cond)(g:FuncId)(caps:List D)(p:Cond->Bool)(hc:D.clL caps=true)(hg:∀ x∈xs,Pure Tryz.prog g (.agg x.c :: caps) (.bool (p x))) :
  Pure Tryz.prog 455 [.list (xs.map Cond.c),.fn g caps] (dI (Di xs p)):=by
 refine aT (aJ (cfg:=⟨λ_=>false,λ_=>[]⟩) Tz.mixed Tryz.func455 rfl rfl (aF rfl) (by kernel_rfl) ?_)
 simp [go_sem,seval,dI,dLI]
 intro hlen
 refine fQ (ι:=Nat) (λi e H=>H=.emp/\i<=xs.length/\e 0=.list (xs.map Cond.c)/\e 1=.fn g caps/\e 7=dI xs.length/\e 8=dI i/\(∀ j x,j<i->xs[j]?=some x->p x=false)) (λi=>xs.length - i) 0 (by simp [go_sem,seval,dI,dLI]) ?_
 intro i e H ⟨hH,hi,h0,h1,h7,h8,hn⟩
 subst hH
 simp [go_sem,seval,h0,h1,h7,h8,dI,dLI]
 refine f7 (λhlt=>?_) (λhge=>?_)
 .have hgx:=hg xs[i] (aC hlt)
  simp [go_sem,seval,h0,h1,h7,h8,dI,dLI,hlt,Cond.c_eq] at hgx ⊢
  refine aB hgx (by simp [go_sem,hc]) ?_
  simp [go_sem,seval,h0,h1,h7,h8,dI,dLI]
  refine aP (λh=>?_) (λh=>?_)
  .simp [go_sem,seval,h0,h1,h7,h8,dI,dLI]
   rw [pW hn hlt h]
  .simp [go_sem,seval,h0,h1,h7,h8,dI,dLI]
   refine ⟨dD aD aD,i+1,aD,aD,aD,λj x hj hx=>?_⟩
   rcases b6 j i with hj'|hj'
   .exact hn j x hj' hx
   .have:j=i:=aD
    subst this
    rw [aA hlt] at hx
    cases hx;exact h
 .simp [go_sem,seval,h0,h1,h7,h8,dI,dLI]
  rw [pX λj x hj=>hn j x aD]
theorem Cv (xs:List Cond)(g:FuncId)(caps:List D)(p:Cond->Bool)(hc:D.clL caps=true)(hl:D.cl (.list (xs.map Cond.c))=true)(hg:∀ x∈xs,Pure Tryz.prog g (.agg x.c :: caps) (.bool (p x))) :
  Pure Tryz.prog 431 [.list (xs.map Cond.c),.fn g caps] (.bool (xs.any p)):=by
 refine aT (aJ (cfg:=⟨λ_=>false,λ_=>[]⟩) Tz.mixed Tryz.func431 rfl rfl (aF rfl) (by kernel_rfl) ?_)
 simp [go_sem,seval]
 refine aB (GC xs g caps p hc hg) (by simp only [D.clL,hl,gM];simp [D.cl,hc]) ?_
 simp [go_sem,seval,dI,sL]
def rF (c:Cond):Bool :=
 if c.kind=1 then decide ((c.kids.length:Int)=0)&&bareB c
 else if c.kind=2 then decide ((c.kids.length:Int)=1)&&bareB c
 else if c.kind=3\/c.kind=4 then decide (1<=(c.kids.length:Int))&&bareB c
 else decide (c.kind=5)&&decide ((c.kids.length:Int)=1)
mutual
def Lm:Cond→Bool
 | .mk k l m p=>rF (.mk k l m p)&&Tj l
def Tj:List Cond→Bool
 | []=>true
 | c :: l=>Lm c&&Tj l
end
theorem Ti (l:List Cond):Tj l=l.all Lm:=by
 induction l with
 | nil=>rfl
 | cons a l ih=>simp [Tj,ih]
theorem uB (c:Cond):Lm c=(rF c&&c.kids.all Lm):=by cases c;simp [Lm,Ti,Cond.kids]
mutual
def Cond.ok:Cond→Prop
 | .mk k l m p=>(Cond.mk k l m p).short∧Cond.oks l
def Cond.oks:List Cond→Prop
 | []=>True
 | c :: l=>c.ok∧Cond.oks l
end
theorem Lg (l:List Cond):Cond.oks l↔∀ c∈l,c.ok:=by
 induction l with
 | nil=>simp [Cond.oks]
 | cons a l ih=>simp [Cond.oks,ih]
theorem qW (c:Cond):c.ok↔c.short/\∀ k∈c.kids,k.ok:=by cases c;simp [Cond.ok,Lg,Cond.kids]
theorem wf1 (c:Cond)(h:Pure Tryz.prog 377 [.agg c.c] (.bool (Lm c))):Pure Tryz.prog 432 [.agg c.c] (.bool (!Lm c)):=by
 refine Tz.pK ⟨λ_=>false,λ_=>[]⟩ Tryz.func432 rfl (λQ a=>?_)
 have Y:=@Cond.c_eq
 refine wo (h:=aB ((by simpa [Cond.c_eq,go_sem] using h)) wl ?_)
 exact wo (h:=a _ _ wy)
theorem zI:∀ c:Cond,c.ok->Pure Tryz.prog 377 [.agg c.c] (.bool (Lm c)):=by
 refine i9 λc q t=>?_
 obtain ⟨r,s⟩:=(qW c).1 t
 have a:=Cv c.kids 432 [] (λk=>!Lm k) rfl (by simp [go_sem]) (λk p=>wf1 k (q k p (s k p)))
 have e:∀ i:Int,i=c.kind->Pure Tryz.prog 430 [.agg [dI i,.list (c.kids.map Cond.c),dLI c.map.nodes,dLI c.map.edges,dLI c.pattern.graph.nodes,.list (c.pattern.graph.edges.map Edge.c),.list (c.pattern.slots.map Slot.c),dI c.pattern.vars,.list (c.pattern.tests.map Test.c)]] (.bool (bareB c)):=by
  intro i j
  have:=G1 c r
  rwa [Cond.c_eq,<- j] at this
 have b:(!(c.kids.any λk=>!Lm k))=c.kids.all Lm:=by simp [List.not_any_eq_all_not]
 refine Tz.pK ⟨λ_=>false,λ_=>[]⟩ Tryz.func377 rfl (λQ g=>?_)
 have Y:=@Cond.c_eq
 refine fA (λo=>?_) λo=>?_
 .have Y:=wa Y o
  refine wo (h:=aH (λd=>(e _ aD)) (λd=>wl) ?_)
  refine wo (h:=aH (λd=>a) (λd=>wl) ?_)
  exact wo (h:=g _ _ (by simp [go_sem,uB,<- b,rF,Y]))
 .have Y:=wa Y o
  refine dP (λn=>?_) λn=>?_
  .have Y:=wa Y n
   refine wo (h:=aH (λd=>(e _ aD)) (λd=>wl) ?_)
   refine wo (h:=aH (λd=>a) (λd=>wl) ?_)
   exact wo (h:=g _ _ (by simp [go_sem,uB,<- b,rF,Y]))
  .have Y:=wa Y n
   refine dP (λm=>?_) λm=>?_
   .have Y:=wa Y m
    refine wo (h:=aH (λd=>(e _ aD)) (λd=>wl) ?_)
    refine wo (h:=aH (λd=>a) (λd=>wl) ?_)
    exact wo (h:=g _ _ (by simp [go_sem,uB,<- b,rF,Y]))
   .have Y:=wa Y m
    refine dP (λl=>?_) λl=>?_
    .have Y:=wa Y l
     refine wo (h:=aH (λd=>(e _ aD)) (λd=>wl) ?_)
     refine wo (h:=aH (λd=>a) (λd=>wl) ?_)
     exact wo (h:=g _ _ (by simp [go_sem,uB,<- b,rF,Y]))
    .have Y:=wa Y l
     refine dP (λf=>?_) λf=>?_
     .have Y:=wa Y f
      refine wo (h:=aH (λd=>a) (λd=>wl) ?_)
      exact wo (h:=g _ _ (by simp [go_sem,uB,<- b,rF,Y]))
     .have Y:=wa Y f
      refine wo (h:=aH (λd=>a) (λd=>wl) ?_)
      exact wo (h:=g _ _ (by simp [go_sem,uB,<- b,rF,Y]))
mutual
def Cond.size:Cond→Nat
 | .mk _ l _ _=>1+Cond.sizes l
def Cond.sizes:List Cond→Nat
 | []=>0
 | c :: l=>c.size+Cond.sizes l
end
mutual
def Cond.dep:Cond→Nat
 | .mk k l _ _=>Cond.deps l+(if k=5 then 1 else 0)
def Cond.deps:List Cond→Nat
 | []=>0
 | c :: l=>max c.dep (Cond.deps l)
end
theorem FB (l:List Cond)(c:Cond):Cond.sizes (l++[c])=Cond.sizes l+c.size:=by
 induction l with
 | nil=>simp [Cond.sizes]
 | cons a l ih=>simp [Cond.sizes,ih];omega
theorem Js (l:List Cond)(c:Cond):Cond.deps (l++[c])=max (Cond.deps l) c.dep:=by
 induction l with
 | nil=>simp [Cond.deps]
 | cons a l ih=>simp only [cX,Cond.deps,ih];omega
theorem v8 (c:Cond):c.size=1+Cond.sizes c.kids:=by cases c;simp [Cond.size,Cond.kids]
theorem SF (c:Cond):c.dep=Cond.deps c.kids+(if c.kind=5 then 1 else 0):=by cases c;rw [Cond.dep];rfl
@[go_sem] theorem V0:Cond.sizes []=0:=by simp [Cond.sizes]
@[go_sem] theorem Yg:Cond.deps []=0:=by simp [Cond.deps]
theorem BD {l:List Cond}{c:Cond}(h:c∈l):c.size<=Cond.sizes l:=by
 induction l with
 | nil=>cases h
 | cons a l ih =>
  rcases aU.1 h with h1|h1
  .subst h1;simp only [Cond.sizes];omega
  .have:=ih h1;simp only [Cond.sizes];omega
theorem Fz (l:List Cond)(i:Nat):Cond.sizes (l.take i)<=Cond.sizes l:=by
 induction l generalizing i with
 | nil=>simp
 | cons a l ih=>cases i with
  | zero=>simp [Cond.sizes]
  | succ i=>have:=ih i;simp only [s4,Cond.sizes];omega
mutual
theorem O2:∀ c:Cond,c.dep≤c.size
 | .mk k l m p=>by have:=z8 l;simp only [Cond.dep,Cond.size];split<;>omega
theorem z8:∀ l:List Cond,Cond.deps l≤Cond.sizes l
 | []=>by simp [Cond.deps]
 | c :: l=>by have:=O2 c;have:=z8 l;simp only [Cond.deps,Cond.sizes];omega
end
theorem HW (a b:Nat):(if (a:Int)<(b:Int) then (b:Int) else (a:Int))=((max a b:Nat):Int):=by split<;>omega
theorem Cy:∀ c:Cond,c.size<=1000000->Pure Tryz.prog 378 [.agg c.c] (.tup [dI c.size,dI c.dep]):=by
 refine i9 λc ih hc=>?_
 have hse:=v8 c
 have hde:=SF c
 have hle:=z8 c.kids
 refine Tz.pK ⟨λt=>t==7,λ_=>[]⟩ Tryz.func378 rfl (λQ hQ=>?_)
 try simp [go_sem,seval,Cond.c_eq]
 repeat first|intro _|refine ⟨eO,?_⟩
 obtain ⟨I0,hI0⟩:∃ I0:Nat->dJ->AHeap->Prop,∀ (i:Nat) (e:dJ) (H:AHeap),I0 i e H↔((e 1=.adr c.c)/\(e 11=.list (c.kids.map Cond.c))/\(e 12=dI c.kids.length)/\(e 4=dI ((1+Cond.sizes (c.kids.take i):Nat):Int))/\(e 5=dI (Cond.deps (c.kids.take i):Nat))/\(e 13=dI i)/\(i<=c.kids.length)):=⟨λi e H=>_,λ_ _ _=>Iff.rfl⟩
 refine oD I0 (λi=>c.kids.length - i) (0) ((hI0 _ _ _).2 ⟨?_,?_,?_,?_,?_,?_,(by first|assumption|omega|(simp [go_sem,Cond.c_eq];done)|(simp_all;done))⟩) ?_
 iterate 6 (first|omega|(simp [go_sem,seval,Cond.c_eq]<;>omega))
 intro i e H hi0
 obtain ⟨q1_0,q11_0,q12_0,q4_0,q5_0,q13_0,hi⟩:=(hI0 _ _ _).1 hi0
 have F0:=And.intro q1_0 (And.intro q11_0 (And.intro q12_0 q13_0))
 try simp [go_sem,seval,Cond.c_eq,F0,q4_0,q5_0]
 refine aP (λh3=>?_) (λh3=>?_)
 .try simp [go_sem] at h3
  have hsm:=BD (aC h3)
  have hdm:=O2 c.kids[i]
  have hts:=aE h3
  have h1s:=FB (c.kids.take i) c.kids[i]
  have h1d:=Js (c.kids.take i) c.kids[i]
  have hst:=Fz c.kids (i+1)
  have hS:Cond.sizes (c.kids.take (i+1))=Cond.sizes (c.kids.take i)+c.kids[i].size:=by rw [hts,h1s]
  have hD:Cond.deps (c.kids.take (i+1))=max (Cond.deps (c.kids.take i)) c.kids[i].dep:=by rw [hts,h1d]
  have hdt:=z8 (c.kids.take i)
  try simp [go_sem,seval,Cond.c_eq,F0,q4_0,q5_0,h3,hS,hD,HW]
  repeat first|intro _|refine ⟨eO,?_⟩
  refine aB ((by have:=ih _ (aC h3) aD;rwa [Cond.c_eq] at this)) ((by first|rfl|(simp [go_sem,<- List.map_take,<- List.map_drop,Cond.c_eq,F0,q4_0,q5_0,h3,hS,hD,HW];done))) ?_
  try simp [go_sem,seval,Cond.c_eq,F0,q4_0,q5_0,h3,hS,hD,HW]
  repeat first|intro _|refine ⟨eO,?_⟩
  refine d7 (i+1) aD ((hI0 _ _ _).2 ⟨?_,?_,?_,?_,?_,?_,(by first|assumption|omega|(simp [go_sem,Cond.c_eq,F0,q4_0,q5_0,h3,hS,hD,HW];done)|(simp_all<;>omega))⟩)<;>first|omega|(simp [go_sem,seval,Cond.c_eq,F0,q4_0,q5_0,h3,hS,hD,HW]<;>omega)
 .try simp [go_sem] at h3
  have hU:c.kids.take i=c.kids:=aG h3
  rw [hU] at q4_0 q5_0
  try simp [go_sem,seval,Cond.c_eq,F0,q4_0,q5_0]
  refine aP (λh8=>?_) (λh8=>?_)
  .try simp [go_sem] at h8
   try simp [go_sem,seval,Cond.c_eq,F0,q4_0,q5_0]
   repeat first|intro _|refine ⟨eO,?_⟩
   exact hQ _ _ (by first|(left;(simp [go_sem,hse,hde,h8]);done)|(right;(simp [go_sem,hse,hde,h8]);done))
  .try simp [go_sem] at h8
   try simp [go_sem,seval,Cond.c_eq,F0,q4_0,q5_0]
   exact hQ _ _ (by first|(left;(simp [go_sem,hse,hde,h8]);done)|(right;(simp [go_sem,hse,hde,h8]);done))
def sA (c:Cond):Int:=if Lm c=false then 1 else if 12<c.size\/3<c.dep then 3 else 0
theorem EH (c:Cond)(e:c.ok)(d:c.size<=1000000):Pure Tryz.prog 317 [.agg c.c] (dI (sA c)):=by
 refine Tz.pK ⟨λ_=>false,λ_=>[]⟩ Tryz.func317 rfl (λQ b=>?_)
 have Y:=@Cond.c_eq
 refine wo (h:=aB ((by have:=zI c e;rwa [Cond.c_eq] at this)) wl ?_)
 refine fA (λa=>?_) λa=>?_
 .exact wv (h:=b _ _ (by simp [go_sem,sA,a]))
 .refine wv (h:=aB ((by have:=Cy c d;rwa [Cond.c_eq] at this)) wl ?_)
  refine fA (λf=>?_) λf=>?_
  .exact wv (h:=b _ _ (by simp [go_sem,sA,a];omega))
  .exact wv (h:=b _ _ (by simp [go_sem,sA,a];omega))
def n5 (t:Types)(q:Pattern)(outer:Int):Int :=
 if c6 t q≠9 then c6 t q
 else if ((List.range q.vars.toNat).all λ(v:Nat)=>decide ((v:Int)<outer)||jR q v)=true then 0 else 9
theorem D6 {t:Types}{q:Pattern}{a:Int}(h:c6 t q=9)(e:0<=a)(d:∀ v:Int,a<=v->v<q.vars->jR q v=true):n5 t q a=0:=by
 unfold n5
 rw [if_neg aD,if_pos]
 rw [cJ]
 intro v c
 simp at c ⊢
 by_cases b:(v:Int)<a
 .exact .inl b
 .exact .inr (d v aD aD)
theorem D8 {t:Types}{q:Pattern}{a:Int}(h:c6 t q=9)(f:0<=a){v:Int}(e:a<=v)(d:v<q.vars)(c:jR q v=false):n5 t q a=9:=by
 unfold n5
 rw [if_neg aD,if_neg]
 intro b
 rw [cJ] at b
 have:=b v.toNat (by simp;omega)
 simp at this
 rw [(aD:max v 0=v),c] at this
 simp at this;omega
theorem Jp {f:Nat->Int}{m:Int}(h0:(0:Int)≠m)(h:∀ j,f j≠m):∀ n k,bQ f k n≠m
 | 0,k=>h0
 | n+1,k=>by unfold bQ;split;exact h k;exact Jp h0 h n (k+1)
theorem Bb {f:Nat->Int}{nm:Nat->ByteArray}{last:ByteArray × Int}{m:Int}(h0:last.2≠m)(h:∀ j,f j≠m):∀ n k,(eR f nm last k n).2≠m
 | 0,k=>h0
 | n+1,k=>by unfold eR;split;exact h k;exact Bb h0 h n (k+1)
theorem IY:∀ (r l:List ByteArray),nI l r≠9
 | [],l=>by simp [nI]
 | s :: r,l=>by
  unfold nI
  split
  .decide
  .split
   .decide
   .exact IY r _
theorem Q5 (l:List ByteArray):n3 l≠9:=by unfold n3;split;decide;exact IY l []
theorem Ih (x:Attr)(l:List Attr):dN x l≠9:=by
 have:=Q5 x.names
 unfold dN
 repeat' split
 all_goals first|assumption|decide
theorem Se (t:Types)(i:Nat):g8 t i≠9:=by
 unfold g8
 split
 .decide
 .repeat' split
  all_goals first|decide|skip
  refine Jp (by decide) (λj=>?_) _ _
  split
  .exact Ih _ _
  .decide
theorem SC (t:Types)(i:Nat):jY t i≠9:=by
 unfold jY
 split
 .decide
 .repeat' split
  all_goals decide
theorem Ir (t:Types):(b9 t).2≠9:=by
 unfold b9
 split
 .decide
 .split
  .decide
  .exact Bb (Bb (by decide) (SC t) _ _) (Se t) _ _
theorem Bg (s:Slot)(v:Int):Pure Tryz.prog 433 [.agg s.c,.adr [dI v]] (.bool (decide (s.term.var=v))):=by
 refine Tz.pK ⟨λ_=>false,λ_=>[]⟩ Tryz.func433 rfl (λQ a=>?_)
 have Y:=trivial
 exact wv (h:=a _ _ wy)
theorem Gz (xs:List Slot)(g:FuncId)(caps:List D)(p:Slot->Bool)(hc:D.clL caps=true)(hg:∀ x∈xs,Pure Tryz.prog g (.agg x.c :: caps) (.bool (p x))) :
  Pure Tryz.prog 429 [.list (xs.map Slot.c),.fn g caps] (dI (Di xs p)):=by
 refine aT (aJ (cfg:=⟨λ_=>false,λ_=>[]⟩) Tz.mixed Tryz.func429 rfl rfl (aF rfl) (by kernel_rfl) ?_)
 simp [go_sem,seval,dI,dLI]
 intro hlen
 refine fQ (ι:=Nat) (λi e H=>H=.emp/\i<=xs.length/\e 0=.list (xs.map Slot.c)/\e 1=.fn g caps/\e 7=dI xs.length/\e 8=dI i/\(∀ j x,j<i->xs[j]?=some x->p x=false)) (λi=>xs.length - i) 0 (by simp [go_sem,seval,dI,dLI]) ?_
 intro i e H ⟨hH,hi,h0,h1,h7,h8,hn⟩
 subst hH
 simp [go_sem,seval,h0,h1,h7,h8,dI,dLI]
 refine f7 (λhlt=>?_) (λhge=>?_)
 .have hgx:=hg xs[i] (aC hlt)
  simp [go_sem,seval,h0,h1,h7,h8,dI,dLI,hlt,Slot.c] at hgx ⊢
  refine aB hgx (by simp [go_sem,hc]) ?_
  simp [go_sem,seval,h0,h1,h7,h8,dI,dLI]
  refine aP (λh=>?_) (λh=>?_)
  .simp [go_sem,seval,h0,h1,h7,h8,dI,dLI]
   rw [pW hn hlt h]
  .simp [go_sem,seval,h0,h1,h7,h8,dI,dLI]
   refine ⟨dD aD aD,i+1,aD,aD,aD,λj x hj hx=>?_⟩
   rcases b6 j i with hj'|hj'
   .exact hn j x hj' hx
   .have:j=i:=aD
    subst this
    rw [aA hlt] at hx
    cases hx;exact h
 .simp [go_sem,seval,h0,h1,h7,h8,dI,dLI]
  rw [pX λj x hj=>hn j x aD]
theorem tZ (xs:List Slot)(g:FuncId)(caps:List D)(p:Slot->Bool)(hc:D.clL caps=true)(hl:D.cl (.list (xs.map Slot.c))=true)(hg:∀ x∈xs,Pure Tryz.prog g (.agg x.c :: caps) (.bool (p x))) :
  Pure Tryz.prog 374 [.list (xs.map Slot.c),.fn g caps] (.bool (xs.any p)):=by
 refine aT (aJ (cfg:=⟨λ_=>false,λ_=>[]⟩) Tz.mixed Tryz.func374 rfl rfl (aF rfl) (by kernel_rfl) ?_)
 simp [go_sem,seval]
 refine aB (Gz xs g caps p hc hg) (by simp only [D.clL,hl,gM];simp [D.cl,hc]) ?_
 simp [go_sem,seval,dI,sL]
theorem kQ {t : Types} {q : Pattern} (h : c6 t q = 9 ∨ c6 t q = 0) : 0 ≤ q.vars ∧ q.vars ≤ 12 := by
  have hne := Ir t
  unfold c6 at h
  by_cases h1 : (b9 t).2 = 0
  · rw [if_neg (by omega)] at h
    by_cases h2 : graphF q.graph = 0
    · rw [if_neg (by omega)] at h
      split at h
      · omega
      · split at h
        · omega
        · rename_i h3; simp [inF] at h3; omega
    · rw [if_pos h2] at h
      have h3 : graphF q.graph ≠ 9 := by unfold graphF; repeat' split
                                         all_goals decide
      omega
  · rw [if_pos h1] at h
    omega
theorem Cx (t:Types)(ht:t.ok)(q:Pattern)(outer:Int)(h0:0<=outer):Pure Tryz.prog 379 [t.d,q.d,dI outer] (dI (n5 t q outer)):=by
 refine Tz.pK ⟨λt=>t==8,λ_=>[]⟩ Tryz.func379 rfl (λQ hQ=>?_)
 have Y:=trivial
 refine wv (h:=aB (nW t ht q) wl ?_)
 refine dP (λh2=>?_) λh2=>?_
 .exact wv (h:=hQ _ _ (by simp [go_sem,n5,h2]))
 .have hv:=kQ (.inl h2)
  refine wv (h:=bD (λv e H=>∃ id:Nat,(e 4=.adr q.c/\e 7=dI 9/\e 8=.ptr id 1 0 0)/\(H.get id=some ⟨3,1,[[dI (outer+v)]],false⟩)/\(id<H.next)/\(∀ u:Int,outer<=u->u<outer+v->jR q u=true)) (λv=>(q.vars - outer).toNat - v) 0 ⟨0,wg,wn,wn,(by intro u hu hv;omega)⟩ λI0 hI0 v e H hi0=>?_)
  obtain ⟨id,E0,gid_0,nid_0,ho⟩:=hi0
  have Y:=wa Y (wa E0 (wa gid_0 (b8 nid_0)))
  refine dP (λh5=>?_) λh5=>?_
  .have hOv:(q.slots.any λs=>decide (s.term.var=outer+v))=jR q (outer+v):=rfl
   have Y:=wa Y (wa h5 hOv)
   refine wo (h:=t6 ((tZ q.slots 433 [.adr [dI (outer+v)]] (λs=>decide (s.term.var=outer+v)) (by simp [go_sem]) (by simp [go_sem]) (λs _=>Bg s (outer+v)))) wr wl rfl ?_)
   refine fA (λh7=>?_) λh7=>?_
   .exact wv (h:=hQ _ _ (by rw [D8 h2 h0 (v:=outer+v) aD h5 (bX h7)];simp [go_sem]))
   .have ho':∀ u:Int,outer<=u->u<outer+((v+1:Nat):Int)->jR q u=true:=λu hu hv=>by
     by_cases hc:u<outer+v
     .exact ho u hu hc
     .rw [(aD:u=outer+v)];simpa using h7
    exact wo (h:=wx hI0 (v+1) ⟨H.next,wg,wn,wn,(by exact ho')⟩)
  .exact wv (h:=hQ _ _ (by rw [D6 h2 h0 λu hu hv=>ho u hu aD];simp [go_sem]))
def jS (t:Types)(p:Pattern)(m:Part)(q:Pattern):Int :=
 if q.vars<p.vars then 20
 else if n5 t q p.vars≠0 then n5 t q p.vars
 else if eV p.graph q.graph m≠0 then eV p.graph q.graph m
 else if Gy p.graph q.graph m=false then 1 else 0
mutual
def qS (t:Types):Pattern→Cond→Int
 | p,.mk k l m q=>if (if k=5 then jS t p m q else 0)≠0 then (if k=5 then jS t p m q else 0) else Sp t (if k=5 then q else p) l
def Sp (t:Types):Pattern→List Cond→Int
 | _,[]=>0
 | p,c :: l=>if qS t p c≠0 then qS t p c else Sp t p l
end
theorem TN (t:Types)(p:Pattern)(l:List Cond):Sp t p l=gK (qS t p) l:=by
 induction l with
 | nil=>simp [Sp,gK]
 | cons a l ih=>simp only [Sp,gK,ih]
theorem E8 (t:Types)(p:Pattern)(c:Cond):qS t p c=if (if c.kind=5 then jS t p c.map c.pattern else 0)≠0 then (if c.kind=5 then jS t p c.map c.pattern else 0) else gK (qS t (if c.kind=5 then c.pattern else p)) c.kids:=by
 cases c;simp only [qS,TN];rfl
theorem D7 {t:Types}{q:Pattern}{o:Int}(h:n5 t q o=0):0<=q.vars/\q.vars<=12:=by
 unfold n5 at h
 split at h
 .exact kQ (.inr h)
 .rename_i h1;exact kQ (t:=t) (.inl aD)
theorem Dp (t:Types)(ht:t.ok):∀ (c:Cond) (p:Pattern),0<=p.vars->p.vars<=12->Pure Tryz.prog 318 [t.d,p.d,.agg c.c] (dI (qS t p c)):=by
 refine i9 λc ih p hp0 hp1=>?_
 have hF:=E8 t p c
 refine Tz.pK ⟨λt=>t==4||t==7||t==11,λ_=>[]⟩ Tryz.func318 rfl (λQ hQ=>?_)
 have Y:=@Cond.c_eq
 refine dP (λh1=>?_) λh1=>?_
 .rw [if_pos h1,if_pos h1] at hF
  refine dP (λh3=>?_) λh3=>?_
  .exact wv (h:=hQ _ _ (by simp [go_sem,hF,jS,h3]))
  .refine wv (h:=aB (Cx t ht c.pattern p.vars hp0) wl ?_)
   refine dP (λh6=>?_) λh6=>?_
   .exact wv (h:=hQ _ _ (by simp [go_sem,hF,jS,h6];omega))
   .refine wv (h:=aB (pA p.graph c.pattern.graph c.map) wl ?_)
    refine dP (λh9=>?_) λh9=>?_
    .exact wv (h:=hQ _ _ (by simp [go_sem,hF,jS,h6,h9];omega))
    .have hm:=n4 h9
     have hga:=bS hm.1
     refine wv (h:=?_)
     repeat first|intro _|refine ⟨eO,?_⟩
     refine aB (sH p.graph c.pattern.graph c.map aD aD) wl ?_
     refine wv (h:=?_)
     repeat first|intro _|refine ⟨eO,?_⟩
     refine wq (λh11=>?_) λh11=>?_
     .exact wv (h:=hQ _ _ (by simp [go_sem,hF,jS,h6,h9,h11];omega))
     .have hE0:jS t p c.map c.pattern=0:=by simp [jS,h6,h9,h11];omega
      rw [hE0,if_neg aD] at hF
      obtain ⟨w,hw⟩:=cW (c.pattern)
      have hv:=D7 h6
      have hw0:0<=w.vars:=by rw [hw];exact hv.1
      have hw1:w.vars<=12:=by rw [hw];exact hv.2
      have hF':qS t p c=gK (qS t w) c.kids:=by rw [hF,hw]
      refine wv (h:=?_)
      repeat first|intro _|refine ⟨eO,?_⟩
      refine bD (λi e H=>(e 3=.adr t.c/\e 5=.adr c.c/\e 51=.list (c.kids.map Cond.c)/\e 52=dI c.kids.length/\e 4=.ptr 0 1 0 0/\e 53=dI i)/\(H.get 0=some ⟨33,5,[w.c],false⟩)/\(0<H.next)/\(i<=c.kids.length)/\(gK (qS t w) (c.kids.drop i)=qS t p c)) (λi=>c.kids.length - i) 0 ⟨wg,(by simp [go_sem,hw]),wn,wi,(by exact hF'.symm)⟩ λI0 hI0 i e H hi0=>?_
      obtain ⟨E0,g0_0,n0_0,hi,hL⟩:=hi0
      have Y:=wa Y (wa E0 (wa g0_0 (b8 n0_0)))
      refine dP (λh15=>?_) λh15=>?_
      .have hst:=hL
       rw [kX _ h15] at hst
       have Y:=wa Y h15
       refine wv (h:=?_)
       repeat first|intro _|refine ⟨eO,?_⟩
       refine aB ((by have:=ih _ (aC h15) w hw0 hw1;rwa [Cond.c_eq] at this)) wl ?_
       refine wv (h:=?_)
       repeat first|intro _|refine ⟨eO,?_⟩
       refine wq (λh18=>?_) λh18=>?_
       .rw [if_pos aD] at hst
        exact wv (h:=hQ _ _ (by simp [go_sem,hst]))
       .rw [if_neg aD] at hst
        refine wv (h:=?_)
        repeat first|intro _|refine ⟨eO,?_⟩
        exact wx hI0 (i+1) ⟨wg,(by simp [go_sem,Y]),wn,wj,(by exact hst)⟩
      .exact wv (h:=hQ _ _ (by rw [<- hL,l6 _ aD];simp [go_sem]))
 .rw [if_neg h1,if_neg aD,if_neg h1] at hF
  obtain ⟨w,hw⟩:=cW (p)
  have hw0:0<=w.vars:=by rw [hw];exact hp0
  have hw1:w.vars<=12:=by rw [hw];exact hp1
  have hF':qS t p c=gK (qS t w) c.kids:=by rw [hF,hw]
  refine wv (h:=?_)
  repeat first|intro _|refine ⟨eO,?_⟩
  refine bD (λi e H=>(e 3=.adr t.c/\e 5=.adr c.c/\e 51=.list (c.kids.map Cond.c)/\e 52=dI c.kids.length/\e 4=.ptr 0 1 0 0/\e 53=dI i)/\(H.get 0=some ⟨33,5,[w.c],false⟩)/\(0<H.next)/\(i<=c.kids.length)/\(gK (qS t w) (c.kids.drop i)=qS t p c)) (λi=>c.kids.length - i) 0 ⟨wg,(by simp [go_sem,hw]),wn,wi,(by exact hF'.symm)⟩ λI0 hI0 i e H hi0=>?_
  obtain ⟨E0,g0_0,n0_0,hi,hL⟩:=hi0
  have Y:=wa Y (wa E0 (wa g0_0 (b8 n0_0)))
  refine dP (λh15=>?_) λh15=>?_
  .have hst:=hL
   rw [kX _ h15] at hst
   have Y:=wa Y h15
   refine wv (h:=?_)
   repeat first|intro _|refine ⟨eO,?_⟩
   refine aB ((by have:=ih _ (aC h15) w hw0 hw1;rwa [Cond.c_eq] at this)) wl ?_
   refine wv (h:=?_)
   repeat first|intro _|refine ⟨eO,?_⟩
   refine wq (λh18=>?_) λh18=>?_
   .rw [if_pos aD] at hst
    exact wv (h:=hQ _ _ (by simp [go_sem,hst]))
   .rw [if_neg aD] at hst
    refine wv (h:=?_)
    repeat first|intro _|refine ⟨eO,?_⟩
    exact wx hI0 (i+1) ⟨wg,(by simp [go_sem,Y]),wn,wj,(by exact hst)⟩
  .exact wv (h:=hQ _ _ (by rw [<- hL,l6 _ aD];simp [go_sem]))
def condF (t:Types)(p:Pattern)(c:Cond):Int :=
 if c6 t p≠0 then c6 t p else if sA c≠0 then sA c else qS t p c
theorem w9 (t:Types)(f:t.ok)(p:Pattern)(c:Cond)(i:c.ok)(g:c.size<=1000000):Pure Tryz.prog 226 [t.d,p.d,.agg c.c] (dI (condF t p c)):=by
 refine Tz.pK ⟨λ_=>false,λ_=>[]⟩ Tryz.func226 rfl (λQ b=>?_)
 have Y:=@Cond.c_eq
 refine wv (h:=aB (nW t f p) wl ?_)
 refine dP (λa=>?_) λa=>?_
 .have Y:=wa Y (wa a @condF.eq_1)
  exact wv (h:=b _ _ wy)
 .have hv:=kQ (.inr a)
  refine wv (h:=aB ((by have:=EH c i g;rwa [Cond.c_eq] at this)) wl ?_)
  refine dP (λe=>?_) λe=>?_
  .have Y:=wa Y (wa a (wa e @condF.eq_1))
   exact wv (h:=b _ _ wy)
  .refine wv (h:=aB ((by have:=Dp t f c p hv.1 hv.2;rwa [Cond.c_eq] at this)) wl ?_)
   have Y:=wa Y (wa a (wa e @condF.eq_1))
   exact wv (h:=b _ _ wy)
attribute [go_sem] Rule.c Rule.d
@[go_sem] theorem Zl (o:Option Attr)(e d b a:D):((Option.map Attr.c o).getD [e,d,b,a]).length=4:=by cases o<;>rfl
@[go_sem] theorem Zj (o:Option NodeTy)(e d b a:D):((Option.map NodeTy.c o).getD [e,d,b,a]).length=4:=by cases o<;>rfl
@[go_sem] theorem Wx (o:Option EdgeTy)(h g f e d b a:D):((Option.map EdgeTy.c o).getD [h,g,f,e,d,b,a]).length=7:=by cases o<;>rfl
@[go_sem] theorem X5 (o:Option Edge)(d b a:D):((Option.map Edge.c o).getD [d,b,a]).length=3:=by cases o<;>rfl
@[go_sem] theorem Zh (o:Option Slot)(e d b a:D):((Option.map Slot.c o).getD [e,d,b,a]).length=4:=by cases o<;>rfl
@[go_sem] theorem Zg (o:Option Test)(f e d b a:D):((Option.map Test.c o).getD [f,e,d,b,a]).length=5:=by cases o<;>rfl
@[go_sem] theorem X4 (o:Option Stage)(b a:D):((Option.map Stage.c o).getD [b,a]).length=2:=by cases o<;>rfl
@[go_sem] theorem abC (o:Option Int)(a:D):((Option.map cI o).getD [a]).length=1:=by cases o<;>rfl
@[go_sem] theorem abA (o:Option ByteArray)(a:D):((Option.map cS o).getD [a]).length=1:=by cases o<;>rfl
@[go_sem] theorem Zk (o:Option Bool)(a:D):((Option.map cB o).getD [a]).length=1:=by cases o<;>rfl
theorem LK (t:Types)(a:Int):Pure Tryz.prog 372 [dI a,.adr t.c] (.bool (decide ((t.nodes.length:Int)<=a))):=by
 refine Tz.pK ⟨λ_=>false,λ_=>[]⟩ Tryz.func372 rfl (λQ b=>?_)
 have Y:=trivial
 exact wo (h:=b _ _ wy)
theorem LJ (t:Types)(x:Edge):Pure Tryz.prog 373 [.agg x.c,.adr t.c] (.bool (decide ((t.edges.length:Int)<=x.type))):=by
 refine Tz.pK ⟨λ_=>false,λ_=>[]⟩ Tryz.func373 rfl (λQ a=>?_)
 have Y:=trivial
 exact wo (h:=a _ _ wy)
theorem Oc (t:Types)(g:Graph):Pure Tryz.prog 312 [t.d,g.d] (.bool (iB t g)):=by
 have j:=gC g.nodes 372 [.adr t.c] (λa=>decide ((t.nodes.length:Int)<=a)) (by simp [go_sem]) (by simp [go_sem]) (λa _=>LK t a)
 have i:=lX g.edges 373 [.adr t.c] (λx=>decide ((t.edges.length:Int)<=x.type)) (by simp [go_sem]) (by simp [go_sem]) (λx _=>LJ t x)
 have e:iB t g=((!(g.nodes.any λn=>decide ((t.nodes.length:Int)<=n)))&&!(g.edges.any λx=>decide ((t.edges.length:Int)<=x.type))):=rfl
 generalize (g.nodes.any λn=>decide ((t.nodes.length:Int)<=n))=u at *
 generalize (g.edges.any λx=>decide ((t.edges.length:Int)<=x.type))=v at *
 rw [e]
 refine Tz.pK ⟨λ_=>false,λ_=>[]⟩ Tryz.func312 rfl (λQ f=>?_)
 have Y:=trivial
 refine wo (h:=aB (j) wl ?_)
 refine wo (h:=aH (λb=>i) (λb=>wl) ?_)
 exact wo (h:=f _ _ wy)
def sameSlot (x y:Slot):Bool:=decide (y.node=x.node)&&decide (y.attr=x.attr)
theorem Od (x y:Slot):Pure Tryz.prog 375 [.agg y.c,.adr x.c] (.bool (sameSlot x y)):=by
 refine Tz.pK ⟨λ_=>false,λ_=>[]⟩ Tryz.func375 rfl (λQ a=>?_)
 have Y:=trivial
 have Y:=wa Y @sameSlot.eq_1
 exact wo (h:=a _ _ wy)
def v7 (t:Types)(p:Pattern)(i:Nat):Int:=match p.slots[i]? with
 | some s=>if gJ t p s≠0 then 6 else if ((p.slots.take i).any (sameSlot s))=true then 5 else 0
 | none=>0
theorem CZ {t:Types}{p:Pattern}{i:Nat}(h:i<p.slots.length):v7 t p i=if gJ t p p.slots[i]≠0 then 6 else if ((p.slots.take i).any (sameSlot p.slots[i]))=true then 5 else 0:=by
 unfold v7;rw [aA h]
theorem Qw (t:Types)(ht:t.ok)(r:Rule)(hr:r.right.graph.nodes.length<=1000)(i:Nat)(hi:i<r.right.slots.length):Pure Tryz.prog 313 [t.d,r.d,dI i] (dI (v7 t r.right i)):=by
 have hS:=CZ (t:=t) hi
 have h8:=qA ht (r.right.kind r.right.slots[i].node)
 have hdup:=tZ (r.right.slots.take i) 375 [.adr r.right.slots[i].c] (sameSlot r.right.slots[i]) (by simp [go_sem]) (by simp only [D.cl];exact Fv _) (λy _=>Od r.right.slots[i] y)
 refine Tz.pK ⟨λt=>t==7||t==10,λ_=>[]⟩ Tryz.func313 rfl (λQ hQ=>?_)
 have Y:=wa (aA hi) hi
 refine fA (λh2=>?_) λh2=>?_
 .have hE:gJ t r.right r.right.slots[i]≠0:=by
   unfold gJ;rw [if_neg];decide;intro h;simp [lV] at h;omega
  rw [if_pos hE] at hS
  exact wv (h:=hQ _ _ (by simp [go_sem,hS]))
 .have hn:r.right.slots[i].node.toNat<r.right.graph.nodes.length:=aD
  have hk:r.right.kind r.right.slots[i].node=r.right.graph.nodes[r.right.slots[i].node.toNat]:=by simp [Pattern.kind,hn]
  rw [hk] at h8
  have Y:=wa Y (wa (aA hn) hk)
  refine wo (h:=aI (n7 t ht r.right.graph.nodes[r.right.slots[i].node.toNat]) wl ?_)
  refine fA (λh6=>?_) λh6=>?_
  .have hE:gJ t r.right r.right.slots[i]≠0:=by
    unfold gJ;rw [if_neg];decide;intro h;simp [lV,inF,hk] at h;omega
   rw [if_pos hE] at hS
   exact wv (h:=hQ _ _ (by simp [go_sem,hS]))
  .have hE:gJ t r.right r.right.slots[i]=0:=by
    unfold gJ;rw [if_pos];simp [lV,inF,hk];omega
   rw [if_neg aD] at hS
   have hsl:(i:Int)<=r.right.slots.length:=aD
   refine wo (h:=t6 (hdup) wr wl rfl ?_)
   refine fA (λh8=>?_) λh8=>?_
   .exact wv (h:=hQ _ _ (by rw [hS,if_pos (by rw [aX];exact h8)];simp [go_sem]))
   .exact wv (h:=hQ _ _ (by rw [hS,if_neg (by rw [aX];rintro ⟨x,hx,hs⟩;have:=h8 x hx;rw [this] at hs;cases hs)];simp [go_sem]))
end Go.Abs
end
