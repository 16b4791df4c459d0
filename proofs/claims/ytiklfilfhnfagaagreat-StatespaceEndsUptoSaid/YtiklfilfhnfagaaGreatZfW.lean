/- Layer 49: what can be reached; the components of both layers -/
import Derived.Test.YtiklfilfhnfagaaGreatZfV
import Derived.Test.YtiklfilfhnfagaaGreatZfG
import Derived.Test.YtiklfilfhnfagaaGreatZfA
import Derived.Test.YtiklfilfhnfagaaGreatZfM
import Derived.Test.YtiklfilfhnfagaaGreatRows
set_option linter.unusedVariables false
set_option linter.unusedSimpArgs false
section
set_option maxRecDepth 100000
set_option maxHeartbeats 4000000
open Go Go.Proofs
namespace Go.Abs
inductive Rch (E:Nat→Nat→Prop) (i:Nat):Nat→Prop
 | refl:Rch E i i
 | step {a b:Nat}:Rch E i a→E a b→Rch E i b
theorem Rch.trans {E:Nat→Nat→Prop}{i a b:Nat}(h:Rch E i a)(k:Rch E a b):Rch E i b:=by
 induction k with
 | refl=>exact h
 | step _ e ih=>exact ih.step e
theorem Rch.head {E:Nat→Nat→Prop}{i a b:Nat}(e:E i a)(k:Rch E a b):Rch E i b:=(Rch.refl.step e).trans k
theorem Rch.flip {E F:Nat→Nat→Prop}(hf:∀ a b,E a b→F b a){i a:Nat}(h:Rch E i a):Rch F a i:=by
 induction h with
 | refl=>exact .refl
 | step _ e ih=>exact .head (hf _ _ e) ih
def bT (m:List Bool)(k:Nat):Prop:=m[k]?=some true
theorem Cq {m:List Bool}{j k:Nat}:bT (m.set j true) k↔(k=j∧j<m.length)∨bT m k:=by
 unfold bT
 rw [bR]
 by_cases e:j=k
 ·subst e
  by_cases h:j<m.length
  ·simp [h]
  ·simp [h]
 ·simp [e,Ne.symm e]
theorem Ix : ∀ (l : List Int) (m : List Bool) (st : List Int), (∀ y ∈ l, y.toNat < m.length) →
    (∀ k, bT (l.foldl DF (m, st)).1 k ↔ bT m k ∨ ∃ y ∈ l, y.toNat = k) ∧
    (∀ y, y ∈ (l.foldl DF (m, st)).2 ↔ y ∈ st ∨ (y ∈ l ∧ ¬ bT m y.toNat ∧ y ∈ (l.foldl DF (m, st)).2)) ∧
    (∀ y ∈ l, ¬ bT m y.toNat → ∃ z ∈ (l.foldl DF (m, st)).2, z.toNat = y.toNat) ∧
    (∀ y ∈ st, y ∈ (l.foldl DF (m, st)).2) ∧
    fX (l.foldl DF (m, st)).1 + (l.foldl DF (m, st)).2.length = fX m + st.length
  | [], m, st, h => by simp
  | y :: l, m, st, h => by
    have hy := h y (dA ..)
    by_cases e : bT m y.toNat
    · have hm : DF (m, st) y = (m, st) := by unfold DF; unfold bT at e; simp [e]
      rw [c8, hm]
      obtain ⟨a1, a2, a3, a4, a5⟩ := Ix l m st (fun z hz => h z (bH _ hz))
      refine ⟨fun k => ?_, fun z => ?_, fun z hz hn => ?_, a4, a5⟩
      · rw [a1]
        constructor
        · rintro (q | ⟨z, hz, rfl⟩)
          · exact .inl q
          · exact .inr ⟨z, bH _ hz, rfl⟩
        · rintro (q | ⟨z, hz, rfl⟩)
          · exact .inl q
          · rcases aO.1 hz with rfl | hz
            · exact .inl e
            · exact .inr ⟨z, hz, rfl⟩
      · constructor
        · intro hz
          rcases (a2 z).1 hz with q | ⟨q1, q2, q3⟩
          · exact .inl q
          · exact .inr ⟨bH _ q1, q2, q3⟩
        · rintro (q | ⟨_, _, q⟩)
          · exact a4 z q
          · exact q
      · rcases aO.1 hz with rfl | hz
        · exact absurd e hn
        · exact a3 z hz hn
    · have hf : m[y.toNat]? = some false := by
        unfold bT at e
        rw [aA hy] at e ⊢
        cases hq : m[y.toNat] <;> simp [hq] at e ⊢
      have hm : DF (m, st) y = (m.set y.toNat true, st ++ [y]) := by unfold DF; simp [hf]
      rw [c8, hm]
      obtain ⟨a1, a2, a3, a4, a5⟩ := Ix l (m.set y.toNat true) (st ++ [y]) (fun z hz => by rw [fI]; exact h z (bH _ hz))
      have hyin := a4 y (by simp)
      refine ⟨fun k => ?_, fun z => ?_, fun z hz hn => ?_, fun z hz => a4 z (by simp [hz]), ?_⟩
      · rw [a1, Cq]
        constructor
        · rintro ((⟨rfl, _⟩ | q) | ⟨z, hz, rfl⟩)
          · exact .inr ⟨y, dA .., rfl⟩
          · exact .inl q
          · exact .inr ⟨z, bH _ hz, rfl⟩
        · rintro (q | ⟨z, hz, rfl⟩)
          · exact .inl (.inr q)
          · rcases aO.1 hz with rfl | hz
            · exact .inl (.inl ⟨rfl, hy⟩)
            · exact .inr ⟨z, hz, rfl⟩
      · constructor
        · intro hz
          rcases (a2 z).1 hz with q | ⟨q1, q2, q3⟩
          · rcases aW.1 q with q | q
            · exact .inl q
            · rw [aR.1 q]; exact .inr ⟨dA .., e, hyin⟩
          · exact .inr ⟨bH _ q1, fun q => q2 (Cq.2 (.inr q)), q3⟩
        · rintro (q | ⟨_, _, q⟩)
          · exact a4 z (by simp [q])
          · exact q
      · by_cases hzy : z.toNat = y.toNat
        · exact ⟨y, hyin, hzy.symm⟩
        · rcases aO.1 hz with rfl | hz
          · exact absurd rfl hzy
          · exact a3 z hz (fun q => by rcases Cq.1 q with q | q
                                       · exact hzy q.1
                                       · exact hn q)
      · rw [a5]; have := xN m y.toNat hf; simp; omega
theorem L8 {L:List (List Int)}{i:Nat}(hL:∀ l∈L,∀ y∈l,0≤y∧y<(L.length:Int)):∀ (c:Nat) (m:List Bool) (st:List Int),m.length=L.length→fX m+st.length≤c→(∀ y∈st,(0≤y∧y<(L.length:Int))∧bT m y.toNat)→(∀ a,bT m a→Rch (fun a b=>∃ y∈v6 L a,y.toNat=b) i a)→(∀ a,bT m a→(∃ y∈st,y.toNat=a)∨∀ y∈v6 L a,bT m y.toNat)→bT m i →
  ∀ k,bT (qP L c (m,st)) k↔Rch (fun a b=>∃ y∈v6 L a,y.toNat=b) i k:=by
 have hend:∀ (m:List Bool),(∀ a,bT m a→Rch (fun a b=>∃ y∈v6 L a,y.toNat=b) i a)→(∀ a,bT m a→∀ y∈v6 L a,bT m y.toNat)→bT m i→∀ k,bT m k↔Rch (fun a b=>∃ y∈v6 L a,y.toNat=b) i k:=by
  intro m h1 h2 h3 k
  refine ⟨h1 k,fun h=>?_⟩
  induction h with
  | refl=>exact h3
  | step _ e ih=>obtain ⟨y,hy,rfl⟩:=e;exact h2 _ ih y hy
 intro c
 induction c with
 | zero =>
  intro m st h0 h1 h2 h3 h4 h5 k
  have hs:st=[]:=aV (by omega)
  subst hs
  exact hend m h3 (fun a ha=>(h4 a ha).resolve_left (by simp)) h5 k
 | succ c ih =>
  intro m st h0 h1 h2 h3 h4 h5 k
  show bT (if st.length=0 then m else _) k↔_
  by_cases hs:st.length=0
  ·rw [if_pos hs]
   have hs:st=[]:=aV hs
   subst hs
   exact hend m h3 (fun a ha=>(h4 a ha).resolve_left (by simp)) h5 k
  ·rw [if_neg hs]
   have hsl:st.length - 1<st.length:=by omega
   obtain ⟨a,ha⟩:∃ a,a=st[st.length - 1]:=⟨_,rfl⟩
   have hst:st=st.take (st.length - 1)++[a]:=by
    have:st.take (st.length - 1+1)=st.take (st.length - 1)++[a]:=by rw [aG hsl,ha]
    rw [← this];exact (aK (by omega)).symm
   obtain ⟨w,hw⟩:∃ w,w=st.take (st.length - 1):=⟨_,rfl⟩
   rw [← hw] at hst
   have hwl:w.length+1=st.length:=by rw [hst];simp
   have haS:a∈st:=by rw [hst];simp
   have hai:iA st ((st.length - 1:Nat):Int)=a:=by rw [kJ hsl,ha]
   show bT (qP L c ((L[(iA st ((st.length - 1:Nat):Int)).toNat]?.getD []).foldl DF (m,st.take (st.length - 1)))) k↔_
   rw [hai,← hw]
   obtain ⟨row,hrow⟩:∃ r,r=v6 L a.toNat:=⟨_,rfl⟩
   show bT (qP L c ((v6 L a.toNat).foldl DF (m,w))) k↔_
   rw [← hrow]
   have haL:=(h2 a haS).1
   have hrw:∀ y∈row,0≤y∧y<(L.length:Int):=fun y hy=>by
    rw [hrow] at hy;unfold v6 at hy
    rw [aA (by omega)] at hy
    exact hL _ (aC _) y hy
   obtain ⟨b1,b2,b3,b4,b5⟩:=Ix row m w (fun y hy=>by have:=hrw y hy;omega)
   have hlen:=ER row (m,w)
   obtain ⟨⟨m2,s2⟩,hms⟩:∃ p,p=row.foldl DF (m,w):=⟨_,rfl⟩
   rw [← hms] at b1 b2 b3 b4 b5 hlen
   rw [← hms]
   simp only at b1 b2 b3 b4 b5 hlen
   refine ih m2 s2 (by omega) (by omega) (fun y hy=>?_) (fun x hx=>?_) (fun x hx=>?_) ((b1 i).2 (.inl h5)) k
   ·rcases (b2 y).1 hy with q|⟨q,_,_⟩
    ·have:=h2 y (by rw [hst];simp [q])
     exact ⟨this.1,(b1 _).2 (.inl this.2)⟩
    ·exact ⟨hrw y q,(b1 _).2 (.inr ⟨y,q,rfl⟩)⟩
   ·rcases (b1 x).1 hx with q|⟨y,hy,rfl⟩
    ·exact h3 x q
    ·exact (h3 _ (h2 a haS).2).step ⟨y,by rw [← hrow];exact hy,rfl⟩
   ·by_cases hxm:bT m x
    ·by_cases hxa:x=a.toNat
     ·refine .inr fun y hy=>(b1 _).2 (.inr ⟨y,by rw [hrow,← hxa];exact hy,rfl⟩)
     ·rcases h4 x hxm with ⟨y,hy,rfl⟩|q
      ·rw [hst] at hy
       rcases aW.1 hy with hy|hy
       ·exact .inl ⟨y,b4 y hy,rfl⟩
       ·rw [aR.1 hy] at hxa;exact absurd rfl hxa
      ·exact .inr fun y hy=>(b1 _).2 (.inl (q y hy))
    ·rcases (b1 x).1 hx with q|⟨y,hy,rfl⟩
     ·exact absurd q hxm
     ·exact .inl (b3 y hy hxm)
theorem uA {n i k:Nat}(h:i<n):bT (pU n i) k↔k=i:=by
 unfold pU
 rw [show ((i:Int)).toNat=i from rfl,Cq]
 simp only [o5]
 constructor
 ·rintro (q|q)
  ·exact q.1
  ·unfold bT at q;rw [eG] at q;split at q<;>simp at q
 ·intro q;exact .inl ⟨q,h⟩
theorem Ez {L:List (List Int)}{i:Nat}(hi:i<L.length)(hL:∀ l∈L,∀ y∈l,0≤y∧y<(L.length:Int))(k:Nat):bT (lH L i) k↔Rch (fun a b=>∃ y∈v6 L a,y.toNat=b) i k:=by
 refine L8 hL _ _ _ (by simp [pU]) (by simp) (fun y hy=>?_) (fun a ha=>?_) (fun a ha=>?_) ((uA hi).2 rfl) k
 ·rw [aR.1 hy];exact ⟨by omega,(uA hi).2 rfl⟩
 ·rw [(uA hi).1 ha];exact .refl
 ·rw [(uA hi).1 ha];exact .inl ⟨i,by simp,rfl⟩
theorem uB (f g:Arr→Int)(n:Nat):∀ (l:List Arr) (N:List (List Int)),N.length=n→(∀ x∈l,(f x).toNat<n)→∀ a y,y∈v6 (l.foldl (fun L x=>u9 L (f x).toNat (g x)) N) a↔y∈v6 N a∨∃ x∈l,(f x).toNat=a∧g x=y
 | [],N,hN,h,a,y=>by simp
 | x :: l,N,hN,h,a,y=>by
  have hx:=h x (dA ..)
  rw [c8,uB f g n l _ (by simp [u9,hN]) (fun z hz=>h z (bH _ hz)),AE (by omega)]
  by_cases e:a=(f x).toNat
  ·subst e
   rw [if_pos rfl,aW,aR]
   constructor
   ·rintro ((q|rfl)|⟨z,hz,q⟩)
    ·exact .inl q
    ·exact .inr ⟨x,dA ..,rfl,rfl⟩
    ·exact .inr ⟨z,bH _ hz,q⟩
   ·rintro (q|⟨z,hz,q1,q2⟩)
    ·exact .inl (.inl q)
    ·rcases aO.1 hz with rfl|hz
     ·exact .inl (.inr q2.symm)
     ·exact .inr ⟨z,hz,q1,q2⟩
  ·rw [if_neg e]
   constructor
   ·rintro (q|⟨z,hz,q⟩)
    ·exact .inl q
    ·exact .inr ⟨z,bH _ hz,q⟩
   ·rintro (q|⟨z,hz,q1,q2⟩)
    ·exact .inl q
    ·rcases aO.1 hz with rfl|hz
     ·exact absurd q1.symm e
     ·exact .inr ⟨z,hz,q1,q2⟩
def Ry (l:List Arr)(a b:Nat):Prop:=∃ x∈l,x.from_.toNat=a∧x.to_.toNat=b
def KD (n:Nat)(l:List Arr):Prop:=∀ x∈l,(0≤x.from_∧x.from_<(n:Int))∧0≤x.to_∧x.to_<(n:Int)
theorem FZ (f g:Arr→Int):∀ (l:List Arr) (N:List (List Int)),(l.foldl (fun L x=>u9 L (f x).toNat (g x)) N).length=N.length
 | [],N=>rfl
 | x :: l,N=>by rw [c8,FZ f g l];simp [u9]
theorem N9 (f g:Arr→Int){n:Nat}{l:List Arr}(hf:∀ x∈l,(f x).toNat<n)(hg:∀ x∈l,0≤g x∧g x<(n:Int)):∀ r∈l.foldl (fun L x=>u9 L (f x).toNat (g x)) (List.replicate n []),∀ y∈r,0≤y∧y<(n:Int):=fun r hr y hy=>by
 obtain ⟨a,ha,rfl⟩:=aM hr
 have:=(uB f g n l (List.replicate n []) (by simp) hf a y).1 (by unfold v6;rw [aA ha];exact hy)
 rw [yB] at this
 obtain ⟨x,hx,_,rfl⟩:=this.resolve_left (by simp)
 exact hg x hx
theorem QG {n i:Nat}{l:List Arr}(hl:KD n l)(hi:i<n)(k:Nat):bT (lH (yU n l) i) k↔Rch (Ry l) i k:=by
 have e:(yU n l).length=n:=(FZ (·.from_) (·.to_) l _).trans (by simp)
 have hf:∀ x∈l,x.from_.toNat<n:=fun x hx=>by have:=(hl x hx).1;omega
 rw [Ez (by omega) (by rw [e];exact N9 (·.from_) (·.to_) hf (fun x hx=>(hl x hx).2))]
 have:(fun a b=>∃ y∈v6 (yU n l) a,y.toNat=b)=Ry l:=by
  funext a b
  refine propext ⟨fun ⟨y,hy,q⟩=>?_,fun ⟨x,hx,q1,q2⟩=>?_⟩
  ·have:=(uB (·.from_) (·.to_) n l (List.replicate n []) (by simp) hf a y).1 hy
   rw [yB] at this
   obtain ⟨x,hx,q1,q2⟩:=this.resolve_left (by simp)
   exact ⟨x,hx,q1,by rw [q2];exact q⟩
  ·exact ⟨x.to_,(uB (·.from_) (·.to_) n l (List.replicate n []) (by simp) hf a _).2 (.inr ⟨x,hx,q1,rfl⟩),q2⟩
 rw [this]
theorem Rq {n i:Nat}{l:List Arr}(hl:KD n l)(hi:i<n)(k:Nat):bT (lH (y0 n l) i) k↔Rch (Ry l) k i:=by
 have e:(y0 n l).length=n:=(FZ (·.to_) (·.from_) l _).trans (by simp)
 have hf:∀ x∈l,x.to_.toNat<n:=fun x hx=>by have:=(hl x hx).2;omega
 rw [Ez (by omega) (by rw [e];exact N9 (·.to_) (·.from_) hf (fun x hx=>(hl x hx).1))]
 have:(fun a b=>∃ y∈v6 (y0 n l) a,y.toNat=b)=fun a b=>Ry l b a:=by
  funext a b
  refine propext ⟨fun ⟨y,hy,q⟩=>?_,fun ⟨x,hx,q1,q2⟩=>?_⟩
  ·have:=(uB (·.to_) (·.from_) n l (List.replicate n []) (by simp) hf a y).1 hy
   rw [yB] at this
   obtain ⟨x,hx,q1,q2⟩:=this.resolve_left (by simp)
   exact ⟨x,hx,by rw [q2];exact q,q1⟩
  ·exact ⟨x.from_,(uB (·.to_) (·.from_) n l (List.replicate n []) (by simp) hf a _).2 (.inr ⟨x,hx,q2,rfl⟩),q1⟩
 rw [this]
 exact ⟨fun h=>h.flip (fun _ _ q=>q),fun h=>h.flip (fun _ _ q=>q)⟩
def oN (m:List Bool)(x:Arr):List Bool:=if (m[x.from_.toNat]?.getD false&&!m[x.to_.toNat]?.getD false)=true then m.set x.to_.toNat true else m
def RK (l:List Arr):Nat→List Bool→List Bool
 | 0,m=>m
 | c+1,m=>if fX (l.foldl oN m)=fX m then m else RK l c (l.foldl oN m)
def jO (n:Nat)(l:List Arr)(i:Nat):List Bool:=RK l (n+1) (pU n i)
theorem AH (m:List Bool)(x:Arr):(oN m x).length=m.length:=by unfold oN;split<;>simp
theorem Ev:∀ (l:List Arr) (m:List Bool),(l.foldl oN m).length=m.length
 | [],m=>rfl
 | x :: l,m=>(Ev l _).trans (AH m x)
theorem No (l:List Arr):∀ (c:Nat) (m:List Bool),(RK l c m).length=m.length
 | 0,m=>rfl
 | c+1,m=>by
  show (if _ then _ else _:List Bool).length=_
  split
  ·rfl
  ·rw [No,Ev]
theorem lI (n:Nat)(l:List Arr)(i:Nat):(jO n l i).length=n:=by unfold jO;rw [No];simp [pU]
theorem zU {m:List Bool}{n:Nat}{x:Arr}(hm:m.length=n)(hx:(0≤x.from_∧x.from_<(n:Int))∧0≤x.to_∧x.to_<(n:Int)) :
  (bT m x.from_.toNat∧¬ bT m x.to_.toNat∧oN m x=m.set x.to_.toNat true∧fX (oN m x)+1=fX m)∨((bT m x.from_.toNat→bT m x.to_.toNat)∧oN m x=m):=by
 have e1:x.from_.toNat<m.length:=by omega
 have e2:x.to_.toNat<m.length:=by omega
 unfold oN bT
 rw [aA e1,aA e2]
 cases h1:m[x.from_.toNat]<;>cases h2:m[x.to_.toNat]
 ·exact .inr (by simp)
 ·exact .inr (by simp)
 ·refine .inl ⟨rfl,by simp,by simp,?_⟩
  simpa using xN m _ (by rw [aA e2,h2])
 ·exact .inr (by simp)
theorem Is {n i:Nat}:∀ (l:List Arr) (l0:List Arr) (m:List Bool),(∀ x∈l,x∈l0)→m.length=n→KD n l→(∀ a,bT m a→Rch (Ry l0) i a) →
  (∀ a,bT m a→bT (l.foldl oN m) a)∧(∀ a,bT (l.foldl oN m) a→Rch (Ry l0) i a)∧fX (l.foldl oN m)≤fX m∧(fX (l.foldl oN m)=fX m→l.foldl oN m=m∧∀ x∈l,bT m x.from_.toNat→bT m x.to_.toNat)
 | [],l0,m,h0,hm,hl,h=>⟨fun _ q=>q,h,aL _,fun _=>⟨rfl,fun _ q=>nomatch q⟩⟩
 | x :: l,l0,m,h0,hm,hl,h=>by
  rw [c8]
  have hl':KD n l:=fun z hz=>hl z (bH _ hz)
  have h0':∀ z∈l,z∈l0:=fun z hz=>h0 z (bH _ hz)
  rcases zU hm (hl x (dA ..)) with ⟨q1,q2,q3,q4⟩|⟨q1,q2⟩
  ·obtain ⟨a1,a2,a3,a4⟩:=Is l l0 (oN m x) h0' ((AH m x).trans hm) hl' (fun a ha=>by
    rw [q3] at ha
    rcases Cq.1 ha with ⟨rfl,_⟩|ha
    ·exact (h _ q1).step ⟨x,h0 x (dA ..),rfl,rfl⟩
    ·exact h a ha)
   refine ⟨fun a ha=>a1 a (by rw [q3];exact Cq.2 (.inr ha)),a2,by omega,fun q=>by omega⟩
  ·rw [q2]
   obtain ⟨a1,a2,a3,a4⟩:=Is l l0 m h0' hm hl' h
   refine ⟨a1,a2,a3,fun q=>⟨(a4 q).1,fun z hz=>?_⟩⟩
   rcases aO.1 hz with rfl|hz
   ·exact q1
   ·exact (a4 q).2 z hz
theorem Np {n i:Nat}{l:List Arr}(hl:KD n l):∀ (c:Nat) (m:List Bool),m.length=n→fX m<c→(∀ a,bT m a→Rch (Ry l) i a)→bT m i→∀ k,bT (RK l c m) k↔Rch (Ry l) i k
 | 0,m,hm,hc,h1,h2,k=>by omega
 | c+1,m,hm,hc,h1,h2,k=>by
  obtain ⟨a1,a2,a3,a4⟩:=Is l l m (fun _ q=>q) hm hl h1
  show bT (if _ then _ else _) k↔_
  split
  ·rename_i e
   refine ⟨h1 k,fun h=>?_⟩
   induction h with
   | refl=>exact h2
   | step _ e' ih=>obtain ⟨x,hx,rfl,rfl⟩:=e';exact (a4 e).2 x hx ih
  ·exact Np hl c _ ((Ev l m).trans hm) (by omega) a2 (a1 i h2) k
theorem EA {n i:Nat}{l:List Arr}(hl:KD n l)(hi:i<n)(k:Nat):bT (jO n l i) k↔Rch (Ry l) i k:=by
 refine Np hl _ _ (by simp [pU]) (Nat.lt_succ_of_le (cQ (DK _) (by simp [pU]))) (fun a ha=>?_) ((uA hi).2 rfl) k
 rw [(uA hi).1 ha];exact .refl
theorem N6 {m:List Bool}{k:Nat}:m[k]?.getD false=true↔bT m k:=by
 unfold bT
 cases h:m[k]? with
 | none=>simp
 | some b=>simp
def oP (n:Nat)(l:List Arr)(i k:Nat):Bool:=(jO n l i)[k]?.getD false&&(jO n l k)[i]?.getD false
theorem iB {n:Nat}{l:List Arr}(hl:KD n l){i k:Nat}(hi:i<n)(hk:k<n):oP n l i k=true↔Rch (Ry l) i k∧Rch (Ry l) k i:=by
 unfold oP
 rw [aQ,N6,N6,EA hl hi,EA hl hk]
def QN (p:Nat→Bool):Nat→Nat→Nat
 | 0,k=>k
 | c+1,k=>if p k=true then k else QN p c (k+1)
def sJ (n:Nat)(l:List Arr):List Int:=(List.range n).map fun i=>(QN (oP n l i) n 0:Int)
theorem tN (p:Nat→Bool):∀ (c k m:Nat),k≤m→m<k+c→p m=true→(∀ j,k≤j→j<m→p j=false)→QN p c k=m
 | 0,k,m,h1,h2,h3,h4=>by omega
 | c+1,k,m,h1,h2,h3,h4=>by
  show (if _ then _ else _)=_
  by_cases e:k=m
  ·subst e;rw [if_pos h3]
  ·rw [if_neg (by rw [h4 k (by omega) (by omega)];simp),tN p c (k+1) m (by omega) (by omega) h3 (fun j a b=>h4 j (by omega) b)]
theorem EW (p:Nat→Bool):∀ (n:Nat),(∃ m,m<n∧p m=true)→∃ m,m<n∧p m=true∧∀ j,j<m→p j=false
 | 0,h=>by obtain ⟨m,h,_⟩:=h;omega
 | n+1,h=>by
  by_cases q:∃ m,m<n∧p m=true
  ·obtain ⟨m,a,b⟩:=EW p n q;exact ⟨m,by omega,b⟩
  ·obtain ⟨m,h1,h2⟩:=h
   have e:m=n:=by
    by_cases e:m=n
    ·exact e
    ·exact absurd ⟨m,by omega,h2⟩ q
   subst e
   refine ⟨m,h1,h2,fun j hj=>?_⟩
   cases hp:p j
   ·rfl
   ·exact absurd ⟨j,hj,hp⟩ q
theorem IW (F B:List Bool)(i:Nat)(o:List Int):∀ (n:Nat) (k:Nat),k<o.length→((List.range n).foldl (Ah F B i) o).length=o.length∧((List.range n).foldl (Ah F B i) o)[k]?=if k<n∧(F[k]?.getD false&&B[k]?.getD false)=true then some (i:Int) else o[k]?
 | 0,k,hk=>by simp
 | n+1,k,hk=>by
  obtain ⟨a1,a2⟩:=IW F B i o n k hk
  rw [cA,cG]
  show (Ah F B i ((List.range n).foldl (Ah F B i) o) n).length=_∧(Ah F B i ((List.range n).foldl (Ah F B i) o) n)[k]?=_
  generalize (List.range n).foldl (Ah F B i) o=r at a1 a2 ⊢
  unfold Ah
  by_cases q:(F[n]?.getD false&&B[n]?.getD false)=true
  ·rw [if_pos q,fI]
   refine ⟨a1,?_⟩
   rw [bR]
   by_cases e:n=k
   ·subst e;rw [if_pos rfl,if_pos (by omega),if_pos ⟨by omega,q⟩]
   ·rw [if_neg e,a2]
    by_cases q2:k<n∧(F[k]?.getD false&&B[k]?.getD false)=true
    ·rw [if_pos q2,if_pos ⟨by omega,q2.2⟩]
    ·rw [if_neg q2,if_neg (fun q3=>q2 ⟨by omega,q3.2⟩)]
  ·rw [if_neg q]
   refine ⟨a1,?_⟩
   rw [a2]
   by_cases q2:k<n∧(F[k]?.getD false&&B[k]?.getD false)=true
   ·rw [if_pos q2,if_pos ⟨by omega,q2.2⟩]
   ·rw [if_neg q2,if_neg (fun q3=>q2 ⟨by
     by_cases e:k=n
     ·subst e;exact absurd q3.2 q
     ·omega,q3.2⟩)]
theorem SO {n : Nat} {l : List Arr} (hl : KD n l) : zL n l = sJ n l := by
  have key : ∀ j, j ≤ n → ((List.range j).foldl (nE (yU n l) (y0 n l) n) (List.replicate n (-1))).length = n ∧ ∀ k, k < n →
      (∀ m, m < j → oP n l k m = true → (∀ q, q < m → oP n l k q = false) → ((List.range j).foldl (nE (yU n l) (y0 n l) n) (List.replicate n (-1)))[k]? = some (m : Int)) ∧
      ((∀ m, m < j → oP n l k m = false) → ((List.range j).foldl (nE (yU n l) (y0 n l) n) (List.replicate n (-1)))[k]? = some (-1)) := by
    intro j
    induction j with
    | zero => intro _; refine ⟨by simp, fun k hk => ⟨fun m hm => by omega, fun _ => by simp [hk]⟩⟩
    | succ j ih =>
      intro hj
      obtain ⟨a1, a2⟩ := ih (by omega)
      rw [cA, cG]
      generalize hr : (List.range j).foldl (nE (yU n l) (y0 n l) n) (List.replicate n (-1)) = r at a1 a2 ⊢
      show (nE (yU n l) (y0 n l) n r j).length = n ∧ ∀ k, k < n → (∀ m, m < j + 1 → _ → _ → (nE (yU n l) (y0 n l) n r j)[k]? = _) ∧ (_ → (nE (yU n l) (y0 n l) n r j)[k]? = _)
      have hjn : j < n := by omega
      have hFB : ∀ k, k < n → (((lH (yU n l) j)[k]?.getD false && (lH (y0 n l) j)[k]?.getD false) = true ↔ oP n l k j = true) := fun k hk => by
        rw [aQ, N6, N6, QG hl hjn, Rq hl hjn, iB hl hk hjn]
        exact And.comm
      by_cases q : ∃ m, m < j ∧ oP n l j m = true
      · obtain ⟨m, m1, m2, m3⟩ := EW _ j q
        have hv := (a2 j hjn).1 m m1 m2 m3
        have hI : nE (yU n l) (y0 n l) n r j = r := by
          unfold nE iA; rw [show ((j : Int)).toNat = j from rfl, hv]; simp
        rw [hI]
        refine ⟨a1, fun k hk => ⟨fun x hx h1 h2 => ?_, fun h => (a2 k hk).2 fun x hx => h x (by omega)⟩⟩
        by_cases e : x = j
        · subst e
          have e1 := (iB hl hk hjn).1 h1
          have e2 := (iB hl hjn (by omega)).1 m2
          have := (iB hl hk (show m < n by omega)).2 ⟨e1.1.trans e2.1, e2.2.trans e1.2⟩
          rw [h2 m m1] at this; cases this
        · exact (a2 k hk).1 x (by omega) h1 h2
      · have hno : ∀ m, m < j → oP n l j m = false := fun m hm => by
          cases hp : oP n l j m
          · rfl
          · exact absurd ⟨m, hm, hp⟩ q
        have hv := (a2 j hjn).2 hno
        have hI : nE (yU n l) (y0 n l) n r j = (List.range n).foldl (Ah (lH (yU n l) j) (lH (y0 n l) j) j) r := by
          unfold nE iA; rw [show ((j : Int)).toNat = j from rfl, hv]; rfl
        rw [hI]
        refine ⟨(IW _ _ j r n j (by omega)).1.trans a1, fun k hk => ?_⟩
        rw [(IW _ _ j r n k (by omega)).2]
        refine ⟨fun x hx h1 h2 => ?_, fun h => ?_⟩
        · by_cases e : x = j
          · subst e; rw [if_pos ⟨hk, (hFB k hk).2 h1⟩]
          · rw [if_neg (fun h3 => ?_)]
            · exact (a2 k hk).1 x (by omega) h1 h2
            · have e1 := (iB hl hk hjn).1 ((hFB k hk).1 h3.2)
              have e2 := (iB hl hk (show x < n by omega)).1 h1
              have := (iB hl hjn (show x < n by omega)).2 ⟨e1.2.trans e2.1, e2.2.trans e1.1⟩
              rw [hno x (by omega)] at this; cases this
        · rw [if_neg (fun h3 => by have := (hFB k hk).1 h3.2; rw [h j (by omega)] at this; cases this)]
          exact (a2 k hk).2 fun x hx => h x (by omega)
  obtain ⟨a1, a2⟩ := key n (aL _)
  refine eD fun k => ?_
  by_cases hk : k < n
  · obtain ⟨m, m1, m2, m3⟩ := EW (oP n l k) n ⟨k, hk, (iB hl hk hk).2 ⟨.refl, .refl⟩⟩
    unfold zL sJ
    rw [(a2 k hk).1 m m1 m2 m3, aN, iW hk]
    simp only [dK]
    rw [tN _ n 0 m (by omega) (by omega) m2 (fun j _ h => m3 j h)]
  · rw [bA (by unfold zL; omega), bA (by simp [sJ]; omega)]
theorem PA {n:Nat}{l:List Arr}(hl:KD n l){i k:Nat}(hi:i<n)(hk:k<n):decide (iA (sJ n l) i=iA (sJ n l) k)=oP n l i k:=by
 obtain ⟨a,a1,a2,a3⟩:=EW (oP n l i) n ⟨i,hi,(iB hl hi hi).2 ⟨.refl,.refl⟩⟩
 obtain ⟨b,b1,b2,b3⟩:=EW (oP n l k) n ⟨k,hk,(iB hl hk hk).2 ⟨.refl,.refl⟩⟩
 have ea:iA (sJ n l) i=a:=by
  unfold iA sJ;rw [show ((i:Int)).toNat=i from rfl,aN,iW hi]
  simp only [dK,aF]
  rw [tN _ n 0 a (by omega) (by omega) a2 (fun j _ h=>a3 j h)]
 have eb:iA (sJ n l) k=b:=by
  unfold iA sJ;rw [show ((k:Int)).toNat=k from rfl,aN,iW hk]
  simp only [dK,aF]
  rw [tN _ n 0 b (by omega) (by omega) b2 (fun j _ h=>b3 j h)]
 rw [ea,eb]
 have pa:=(iB hl hi a1).1 a2
 have pb:=(iB hl hk b1).1 b2
 by_cases e:a=b
 ·subst e
  rw [(iB hl hi hk).2 ⟨pa.1.trans pb.2,pb.1.trans pa.2⟩];simp
 ·have:oP n l i k=false:=by
   cases hm:oP n l i k
   ·rfl
   ·obtain ⟨q1,q2⟩:=(iB hl hi hk).1 hm
    have r1:=(iB hl hi b1).2 ⟨q1.trans pb.1,pb.2.trans q2⟩
    have r2:=(iB hl hk a1).2 ⟨q2.trans pa.1,pa.2.trans q1⟩
    rcases Nat.lt_or_gt_of_ne e with h|h
    ·rw [b3 a h] at r2;cases r2
    ·rw [a3 b h] at r1;cases r1
  rw [this];simp;omega
def yZ (ar:List Arr)(k:Nat):Bool:=ar.any fun x=>decide (x.from_=(k:Int))
def pF (n:Nat)(ar:List Arr):List Int:=((List.range n).filter fun k=>!yZ ar k).map (fun k:Nat=>(k:Int))
theorem Fu (ar:List Arr)(i:Nat):pF (i+1) ar=if yZ ar i=true then pF i ar else pF i ar++[(i:Int)]:=by
 unfold pF
 rw [cA,eU,List.map_append]
 cases h:yZ ar i<;>simp [h]
def Ja (m:List Bool)(x:Arr):List Bool:=m.set x.from_.toNat true
theorem N0 {n:Nat}:∀ (l:List Arr) (m:List Bool),m.length=n→KD n l→∀ k,k<n→(l.foldl Ja m)[k]?=some (m[k]?.getD false||yZ l k)
 | [],m,hm,hl,k,hk=>by
  show m[k]?=_
  rw [aA (by omega)]
  simp [yZ]
 | x :: l,m,hm,hl,k,hk=>by
  have hx:=hl x (dA ..)
  rw [c8,N0 l (Ja m x) (by simp [Ja,hm]) (fun z hz=>hl z (bH _ hz)) k hk]
  have e:(Ja m x)[k]?.getD false=(m[k]?.getD false||decide (x.from_=(k:Int))):=by
   unfold Ja
   rw [bR]
   by_cases q:x.from_.toNat=k
   ·have q2:x.from_=(k:Int):=by omega
    rw [if_pos q,if_pos (by omega)];simp [q2]
   ·have q2:¬ x.from_=(k:Int):=by omega
    rw [if_neg q];simp [q2]
  rw [e]
  show some _=some (_||(decide (x.from_=(k:Int))||yZ l k))
  rw [Bool.or_assoc]
theorem OI {m:List Bool}{n:Nat}{x:Arr}(hm:m.length=n)(hx:(0≤x.from_∧x.from_<(n:Int))∧0≤x.to_∧x.to_<(n:Int)):fX (oN m x)≤fX m:=by
 rcases zU hm hx with ⟨_,_,_,q⟩|⟨_,q⟩
 ·omega
 ·rw [q];exact aL _
theorem Qk (l:List Arr){c:Nat}{m:List Bool}(h:fX (l.foldl oN m)=fX m):RK l (c+1) m=m:=if_pos h
theorem Qj (l:List Arr){c:Nat}{m:List Bool}(h:¬ fX (l.foldl oN m)=fX m):RK l (c+1) m=RK l c (l.foldl oN m):=if_neg h
theorem JV {n:Nat}:∀ (l:List Arr) (m:List Bool),m.length=n→KD n l→fX (l.foldl oN m)≤fX m
 | [],m,hm,hl=>aL _
 | x :: l,m,hm,hl=>cQ (JV l _ ((AH m x).trans hm) (fun z hz=>hl z (bH _ hz))) (OI hm (hl x (dA ..)))
theorem Pa {n:Nat}{l:List Arr}(hl:KD n l){i:Nat}(hi:i<n):oP n l i i=true:=(iB hl hi hi).2 ⟨.refl,.refl⟩
theorem Um {n:Nat}{l:List Arr}(h:l.any (xQ n)=false):KD n l:=fun x hx=>by
 have:=mI.1 h x hx
 unfold xQ at this;simp at this;omega
theorem Le {n:Nat}{ar:List Arr}(hz:mD n ar=0):n≤300∧ar.length≤20000∧KD n ar:=by
 unfold mD at hz;split at hz
 ·cases hz
 ·split at hz
  ·cases hz
  ·rename_i q1 q2;exact ⟨by omega,by omega,Um (by simpa using q2)⟩
theorem HF (n:Nat)(ar:List Arr):(pF n ar).length≤n:=by
 unfold pF;rw [bM];exact cQ (fJ _ _) (by simp)
theorem BN (hs:List (List D))(hc:D.clLL hs=true)(ar:List Arr):Pure Tryz.prog 5 [.agg [.list hs,.list (ar.map Arr.c)]] (.tup [dLI (if mD hs.length ar≠0 then [] else pF hs.length ar),dI (mD hs.length ar)]):=by
 obtain ⟨n,hn⟩:∃ n,n=hs.length:=⟨_,rfl⟩
 rw [← hn]
 have cb:=qN hs ar
 rw [← hn] at cb
 refine qR (by first|rfl|(simp [go_sem];done)) (fun Q hQ=>(aH (cfg:=⟨fun t=>t==7||t==8||t==19,fun _=>[]⟩) Tz.mixed Tryz.func5 rfl rfl (aD rfl) (by kernel_rfl) ?_))
 have Y:=wa @Arr.c.eq_1 (wa (Eq.symm hn) hc)
 refine wv (h:=aB (cb) wl ?_)
 refine dU (fun h2=>?_) fun h2=>?_
 ·have hne:mD n ar≠0:=by simpa using h2
  have Y:=wa Y hne
  refine wv (h:=?_)
  exact hQ _ _ (by simp [go_sem,Y,jY,fW,dLI])
 ·have hz:mD n ar=0:=by simpa using h2
  obtain ⟨hn300,harr,hin⟩:=Le hz
  have Y:=wa Y hz
  refine wp (h:=cD (fun i e H=>∃ m:List Bool,(e 1=.adr [.list hs,.list (ar.map Arr.c)]∧e 5=.own 0 n∧e 21=.list (ar.map Arr.c)∧e 22=dI ar.length∧e 23=dI i)∧(H.get 0=some ⟨4,1,m.map cB,false⟩)∧(0<H.next)∧(i≤ar.length)∧(m.length=n)∧((ar.take i).foldl Ja (List.replicate n false)=m)) (fun i=>ar.length - i) 0 ⟨(List.replicate n false),wg,wn,wn,wi,(by (simp)),(by rfl)⟩ fun I0 hI0 i e H hi0=>?_)
  obtain ⟨m,E0,g0_0,n0_0,hi,hml,hmf⟩:=hi0
  have Y:=wa Y (wa E0 (wa g0_0 (cO n0_0)))
  refine dU (fun h6=>?_) fun h6=>?_
  ·obtain ⟨a,ha⟩:∃ a,a=ar[i]:=⟨_,rfl⟩
   obtain ⟨⟨a1,a2⟩,a3,a4⟩:=hin a (by rw [ha];exact aC h6)
   obtain ⟨p,hp⟩:∃ p,p=a.from_.toNat:=⟨_,rfl⟩
   have hpn:p<n:=by omega
   obtain ⟨m2,hm2⟩:∃ m2,m2=Ja m a:=⟨_,rfl⟩
   have hml2:m2.length=n:=by rw [hm2];simp [Ja,hml]
   have hms:(m.map cB).set p [D.bool true]=m2.map cB:=by rw [hm2,hp];simp [Ja,cB]
   have hpm:p<m.length:=by omega
   have Y:=wa Y (wa h6 (wa (aA h6) (wa (Eq.symm ha) (wa (Eq.symm hp) (wa a1 (wa a2 (wa hpn (wa hml (wa hms (aA hpm))))))))))
   exact wp (h:=wx hI0 (i+1) ⟨m2,wg,wn,wn,wj,(by (exact hml2)),(by (rw [aG h6,cG,hmf,← ha];exact hm2.symm))⟩)
  ·rw [aK (by omega)] at hmf
   have hmk:∀ k (h:k<m.length),m[k]=yZ ar k:=fun k h=>by
    have:=N0 ar (List.replicate n false) (by simp) hin k (by omega)
    rw [hmf,aA h,eG,if_pos (by omega)] at this
    simpa using Option.some.inj this
   refine wp (h:=cD (fun i e H=>∃ o:List Int,∃ O:Nat,(e 1=.adr [.list hs,.list (ar.map Arr.c)]∧e 5=.own 0 n∧e 8=.own O o.length∧e 32=.own 0 n∧e 33=dI n∧e 34=dI i)∧(H.get 0=some ⟨4,1,m.map cB,false⟩)∧(0<H.next)∧(H.get O=some ⟨3,1,o.map cI,false⟩)∧(O<H.next)∧(i≤n)∧(O≠0)∧(pF i ar=o)) (fun i=>n - i) 0 ⟨([]),H.next,wg,wn,wn,wn,wn,wi,(by (omega)),(by rfl)⟩ fun I2 hI2 i e H hi2=>?_)
   obtain ⟨o,O,E2,g0_2,n0_2,gO_2,nO_2,hi2,hO,hof⟩:=hi2
   have Y:=wa Y (wa E2 (wa g0_2 (wa (cO n0_2) (wa gO_2 (cO nO_2)))))
   refine dU (fun h12=>?_) fun h12=>?_
   ·have him:i<m.length:=by omega
    have hbi:m[i]=yZ ar i:=hmk i him
    obtain ⟨b,hb⟩:∃ b,b=yZ ar i:=⟨_,rfl⟩
    have hsn:=Fu ar i
    have hol:o.length≤i:=by rw [← hof];exact HF i ar
    have hOn:=dP hO
    have Y:=wa Y (wa h12 (wa (aA him) (wa hbi (wa (Eq.symm hb) (wa @cB.eq_1 (wa hOn hml))))))
    refine qJ (fun h14=>?_) fun h14=>?_
    ·have hbf:b=false:=by simpa using h14
     obtain ⟨o2,ho2⟩:∃ o2,o2=o++[(i:Int)]:=⟨_,rfl⟩
     have hof2:pF (i+1) ar=o2:=by rw [hsn,← hb,hbf,ho2,hof];rfl
     have Y:=wa Y ho2
     exact wp (h:=wx hI2 (i+1) ⟨o2,O,wg,wn,wn,wn,wn,wj,(by (exact hO)),(by (exact hof2))⟩)
    ·have hbt:b=true:=by simpa using h14
     obtain ⟨o2,ho2⟩:∃ o2,o2=o:=⟨_,rfl⟩
     have hof2:pF (i+1) ar=o2:=by rw [hsn,← hb,hbt,ho2,hof];rfl
     have Y:=wa Y ho2
     exact wp (h:=wx hI2 (i+1) ⟨o2,O,wg,wn,wn,wn,wn,wj,(by (exact hO)),(by (exact hof2))⟩)
   ·have hE:pF n ar=o:=by rw [← hof,show i=n by omega]
    refine wv (h:=?_)
    exact hQ _ _ (by simp [go_sem,Y,hE,jY,fW,qS,dLI])
theorem AK (hs:List (List D))(ar:List Arr):Pure Tryz.prog 15 [.agg [.list hs,.list (ar.map Arr.c)]] (dI (mD hs.length ar)):=by
 obtain ⟨n,hn⟩:∃ n,n=hs.length:=⟨_,rfl⟩
 rw [← hn]
 refine Tz.pK ⟨fun t=>t==4,fun _=>[]⟩ Tryz.func15 rfl (fun Q hQ=>?_)
 have Y:=wa @Arr.c.eq_1 (Eq.symm hn)
 refine qJ (fun h1=>?_) fun h1=>?_
 ·have hE:mD n ar=3:=if_pos (by first|exact h1|(simpa using h1)|omega)
  exact wv (h:=hQ _ _ (by simp [go_sem,hE]))
 ·have hn1:¬ (300<n∨20000<ar.length):=by first|exact h1|(simpa using h1)|omega
  have hE:mD n ar=if ar.any (xQ n)=true then 6 else 0:=if_neg hn1
  refine wv (h:=cD (fun i e H=>(e 1=.adr [.list hs,.list (ar.map Arr.c)]∧e 3=dI i)∧(i≤ar.length)∧((ar.take i).any (xQ n)=false)) (fun i=>ar.length - i) 0 ⟨wg,wi,(by rfl)⟩ fun I0 hI0 i e H hi0=>?_)
  obtain ⟨E0,hi,hb⟩:=hi0
  have Y:=wa Y E0
  refine qJ (fun h4=>?_) fun h4=>?_
  ·obtain ⟨a,ha⟩:∃ a,a=ar[i]:=⟨_,rfl⟩
   have Y:=wa Y (wa h4 (wa (aA h4) (Eq.symm ha)))
   refine qJ (fun h7=>?_) fun h7=>?_
   ·have hbd:xQ n a=true:=by unfold xQ;simp only [cK,decide_eq_true_eq];first|omega|(simp at h7;omega)
    have hE2:mD n ar=6:=by rw [hE,if_pos];exact bX.2 ⟨a,by rw [ha];exact aC h4,hbd⟩
    exact wv (h:=hQ _ _ (by simp [go_sem,hE2]))
   ·have hgd:xQ n a=false:=by
     unfold xQ;simp only [pX,decide_eq_false_iff_not];first|omega|(simp at h7;omega)
    exact wp (h:=wx hI0 (i+1) ⟨wg,wj,(by (rw [aG h4,s6,hb,← ha];simp [hgd]))⟩)
  ·have hE2:mD n ar=0:=by
    rw [aK (by omega)] at hb;rw [hE,hb];simp
   exact wv (h:=hQ _ _ (by simp [go_sem,hE2]))
theorem J0 (hs:List (List D))(hc:D.clLL hs=true)(ar:List Arr):Pure Tryz.prog 6 [.agg [.list hs,.list (ar.map Arr.c)]] (.tup [dLI (if mD hs.length ar≠0 then [] else pF hs.length ar),dI (mD hs.length ar)]):=by
 obtain ⟨n,hn⟩:∃ n,n=hs.length:=⟨_,rfl⟩
 rw [← hn]
 have cb:=AK hs ar
 rw [← hn] at cb
 refine qR (by first|rfl|(simp [go_sem];done)) (fun Q hQ=>(aH (cfg:=⟨fun t=>t==5,fun _=>[]⟩) Tz.mixed Tryz.func6 rfl rfl (aD rfl) (by kernel_rfl) ?_))
 have Y:=wa @Arr.c.eq_1 (wa (Eq.symm hn) hc)
 refine wv (h:=aB (cb) wl ?_)
 refine dU (fun h2=>?_) fun h2=>?_
 ·have hne:mD n ar≠0:=by simpa using h2
  have Y:=wa Y hne
  refine wv (h:=?_)
  exact hQ _ _ (by simp [go_sem,Y,jY,fW,dLI])
 ·have hz:mD n ar=0:=by simpa using h2
  obtain ⟨hn300,harr,hin⟩:=Le hz
  have Y:=wa Y hz
  refine wv (h:=cD (fun i e H=>∃ o:List Int,(e 1=.adr [.list hs,.list (ar.map Arr.c)]∧e 5=.own 0 o.length∧e 6=dI i)∧(H.get 0=some ⟨3,1,o.map cI,false⟩)∧(0<H.next)∧(i≤n)∧(pF i ar=o)) (fun i=>n - i) 0 ⟨([]),wg,wn,wn,wi,(by rfl)⟩ fun I0 hI0 i e H hi0=>?_)
  obtain ⟨o,E0,g0_0,n0_0,hi,hof⟩:=hi0
  have Y:=wa Y (wa E0 (wa g0_0 (cO n0_0)))
  refine qJ (fun h6=>?_) fun h6=>?_
  ·have hsn:=Fu ar i
   have hol:o.length≤i:=by rw [← hof];exact HF i ar
   have Y:=wa Y h6
   refine wv (h:=cD (fun k e H=>∃ b:Bool,(e 1=.adr [.list hs,.list (ar.map Arr.c)]∧e 5=.own 0 o.length∧e 6=dI i∧e 7=.bool b∧e 8=dI k)∧(H.get 0=some ⟨3,1,o.map cI,false⟩)∧(0<H.next)∧(k≤ar.length)∧(b = !yZ (ar.take k) i)) (fun k=>ar.length - k) 0 ⟨true,wg,wn,wn,wi,(by rfl)⟩ fun I2 hI2 k e H hi2=>?_)
   obtain ⟨b,E2,g0_2,n0_2,hk,hb⟩:=hi2
   have Y:=wa Y (wa E2 (wa g0_2 (cO n0_2)))
   refine qJ (fun h10=>?_) fun h10=>?_
   ·obtain ⟨a,ha⟩:∃ a,a=ar[k]:=⟨_,rfl⟩
    have hbs:yZ (ar.take (k+1)) i=(yZ (ar.take k) i||decide (a.from_=(i:Int))):=by
     unfold yZ;rw [aG h10,s6,← ha];simp
    obtain ⟨b2,hb2⟩:∃ b2,b2=(b&&a.from_ != (i:Int)):=⟨_,rfl⟩
    have Y:=wa Y (wa h10 (wa (aA h10) (wa (Eq.symm ha) hb2)))
    exact wp (h:=wx hI2 (k+1) ⟨b2,wg,wn,wn,wj,(by (rw [hb2,hbs,hb];cases yZ (ar.take k) i<;>simp [bne];rfl))⟩)
   ·rw [aK (by omega)] at hb
    refine dU (fun h13=>?_) fun h13=>?_
    ·have hbt:yZ ar i=false:=by rw [show b=true by simpa using h13] at hb;simpa using hb.symm
     obtain ⟨o2,ho2⟩:∃ o2,o2=o++[(i:Int)]:=⟨_,rfl⟩
     have hof2:pF (i+1) ar=o2:=by rw [hsn,hbt,ho2,hof];rfl
     have Y:=wa Y ho2
     exact wp (h:=wx hI0 (i+1) ⟨o2,wg,wn,wn,wj,(by (exact hof2))⟩)
    ·have hbt:yZ ar i=true:=by rw [show b=false by simpa using h13] at hb;simpa using hb.symm
     obtain ⟨o2,ho2⟩:∃ o2,o2=o:=⟨_,rfl⟩
     have hof2:pF (i+1) ar=o2:=by rw [hsn,hbt,ho2,hof];rfl
     have Y:=wa Y ho2
     exact wp (h:=wx hI0 (i+1) ⟨o2,wg,wn,wn,wj,(by (exact hof2))⟩)
  ·have hE:pF n ar=o:=by rw [← hof,show i=n by omega]
   refine wv (h:=?_)
   exact hQ _ _ (by simp [go_sem,Y,hE,jY,fW,qS,dLI])
theorem G5 {n:Nat}:∀ (l:List Arr) (m:List Bool),m.length=n→KD n l→fX (l.foldl oN m)=fX m→l.foldl oN m=m
 | [],m,_,_,_=>rfl
 | x :: l,m,hm,hl,h=>by
  rw [c8] at h ⊢
  have hl':KD n l:=fun z hz=>hl z (bH _ hz)
  have h1:=JV l (oN m x) ((AH m x).trans hm) hl'
  rcases zU hm (hl x (dA ..)) with ⟨_,_,_,q⟩|⟨_,q⟩
  ·omega
  ·rw [q] at h ⊢;exact G5 l m hm hl' h
theorem AL (hs:List (List D))(hc:D.clLL hs=true)(ar:List Arr){n:Nat}(hn:n=hs.length)(k:Nat)(hk:k<n)(hin:KD n ar)(hn300:n≤300)(harr:ar.length≤20000):Own Tryz.prog 10 [.agg [.list hs,.list (ar.map Arr.c)],dI k] 4 1 ((jO n ar k).map cB):=by
 obtain ⟨R,hR⟩:∃ R,R=jO n ar k:=⟨_,rfl⟩
 rw [← hR]
 obtain ⟨m0,hm0⟩:∃ m,m=pU n k:=⟨_,rfl⟩
 have hm0l:m0.length=n:=by rw [hm0];simp [pU]
 have hset:(List.replicate n [D.bool false]).set k [D.bool true]=m0.map cB:=by rw [hm0];simp [pU,cB]
 have hrp:(List.replicate n [D.bool false])[k]?=some [D.bool false]:=by rw [eG,if_pos hk]
 have hF0:RK ar (n+1) m0=R:=by rw [hR,hm0];rfl
 have hc0:fX m0<n+1:=by have:=DK m0;omega
 refine Tz.oK ⟨fun t=>t==8||t==12,fun _=>[]⟩ Tryz.func10 rfl (fun Q hQ=>?_)
 have Y:=wa @Arr.c.eq_1 (wa (Eq.symm hn) (wa hc (wa hset (wa hk hrp))))
 refine wp (h:=cD (fun c e H=>∃ m:List Bool,∃ fl:Bool,(e 2=.adr [.list hs,.list (ar.map Arr.c)]∧e 5=.own 0 n∧e 6=.bool fl)∧(H.get 0=some ⟨4,1,m.map cB,false⟩)∧(0<H.next)∧(m.length=n)∧(fl=true→RK ar c m=R∧fX m<c)∧(fl=false→m=R)) (fun c=>c) (n+1) ⟨m0,true,wg,wn,wn,(by (exact hm0l)),(by (intro _;exact ⟨hF0,hc0⟩)),(by (intro h;cases h))⟩ fun I0 hI0 c e H hi0=>?_)
 obtain ⟨m,fl,E0,g0_0,n0_0,hml,hF,hG⟩:=hi0
 have Y:=wa Y (wa @Arr.c.eq_1 (wa E0 (wa g0_0 (cO n0_0))))
 refine dU (fun h4=>?_) fun h4=>?_
 ·have hft:fl=true:=by simpa using h4
  obtain ⟨hF1,hF2⟩:=hF hft
  have Y:=wa Y h4
  refine wv (h:=cD (fun j e H=>∃ m2:List Bool,∃ f2:Bool,(e 2=.adr [.list hs,.list (ar.map Arr.c)]∧e 5=.own 0 n∧e 6=.bool f2∧e 7=dI j)∧(H.get 0=some ⟨4,1,m2.map cB,false⟩)∧(0<H.next)∧(j≤ar.length)∧(m2.length=n)∧((ar.take j).foldl oN m=m2)∧(f2=decide (fX m2<fX m))∧(fX m2≤fX m)) (fun j=>ar.length - j) 0 ⟨m,false,wg,wn,wn,wi,(by (exact hml)),(by rfl),(by (simp)),(by (omega))⟩ fun I2 hI2 j e H hi2=>?_)
  obtain ⟨m2,f2,E2,g0_2,n0_2,hj,hml2,hfo,hfl,hle⟩:=hi2
  have Y:=wa Y (wa E2 (wa g0_2 (cO n0_2)))
  refine qJ (fun h7=>?_) fun h7=>?_
  ·obtain ⟨a,ha⟩:∃ a,a=ar[j]:=⟨_,rfl⟩
   have haA:=hin a (by rw [ha];exact aC h7)
   obtain ⟨⟨a1,a2⟩,a3,a4⟩:=haA
   obtain ⟨p,hp⟩:∃ p,p=a.from_.toNat:=⟨_,rfl⟩
   obtain ⟨q,hq⟩:∃ q,q=a.to_.toNat:=⟨_,rfl⟩
   have hpn:p<n:=by omega
   have hqn:q<n:=by omega
   have hpm:p<m2.length:=by omega
   have hqm:q<m2.length:=by omega
   obtain ⟨bp,hbp⟩:∃ b,b=m2[p]:=⟨_,rfl⟩
   obtain ⟨bq,hbq⟩:∃ b,b=m2[q]:=⟨_,rfl⟩
   obtain ⟨m4,hm4⟩:∃ m4,m4=oN m2 a:=⟨_,rfl⟩
   have hcm:m4=if (bp&&!bq)=true then m2.set q true else m2:=by rw [hm4];unfold oN;rw [← hp,← hq,aA hpm,aA hqm,← hbp,← hbq];rfl
   have Y:=wa Y (wa h7 (wa (aA h7) (wa (Eq.symm ha) (wa (Eq.symm hp) (wa (Eq.symm hq) (wa a1 (wa a2 (wa a3 (wa a4 (wa (aA hpm) (wa (aA hqm) (wa (Eq.symm hbp) (wa (Eq.symm hbq) (wa @cB.eq_1 (wa hml2 (wa hpn hqn))))))))))))))))
   refine qJ (fun h10=>?_) fun h10=>?_
   ·have hbb:(bp&&!bq)=true:=by first|exact h10|(simpa using h10)
    rw [if_pos hbb] at hcm
    have hml4:m4.length=n:=by rw [hcm];simpa using hml2
    have hbq0:bq=false:=by cases bq<;>simp at hbb ⊢
    have hcs:=xN m2 q (by rw [aA hqm,← hbq,hbq0])
    rw [← hcm] at hcs
    obtain ⟨f4,hf4⟩:∃ f,f=true:=⟨_,rfl⟩
    have hle4:fX m4≤fX m:=by omega
    have hfl4:f4=decide (fX m4<fX m):=by rw [hf4];simp;omega
    have Y:=wa Y (wa hcm hf4)
    exact wp (h:=wx hI2 (j+1) ⟨m4,f4,wg,wn,wn,wj,(by (exact hml4)),(by (rw [aG h7,cG,hfo,← ha];exact hm4.symm)),(by (exact hfl4)),(by (exact hle4))⟩)
   ·have hbb:¬ (bp&&!bq)=true:=by first|exact h10|(simpa using h10)
    rw [if_neg hbb] at hcm
    have hml4:m4.length=n:=by rw [hcm];exact hml2
    obtain ⟨f4,hf4⟩:∃ f,f=f2:=⟨_,rfl⟩
    have hle4:fX m4≤fX m:=by rw [hcm];exact hle
    have hfl4:f4=decide (fX m4<fX m):=by rw [hf4,hcm];exact hfl
    have Y:=wa Y (wa hcm hf4)
    exact wp (h:=wx hI2 (j+1) ⟨m4,f4,wg,wn,wn,wj,(by (exact hml4)),(by (rw [aG h7,cG,hfo,← ha];exact hm4.symm)),(by (exact hfl4)),(by (exact hle4))⟩)
  ·rw [aK (by omega)] at hfo
   obtain ⟨c2,hc2⟩:∃ c2,c=c2+1:=⟨c - 1,by omega⟩
   have hF3:f2=true→RK ar (c - 1) m2=R∧fX m2<c - 1:=fun h=>by
    have h2:fX m2<fX m:=by rw [hfl] at h;simpa using h
    refine ⟨?_,by omega⟩
    rw [← hF1,hc2,Qj ar (by rw [hfo];omega),hfo];rfl
   have hG3:f2=false→m2=R:=fun h=>by
    have h2:¬ fX m2<fX m:=by rw [hfl] at h;simpa using h
    have h3:fX (ar.foldl oN m)=fX m:=by rw [hfo];omega
    rw [← hF1,hc2,Qk ar h3,← hfo,G5 ar m hml hin h3]
   exact wv (h:=wx hI0 (c - 1) ⟨m2,f2,wg,wn,wn,(by (exact hml2)),(by (exact hF3)),(by (exact hG3))⟩)
 ·have hE:m=R:=hG (by simpa using h4)
  rw [hE] at hml
  have Y:=wa Y (wa hE hml)
  refine wv (h:=?_)
  exact hQ _ _ _ (by simp [go_sem,Y]) (by simp [go_sem,Y])
def tF (n:Nat)(ar:List Arr)(i:Nat):List (List D):=(List.range i).map fun k=>[D.list ((jO n ar k).map cB)]
@[go_sem] theorem Vz (n:Nat)(ar:List Arr)(i:Nat):(tF n ar i).length=i:=by simp [tF]
@[go_sem] theorem TV (n:Nat)(ar:List Arr):tF n ar 0=[]:=rfl
theorem L5 (n:Nat)(ar:List Arr)(i:Nat):tF n ar (i+1)=tF n ar i++[[D.list ((jO n ar i).map cB)]]:=by simp [tF,cA]
theorem JR {n:Nat}{ar:List Arr}{i j:Nat}(h:j<i):(tF n ar i)[j]?=some [D.list ((jO n ar j).map cB)]:=by simp [tF,h]
def Rf (n:Nat)(ar:List Arr)(i:Nat):List Int:=(List.range i).map fun k=>(QN (oP n ar k) n 0:Int)
theorem AM (hs:List (List D))(hc:D.clLL hs=true)(ar:List Arr):Pure Tryz.prog 8 [.agg [.list hs,.list (ar.map Arr.c)]] (.tup [dLI (if mD hs.length ar≠0 then [] else sJ hs.length ar),dI (mD hs.length ar)]):=by
 obtain ⟨n,hn⟩:∃ n,n=hs.length:=⟨_,rfl⟩
 rw [← hn]
 have cb:=AK hs ar
 rw [← hn] at cb
 refine qR (by first|rfl|(simp [go_sem];done)) (fun Q hQ=>(aH (cfg:=⟨fun t=>t==5||t==7,fun _=>[]⟩) Tz.mixed Tryz.func8 rfl rfl (aD rfl) (by kernel_rfl) ?_))
 have Y:=wa @Arr.c.eq_1 (wa (Eq.symm hn) hc)
 refine wv (h:=aB (cb) wl ?_)
 refine dU (fun h2=>?_) fun h2=>?_
 ·have hne:mD n ar≠0:=by simpa using h2
  have Y:=wa Y hne
  refine wv (h:=?_)
  exact hQ _ _ (by simp [go_sem,Y,jY,fW,dLI])
 ·have hz:mD n ar=0:=by simpa using h2
  obtain ⟨hn300,harr,hin⟩:=Le hz
  have Y:=wa Y hz
  refine wv (h:=cD (fun i e H=>(e 1=.adr [.list hs,.list (ar.map Arr.c)]∧e 5=.own 0 i∧e 6=dI i)∧(H.get 0=some ⟨42,1,tF n ar i,false⟩)∧(0<H.next)∧(i≤n)) (fun i=>n - i) 0 ⟨wg,wn,wn,wi⟩ fun I0 hI0 i e H hi0=>?_)
  obtain ⟨E0,g0_0,n0_0,hi⟩:=hi0
  have Y:=wa Y (wa E0 (wa g0_0 (cO n0_0)))
  refine qJ (fun h6=>?_) fun h6=>?_
  ·have hsu:=L5 n ar i
   have Y:=wa Y (wa h6 hsu)
   refine wp (h:=?_)
   refine FS (AL hs hc ar hn i (by omega) hin hn300 harr) (by simp [go_sem,Y]) (by simp [go_sem,Y]) xP ?_
   exact wp (h:=wx hI0 (i+1) ⟨wg,wn,wn,wj⟩)
  ·obtain rfl:n=i:=by omega
   refine wv (h:=cD (fun i e H=>∃ o:List Int,∃ O:Nat,(e 1=.adr [.list hs,.list (ar.map Arr.c)]∧e 5=.own 0 n∧e 7=.own O i∧e 8=dI i)∧(H.get 0=some ⟨42,1,tF n ar n,false⟩)∧(0<H.next)∧(H.get O=some ⟨3,1,o.map cI,false⟩)∧(O<H.next)∧(i≤n)∧(O≠0)∧(o.length=i)∧(Rf n ar i=o)) (fun i=>n - i) 0 ⟨([]),H.next,wg,wn,wn,wn,wn,wi,(by (omega)),(by rfl),(by rfl)⟩ fun I2 hI2 i e H hi2=>?_)
   obtain ⟨o,O,E2,g0_2,n0_2,gO_2,nO_2,hi2,hO,hol,hof⟩:=hi2
   have Y:=wa Y (wa E2 (wa g0_2 (wa (cO n0_2) (wa gO_2 (cO nO_2)))))
   refine qJ (fun h11=>?_) fun h11=>?_
   ·have hOn:=dP hO
    have hri:=JR (n:=n) (ar:=ar) h11
    have hrg:∀ h,(tF n ar n)[i]'h=[D.list ((jO n ar i).map cB)]:=fun h=>by have:=hri;rw [aA h] at this;exact Option.some.inj this
    have Y:=wa Y (wa h11 (wa hOn (wa hri (wa hrg hol))))
    refine wv (h:=cD (fun k e H=>(e 1=.adr [.list hs,.list (ar.map Arr.c)]∧e 5=.own 0 n∧e 7=.own O i∧e 8=dI i∧e 9=dI k)∧(H.get 0=some ⟨42,1,tF n ar n,false⟩)∧(0<H.next)∧(H.get O=some ⟨3,1,o.map cI,false⟩)∧(O<H.next)∧(k≤i)∧(∀ j,j<k→oP n ar i j=false)) (fun k=>n - k) 0 ⟨wg,wn,wn,wn,wn,wi,(by (intro j hj;omega))⟩ fun I4 hI4 k e H hi4=>?_)
    obtain ⟨E4,g0_4,n0_4,gO_4,nO_4,hk,hnk⟩:=hi4
    have hkn:k<n:=by omega
    have hrk:=JR (n:=n) (ar:=ar) hkn
    have l1:k<(jO n ar i).length:=by rw [lI];exact hkn
    have l2:i<(jO n ar k).length:=by rw [lI];exact h11
    obtain ⟨b1,hb1⟩:∃ b,b=(jO n ar i)[k]:=⟨_,rfl⟩
    obtain ⟨b2,hb2⟩:∃ b,b=(jO n ar k)[i]:=⟨_,rfl⟩
    have hmu:oP n ar i k=(b1&&b2):=by unfold oP;rw [aA l1,aA l2,← hb1,← hb2];rfl
    have rl1:=lI n ar i
    have rl2:=lI n ar k
    have hrk2:∀ h,(tF n ar n)[k]'h=[D.list ((jO n ar k).map cB)]:=fun h=>by have:=hrk;rw [aA h] at this;exact Option.some.inj this
    have Y:=wa Y (wa E4 (wa g0_4 (wa (cO n0_4) (wa gO_4 (wa (cO nO_4) (wa hrk (wa hrk2 (wa hkn (wa (aA l1) (wa (aA l2) (wa (Eq.symm hb1) (wa (Eq.symm hb2) (wa @cB.eq_1 (wa rl1 rl2))))))))))))))
    refine qJ (fun h14=>?_) fun h14=>?_
    ·have hmf:oP n ar i k=false:=by
      rw [hmu];cases b1<;>cases b2<;>simp at h14 ⊢
     have hki:k<i:=by
      have:=Pa hin h11
      by_cases e:k=i
      ·rw [e,this] at hmf;cases hmf
      ·omega
     have hnk2:∀ j,j<k+1→oP n ar i j=false:=fun j hj=>by
      by_cases e:j=k
      ·rw [e];exact hmf
      ·exact hnk j (by omega)
     have Y:=wa Y h14
     exact wp (h:=wx hI4 (k+1) ⟨wg,wn,wn,wn,wn,wj,(by (exact hnk2))⟩)
    ·have hmt:oP n ar i k=true:=by
      rw [hmu];cases b1<;>cases b2<;>simp at h14 ⊢
     have hls:QN (oP n ar i) n 0=k:=tN _ n 0 k (by omega) (by omega) hmt (fun j _ h=>hnk j h)
     obtain ⟨o2,ho2⟩:∃ o2,o2=o++[(k:Int)]:=⟨_,rfl⟩
     have hol2:o2.length=i+1:=by rw [ho2];simp [hol]
     have hof2:Rf n ar (i+1)=o2:=by unfold Rf at hof ⊢;rw [cA,List.map_append,hof,ho2];simp [hls]
     have Y:=wa Y ho2
     exact wp (h:=wx hI2 (i+1) ⟨o2,O,wg,wn,wn,wn,wn,wj,(by (exact hO)),(by (exact hol2)),(by (exact hof2))⟩)
   ·have hE:sJ n ar=o:=by rw [← hof,show i=n by omega];rfl
    refine wv (h:=?_)
    exact hQ _ _ (by simp [go_sem,Y,hE,hol,jY,fW,qS,dLI])
def c16 (x:Int × Int):List D:=[.int .i16 x.1,.int .i16 x.2]
@[go_sem] theorem Yz (l:List (Int × Int)):D.clLL (l.map c16)=true:=cE _ (fun _=>rfl) l
def Un (x:Int × Int):Prop:=(-32768≤x.1∧x.1<32768)∧-32768≤x.2∧x.2<32768
def Zi (x:Int × Int):Arr:=⟨0,x.1,x.2,⟨⟨[],[]⟩,[]⟩⟩
def arC (x:Int × Int):List D:=[dI 0,dI x.1,dI x.2,.nil,.nil,.nil]
section
variable {H:Type} {enc:TypeId × Value→H} {w:World} {base:Nat} {spare:Nat→Bool} {held:Bool} {bulk:DataW H→Nat} {B:Nat}
theorem V2 {z:Int}(h:(Lit.int IntKind.i16 z).wf=true) : -32768≤z∧z<32768:=by
 have h1:IntKind.i16.min = -32768:=by decide
 have h2:IntKind.i16.max=32767:=by decide
 simp only [Lit.wf,aQ,decide_eq_true_eq,h1,h2] at h;omega
theorem WJ:∀ n,Opens enc Tryz.prog w base spare held bulk B n 29 (fun z:Int=>[D.int .i16 z]) (fun z=>(Lit.int IntKind.i16 z).wf=true):=fun n=>OZ Tryz.underlying29
theorem YX (hB:Bulk bulk):∀ n,Opens enc Tryz.prog w base spare held bulk B n 30 c16 Un
 | 0=>Opens.zero
 | n+1=>(Ke hB (k:=2) Tryz.underlying30 (by kernel_rfl) (CQ (WJ n) (CQ (WJ n) (Md)))).map (fun p=>(p.1,p.2.1)) (fun p=>rfl) (fun p h=>⟨V2 h.1,V2 h.2.1⟩)
theorem YY (hB:Bulk bulk):∀ n,Opens enc Tryz.prog w base spare held bulk B n 23 (fun l:List (Int × Int)=>[.list (l.map c16)]) (fun l=>l.length≤B∧∀ x∈l,Un x)
 | 0=>Opens.zero
 | n+1=>Kd hB Tryz.underlying23 (YX hB n)
theorem S0 {r:Reach}{b0:Nat}{t:TypeId}{v:Value}{d:DataW H}{ps:List MemPlace}(ht:Tryz.prog.underlying t=some (.int .u16))(hval:Value.okWide Tryz.prog w r b0 t v)(hd:DataW.Trod enc Tryz.prog w base spare held t v d ps) :
  ∃ z:Int,(0≤z∧z<65536)∧RepV ND fG mV w v (.int .u16 z):=by
 obtain ⟨z,hw,hv⟩:=S3 ht hval hd
 refine ⟨z,?_,hv⟩
 have h1:IntKind.u16.min=0:=by decide
 have h2:IntKind.u16.max=65535:=by decide
 simp only [Lit.wf,aQ,decide_eq_true_eq,h1,h2] at hw;omega
end
theorem Own.nzk {P:Program}{f:FuncId}{args args':List D}{ty:TypeId}{sz:Nat}{es:List (List D)}(hp:Own P f args' ty sz es)(ha:args.map jY=args'):Own P f args ty sz es:=by
 subst ha
 refine ⟨hp.1,fun M w vals hM hv=>hp.2 M w vals hM ⟨by simpa using hv.len,fun j u d hu hd=>?_⟩⟩
 rw [aN,bC] at hd
 obtain ⟨y,hy,rfl⟩:=hd
 exact AR (hv.rep j u y hu hy)
theorem IT {P:Program}{md:Nat→Bool}{ops:Array Oper}{sp:List (Nat × Nat)}{n0 i:Nat}{rest:List Oper}{acc:List (Nat × List Nat)}{e:c7}{dst:Option Tmp}{K:c7→AHeap→Prop}{t:Bool}{f:FuncId}{args args':List D}{H:AHeap}{ty:TypeId}{sz:Nat}{es:List (List D)}
  (hp:t=true→Own P f args' ty sz es) (ha:args.map (iE H)=args') (hcl:t=true→D.clL args'=true) (hf:∀ d∈es.flatten,d.flat=true) {S:List Nat} (hS:args.flatMap dC=S) (hc:Dr sp i S acc)
  (h:jL P md ops sp n0 (i+1) rest ((i,S) :: acc) (kY e dst (.opt t (.list es))) H K):sH P md ops sp n0 i rest acc e dst K t f args H:=by
 subst ha hS
 unfold sH
 refine ⟨.list es,_,fun ht H' hag=>?_,hc,h⟩
 have he:=u7 hag fun x hx=>hx
 exact x7 (by rw [he];exact hp ht) (by rw [he];exact hcl ht) hf ⟨rfl,rfl⟩
theorem U2 (l:List (Int × Int)):dX (l.map arC)=(l.map Zi).map Arr.c:=by
 rw [nB,List.map_map,List.map_map]
 refine bP fun x _=>?_
 simp [arC,Zi,Arr.c,fW,jY,dI,dLI]
theorem U3 (l:List (Int × Int)):D.clLL (l.map arC)=true:=cE _ (fun _=>rfl) l
theorem w7 (z:Int)(hz:0≤z∧z<65536)(l:List (Int × Int))(hl:∀ x∈l,Un x):Pure Tryz.prog 3 [.int .u16 z,.list (l.map c16)] (.bool true):=by
 obtain ⟨n,rfl⟩:∃ n:Nat,z=n:=⟨z.toNat,by omega⟩
 obtain ⟨hs0,hhs0⟩:∃ h,h=List.replicate n [D.nil,D.nil,D.nil]:=⟨_,rfl⟩
 obtain ⟨hs,hhs⟩:∃ h,h=List.replicate n [D.list [],D.list [],D.list []]:=⟨_,rfl⟩
 have hsl:hs.length=n:=by rw [hhs];simp
 have hs0l:hs0.length=n:=by rw [hhs0];simp
 have hsc:D.clLL hs=true:=by rw [hhs];exact Lb rfl
 have hs0c:D.clLL hs0=true:=by rw [hhs0];exact Lb rfl
 have nzh:dX hs0=hs:=by rw [hhs0,hhs,nB,List.map_replicate];simp [fW,jY,dX]
 obtain ⟨ar,har⟩:∃ a,a=l.map Zi:=⟨_,rfl⟩
 have nza:dX (l.map arC)=ar.map Arr.c:=by rw [har];exact U2 l
 have hla:=U3 l
 have c1:=(BN hs hsc ar).nzk (args:=[.agg [.list hs0,.list (l.map arC)]]) (by simp [jY,fW,nzh,nza])
 have c2:=(J0 hs hsc ar).nzk (args:=[.agg [.list hs0,.list (l.map arC)]]) (by simp [jY,fW,nzh,nza])
 have c3:=(nL hs hsc ar).nzk (args:=[.agg [.list hs0,.list (l.map arC)]]) (by simp [jY,fW,nzh,nza])
 have c4:=(AM hs hsc ar).nzk (args:=[.agg [.list hs0,.list (l.map arC)]]) (by simp [jY,fW,nzh,nza])
 rw [hsl] at c1 c2 c3 c4
 obtain ⟨E,hE⟩:∃ E,E=mD n ar:=⟨_,rfl⟩
 obtain ⟨A,hA⟩:∃ A:List Int,A=if E≠0 then [] else pF n ar:=⟨_,rfl⟩
 obtain ⟨C,hC⟩:∃ C:List Int,C=if E≠0 then [] else sJ n ar:=⟨_,rfl⟩
 have hC3:(if E≠0 then [] else zL n ar)=C:=by
  rw [hC]
  by_cases h:E=0
  ·rw [if_neg (by simpa using h),if_neg (by simpa using h),SO (Le (by rw [← hE];exact h)).2.2]
  ·rw [if_pos h,if_pos h]
 rw [← hE,← hA] at c1 c2
 rw [← hE,hC3] at c3
 rw [← hE,← hC] at c4
 refine Tz.pK ⟨fun t=>t==6||t==8,fun _=>[]⟩ Tryz.func3 rfl (fun Q hQ=>?_)
 have Y:=wa (Eq.symm hhs0) (wa hs0c hla)
 refine wp (h:=aB (CT) wl ?_)
 refine qJ (fun h2=>?_) fun h2=>?_
 ·skip
  refine wv (h:=aB (CT) wl ?_)
  exact wv (h:=hQ _ _ (by simp [go_sem]))
 ·have hn:¬ (12<n∧n≤300)∧n≤310∧l.length≤40:=by first|omega|(simp at h2;omega)
  refine wp (h:=sP (Ghosts.step (Ghosts.refl _) 1 0 1 37 6 _ _ (rfl) rfl rfl rfl) (fun i e H=>∃ q:Nat,(e 0=.int .u16 n∧e 1=.list (l.map c16)∧e 5=dI n∧e 6=.ptr 1 1 0 0∧e 44=.list (l.map c16)∧e 45=dI l.length∧e 46=dI i)∧(H.get 0=some ⟨50,3,hs0,false⟩)∧(0<H.next)∧(H.get 1=some ⟨28,2,[[.own 0 n,.own q i]],false⟩)∧(1<H.next)∧(H.get q=some ⟨37,6,(l.take i).map arC,false⟩)∧(q<H.next)∧(i≤l.length)∧(q≠0)∧(q≠1)) (fun i=>l.length - i) 0 ⟨2,wg,wn,wn,wn,wn,wn,wn,wi,(by (first|omega|(simp [go_sem];done))),(by (first|omega|(simp [go_sem];done)))⟩ fun I0 hI0 i e H hi0=>?_)
  obtain ⟨q,E0,g0_0,n0_0,g1_0,n1_0,gq_0,nq_0,hi,hq,hq1⟩:=hi0
  have Y:=wa Y (wa E0 (wa g0_0 (wa (cO n0_0) (wa g1_0 (wa (cO n1_0) (wa gq_0 (cO nq_0)))))))
  refine dU (fun h6=>?_) fun h6=>?_
  ·obtain ⟨x,hx⟩:∃ x,x=l[i]:=⟨_,rfl⟩
   obtain ⟨⟨y1,y2⟩,y3,y4⟩:=hl x (by rw [hx];exact aC h6)
   have w1:Ob .i64 x.1:=eO (by omega) (by omega)
   have w2:Ob .i64 x.2:=eO (by omega) (by omega)
   have hts:(l.take (i+1)).map arC=(l.take i).map arC++[arC x]:=by rw [aG h6,List.map_append,← hx];rfl
   have htl:(l.take i).length=i:=by rw [bL];omega
   have hqn:=dP hq
   have hqn1:=dP hq1
   have Y:=wa Y (wa h6 (wa (aA h6) (wa (Eq.symm hx) (wa @c16.eq_1 (wa w1 (wa w2 (wa hqn (wa hqn1 (wa hts (wa htl @arC.eq_1))))))))))
   exact wp (h:=wx hI0 (i+1) ⟨q,wg,wn,wn,wn,wn,wn,wn,wj,(by (exact hq)),(by (exact hq1))⟩)
  ·have hil:i=l.length:=by omega
   have htk:(l.take i).map arC=l.map arC:=by rw [aK (by omega)]
   have hqn:=dP hq
   have hqn1:=dP hq1
   have Y:=wa Y (wa htk (wa hil (wa hqn (wa hqn1 hs0l))))
   refine wv (h:=pI (c1) wz wl wz ?_)
   refine wv (h:=pI (c2) wz wl wz ?_)
   refine wv (h:=pI (c3) wz wl wz ?_)
   refine wv (h:=pI (c4) wz wl wz ?_)
   refine wp (h:=bD (fun hg=>lZ A A) (fun hg=>wl) ?_)
   refine wp (h:=bD (fun hg=>lZ C C) (fun hg=>wl) ?_)
   refine qJ (fun h14=>?_) fun h14=>?_
   ·skip
    refine wp (h:=bD (fun hg=>lZ A A) (fun hg=>wl) ?_)
    refine wp (h:=bD (fun hg=>lZ C C) (fun hg=>wl) ?_)
    exact wp (h:=hQ _ _ (by simp [go_sem]))
   ·have hE0:E=0:=by first|exact h14|omega|(simp at h14;omega)
    obtain ⟨hn300,harr,hin⟩:=Le (n:=n) (ar:=ar) (by rw [← hE];exact hE0)
    have hCR:C=sJ n ar:=by rw [hC,if_neg (by simpa using hE0)]
    have hCl:C.length=n:=by rw [hCR];simp [sJ]
    have cR:∀ i:Nat,i<n→Own Tryz.prog 10 [.agg [.list hs0,.list (l.map arC)],dI i] 4 1 ((jO n ar i).map cB):=fun i hi=>(AL hs hsc ar hsl.symm i hi hin hn300 harr).nzk (by simp [jY,fW,nzh,nza,dI])
    refine wv (h:=cD (fun i e H=>(e 1=.list (l.map c16)∧e 0=.int .u16 n∧e 5=dI n∧e 6=.ptr 1 1 0 0∧e 13=dLI C∧e 125=dI n∧e 126=dI i)∧(H.get 1=some ⟨28,2,[[.own 0 n,.own q l.length]],false⟩)∧(1<H.next)∧(H.get 0=some ⟨50,3,hs0,true⟩)∧(H.get q=some ⟨37,6,l.map arC,true⟩)∧(i≤n)) (fun i=>n - i) 0 ⟨wg,wn,wn,(by (simp [go_sem,Y])),(by (simp [go_sem,Y])),wi⟩ fun I2 hI2 i e H hi2=>?_)
    obtain ⟨E2,g1_2,n1_2,hg0,hgq,hi⟩:=hi2
    have Y:=wa Y (wa E2 (wa g1_2 (cO n1_2)))
    refine dU (fun h17=>?_) fun h17=>?_
    ·have Y:=wa Y (wa h17 (wa hgq hg0))
     refine wv (h:=cD (fun k e H=>(e 1=.list (l.map c16)∧e 0=.int .u16 n∧e 5=dI n∧e 6=.ptr 1 1 0 0∧e 13=dLI C∧e 125=dI n∧e 126=dI i∧e 17=dI i∧e 129=dI n∧e 130=dI k)∧(H.get 1=some ⟨28,2,[[.own 0 n,.own q l.length]],false⟩)∧(1<H.next)∧(H.get 0=some ⟨50,3,hs0,true⟩)∧(H.get q=some ⟨37,6,l.map arC,true⟩)∧(k≤n)) (fun k=>n - k) 0 ⟨wg,wn,wn,(by (simp [go_sem,Y])),(by (simp [go_sem,Y])),wi⟩ fun I4 hI4 k e H hi4=>?_)
     obtain ⟨E4,g1_4,n1_4,hg0,hgq,hk⟩:=hi4
     have Y:=wa Y (wa hgq (wa hg0 (wa E4 (wa g1_4 (cO n1_4)))))
     refine dU (fun h20=>?_) fun h20=>?_
     ·have l1:k<(jO n ar i).length:=by rw [lI];exact h20
      have l2:i<(jO n ar k).length:=by rw [lI];exact h17
      obtain ⟨b1,hb1⟩:∃ b,b=(jO n ar i)[k]:=⟨_,rfl⟩
      obtain ⟨b2,hb2⟩:∃ b,b=(jO n ar k)[i]:=⟨_,rfl⟩
      have hmu:oP n ar i k=(b1&&b2):=by unfold oP;rw [aA l1,aA l2,← hb1,← hb2];rfl
      have rl1:=lI n ar i
      have rl2:=lI n ar k
      have lc1:i<C.length:=by omega
      have lc2:k<C.length:=by omega
      obtain ⟨x,hx⟩:∃ x,x=C[i]:=⟨_,rfl⟩
      obtain ⟨y,hy⟩:∃ y,y=C[k]:=⟨_,rfl⟩
      have hxy:(x==y)=(b1&&b2):=by
       show decide (x=y)=_
       rw [← hmu,← PA hin h17 h20,← hCR,kJ lc1,kJ lc2,← hx,← hy]
      have Y:=wa Y (wa h20 (wa hCl (wa (aA lc1) (wa (aA lc2) (wa (Eq.symm hx) (wa (Eq.symm hy) (wa (aA l1) (wa (aA l2) (wa (Eq.symm hb1) (wa (Eq.symm hb2) (wa @cB.eq_1 (wa rl1 rl2))))))))))))
      refine wp (h:=?_)
      refine jI (cR i h17) (by simp [go_sem,Y]) (by simp [go_sem,Y]) xP rfl (by simp [go_sem]) ?_
      refine wp (h:=?_)
      refine IT (fun _=>cR k h20) (by simp [go_sem,Y]) (fun _=>by simp [go_sem,Y]) xP rfl (by simp [go_sem]) ?_
      refine wp (h:=aP (fun h22=>?_) (fun h22=>?_))
      ·exact absurd hxy (by simpa using h22)
      ·try simp [go_sem] at h22
       exact wp (h:=wx hI4 (k+1) ⟨wg,wn,wn,(by (simp [go_sem,Y])),(by (simp [go_sem,Y])),wj⟩)
     ·exact wp (h:=wx hI2 (i+1) ⟨wg,wn,wn,(by (simp [go_sem,Y])),(by (simp [go_sem,Y])),wj⟩)
    ·have Y:=wa Y (wa h2 (wa h6 (wa h14 h17)))
     exact wv (h:=hQ _ _ wy)
end Go.Abs
end
section
namespace Go.Proofs.YtiklfilfhnfagaaGreat.bulks
open Go.Abs
theorem one_le {H:Type}(d:DataW H):1≤Rows.uptoBulk d:=by
 cases d with
 | lit l=>cases l<;>simp [Rows.uptoBulk]
 | _=>simp [Rows.uptoBulk]
theorem mem_le {H:Type}{d:DataW H}:∀ {l:List (DataW H)},d∈l→Rows.uptoBulk d≤Rows.uptoBulkAll l
 | [],h=>by cases h
 | x :: r,h=>by
  simp only [Rows.uptoBulkAll]
  rcases aO.1 h with rfl|h
  ·omega
  ·have:=mem_le h;omega
theorem len_le {H:Type}:∀ l:List (DataW H),l.length≤Rows.uptoBulkAll l
 | []=>by simp [Rows.uptoBulkAll]
 | x :: r=>by have:=one_le x;have:=len_le r;simp only [Rows.uptoBulkAll,bW];omega
theorem ok {H:Type}:Go.Abs.Bulk (Rows.uptoBulk (H:=H)) where
 len e s:=by have:=len_le e;simp only [Rows.uptoBulk];omega
 el e s d h:=by have:=mem_le h;simp only [Rows.uptoBulk];omega
 part l d h:=by have:=mem_le h;simp only [Rows.uptoBulk];omega
 str s:=by simp [Rows.uptoBulk]
theorem bound {H:Type}{l:List (DataW H)}(hk:Rows.uptoSmall H l=true):∀ d∈l,Rows.uptoBulk d≤1048576:=fun d hd=>by
 have h:=of_decide_eq_true hk
 have:=mem_le hd
 omega
end Go.Proofs.YtiklfilfhnfagaaGreat.bulks
end
