/- Layer 15, reference: has, listed, between. · Layer 15, refer -/
import Derived.Test.YtmaibfgcngmjhaaGreatZeAG
import Derived.Test.YtmaibfgcngmjhaaGreatZeAA
import Derived.Test.YtmaibfgcngmjhaaGreatZeAT
import Derived.Test.YtmaibfgcngmjhaaGreatZeAW
import Derived.Test.YtmaibfgcngmjhaaGreatZeAX
import Derived.Test.YtmaibfgcngmjhaaGreatZeAY
import Derived.Test.YtmaibfgcngmjhaaGreatZeAZ
set_option linter.unusedVariables false
set_option linter.unusedSimpArgs false
section
set_option maxRecDepth 100000
set_option maxHeartbeats 4000000
open Go Go.Proofs Tryz
namespace Go.Abs
theorem Lz (l:Xa0)(v:Int):Pua 206 [dLI l,dI v] (.bool (mem l v)):=by
 refine Tz.p0 func206 rfl λQ k Y=>?_;refine wv (h:=bA (λi e H=>(e 0=dLI l/\e 1=dI v/\e 5=dI i)/\(i<=l.length)/\(∀ (j:Nat) (p:j<l.length),j<i->¬ l[j]=v)) (λi=>l.length - i) 0 ⟨wg,wi,(by exact λj _ g=>absurd g bL)⟩ λq c i e H b=>?_);obtain ⟨n,o,f⟩:=b;have Y:=wa Y n;refine wv (h:=?_);repeat first|intro _|refine ⟨fY,?_⟩
 refine wq (λa=>?_) λa=>?_
 .have Y:=xa1 Y a (aA a);refine wv (h:=?_);repeat first|intro _|refine ⟨fY,?_⟩
  refine wq (λd=>?_) λd=>?_
  .have hm:mem l v=true:=(mem_iff _ _).2 (by have:=aC a;rwa [show l[i]=v by simpa using d] at this);exact wv (h:=k _ _ (eD hm))
  .have hn2:∀ (j:Nat) (p:j<l.length),j<i+1->¬ l[j]=v:=λj p g=>by
    rcases bD j i with hc|hc
    .exact f j p hc
    .have e:j=i:=bL;subst e;simpa using d
   exact wp (h:=wx c (i+1) ⟨wg,wj,(by exact hn2)⟩)
 .have hm:mem l v=false:=by
   rw [bP];intro hc;obtain ⟨j,m,e⟩:=aM ((mem_iff _ _).1 hc);exact f j m bL e
  exact wv (h:=k _ _ (eD hm))
theorem zQ (g:Graph)(l:Xa0)(v:∀ x∈l,0<=x/\x<g.j.length)(A:l.length<=100000):Pua 140 [g.d,dLI l] (dLI (KI g l)):=by
 refine Tz.pK ⟨λt=>t==5||t==9,λ_=>[]⟩ func140 rfl (λQ y=>?_);have Y:=trivial;refine wp (h:=bA (λi e H=>∃ b:Xa0,(e 1=dLI l/\e 2=.adr g.c/\e 5=.own 0 b.length/\e 6=dI i)/\(H.get 0=some ⟨3,1,b.map cI,false⟩)/\(0<H.next)/\(i<=l.length)/\(b.length=i+1)/\(b=(l.length:Int) :: (l.take i).map (jS g))) (λi=>l.length - i) 0 ⟨([(l.length:Int)]),wg,wn,wn,wi,(by rfl),(by rfl)⟩ λC p i e H o=>?_);obtain ⟨b,z,k,f,B,n,s⟩:=o;have Y:=xa2 Y z k (bU f);refine jH (λj=>?_) λj=>?_
 .have hre:=v _ (aC j);have r:l[i].toNat<g.j.length:=bL;have w:=fN (jS g) j;have u:jS g l[i]=g.j[l[i].toNat].type:=by unfold jS eA;rw [aA r];rfl
  obtain ⟨q,a⟩:∃ x,x=b++[g.j[l[i].toNat].type]:=⟨_,rfl⟩;have m:q=(l.length:Int) :: (l.take (i+1)).map (jS g):=by rw [a,w,u,s];rfl
  have Y:=xa3 Y j a (aA j) (aA r);exact wp (h:=wx p (i+1) ⟨q,wg,wn,wn,wj,(by rw [a];simp [n]),(by exact m)⟩)
 .have hE:KI g l=b:=by unfold KI;rw [s,lK _ bL]
  exact wv (h:=y _ _ (fe hE))
theorem HB {g:Graph}{i j:Int}{n:Nat}{x:Int}(h:x∈qL g i j n):0<=x/\x<n:=by
 obtain ⟨k,hk,e,_⟩:=Er.1 h;omega
theorem xC (g : Graph) (hl : g.j.length ≤ 100000) (a b : Int) : Pure prog 139 [g.d, dI a, dI b] (dLI (qL g a b g.j.length)) := by
  refine Tz.pK ⟨fun t => t == 7 || t == 60, fun r => match r with | 9 => [(0, 3), (0, 6), (3, 6), (4, 6), (0, 10), (4, 10), (6, 10), (7, 10)] | _ => []⟩ func139 rfl (fun Q hQ => ?_);have Y := @chk.eq_1;refine wv (h := WO 7 (0) (0) ⟨3, 1, [], false⟩ (by simp [go_sem, Y]) (by simp [go_sem, Y]) (by simp [go_sem, Y]) (fun n e H => ∃ xs : Xa0, (e 1 = dI a ∧ e 2 = dI b ∧ e 3 = .adr g.c ∧ e 7 = dLI xs ∧ e 8 = dI n) ∧ (n ≤ g.j.length) ∧ (xs = qL g a b n)) (fun n => g.j.length - n) 0 ⟨([]), wg, wi, (by rfl)⟩ fun I0 hI0 n e H hi0 => ?_);obtain ⟨xs, E0, hn, hx⟩ := hi0;have Y := wa Y E0;refine jH (fun h3 => ?_) fun h3 => ?_
  · have hxl := Es g a b n
    rw [← hx] at hxl;have heq : eA g (n : Int) = g.j[n] := Xg h3;have hR : qL g a b (n + 1) = if Cg a b g.j[n] = true then Jf g xs n else xs := by simp only [qL, heq]; rw [← hx]
    have Y := wa Y (wa h3 (aA h3));refine jH (fun h5 => ?_) fun h5 => ?_
    · have hb : Cg a b g.j[n] = false := by
        unfold Cg; rw [bP]; intro hc;simp only [aR, decide_eq_true_eq] at hc
        revert h5; simp [hc.1, hc.2]
      obtain ⟨ys, hys'⟩ : ∃ x, x = xs := ⟨_, rfl⟩;have hys : ys = qL g a b (n + 1) := by rw [hys', hR, if_neg (by rw [hb]; simp)]
      have Y := wa Y hys';exact wp (h := wx hI0 (n + 1) ⟨ys, wg, wj, (by (first | exact hys | exact hys hkk | exact hys (by rw [hki, hz]; rfl)))⟩)
    · have hb : Cg a b g.j[n] = true := by
        unfold Cg; simp only [aR, decide_eq_true_eq]
        revert h5; simp <;> omega
      have hv : jS g (n : Int) = g.j[n].type := by unfold jS; rw [heq]
      have Y := wa Y h5;refine wp (h := bA (fun k e H => (e 1 = dI a ∧ e 2 = dI b ∧ e 3 = .adr g.c ∧ e 7 = dLI xs ∧ e 8 = dI n ∧ e 9 = dI k) ∧ (k ≤ xs.length) ∧ (vV g g.j[n].type xs xs.length = vV g g.j[n].type xs k)) (fun k => k) xs.length ⟨wg, wi, (by rfl)⟩ fun I2 hI2 k e H hi2 => ?_);obtain ⟨E2, hk, hki⟩ := hi2;have hk1 : ¬ k = 0 → ((k : Int) - 1).toNat = k - 1 := fun h => by omega
      obtain ⟨x, hx1, hx2⟩ : ∃ x : Int, (¬ k = 0 → xs[k - 1]? = some x) ∧ (0 < k → 0 ≤ x ∧ x < g.j.length) := by
        refine ⟨xs[k - 1]?.getD 0, fun h => ?_, fun h => ?_⟩
        · rw [aA (show k - 1 < xs.length by omega)]; rfl
        · have hl1 : k - 1 < xs.length := by omega
          rw [aA hl1, aF];have hin := HB (g := g) (i := a) (j := b) (n := n) (x := xs[k - 1]) (by rw [← hx]; exact aC hl1);omega
      obtain ⟨x3, hx3, hxl3⟩ : ∃ x : Int, (0 < xs.length → xs[0]? = some x) ∧ (0 < xs.length → x.toNat < g.j.length) := by
        refine ⟨xs[0]?.getD 0, fun h => ?_, fun h => ?_⟩
        · rw [aA h]; rfl
        · rw [aA h, aF]
          have hin := HB (g := g) (i := a) (j := b) (n := n) (x := xs[0]) (by rw [← hx]; exact aC h);omega
      have hxl : ¬ k = 0 → x.toNat < g.j.length := fun h => by have := hx2 (by omega); omega
      have hxi : ¬ k = 0 → iA xs ((k - 1 : Nat) : Int) = x := fun h => by unfold iA; rw [Int.toNat_natCast, hx1 h]; rfl
      have hT : (xs.map cI).take k = (xs.take k).map cI := (List.map_take).symm;have hD : (xs.map cI).drop k = (xs.drop k).map cI := (List.map_drop).symm;have hA : (xs.map cI).take xs.length = xs.map cI := aH (by simp);have hk0 : k = 0 → xs.take k = [] ∧ xs.drop k = xs := fun h => by subst h; exact ⟨rfl, rfl⟩
      have hkl : (xs.take k).length + (xs.drop k).length = xs.length := by simp only [bT, dV]; omega
      obtain ⟨ys, hys'⟩ : ∃ x, x = xs.take k ++ [(n : Int)] ++ xs.drop k := ⟨_, rfl⟩;have hys : vV g g.j[n].type xs xs.length = k → ys = qL g a b (n + 1) := fun hkk => by rw [hys', hR, if_pos hb]; unfold Jf; rw [hv, hkk]
      generalize xs.take k = xk at hT hk0 hkl hys';generalize xs.drop k = xd at hD hk0 hkl hys';have he0 : 0 < g.j.length := by omega
      by_cases hz : k = 0
      · by_cases hz2 : 0 < xs.length
        · have Y := wa Y (wa E2 (wa hys' (wa hT (wa hD (wa hA (wa hz (wa (hk0 hz).1 (wa (hk0 hz).2 (wa (hx3 hz2) ((aA (hxl3 hz2))))))))))))
          exact wp (h := DP 7 (H.next + 21) (xk.length + 1 + xd.length) ⟨3, 1, ys.map cI, false⟩ (by simp [go_sem, Y]) (by simp [go_sem, Y]) (by simp only [hys', bR, aO, cD, i6] <;> omega) (n + 1) (by omega) ((hI0 _ _ _).2 ⟨ys, wg, wj, (by (first | exact hys | exact hys hkk | exact hys (by rw [hki, hz]; rfl)))⟩))
        · have Y := wa Y (wa E2 (wa hys' (wa hT (wa hD (wa hA (wa hz (wa (hk0 hz).1 (wa (hk0 hz).2 (wa (bC (Nat.not_lt.1 hz2)) (aA he0))))))))))
          exact wp (h := DP 7 (H.next + 21) (xk.length + 1 + xd.length) ⟨3, 1, ys.map cI, false⟩ (by simp [go_sem, Y]) (by simp [go_sem, Y]) (by simp only [hys', bR, aO, cD, i6] <;> omega) (n + 1) (by omega) ((hI0 _ _ _).2 ⟨ys, wg, wj, (by (first | exact hys | exact hys hkk | exact hys (by rw [hki, hz]; rfl)))⟩))
      · have Y := wa Y (wa E2 (wa hys' (wa hT (wa hD (wa hA (wa hz (wa (hk1 hz) (wa (hx1 hz) ((aA (hxl hz)))))))))))
        refine jH (fun h7 => ?_) fun h7 => ?_
        · have hty : jS g x = (g.j[x.toNat]'(hxl hz)).type := by unfold jS eA; rw [aA (hxl hz)]; rfl
          have hlt : g.j[n].type < jS g x := by
            rw [hty]; first | omega | (revert h7; simp; omega)
          have hki2 : vV g g.j[n].type xs xs.length = vV g g.j[n].type xs (k - 1) := by
            rw [hki];have hxi' := hxi hz;obtain ⟨k', rfl⟩ : ∃ k', k = k' + 1 := ⟨k - 1, by omega⟩;simp only [vV];rw [if_pos (by rw [show iA xs (k' : Int) = x from hxi']; exact hlt)]; rfl
          have Y := wa Y h7;exact wp (h := wx hI2 (k - 1) ⟨wg, wj, (by (exact hki2))⟩)
        · have hkk : vV g g.j[n].type xs xs.length = k := by
            rw [hki];first
            | (rw [hz]; rfl)
            | (have hty : jS g x = (g.j[x.toNat]'(hxl hz)).type := by unfold jS eA; rw [aA (hxl hz)]; rfl
               have hlt : ¬ g.j[n].type < jS g x := by
                 rw [hty]; first | omega | (revert h7; simp; omega)
               have hxi' := hxi hz;obtain ⟨k', rfl⟩ : ∃ k', k = k' + 1 := ⟨k - 1, by omega⟩;simp only [vV];rw [if_neg (by rw [show iA xs (k' : Int) = x from hxi']; exact hlt)])
          exact wp (h := DP 7 (H.next + 21) (xk.length + 1 + xd.length) ⟨3, 1, ys.map cI, false⟩ (by simp [go_sem, Y]) (by simp [go_sem, Y]) (by simp only [hys', bR, aO, cD, i6] <;> omega) (n + 1) (by omega) ((hI0 _ _ _).2 ⟨ys, wg, wj, (by (first | exact hys | exact hys hkk | exact hys (by rw [hki, hz]; rfl)))⟩))
  · have hE : xs = qL g a b g.j.length := by rw [hx, show n = g.j.length by omega]
    exact wv (h := hQ _ _ (by simp [go_sem, Y, ← hE]))
structure CnH (h:Host):Prop where
 vl:h.values.length=h.o.i.length
 e:h.o.j.length<=1000
 n:h.o.i.length<=1000
 v:∀ i j (h1:i<h.values.length) (h2:j<h.values.length),GQ h.values[i] h.values[j]
 l:∀ i j x y:Int,GQ (KI h.o (r5 h.o i j)) (KI h.o (r5 h.o x y))
theorem zP (h:Host)(m:CnH h)(a b c d:Int):Pua 267 [h.o.d,dI a,dI b,dI c,dI d] (.bool (decide (gJ h.o a b=gJ h.o c d))):=by
 have q:=m.e;obtain ⟨z,n,g⟩:=m.l a b c d;have p:decide (gJ h.o a b=gJ h.o c d)=decide (z=0):=decide_eq_decide.2 (lstR_eq.symm.trans g.symm);rw [p];have f:∀ i j:Int,(qL h.o i j h.o.j.length).length<=100000:=λi j=>by have:=Es h.o i j h.o.j.length;omega
 refine Tz.p0 func267 rfl λQ o Y=>?_;refine wv (h:=aJ (xC h.o bL a b) wl ?_);refine wv (h:=aJ (zQ h.o _ (λx k=>by have:=HB k;omega) (f _ _)) wl ?_);refine wv (h:=aJ (xC h.o bL c d) wl ?_);refine wv (h:=aJ (zQ h.o _ (λx k=>by have:=HB k;omega) (f _ _)) wl ?_);refine wv (h:=aJ (n) wl ?_);exact wv (h:=o _ _ (by simp [go_sem];rw [bB];simp))
theorem Pr (h:Host)(b:CnH h)(i k:Nat)(B:i<h.o.i.length)(A:k<h.o.i.length):Pua 207 [h.d,dI i,dI k] (.bool (CK h i k)):=by
 have G:=b.vl;have V:=b.n;have l:i<h.values.length:=bL;have j:k<h.values.length:=bL;obtain ⟨z,F,m⟩:=b.v i k l j;have N:gN h.o i=h.o.i[i]:=by unfold gN;rw [Int.toNat_natCast,aA B];rfl
 have M:gN h.o k=h.o.i[k]:=by unfold gN;rw [Int.toNat_natCast,aA A];rfl
 have L:vN h i=h.values[i]:=by unfold vN;rw [Int.toNat_natCast,aA l];rfl
 have K:vN h k=h.values[k]:=by unfold vN;rw [Int.toNat_natCast,aA j];rfl
 have C:CK h i k=(decide (h.o.i[i]=h.o.i[k])&&(decide (z=0)&&(decide (gJ h.o i k=gJ h.o k i)&&(decide (gJ h.o i i=gJ h.o k k)&&(List.range h.o.i.length).all (X4 h i k))))):=by
  unfold CK;rw [N,M,L,K,decide_eq_decide.2 m.symm]
 have J:∀ w:Nat,X4 h i k w = !(!decide ((w:Int)=(i:Int))&&!decide ((w:Int)=(k:Int))&&(!decide (gJ h.o i w=gJ h.o k w)||!decide (gJ h.o w i=gJ h.o w k))):=λw=>by
  unfold X4;rw [show decide ((w:Int)=(i:Int))=decide (w=i) from decide_eq_decide.2 bL,show decide ((w:Int)=(k:Int))=decide (w=k) from decide_eq_decide.2 bL];cases decide (w=i)<;>cases decide (w=k)<;>cases decide (gJ h.o i w=gJ h.o k w)<;>cases decide (gJ h.o w i=gJ h.o w k)<;>rfl
 refine Tz.pK ⟨λt=>t==7,λ_=>[]⟩ func207 rfl (λQ p=>?_);have Y:=xa5 @Host.d.eq_1 @Host.c.eq_1 @Graph.c.eq_1 (aA B) (aA A) (aA l) (aA j);refine wp (h:=b9 (λa=>F) (λa=>wl) ?_);refine wp (h:=b9 (λa=>zP h b i k k i) (λa=>wl) ?_);refine wp (h:=b9 (λa=>zP h b i i k k) (λa=>wl) ?_);refine jH (λu=>?_) λu=>?_
 .have hF:CK h i k=false:=by rw [C,bP];intro I;simp at I u;simp_all
  exact wv (h:=p _ _ (eD hF))
 .have hT1:CK h i k=(List.range h.o.i.length).all (X4 h i k):=by
   obtain ⟨⟨⟨S,R⟩,P⟩,O⟩:=u;rw [C];simp [S,R,P,O]
  refine wv (h:=bA (λw e H=>(e 1=dI i/\e 2=dI k/\e 3=.adr h.c/\e 7=.ptr 0 1 0 0/\e 8=dI w)/\(H.get 0=some ⟨30,2,[h.o.c],false⟩)/\(0<H.next)/\(w<=h.o.i.length)/\((List.range w).all (X4 h i k)=true)) (λw=>h.o.i.length - w) 0 ⟨wg,wn,wn,wi,(by rfl)⟩ λW q w e H o=>?_);obtain ⟨T,g,f,U,D⟩:=o;have Y:=xa2 Y T g (bU f);refine jH (λs=>?_) λs=>?_
  .have Y:=wa Y s;refine wp (h:=aN (λa=>zP h b i w k w) (λa=>wl) ?_);refine wp (h:=aN (λa=>zP h b w i w k) (λa=>wl) ?_);refine jH (λr=>?_) λr=>?_
   .have hF:CK h i k=false:=by
     rw [hT1,s8];refine ⟨w,bN.2 s,?_⟩;obtain ⟨⟨y,x⟩,b3⟩:=r;rw [J,decide_eq_false y,decide_eq_false x];rcases b3 with b3|b3<;>rw [decide_eq_false b3]<;>simp
    exact wv (h:=p _ _ (eD hF))
   .have hA2:(List.range (w+1)).all (X4 h i k)=true:=by
     rw [c6,pC,D];simp only [List.all_cons,List.all_nil,CG,fP];unfold X4;by_cases E:w=i
     .simp [E]
     .by_cases q2:w=k
      .simp [q2]
      .obtain ⟨y,x⟩:=r bL bL;simp [y,x]
    exact wp (h:=wx q (w+1) ⟨wg,wn,wn,wj,(by exact hA2)⟩)
  .have hF:CK h i k=true:=by rw [hT1,(bL:h.o.i.length=w)];exact D
   exact wv (h:=p _ _ (eD hF))
theorem WH (N:Nat)(tw:Nat->Nat->Bool)(l:Xa0)(i:Nat):tQ (i+1) tw l=tQ i tw l++if (!mem l i&&(List.range i).all λk:Nat=>mem l k||!tw k i)=true then [(i:Int)] else []:=by
 unfold tQ;rw [c6,eU,List.map_append];congr 1;rw [Lc];split
 .rfl
 .rfl
theorem RU (h:Host)(J:CnH h)(l:Xa0):Pua 138 [h.d,dLI l] (dLI (tQ h.o.i.length (CK h) l)):=by
 have T:=J.n;refine Tz.pK ⟨λt=>t==5,λ_=>[]⟩ func138 rfl (λQ P=>?_);have Y:=wa @Host.d.eq_1 @Host.c.eq_1;refine wv (h:=bA (λi e H=>∃ f:Xa0,(e 1=dLI l/\e 2=.adr h.c/\e 5=.own 0 f.length/\e 6=dI i)/\(H.get 0=some ⟨3,1,f.map cI,false⟩)/\(0<H.next)/\(i<=h.o.i.length)/\(f=tQ i (CK h) l)/\(f.length<=i)) (λi=>h.o.i.length - i) 0 ⟨([]),wg,wn,wn,wi,(by rfl),(by simp)⟩ λX y i e H E=>?_);obtain ⟨f,S,A,v,V,C,M⟩:=E;have Y:=xa2 Y S A (bU v);refine jH (λK=>?_) λK=>?_
 .have Y:=wa Y K;refine wp (h:=aB (Lz l i) wl ?_);refine wp (h:=bA (λk e H=>∃ s:Bool,(e 1=dLI l/\e 2=.adr h.c/\e 5=.own 0 f.length/\e 6=dI i/\e 7=.bool s/\e 8=dI k)/\(H.get 0=some ⟨3,1,f.map cI,false⟩)/\(0<H.next)/\(k<=i)/\(s=(!mem l i&&(List.range k).all λk:Nat=>mem l k||!CK h k i))) (λk=>i - k) 0 ⟨(!mem l i),wg,wn,wn,wi,(by simp)⟩ λW I k e H D=>?_);obtain ⟨s,R,z,u,U,B⟩:=D;have Y:=xa2 Y R z (bU u);refine jH (λr=>?_) λr=>?_
  .obtain ⟨L,g⟩:∃ x,x=(mem l (k:Int)||!CK h k i):=⟨_,rfl⟩;have w:k<i:=by first|omega|exact r.1|(simp at r;omega)
   have F:L=(!mem l i&&(List.range (k+1)).all λk:Nat=>mem l k||!CK h k i):=by
    have p:s=true:=by first|exact r.2|(simp_all)
    rw [c6,pC,g,<- Bool.and_assoc,<- B,p];simp
   have Y:=xa1 Y r (Eq.symm g);refine wp (h:=aB (Lz l k) wl ?_);refine wp (h:=aN (λO=>Pr h J k i bL bL) (λO=>wl) ?_);exact wp (h:=wx I (k+1) ⟨L,wg,wn,wn,wj,(by exact F)⟩)
  .have hfe:(!mem l i&&(List.range i).all λk:Nat=>mem l k||!CK h k i)=s:=by
    by_cases w:k<i
    .have p:s=false:=by first|exact r w|(simp_all)
     rw [p] at B ⊢;rw [bP];intro G;rw [aR,cF] at G;have:(!mem l i&&(List.range k).all λk:Nat=>mem l k||!CK h k i)=true:=by
      rw [aR,cF];exact ⟨G.1,λx N=>G.2 x (bN.2 (by have:=bN.1 N;omega))⟩
     rw [<- B] at this;cases this
    .rw [B,(bL:k=i)]
   have o:=WH h.o.i.length (CK h) l i;rw [hfe] at o;refine dD (λq=>?_) λq=>?_
   .obtain ⟨j,a⟩:∃ x,x=f++[(i:Int)]:=⟨_,rfl⟩;have m:j=tQ (i+1) (CK h) l:=by rw [o,if_pos (cG q),a,C]
    have b:j.length<=i+1:=by rw [a];simp;omega
    have Y:=wa Y a;exact wp (h:=wx y (i+1) ⟨j,wg,wn,wn,wj,(by exact m),(by exact b)⟩)
   .obtain ⟨j,a⟩:∃ x,x=f:=⟨_,rfl⟩;have m:j=tQ (i+1) (CK h) l:=by rw [o,if_neg (cG q),a,C];simp
    have b:j.length<=i+1:=by rw [a];omega
    have Y:=wa Y a;exact wp (h:=wx y (i+1) ⟨j,wg,wn,wn,wj,(by exact m),(by exact b)⟩)
 .have hE:f=tQ h.o.i.length (CK h) l:=by rw [C,(bL:i=h.o.i.length)]
  exact wv (h:=P _ _ (by simp [go_sem,Y,<- hE,dLI]))
theorem IX (g:Graph)(i j:Int):KI g (r5 g i j)=oU (gJ g i j):=by
 have h:=vD g i j;unfold KI oU r5;rw [<- h];simp
def OU (g:Graph)(l:Xa0)(k:Int):Xa0:=l.flatMap λj=>r5 g j k++r5 g k j
theorem Uv {g:Graph}{l:Xa0}{k:Int}{i:Nat}(h:i<l.length):OU g (l.take (i+1)) k=OU g (l.take i) k++r5 g l[i] k++r5 g k l[i]:=by
 unfold OU;rw [aD h,mW];simp only [iO,vS,dG,List.append_assoc]
theorem JS (g:Graph)(i j:Int):(r5 g i j).length<=g.j.length:=Es g i j _
theorem Ic {g:Graph}(he:g.j.length<=1000):∀ (l:Xa0) (k:Int),(OU g l k).length<=2000 * l.length
 | [],k=>by simp [OU]
 | j :: l,k=>by
  have ih:=Ic he l k;have h1:=JS g j k;have h2:=JS g k j;unfold OU at ih ⊢;rw [iO,aO,aO,cD];omega
theorem Cq (h:Host)(hv:h.values.length=h.o.i.length)(a0:h.o.i.length<=1000)(o:h.o.j.length<=1000)(hr:∀ v∈h.values,v.length<=1000)(l:Xa0)(k:Int)(hl:l.length<=1000)(hk:0<=k/\k<h.o.i.length) :
  Pua 73 [h.d,dLI l,dI k] (.tup [dLI (jA h l k),dLI (Ca h.o l k)]):=by
 have X:k.toNat<h.o.i.length:=bL;have J:k.toNat<h.values.length:=bL;have q3:k<(h.values.length:Int):=bL;have e3:gN h.o k=h.o.i[k.toNat]:=by unfold gN;rw [aA X];rfl
 have Z:vN h k=h.values[k.toNat]:=by unfold vN;rw [aA J];rfl
 have L:=hr _ (aC J);obtain ⟨G,A⟩:∃ x,x=h.values[k.toNat]:=⟨_,rfl⟩;rw [<- A] at L Z;have m:=JS h.o;have p:∀ i j:Int,Pua 139 [h.o.d,dI i,dI j] (dLI (r5 h.o i j)):=λi j=>xC h.o bL i j;have n:∀ i j:Int,Pua 140 [h.o.d,dLI (r5 h.o i j)] (dLI (oU (gJ h.o i j))):=λi j=>by
  rw [<- IX];exact zQ h.o _ (λx hx=>(j9.1 hx).1) (by have:=m i j;omega)
 refine Tz.pK ⟨λt=>t==20||t==9,λr=>match r with|1=>[(6,7),(6,8),(6,10),(6,11)]|7=>[(5,6),(5,7)]|_=>[]⟩ func73 rfl (λQ hQ=>?_);have q5:1+G.length<=4294967296:=bL;have Y:=xa6 @Host.d.eq_1 @Host.c.eq_1 hk q3 q5 (aA X) (aA J) (Eq.symm A);refine wp (h:=bA (λi e H=>∃ c:Nat,∃ d:Nat,∃ a:Xa0,∃ b:Xa0,(e 1=dLI l/\e 2=dI k/\e 3=.adr h.c/\e 8=.own c a.length/\e 9=.own d b.length/\e 10=dI i)/\(H.get c=some ⟨3,1,a.map cI,false⟩)/\(c<H.next)/\(H.get d=some ⟨3,1,b.map cI,false⟩)/\(d<H.next)/\(c≠d)/\(i<=l.length)/\(a=h.o.i[k.toNat] :: (G++Fi h.o (l.take i) k))/\(b=OU h.o (l.take i) k)) (λi=>l.length - i) 0 ⟨6,14,(h.o.i[k.toNat] :: G),([]),wg,wn,wn,wn,wn,(by omega),wi,(by simp [Fi]),(by rfl)⟩ λI0 T i e H N=>?_);obtain ⟨c,d,a,b,E0,F,w,E,u,P,hi,I,f⟩:=N;have V:=b8 (bL:d≠c);have Y:=xa7 Y @Host.d.eq_1 @Host.c.eq_1 E0 F (bU w) E (bU u) V;refine jH (λD=>?_) λD=>?_
 .obtain ⟨W,z⟩:∃ y,y=h.o.i[k.toNat] :: (G++Fi h.o (l.take (i+1)) k):=⟨_,rfl⟩;obtain ⟨e2,C⟩:∃ y,y=OU h.o (l.take (i+1)) k:=⟨_,rfl⟩;have M:W=a++oU (gJ h.o l[i] k)++oU (gJ h.o k l[i]):=by rw [z,LG D,I];simp
  have B:e2=b++r5 h.o l[i] k++r5 h.o k l[i]:=by rw [C,Uv D,f]
  have K:a.length<=2102000:=by
   have:=DI (g:=h.o) (k:=k) (show (l.take i).length<=1000 by simp;omega) o;rw [I];simp;omega
  have O:b.length<=2000000:=by
   have:=Ic o (l.take i) k;rw [f];simp at this ⊢;omega
  have S:=wL o l[i] k;have a2:=wL o k l[i];have R:=m l[i] k;have a1:=m k l[i];have s:a.length+(oU (gJ h.o l[i] k)).length<=4294967296/\a.length+(oU (gJ h.o l[i] k)).length+(oU (gJ h.o k l[i])).length<=4294967296:=bL;have q:b.length+(r5 h.o l[i] k).length<=4294967296/\b.length+(r5 h.o l[i] k).length+(r5 h.o k l[i]).length<=4294967296:=bL;have Y:=xa5 Y D (aA D) M B s q;refine wp (h:=aJ (p l[i] k) wl ?_);refine wp (h:=aJ (p k l[i]) wl ?_);refine wp (h:=aJ (n l[i] k) wl ?_);refine wp (h:=aJ (n k l[i]) wl ?_);exact wp (h:=wx T (i+1) ⟨c,d,W,e2,wg,wn,wn,wn,wn,(by exact P),wj,(by exact z),(by exact C)⟩)
 .have K:a.length<=2102000:=by
   have:=DI (g:=h.o) (k:=k) (show (l.take i).length<=1000 by simp;omega) o;rw [I];simp;omega
  have O:b.length<=2000000:=by
   have:=Ic o (l.take i) k;rw [f];simp at this ⊢;omega
  have S:=wL o k k;have R:=m k k;have s:a.length+(oU (gJ h.o k k)).length<=4294967296:=bL;have q:b.length+(r5 h.o k k).length<=4294967296:=bL;have hE:jA h l k=a++oU (gJ h.o k k):=by
   rw [I,aH bL];unfold jA IM Fi;rw [e3,Z];simp
  have U:Ca h.o l k=b++r5 h.o k k:=by
   rw [f,aH bL];rfl
  have Y:=xa1 Y s q;refine wv (h:=aB (p k k) wl ?_);refine wp (h:=aB (n k k) wl ?_);exact wp (h:=hQ _ _ (by rw [hE,U];simp [go_sem,Y,dLI]))
def Dy (l:Xa0):D:=match l with
 | []=>.nil
 | _=>dLI l
def RG (l:Xa0):Xa2:=[Dy l]
theorem Nm {l:Xa0}(h:l≠[]):Dy l=dLI l:=by cases l;exact absurd rfl h;rfl
theorem Ym (l:Xa0):(Dy l).U=true:=by cases l<;>simp [Dy,go_sem,dLI]
theorem WF (l:Xa0):lA (Dy l)=dLI l:=by
 cases l with
 | nil=>rfl
 | cons x l =>
  show D.list (eL _)=_;rw [mZ]
  .rfl
  .intro c hc;rw [aS] at hc;obtain ⟨y,_,rfl⟩:=hc;rfl
theorem Bb (l:Xa0):eL (l.map cI)=l.map cI:=mZ λc hc=>by
 rw [aS] at hc;obtain ⟨y,_,rfl⟩:=hc;rfl
theorem LO (l:List Edge):eL (l.map Edge.c)=l.map Edge.c:=mZ λc hc=>by
 rw [aS] at hc;obtain ⟨y,_,rfl⟩:=hc;rfl
theorem PR (l:Yb):eL (l.map cL)=l.map cL:=mZ λc hc=>by
 rw [aS] at hc;obtain ⟨y,_,rfl⟩:=hc;simp [cL,dLI,gI,lA,Bb]
theorem PS (h:Host):lA h.d=h.d:=by simp [Host.d,Host.c,lA,gI,dLI,Bb,LO,PR]
def Zb (l:Xa0):Prop:=l.length<=1000000/\∀ x∈l,-1000000<=x/\x<=1000000
theorem Ua:∀ {a b:Xa0},Zb a->Zb b->(vA a b<0↔cJ a b<0)/\(0<vA a b↔0<cJ a b)
 | [],[],_,_=>by simp [vA,cJ,IntKind.wrap_i64]
 | [],y :: m,_,hb=>by
  have:=hb.1;rw [Bx (.inl rfl),IntKind.wrap_i64];simp [cJ] at this ⊢;omega
 | x :: l,[],ha,_=>by
  have:=ha.1;rw [Bx (.inr rfl),IntKind.wrap_i64];simp [cJ] at this ⊢;omega
 | x :: l,y :: m,ha,hb=>by
  have ih:=Ua (a:=l) (b:=m) ⟨by have:=ha.1;simp at this;omega,λz hz=>ha.2 z (cZ _ hz)⟩ ⟨by have:=hb.1;simp at this;omega,λz hz=>hb.2 z (cZ _ hz)⟩;have hx:=ha.2 x (j5 ..);have hy:=hb.2 y (j5 ..);rw [FF];simp only [cJ];by_cases e:x=y
  .subst e;simpa using ih
  .rw [if_pos e,IntKind.wrap_i64];by_cases h1:x<y
   .rw [if_pos h1];omega
   .rw [if_neg h1,if_pos bL];omega
theorem NF {g:Graph}(ht:∀ x∈g.j,0<=x.type/\x.type<=99)(he:g.j.length<=1000)(i j:Int):∀ x∈oU (gJ g i j),-1000000<=x/\x<=1000000:=λx hx=>by
 unfold oU at hx;rcases aP.1 hx with rfl|hx
 .have:=vE g i j;omega
 .unfold gJ at hx;unfold pR at hx;rw [List.mem_mergeSort] at hx;unfold AG at hx;obtain ⟨e,h1,rfl⟩:=aS.1 hx;have:=ht e (bJ (dR.1 h1).1);omega
theorem ZY {h:Host}(g:∀ a∈h.o.i,0<=a/\a<=99)(d:∀ x∈h.o.j,0<=x.type/\x.type<=99)(c:h.o.j.length<=1000)(e:∀ v∈h.values,v.length<=1000/\∀ x∈v,-1000000<=x/\x<=1000000)(l:Xa0)(i:l.length<=8)(k:Int):Zb (jA h l k):=by
 refine ⟨by have:=M8 (λv f=>(e v f).1) c i k;omega,λx hx=>?_⟩;unfold jA at hx;rcases aP.1 hx with rfl|hx
 .unfold gN;by_cases b:k.toNat<h.o.i.length
  .rw [aA b];have:=g _ (aC b);simp;omega
  .rw [bC bL];simp
 .rcases aQ.1 hx with hx|hx
  .unfold vN at hx;by_cases b:k.toNat<h.values.length
   .rw [aA b] at hx;exact (e _ (aC b)).2 x hx
   .rw [bC bL] at hx;simp at hx
  .obtain ⟨p,hp,hx⟩:=bM.1 hx;unfold IM at hp;rcases aQ.1 hp with hp|hp
   .obtain ⟨j,_,hp⟩:=bM.1 hp;simp only [aP,dU,or_false] at hp;rcases hp with rfl|rfl<;>exact NF d c _ _ x hx
   .simp only [aP,dU,or_false] at hp;subst hp;exact NF d c _ _ x hx
theorem WI (N:Nat)(tw:Nat->Nat->Bool)(l:Xa0):(tQ N tw l).length<=N:=by
 unfold tQ;rw [bR];exact dA (iC _ _) bS
theorem Yx {N:Nat}{tw:Nat->Nat->Bool}{l:Xa0}{x:Int}(a:x∈tQ N tw l):0<=x/\x<N:=by
 unfold tQ at a;obtain ⟨k,b,rfl⟩:=aS.1 a;have:=bN.1 (dR.1 b).1;omega
theorem WU {sg:Xa0->Int->Xa0}{st:Xa0 × Yb}{o:Xa0}{k:Int}:(nM sg st o k).2.length<=st.2.length+1:=by
 unfold nM;split
 .omega
 .rw [aO];split<;>simp
theorem Pt (h:Host)(hO:CnH h)(b2:h.o.i.length<=8)(hr:∀ v∈h.values,v.length<=1000)(S:SegOk h.o.i.length (CK h) (jA h))(hB:∀ l:Xa0,l.length<=8->∀ k:Int,Zb (jA h l k)):Pua 72 [h.d] (dLI (y9 h)):=by
 obtain ⟨N,hN⟩:=cY (h.o.i.length);have hK:=Je (FI h) S;have D:=U2 (FI h) S;rw [<- hN] at hK D b2;have he:=hO.e;have cN:∀ o:Xa0,Pua 138 [h.d,Dy o] (dLI (tQ N (CK h) o)):=λo=>by
  have:=RU h hO o;rw [<- hN] at this;exact this.dd (by simp [PS,WF])
 have cS:∀ (o:Xa0) (k:Int),o.length<=8->0<=k/\k<N->Pua 73 [h.d,Dy o,dI k] (.tup [dLI (jA h o k),dLI (Ca h.o o k)]):=λo k h1 h2=>by
  have:=Cq h hO.vl hO.n he hr o k bL bL;exact this.dd (by simp [PS,WF,lA,dI])
 have a8:∀ l,RG l=[Dy l]:=λ_=>rfl;have b0:Dy []=.nil:=rfl;have a9:∀ (a:Int) (l:Xa0),Dy (a :: l)=dLI (a :: l):=λ_ _=>rfl;refine Tz.pK ⟨λt=>t==5||t==6||t==72,λr=>match r with|19=>[(1,4),(1,5),(1,9),(6,9),(1,10),(6,10),(1,11),(4,11),(5,11),(6,11)]|_=>[]⟩ func72 rfl (λQ hQ=>?_);have Y:=xa5 @Host.d.eq_1 @Host.c.eq_1 (Eq.symm hN) a8 b0 a9 @Ym;refine wv (h:=bA (λk e H=>∃ f:Yb,(e 1=.adr h.c/\e 3=.list (f.map RG)/\e 4=dI k)/\(k<=N)/\(f=KG N (CK h) (jA h) k)/\(f.length<=8 ^ k)) (λk=>N - k) 0 ⟨([[]]),wg,wi,(by rfl),(by simp)⟩ λI0 c1 k e H b8=>?_);obtain ⟨f,E0,hk,P,c2⟩:=b8;have Y:=wa Y E0;refine jH (λh3=>?_) λh3=>?_
 .have hkd:=hK k bL;rw [<- P] at hkd;have c8:8 ^ k<=8 ^ 8:=Nat.pow_le_pow_right bL bL;have c7:(8:Nat) ^ 8=16777216:=by decide
  have Y:=wa Y h3;refine wv (h:=WO 5 (H.next) (0) ⟨3,1,[],false⟩ cl cl cl (λi e H=>∃ c:Nat,∃ y:Yb,∃ I:Xa0,(e 1=.adr h.c/\e 3=.list (f.map RG)/\e 4=dI k/\e 5=dLI I/\e 6=.own c y.length/\e 7=dI i)/\(H.get c=some ⟨27,1,y.map RG,false⟩)/\(c<H.next)/\(i<=f.length)/\((f.take i).foldl (λst o=>(tQ N (CK h) o).foldl (λst k=>nM (jA h) st o k) st) ([],[])=(I,y))/\(y.length<=8 * i)/\(Zb I)) (λi=>f.length - i) 0 ⟨(H.next+1),([]),([]),wg,wn,wn,wi,(by rfl),(by simp),(by exact ⟨by simp,by simp⟩)⟩ λI2 c0 i e H b7=>?_);obtain ⟨c,y,I,E2,a5,X,hi,O,c9,b9⟩:=b7;have Y:=xa3 Y @Host.c.eq_1 E2 a5 (bU X);refine jH (λh8=>?_) λh8=>?_
  .have hoi:=hkd.ok f[i] (aC h8);obtain ⟨l,hl⟩:=cY (tQ N (CK h) f[i]);have d1:l.length<=N:=by rw [hl];exact WI N _ _
   have Y:=xa2 Y h8 (aA h8) (Eq.symm hl);refine wp (h:=aJ (cN f[i]) wl ?_);refine wp (h:=bA (λj e H=>∃ W:Nat,∃ m:Yb,∃ u:Xa0,(e 1=.adr h.c/\e 3=.list (f.map RG)/\e 4=dI k/\e 5=dLI u/\e 6=.own W m.length/\e 7=dI i/\e 8=dLI l/\e 9=dI j)/\(H.get W=some ⟨27,1,m.map RG,false⟩)/\(W<H.next)/\(j<=l.length)/\((l.take j).foldl (λst k=>nM (jA h) st f[i] k) (I,y)=(u,m))/\(m.length<=8 * i+j)/\(Zb u)) (λj=>l.length - j) 0 ⟨c,y,I,wg,wn,wn,wi,(by rfl),(by omega),(by exact b9)⟩ λI4 F j e H b6=>?_);obtain ⟨W,m,u,E4,U,L,hj,a0,c3,E⟩:=b6;have Y:=xa2 Y E4 U (bU L);refine jH (λT=>?_) λT=>?_
   .have hjl:=T;obtain ⟨b,R⟩:∃ x,x=jA h f[i] l[j]:=⟨_,rfl⟩;have b3:0<=l[j]/\l[j]<N:=Yx (tw:=CK h) (l:=f[i]) (by rw [<- hl];exact aC hjl);have a1:Pua 73 [h.d,Dy f[i],dI l[j]] (.tup [dLI b,dLI (Ca h.o f[i] l[j])]):=by rw [R];exact cS _ _ bL b3
    have a3:Zb b:=by rw [R];exact hB _ bL _
    obtain ⟨a7,a6⟩:=Ua a3 E;have a2:Dy (f[i]++[l[j]])=dLI (f[i]++[l[j]]):=Nm bS;have Z:f[i]=[]->Dy f[i]=.nil:=λJ=>by rw [J];rfl
    have M:(l.take (j+1)).foldl (λst k=>nM (jA h) st f[i] k) (I,y)=nM (jA h) (u,m) f[i] l[j]:=by
     rw [aD hjl,eG,a0];rfl
    have d2:=WU (sg:=jA h) (st:=(u,m)) (o:=f[i]) (k:=l[j]);have K:nM (jA h) (u,m) f[i] l[j]=if 0<m.length/\0<vA b u then (u,m) else (b,(if 0<m.length/\vA b u<0 then [] else m)++[f[i]++[l[j]]]):=by
     have e1:(decide (m≠[])&&decide (0<cJ b u))=true↔(0<m.length/\0<vA b u):=by rw [a6,aR,decide_eq_true_eq,decide_eq_true_eq,Df]
     have e2:(decide (m≠[])&&decide (cJ b u<0))=true↔(0<m.length/\vA b u<0):=by rw [a7,aR,decide_eq_true_eq,decide_eq_true_eq,Df]
     unfold nM;rw [<- R];simp only [e1,e2]
    have Y:=xa1 Y T (aA hjl);refine wp (h:=aJ (a1) wl ?_);refine wp (h:=aN (λhg=>uP b u) (λhg=>wl) ?_);refine jH (λA=>?_) λA=>?_
    .have hgt:0<m.length/\0<vA b u:=by first|exact A|(simpa using A)
     obtain ⟨V,z⟩:∃ x,x=W:=⟨_,rfl⟩;obtain ⟨B,g⟩:∃ x,x=m:=⟨_,rfl⟩;obtain ⟨G,s⟩:∃ x,x=u:=⟨_,rfl⟩;have p:(l.take (j+1)).foldl (λst k=>nM (jA h) st f[i] k) (I,y)=(G,B):=by
      rw [M,K,if_pos hgt,s,g]
     have w:Zb G:=by rw [s];exact E
     have q:B.length<=8 * i+(j+1):=by rw [g];omega
     have Y:=xa2 Y z g s;exact wp (h:=wx F (j+1) ⟨V,B,G,wg,wn,wn,wj,(by exact p),(by exact q),(by exact w)⟩)
    .have hng:¬ (0<m.length/\0<vA b u):=by first|exact A|(intro hh;have:=A hh.1;omega)|(simpa using A)
     rw [if_neg hng] at K;obtain ⟨G,s⟩:∃ x,x=b:=⟨_,rfl⟩;have w:Zb G:=by rw [s];exact a3
     have Y:=wa Y A;refine wp (h:=aN (λhg=>uP b u) (λhg=>wl) ?_);refine jH (λC=>?_) λC=>?_
     .have hlt:0<m.length/\vA b u<0:=by first|exact C|(simpa using C)
      obtain ⟨V,z⟩:∃ x,x=H.next+15:=⟨_,rfl⟩;obtain ⟨B,g⟩:∃ x,x=[f[i]++[l[j]]]:=⟨_,rfl⟩;have p:(l.take (j+1)).foldl (λst k=>nM (jA h) st f[i] k) (I,y)=(G,B):=by
       rw [M,K,if_pos hlt,s,g];rfl
      have q:B.length<=8 * i+(j+1):=by rw [g];simp;omega
      by_cases J:f[i]=[]
      .have Y:=xa4 Y z g s (Z J) J;exact wp (h:=wx F (j+1) ⟨V,B,G,wg,wn,wn,wj,(by exact p),(by exact q),(by exact w)⟩)
      .have Y:=xa4 Y z g s (Nm J) a2;exact wp (h:=wx F (j+1) ⟨V,B,G,wg,wn,wn,wj,(by exact p),(by exact q),(by exact w)⟩)
     .have hnl:¬ (0<m.length/\vA b u<0):=by first|exact C|(intro hh;have:=C hh.1;omega)|(simpa using C)
      obtain ⟨V,z⟩:∃ x,x=W:=⟨_,rfl⟩;obtain ⟨B,g⟩:∃ x,x=m++[f[i]++[l[j]]]:=⟨_,rfl⟩;have p:(l.take (j+1)).foldl (λst k=>nM (jA h) st f[i] k) (I,y)=(G,B):=by
       rw [M,K,if_neg hnl,s,g]
      have q:B.length<=8 * i+(j+1):=by rw [g];simp;omega
      by_cases J:f[i]=[]
      .have Y:=xa4 Y z g s (Z J) J;exact wp (h:=wx F (j+1) ⟨V,B,G,wg,wn,wn,wj,(by exact p),(by exact q),(by exact w)⟩)
      .have Y:=xa4 Y z g s (Nm J) a2;exact wp (h:=wx F (j+1) ⟨V,B,G,wg,wn,wn,wj,(by exact p),(by exact q),(by exact w)⟩)
   .have hst4:(f.take (i+1)).foldl (λst o=>(tQ N (CK h) o).foldl (λst k=>nM (jA h) st o k) st) ([],[])=(u,m):=by
     rw [aD h8,eG,O,<- a0,aH bL,hl];rfl
    have d0:m.length<=8 * (i+1):=bL;exact wp (h:=wx c0 (i+1) ⟨W,m,u,wg,wn,wn,wj,(by exact hst4),(by omega),(by exact E)⟩)
  .have hosn:y=KG N (CK h) (jA h) (k+1):=by
    rw [aH bL] at O;show y=Vm N (CK h) (jA h) (KG N (CK h) (jA h) k);unfold Vm;rw [<- P,O]
   exact wp (h:=DP 3 (c) (y.length) ⟨27,1,y.map RG,false⟩ cl cl bS (k+1) bL ((c1 _ _ _).2 ⟨y,wg,wj,(by exact hosn),(by rw [Nat.pow_succ];omega)⟩))
 .have hkN:k=N:=bL;have a4:f.head?=some (y9 h):=by rw [P,hkN];exact D
  obtain ⟨c6,b1⟩:∃ r,f=y9 h :: r:=by
   cases f with
   | nil=>cases a4
   | cons a r=>exact ⟨r,by rw [show a=y9 h by simpa using a4]⟩
  have Y:=wa Y b1;exact wp (h:=hQ _ _ (by cases y9 h<;>simp [Dy,go_sem,dLI]))
theorem Tu {p q:Xa0}{n:Nat}:∀ k≤p.length,vU (p++q) n k=vU p n k
 | 0,_=>rfl
 | k+1,h=>by
  rw [vU,vU,Tu k (by omega)];have:iA (p++q) k=iA p k:=by
   unfold iA;rw [Int.toNat_natCast,aY (by omega)]
  rw [this]
theorem Wu (p:Xa0)(x:Int)(n:Nat):vU (p++[x]) n (p.length+1)=(vU p n p.length).set x.toNat p.length:=by
 rw [vU,Tu _ (aT _)];have:iA (p++[x]) p.length=x:=by unfold iA;simp
 rw [this]
theorem Yg {g:Graph}{l:Xa0}{k x:Int}(hx:x∈Ca g l k):0<=x/\x<g.j.length:=by
 unfold Ca at hx;rcases aQ.1 hx with hx|hx
 .obtain ⟨j,_,hx⟩:=bM.1 hx;rcases aQ.1 hx with hx|hx<;>exact (j9.1 hx).1
 .exact (j9.1 hx).1
theorem TV {f:Nat->Xa0}{k:Nat}:∀ {n:Nat},k<=n->((List.range k).flatMap f).length<=((List.range n).flatMap f).length
 | 0,h=>by rw [(bL:k=0)];exact aT _
 | n+1,h=>by
  by_cases e:k=n+1
  .rw [e];exact aT _
  .have:=TV (f:=f) (k:=k) (n:=n) bL;rw [c6,mW,aO];omega
theorem PW:∀ {N:Nat} {l:Xa0},l.Nodup->(∀ x∈l,0<=x/\x<(N:Int))->l.length<=N
 | 0,l,_,h=>by
  cases l with
  | nil=>simp
  | cons a l=>have:=h a bS;omega
 | N+1,l,hn,h=>by
  have ih:=PW (N:=N) (l:=l.erase (N:Int)) (hn.erase _) λx hx=>by
   have h1:=h x (List.mem_of_mem_erase hx);have h2:x≠(N:Int):=λe=>by subst e;exact hn.not_mem_erase hx
   omega
  have:=List.length_erase_le (a:=(N:Int)) (l:=l);by_cases hm:(N:Int)∈l
  .rw [List.length_erase_of_mem hm] at ih;omega
  .rw [List.erase_of_not_mem hm] at ih;omega
theorem VI {h:Host}(i:h.o.i.length<=8)(g:∀ x∈h.o.j,(0<=x.from_/\x.from_<h.o.i.length)/\0<=x.L/\x.L<h.o.i.length):GG h=VC h.o (y9 h):=by
 obtain ⟨m,f,b⟩:=N6 h;have a:∀ x:Int,0<=x/\x<h.o.i.length->x∈y9 h:=λx c=>by
  by_cases d:x∈y9 h
  .exact d
  .have:=PW (N:=h.o.i.length) (l:=x :: y9 h) (gC.2 ⟨d,b⟩) λy hy=>by
    rcases aP.1 hy with rfl|hy
    .exact c
    .exact f y hy
   simp at this;omega
 refine YT b bL (λk j=>?_) λx c=>?_
 .have:=Wv b f h.o.i.length bL k bL;exact this
 .have q:x.toNat<h.o.j.length:=bL;have e:eA h.o x=h.o.j[x.toNat]:=by unfold eA;rw [aA q];rfl
  have:=g _ (aC q);rw [e];exact ⟨a _ this.1,a _ this.2⟩
theorem So {t:Types}{h:Host}(c:HostOk t h)(u:h.o.i.length<=8):Pua 72 [h.d] (dLI (y9 h)):=by
 have B:=bW c.gg;have m:=eI c.gg;have f:∀ x:Int,-1000000<=x/\x<=1000000->XL x:=λx o=>by unfold XL;omega
 have q:∀ v∈h.values,v.length<=1000:=λv p=>by have:=(c.row v p).1;omega
 have C:CnH h:=⟨c.vl,bL,bL,λi j E D=>by
   have a:=c.row _ (aC E);have b:=c.row _ (aC D);exact JK (λx o=>f x (a.2 x o)) (λx o=>f x (b.2 x o)) bL bL,λi j x y=>by
   rw [IX,IX];have a:=wL (g:=h.o) bL i j;have b:=wL (g:=h.o) bL x y;exact JK (λz s=>f z (NF (λe r=>(m.2 e r).1) bL i j z s)) (λz s=>f z (NF (λe r=>(m.2 e r).1) bL x y z s)) bL bL⟩
 have n:∀ x:Int,0<=x/\x<h.o.i.length->(vN h x).length=(bZ t (gN h.o x)).length:=λx o=>by
  have p:=c.vl;have a:x.toNat<h.o.i.length:=bL;have b:x.toNat<h.values.length:=bL;have:=(uY (c.nd x.toNat a b)).2.2.1;unfold vN gN;rw [aA b,aA a];exact this
 exact Pt h C u q (ZX λx y o w e=>by rw [n x o,n y w,e]) λl A k=>ZY m.1 (λe r=>(m.2 e r).1) bL (λv p=>⟨q v p,(c.row v p).2⟩) l A k
theorem Ps (t:Types)(e:t.ok)(h:Host):Pua 71 [t.d,h.d] (dI (lR t h)):=by
 refine Tz.p0 func71 rfl λQ a _=>?_;have Y:=wa @Host.d.eq_1 @Host.c.eq_1;refine wv (h:=aB (qB t e h) wl ?_);refine dD (λb=>?_) λb=>?_
 .have hE:lR t h=dH t h:=by unfold lR dH;rw [if_pos (cG b)]
  exact wv (h:=a _ _ (by simp [go_sem,hE,dH]))
 .have h0:dH t h=0:=by unfold dH;simpa using b
  refine dZ (λf=>?_) λf=>?_
  .have hE:lR t h=3:=by unfold lR;rw [if_neg (cG h0),if_pos bL]
   exact wv (h:=a _ _ (eD hE))
  .have hE:lR t h=0:=by unfold lR;rw [if_neg (cG h0),if_neg bL]
   exact wv (h:=a _ _ (eD hE))
theorem Ah (t:Types)(ht:t.ok)(h:Host):Pua 33 [t.d,h.d] (.tup [(pI t h).d,(JQ t h).d,dI (lR t h)]):=by
 refine Tz.pK ⟨λt=>t==4||t==5||t==31||t==36||t==9||t==10||t==70||t==16,λr=>match r with|5=>[(4,5),(4,6),(4,7),(4,8),(0,9),(1,9),(2,9),(3,9),(4,9),(0,11),(1,11),(2,11),(3,11),(4,11),(5,11),(6,11),(7,11),(8,11),(9,11)]|11=>[(0,12),(1,12),(2,12)]|12=>[(0,2),(1,2),(2,3),(2,4),(2,7),(2,8),(2,9),(2,10),(0,11),(1,11),(0,12),(1,12)]|20=>[(0,9),(1,9),(2,9),(5,9),(6,9),(7,9),(8,9)]|22=>[(0,18),(1,18),(2,18)]|23=>[(1,2)]|_=>[]⟩ func33 rfl (λQ hQ=>?_);have Y:=xa1 @Host.d.eq_1 @Host.c.eq_1 @Part.d.eq_1;refine wv (h:=aB (Ps t ht h) wl ?_);refine dD (λh2=>?_) λh2=>?_
 .have hne:lR t h≠0:=by simpa using h2
  have hH:pI t h=⟨⟨[],[]⟩,[]⟩:=if_pos hne;have hM:JQ t h=⟨[],[]⟩:=if_pos hne;exact wv (h:=hQ _ _ (by rw [hH,hM];simp [go_sem,Y,dLI]))
 .have s:lR t h=0:=by simpa using h2
  have hH:pI t h=vC h:=if_neg (by rw [s];decide);have hM:JQ t h=SU h:=if_neg (by rw [s];decide);have h0:dH t h=0:=by unfold lR at s;split at s;exact absurd s ‹_›;omega
  have d5:h.o.i.length<=8:=by unfold lR at s;rw [if_neg bL] at s;split at s;cases s;omega
  have y:=rW h0;have g8:=bW y.gg;have d6:=eI y.gg;obtain ⟨o,i⟩:=cY (y9 h);have u:=N6 h;rw [<- i] at u;obtain ⟨N,hN⟩:=cY (h.o.i.length);obtain ⟨m,hm⟩:=cY (h.o.j.length);obtain ⟨E,w⟩:=cY (GG h);have g2:=Mz h;rw [<- w] at g2;have g3:E=VC h.o o:=by rw [w,i];exact VI d5 λx hx=>(d6.2 x hx).2
  have a1:o.length=N:=by rw [hN];exact u.1
  have cO:Pua 72 [h.d] (dLI o):=by
   rw [i];exact So y d5
  have f5:(vU o N 0).map cI=List.replicate N [D.int .i64 0]:=by simp [vU,cI]
  have f4:(vU [] m 0).map cI=List.replicate m [D.int .i64 0]:=by simp [vU,cI]
  have Y:=xa4 Y a1 (Eq.symm hN) (Eq.symm hm) f5 f4;refine wv (h:=aB (cO) wl ?_);refine wo (h:=o8 (Ghosts.step (Ghosts.step (Ghosts.refl _) 15 0 0 3 1 _ _ ((by simp [go_sem]:AHeap.get _ _=some ⟨33,3,[[.nil,.nil,.nil]],false⟩)) rfl rfl rfl) 15 0 2 27 1 _ _ ((by simp [go_sem]:AHeap.get _ _=some ⟨33,3,[[.own 16 0,.nil,.nil]],false⟩)) rfl rfl rfl) (λk e H=>(e 2=.adr t.c/\e 3=.adr h.c/\e 4=.ptr 0 1 0 0/\e 5=.ptr 1 1 0 0/\e 8=dLI o/\e 9=.ptr 13 1 0 0/\e 10=.ptr 15 1 0 0/\e 11=dI k)/\(H.get 0=some ⟨33,3,[[.nil,.nil,.nil]],false⟩)/\(0<H.next)/\(H.get 1=some ⟨55,2,[[.nil,.nil]],false⟩)/\(1<H.next)/\(H.get 15=some ⟨33,3,[[.own 16 k,.nil,.own 17 k]],false⟩)/\(15<H.next)/\(H.get 6=some ⟨3,1,(vU o N k).map cI,false⟩)/\(6<H.next)/\(H.get 11=some ⟨3,1,(vU [] m 0).map cI,false⟩)/\(11<H.next)/\(H.get 13=some ⟨55,2,[[.own 6 N,.own 11 m]],false⟩)/\(13<H.next)/\(H.get 16=some ⟨3,1,((o.take k).map (gN h.o)).map cI,false⟩)/\(16<H.next)/\(H.get 17=some ⟨27,1,((o.take k).map (vN h)).map cL,false⟩)/\(17<H.next)/\(k<=o.length)) (λk=>o.length - k) 0 ⟨wg,wn,wn,wn,wn,wn,wn,wn,wn,wn,wn,wn,wn,wn,wn,wn,wn,wi⟩ λI0 g1 k e H f8=>?_);obtain ⟨E0,e9,c9,e6,c4,b1,K,e3,c1,b7,S,b4,O,a8,G,a5,B,hk⟩:=f8;have Y:=xa5 Y E0 e9 (bU c9) e6 (bU c4) (xb0 b1 (bU K) e3 (bU c1) b7 (bU S) b4 (bU O) a8 (bU G) a5 (bU B));refine dZ (λh8=>?_) λh8=>?_
  .have hkl:k<o.length:=bL;have hr:=u.2.1 _ (aC hkl);have q1:o[k].toNat<h.o.i.length:=bL;have q2:o[k].toNat<h.values.length:=by have:=y.vl;omega
   obtain ⟨nd,d4⟩:∃ x,x=h.o.i[o[k].toNat]:=⟨_,rfl⟩;obtain ⟨vs,U⟩:∃ x,x=h.values[o[k].toNat]:=⟨_,rfl⟩;have g6:vs.length<=8:=by rw [U];exact (y.row _ (aC q2)).1
   have s1:((vU o N k).map cI).set o[k].toNat [D.int .i64 (k:Int)]=(vU o N (k+1)).map cI:=by
    rw [vU,c8,jU hkl];simp [cI]
   have s2:((o.take k).map (gN h.o)).map cI++[[D.int .i64 nd]]=((o.take (k+1)).map (gN h.o)).map cI:=by
    rw [fN _ hkl,List.map_append];have:gN h.o o[k]=nd:=by unfold gN;rw [aA q1,d4];rfl
    rw [this];simp [cI]
   have s3:((o.take k).map (vN h)).map cL++[[dLI vs]]=((o.take (k+1)).map (vN h)).map cL:=by
    rw [fN _ hkl,List.map_append];have:vN h o[k]=vs:=by unfold vN;rw [aA q2,U];rfl
    rw [this];simp [cL]
   have f:=tO o N k;have V:o[k]<(N:Int):=bL;have f0:h.values.length=N:=by have:=y.vl;omega
   simp [dLI] at s2 s3;have Y:=xa2 Y h8 V (xb0 f0 (aA hkl) hr.1 hr.2 (aA q1) (aA q2) (Eq.symm d4) (Eq.symm U) s1 s2 s3 f);exact wo (h:=wx g1 (k+1) ⟨wg,wn,wn,wn,wn,wn,wn,wn,wn,wn,wn,wn,wn,wn,wn,wn,wn,wj⟩)
  .have hkN:k=N:=bL;obtain ⟨b,d2⟩:∃ x,x=vU o N N:=⟨_,rfl⟩;have a0:b=Eo h:=by rw [d2];unfold Eo;rw [<- i,<- hN]
   have f:b.length=N:=by rw [a0,hN];exact My h
   have f1:o.take N=o:=aH bL;have n:E.length=m:=bL;have d7:E=(List.range N).flatMap λk=>Ca h.o (o.take k) (iA o k):=by rw [g3];unfold VC;rw [a1]
   have Y:=xa4 Y hkN (Eq.symm d2) f1 f n;refine wv (h:=o8 (Ghosts.step (Ghosts.refl _) 15 0 1 124 3 _ _ ((by simp [go_sem,Y]:AHeap.get _ _=some ⟨33,3,[[.own 16 N,.nil,.own 17 N]],false⟩)) rfl rfl rfl) (λk e H=>∃ W:Nat,∃ p:Xa0,(e 2=.adr t.c/\e 3=.adr h.c/\e 4=.ptr 0 1 0 0/\e 5=.ptr 1 1 0 0/\e 8=dLI o/\e 9=.ptr 13 1 0 0/\e 10=.ptr 15 1 0 0/\e 12=dI k)/\(H.get 0=some ⟨33,3,[[.nil,.nil,.nil]],false⟩)/\(0<H.next)/\(H.get 1=some ⟨55,2,[[.nil,.nil]],false⟩)/\(1<H.next)/\(H.get 15=some ⟨33,3,[[.own 16 N,.own W p.length,.own 17 N]],false⟩)/\(15<H.next)/\(H.get 6=some ⟨3,1,b.map cI,false⟩)/\(6<H.next)/\(H.get 11=some ⟨3,1,(vU p m p.length).map cI,false⟩)/\(11<H.next)/\(H.get 13=some ⟨55,2,[[.own 6 N,.own 11 m]],false⟩)/\(13<H.next)/\(H.get 16=some ⟨3,1,(o.map (gN h.o)).map cI,false⟩)/\(16<H.next)/\(H.get 17=some ⟨27,1,(o.map (vN h)).map cL,false⟩)/\(17<H.next)/\(H.get W=some ⟨124,3,(p.map (En h.o b)).map Edge.c,false⟩)/\(W<H.next)/\(k<=o.length)/\(p=(List.range k).flatMap (λk=>Ca h.o (o.take k) (iA o k)))/\(17<W)) (λk=>o.length - k) 0 ⟨H.next,([]),wg,wn,wn,wn,wn,wn,wn,wn,wn,wn,wn,wn,wn,wn,wn,wn,wn,wn,wn,wi,(by rfl),bL⟩ λI2 g0 k e H f7=>?_);obtain ⟨W,p,E2,e8,c7,e5,c3,b0,J,e2,c0,b6,R,b3,M,a7,F,a4,A,gW_2,nW_2,hk,hp,hW⟩:=f7;have g5:=xa1 (b8 (bL:W≠17)) (b8 (bL:W≠16)) (xb0 (b8 (bL:W≠15)) (b8 (bL:W≠13)) (b8 (bL:W≠11)) (b8 (bL:W≠6)) (b8 (bL:W≠1)) (b8 (bL:W≠0)) (b8 (bL:17≠16)) (b8 (bL:17≠15)) (b8 (bL:17≠13)) (b8 (bL:17≠11)) (b8 (bL:17≠6)) (xb0 (b8 (bL:17≠1)) (b8 (bL:17≠0)) (b8 (bL:16≠15)) (b8 (bL:16≠13)) (b8 (bL:16≠11)) (b8 (bL:16≠6)) (b8 (bL:16≠1)) (b8 (bL:16≠0)) (b8 (bL:15≠13)) (b8 (bL:15≠11)) (b8 (bL:15≠6)) (xb0 (b8 (bL:15≠1)) (b8 (bL:15≠0)) (b8 (bL:13≠11)) (b8 (bL:13≠6)) (b8 (bL:13≠1)) (b8 (bL:13≠0)) (b8 (bL:11≠6)) (b8 (bL:11≠1)) (b8 (bL:11≠0)) (b8 (bL:6≠1)) (b8 (bL:6≠0)) (b8 (bL:1≠0)))));have Y:=xa8 Y E2 e8 (bU c7) e5 (bU c3) b0 (bU J) e2 (xb0 (bU c0) b6 (bU R) b3 (bU M) a7 (bU F) a4 (bU A) gW_2 (bU nW_2) g5);refine dZ (λd9=>?_) λd9=>?_
   .have hkl:k<o.length:=bL;have hr:=u.2.1 _ (aC hkl);obtain ⟨a,a2⟩:∃ x,x=Ca h.o (o.take k) o[k]:=⟨_,rfl⟩;have d0:(List.range (k+1)).flatMap (λk=>Ca h.o (o.take k) (iA o k))=p++a:=by
     rw [c6,mW,<- hp,a2,<- jU hkl];simp
    have d1:(p++a).length<=m:=by rw [<- d0,<- n,d7];exact TV bL
    rw [aO] at d1;have cS:Pua 73 [h.d,.list ((o.map cI).take k),dI o[k]] (.tup [dLI (jA h (o.take k) o[k]),dLI a]):=by
     have:=Cq h y.vl bL bL (λv hv=>by have:=(y.row v hv).1;omega) (o.take k) o[k] et hr;unfold dLI at this ⊢;rw [List.map_take] at this;rw [a2];exact this
    have Y:=xa1 Y d9 (aA hkl);refine wo (h:=aJ (cS) wl ?_);refine wo (h:=bA (λj e H=>∃ q:Xa0,(e 2=.adr t.c/\e 3=.adr h.c/\e 4=.ptr 0 1 0 0/\e 5=.ptr 1 1 0 0/\e 8=dLI o/\e 9=.ptr 13 1 0 0/\e 10=.ptr 15 1 0 0/\e 12=dI k/\e 14=dLI a/\e 15=dI j)/\(H.get 0=some ⟨33,3,[[.nil,.nil,.nil]],false⟩)/\(0<H.next)/\(H.get 1=some ⟨55,2,[[.nil,.nil]],false⟩)/\(1<H.next)/\(H.get 15=some ⟨33,3,[[.own 16 N,.own W q.length,.own 17 N]],false⟩)/\(15<H.next)/\(H.get 6=some ⟨3,1,b.map cI,false⟩)/\(6<H.next)/\(H.get 11=some ⟨3,1,(vU q m q.length).map cI,false⟩)/\(11<H.next)/\(H.get 13=some ⟨55,2,[[.own 6 N,.own 11 m]],false⟩)/\(13<H.next)/\(H.get 16=some ⟨3,1,(o.map (gN h.o)).map cI,false⟩)/\(16<H.next)/\(H.get 17=some ⟨27,1,(o.map (vN h)).map cL,false⟩)/\(17<H.next)/\(H.get W=some ⟨124,3,(q.map (En h.o b)).map Edge.c,false⟩)/\(W<H.next)/\(j<=a.length)/\(q=p++a.take j)) (λj=>a.length - j) 0 ⟨p,wg,wn,wn,wn,wn,wn,wn,wn,wn,wn,wn,wn,wn,wn,wn,wn,wn,wn,wn,wi,(by simp)⟩ λI4 f9 j e H f6=>?_);obtain ⟨q,E4,e7,c5,e4,c2,a9,I,e0,b9,b5,P,b2,L,a6,C,a3,z,gW_4,nW_4,hj,X⟩:=f6;have g4:=xa1 (b8 (bL:W≠17)) (b8 (bL:W≠16)) (xb0 (b8 (bL:W≠15)) (b8 (bL:W≠13)) (b8 (bL:W≠11)) (b8 (bL:W≠6)) (b8 (bL:W≠1)) (b8 (bL:W≠0)) (b8 (bL:17≠16)) (b8 (bL:17≠15)) (b8 (bL:17≠13)) (b8 (bL:17≠11)) (b8 (bL:17≠6)) (xb0 (b8 (bL:17≠1)) (b8 (bL:17≠0)) (b8 (bL:16≠15)) (b8 (bL:16≠13)) (b8 (bL:16≠11)) (b8 (bL:16≠6)) (b8 (bL:16≠1)) (b8 (bL:16≠0)) (b8 (bL:15≠13)) (b8 (bL:15≠11)) (b8 (bL:15≠6)) (xb0 (b8 (bL:15≠1)) (b8 (bL:15≠0)) (b8 (bL:13≠11)) (b8 (bL:13≠6)) (b8 (bL:13≠1)) (b8 (bL:13≠0)) (b8 (bL:11≠6)) (b8 (bL:11≠1)) (b8 (bL:11≠0)) (b8 (bL:6≠1)) (b8 (bL:6≠0)) (b8 (bL:1≠0)))));have Y:=xa8 Y E4 e7 (bU c5) e4 (bU c2) a9 (bU I) e0 (xb0 (bU b9) b5 (bU P) b2 (bU L) a6 (bU C) a3 (bU z) gW_4 (bU nW_4) g4);refine dZ (λd8=>?_) λd8=>?_
    .have hjl:j<a.length:=bL;have f2:=Yg (g:=h.o) (l:=o.take k) (k:=o[k]) (x:=a[j]) (by rw [<- a2];exact aC hjl);have q1:a[j].toNat<h.o.j.length:=bL;have V:a[j]<(m:Int):=bL;obtain ⟨x,hx⟩:=cY (h.o.j[a[j].toNat]);have T:=(d6.2 _ (aC q1)).2;rw [<- hx,<- hN] at T;have q2:x.from_.toNat<b.length:=bL;have q3:x.L.toNat<b.length:=bL;have Z:=tO q m q.length;have g7:q.length<=80:=by rw [X];simp;omega
     have s1:((vU q m q.length).map cI).set a[j].toNat [D.int .i64 (q.length:Int)]=(vU (q++[a[j]]) m (q.length+1)).map cI:=by
      rw [Wu,c8];rfl
     have s2:(q.map (En h.o b)).map Edge.c++[[dI x.type,dI b[x.from_.toNat],dI b[x.L.toNat]]]=((q++[a[j]]).map (En h.o b)).map Edge.c:=by
      have e1:eA h.o a[j]=x:=by unfold eA;rw [aA q1,hx];rfl
      have:En h.o b a[j]=⟨x.type,b[x.from_.toNat],b[x.L.toNat]⟩:=by
       unfold En jS iA;rw [e1,aA q2,aA q3];rfl
      rw [List.map_append,List.map_append,List.map_singleton,this];simp [Edge.c]
     simp [go_sem] at s2;have Y:=xa2 Y d8 (aA hjl) (xb0 f2.1 V (aA q1) (Eq.symm hx) T.1 T.2 (aA q2) (aA q3) s1 s2 Z @Edge.c.eq_1);exact wo (h:=wx f9 (j+1) ⟨(q++[a[j]]),wg,wn,wn,wn,wn,wn,wn,wn,wn,wn,wn,wn,wn,wn,wn,wn,wn,wn,wn,wj,(by rw [aD hjl,<- List.append_assoc,<- X])⟩)
    .have hq2:q=(List.range (k+1)).flatMap (λk=>Ca h.o (o.take k) (iA o k)):=by
      rw [d0,X,aH bL]
     exact wo (h:=wx g0 (k+1) ⟨W,q,wg,wn,wn,wn,wn,wn,wn,wn,wn,wn,wn,wn,wn,wn,wn,wn,wn,wn,wn,wj,(by exact hq2),(by exact hW)⟩)
   .have hkN2:k=N:=bL;have d3:p=E:=by rw [hp,hkN2,<- d7]
    have f3:=tO E m m;have eH:vC h=⟨⟨o.map (gN h.o),E.map (En h.o b)⟩,o.map (vN h)⟩:=by unfold vC;rw [<- i,<- w,a0]
    have eM:SU h=⟨b,vU E m m⟩:=by unfold SU;rw [<- w,a0,<- hm]
    have Y:=wa Y d3;exact wv (h:=hQ _ _ (by rw [hH,hM,s,eH,eM];simp [go_sem,Y,dLI,f,f3,a1,n]))
theorem RJ (l:List Host)(h:Host)(r:∀ a∈l,∀ i (u:i<a.values.length) (b:i<h.values.length),GQ a.values[i] h.values[i]):Pua 36 [.list (l.map Host.c),h.d] (dI (AB l h)):=by
 refine Tz.p0 func36 rfl λQ p _=>?_;have Y:=@Host.d.eq_1;refine wv (h:=bA (λi e H=>(e 3=.adr h.c/\e 0=.list (l.map Host.c)/\e 5=dI i)/\(i<=l.length)/\(∀ j x,j<i->l[j]?=some x->decide (x=h)=false)) (λi=>l.length - i) 0 ⟨wg,wi,(by exact λj x k=>absurd k (De _))⟩ λv n i e H m=>?_);obtain ⟨s,t,g⟩:=m;have Y:=wa Y s;refine wv (h:=?_);repeat first|intro _|refine ⟨iV,?_⟩
 refine wq (λb=>?_) λb=>?_
 .have Y:=xa1 Y b (aA b);refine wo (h:=aJ (Gj l[i] h (r _ (aC b))) wl ?_);refine wv (h:=?_);repeat first|intro _|refine ⟨iV,?_⟩
  refine wq (λo=>?_) λo=>?_
  .have hE:AB l h=(i:Int):=by unfold AB;rw [nD g b (cG o)]
   exact wv (h:=p _ _ (by rw [hE];simp [go_sem]))
  .have hn2:∀ j x,j<i+1->l[j]?=some x->decide (x=h)=false:=λj x k f=>by
    by_cases q:j<i
    .exact g j x q f
    .rw [(bL:j=i),aA b] at f;cases f;simpa using o
   exact wo (h:=wx n (i+1) ⟨wg,wj,(by exact hn2)⟩)
 .have hE:AB l h = -1:=by unfold AB;rw [nE λj x k=>g j x bL]
  exact wv (h:=p _ _ (by rw [hE];simp [go_sem]))
def s5 (a b:Arr):Int:=if a.from_≠b.from_ then IntKind.i64.wrap (a.from_ - b.from_) else if a.V≠b.V then IntKind.i64.wrap (a.V - b.V) else IntKind.i64.wrap (a.L - b.L)
theorem lW (a b:Arr):Pua 39 [a.d,b.d] (dI (s5 a b)):=by
 refine Tz.pK ⟨λt=>t==2000000,λ_=>[]⟩ func39 rfl (λQ e=>?_);have Y:=wa @Arr.d.eq_1 @Arr.c.eq_1;refine dD (λg=>?_) λg=>?_
 .have hE:s5 a b=IntKind.i64.wrap (a.from_ - b.from_):=if_pos (cG g);exact wo (h:=e _ _ (eD hE))
 .have hq:¬ (a.from_≠b.from_):=by simpa using g
  refine dD (λf=>?_) λf=>?_
  .have hE:s5 a b=IntKind.i64.wrap (a.V - b.V):=by unfold s5;rw [if_neg hq,if_pos (cG f)]
   exact wo (h:=e _ _ (eD hE))
  .have hE:s5 a b=IntKind.i64.wrap (a.L - b.L):=by unfold s5;rw [if_neg hq,if_neg (cG f)]
   exact wo (h:=e _ _ (eD hE))
def Arr.aj (a:Arr):Prop:=(0<=a.from_/\a.from_<=1000000)/\(0<=a.V/\a.V<=1000000)/\-1<=a.L/\a.L<=1000000
theorem Ej {a b:Arr}(d:a.aj)(c:b.aj):(s5 a b<0↔cJ a.key b.key<0)/\(0<s5 a b↔0<cJ a.key b.key)/\(s5 a b=0↔cJ a.key b.key=0):=by
 obtain ⟨j,i,h⟩:=d;obtain ⟨g,f,e⟩:=c;unfold s5 Arr.key;simp only [cJ,IntKind.wrap_i64]
 repeat' split
 all_goals first|omega|(refine ⟨?_,?_,?_⟩<;>omega)
def KO (t:Types)(r:Rule)(h:Host)(m:Mat):Int:=if nT t r h m≠0 then nT t r h m else lR t (uZ t r h m)
def Ha (t:Types)(r:Rule)(h:Host)(m:Mat):Host:=if KO t r h m≠0 then ⟨⟨[],[]⟩,[]⟩ else vC (uZ t r h m)
theorem UK (t:Types)(i:t.ok)(rs:List Rule)(b:∀ r∈rs,r.ok)(h:Host)(k:Nat)(j:k<rs.length)(m:Mat):Pua 35 [t.d,.list (rs.map Rule.c),h.d,.agg (dI k :: m.c)] (.tup [(Ha t rs[k] h m).d,dI (KO t rs[k] h m)]):=by
 have e:=b _ (aC j);refine Tz.pK ⟨λt=>t==8||t==10||t==12||t==13,λr=>match r with|1=>[(0,13),(2,13),(3,13),(4,13),(5,13),(6,13),(7,13),(8,13),(9,13)]|_=>[]⟩ func35 rfl (λQ l=>?_);have Y:=xa6 @Host.d.eq_1 @Host.c.eq_1 @Mat.c.eq_1 @Mat.d.eq_1 @Stp26.c.eq_1 @Rule.c.eq_1 @Rule.d.eq_1 (aA j);refine wo (h:=aJ (Gg t i rs[k] e h m) wl ?_);refine dZ (λg=>?_) λg=>?_
 .have hne:nT t rs[k] h m≠0:=by simpa using g
  have a:KO t rs[k] h m=nT t rs[k] h m:=if_pos hne;have f:Ha t rs[k] h m=⟨⟨[],[]⟩,[]⟩:=if_pos (by rw [a];exact hne);exact wv (h:=l _ _ (by rw [a,f];simp [go_sem,Y,dLI]))
 .have a:KO t rs[k] h m=lR t (uZ t rs[k] h m):=if_neg (cG g);have f:Ha t rs[k] h m=pI t (uZ t rs[k] h m):=by unfold Ha pI;rw [a]
  refine wv (h:=aB (Ah t i (uZ t rs[k] h m)) wl ?_);exact wv (h:=l _ _ (by rw [a,f];simp [go_sem,Y,dLI]))
structure Mv where
 V:Int
 m:Mat
def Mv.c (x:Mv):Xa2:=[dI x.V,dLI x.m.m.i,dLI x.m.m.j,dLI x.m.vars]
@[go_sem] theorem Mv.U (x:Mv):D.N x.c=true:=by simp [Mv.c,D.N,pA,dI,D.U]
@[go_sem] theorem aiO (l:List Mv):D.T (l.map Mv.c)=true:=dL _ Mv.U l
def jB (t:Types)(h:Host):Nat->List Rule->List Mv × Int
 | _,[]=>([],0)
 | i,r :: l=>if (iS t r h).2≠0 then ([],(iS t r h).2) else if (jB t h (i+1) l).2≠0 then ([],(jB t h (i+1) l).2) else ((iS t r h).1.map (λm=>⟨i,m⟩)++(jB t h (i+1) l).1,0)
def QY (ys:List Mv)(z:List Mv × Int):List Mv × Int:=if z.2≠0 then ([],z.2) else (ys++z.1,0)
theorem Ir (t:Types)(P:t.ok)(rs:List Rule)(A:∀ r∈rs,r.ok)(V:rs.length<=100)(h:Host):Pua 34 [t.d,.list (rs.map Rule.c),h.d] (.tup [.list ((jB t h 0 rs).1.map Mv.c),dI (jB t h 0 rs).2]):=by
 have E:jB t h 0 rs=QY [] (jB t h 0 (rs.drop 0)):=by
  have y:∀ k l,jB t h k l=QY [] (jB t h k l):=λk l=>by
   unfold QY;split
   .rename_i a;cases l with
    | nil=>exact absurd rfl a
    | cons r l =>
     simp only [jB] at a ⊢;split
     .rfl
     .split
      .rfl
      .rename_i h1 h2;rw [if_neg h1,if_neg h2] at a;exact absurd rfl a
   .rename_i a;have a:(jB t h k l).2=0:=bL;rw [<- a];simp
  exact y 0 rs
 refine Tz.pK ⟨λt=>t==6||t==8,λ_=>[]⟩ func34 rfl (λQ N=>?_);have Y:=xa1 @Host.d.eq_1 @Mat.c.eq_1 @Mv.c.eq_1;refine wv (h:=bA (λi e H=>∃ c:Nat,∃ f:List Mv,(e 3=.adr t.c/\e 5=.adr h.c/\e 1=.list (rs.map Rule.c)/\e 8=.own c f.length/\e 9=dI i)/\(H.get c=some ⟨94,4,f.map Mv.c,false⟩)/\(c<H.next)/\(i<=rs.length)/\(0<c)/\(f.length<=10000 * i)/\(jB t h 0 rs=QY f (jB t h i (rs.drop i)))) (λi=>rs.length - i) 0 ⟨1,([]),wg,wn,wn,wi,bL,(by simp),(by exact E)⟩ λI0 J i e H C=>?_);obtain ⟨c,f,U,v,p,X,R,O,F⟩:=C;have Y:=xa4 Y @Mat.c.eq_1 @Mv.c.eq_1 U v (bU p);refine dZ (λs=>?_) λs=>?_
 .obtain ⟨L,G⟩:∃ x,x=(iS t rs[i] h).1:=⟨_,rfl⟩;have S:L.length<=5000:=by rw [G];exact Od t rs[i] h
  have n:jB t h i (rs.drop i)=if (iS t rs[i] h).2≠0 then ([],(iS t rs[i] h).2) else if (jB t h (i+1) (rs.drop (i+1))).2≠0 then ([],(jB t h (i+1) (rs.drop (i+1))).2) else (L.map (λm=>⟨i,m⟩)++(jB t h (i+1) (rs.drop (i+1))).1,0):=by
   rw [List.drop_eq_getElem_cons s,G];rfl
  have Y:=xa2 Y s (aA s) (Eq.symm G);refine wo (h:=aJ (Fd t P rs[i] (A _ (aC s)) h) wl ?_);refine dZ (λM=>?_) λM=>?_
  .have hne:(iS t rs[i] h).2≠0:=by simpa using M
   have K:jB t h 0 rs=([],(iS t rs[i] h).2):=by rw [F,n,if_pos hne];unfold QY;rw [if_pos hne]
   exact wv (h:=N _ _ (by rw [K];simp [go_sem,Y]))
  .rw [if_neg (cG M)] at n;refine wv (h:=bA (λj e H=>∃ b:List Mv,(e 3=.adr t.c/\e 5=.adr h.c/\e 1=.list (rs.map Rule.c)/\e 8=.own c b.length/\e 9=dI i/\e 10=.list (L.map Mat.c)/\e 12=dI j)/\(H.get c=some ⟨94,4,b.map Mv.c,false⟩)/\(c<H.next)/\(j<=L.length)/\(b=f++(L.take j).map (λm=>⟨i,m⟩))) (λj=>L.length - j) 0 ⟨f,wg,wn,wn,wi,(by simp)⟩ λZ I j e H B=>?_);obtain ⟨b,T,u,o,W,g⟩:=B;have Y:=xa2 Y T u (bU o);refine dZ (λw=>?_) λw=>?_
   .have z:b.length<=1000000:=by rw [g];simp;omega
    have Y:=xa1 Y w (aA w);exact wo (h:=wx I (j+1) ⟨(b++[⟨i,L[j]⟩]),wg,wn,wn,wj,(by rw [aD w,List.map_append,<- List.append_assoc,<- g];rfl)⟩)
   .have hzE:b=f++L.map (λm=>⟨i,m⟩):=by rw [g,aH bL]
    have z:b.length<=10000 * (i+1):=by rw [hzE];simp;omega
    have D:jB t h 0 rs=QY b (jB t h (i+1) (rs.drop (i+1))):=by
     rw [F,n];unfold QY;by_cases a:(jB t h (i+1) (rs.drop (i+1))).2=0
     .rw [if_neg (show ¬ (jB t h (i+1) (rs.drop (i+1))).2≠0 from λq=>q a),if_neg (show ¬ (jB t h (i+1) (rs.drop (i+1))).2≠0 from λq=>q a),if_neg bS,hzE];simp
     .rw [if_pos a,if_pos a,if_pos a]
    exact wo (h:=wx J (i+1) ⟨c,b,wg,wn,wn,wj,(by exact R),(by omega),(by exact D)⟩)
 .have K:jB t h 0 rs=(f,0):=by rw [F,cR bL];simp [jB,QY]
  exact wv (h:=N _ _ (by rw [K];simp [go_sem,Y]))
def Ka (l:List Arr)(x:Arr)(k:Nat):Arr:=l[k]?.getD x
def FP (l:List Arr)(x:Arr):Nat->Nat
 | 0=>0
 | k+1=>if 0<s5 (Ka l x k) x then FP l x k else k+1
def rQ (l:List Arr)(x:Arr):List Arr :=
 if 0<FP l x l.length/\s5 (Ka l x (FP l x l.length - 1)) x=0 then l else l.take (FP l x l.length)++x :: l.drop (FP l x l.length)
theorem UJ (l:List Arr)(x:Arr)(O:l.length<=1000000000):Pua 37 [.list (l.map Arr.c),x.d] (.list ((rQ l x).map Arr.c)):=by
 have n:∀ (a:Arr) (d:D),d∈a.c->d=dI a.V\/d=dI a.from_\/d=dI a.L\/d=dLI a.m.m.i\/d=dLI a.m.m.j\/d=dLI a.m.vars:=λa d o=>by simpa [Arr.c] using o
 have i:(l.map Arr.c).take l.length=l.map Arr.c:=aH bS;have j:((Option.map Arr.c l.head?).getD [D.int .i64 0,D.int .i64 0,D.int .i64 0,D.nil,D.nil,D.nil]).length=6:=by cases l<;>simp [Arr.c]
 refine Tz.pK ⟨λt=>t==35,λr=>match r with|6=>[(0,3),(0,5),(4,5),(0,6),(3,6),(4,6),(0,10),(4,10),(6,10),(7,10)]|_=>[]⟩ func37 rfl (λQ z=>?_);have Y:=wa @Arr.d.eq_1 @Arr.c.eq_1;refine wo (h:=bA (λc e H=>∃ k:Nat,(e 0=.list (l.map Arr.c)/\e 3=.adr x.c/\e 5=dI k)/\(k=c)/\(k<=l.length)/\(FP l x k=FP l x l.length)) (λc=>c) l.length ⟨l.length,wg,(by rfl),wi,(by rfl)⟩ λR J c e H G=>?_);obtain ⟨k,K,N,P,I⟩:=G;have E:¬ k=0->k - 1<l.length:=λh=>by omega
 have F:¬ k=0->((k:Int) - 1).toNat=k - 1:=λh=>by omega
 obtain ⟨y,u⟩:=cY (Ka l x (k - 1));have C:¬ k=0->l[k - 1]?=some y:=λh=>by rw [u];unfold Ka;rw [aA (E h)];rfl
 have B:k=0->0<l.length->l[0]?=some y:=λh p=>by rw [u,h];unfold Ka;rw [show 0 - 1=0 from rfl,aA p];rfl
 have w:¬ k=0->FP l x k=if 0<s5 y x then FP l x (k - 1) else k:=λh=>by
  rw [u];obtain ⟨L,rfl⟩:∃ L,k=L+1:=⟨k - 1,bL⟩;rfl
 have v:k=0->rQ l x=x :: l:=λq=>by
  have A:FP l x l.length=0:=by rw [<- I,q];rfl
  unfold rQ;rw [A,if_neg bL];rfl
 by_cases g:k=0
 .by_cases hz2:0<l.length
  .have Y:=xa3 Y @Arr.c.eq_1 K g (B g hz2);refine wo (h:=?_);first|(refine b9 (λb=>lW y x) (λb=>by simp [go_sem]) ?_)|(refine b9 (r:=dI 0) (λb=>absurd b bS) (λb=>absurd b bS) ?_)
   refine wo (h:=?_);first|(refine b9 (λb=>lW y x) (λb=>by simp [go_sem]) ?_)|(refine b9 (r:=dI 0) (λb=>absurd b bS) (λb=>absurd b bS) ?_)
   refine wo (h:=?_);and_intros<;>first|omega|exact j|(intro c f;(first|obtain ⟨a,_,rfl⟩:=aS.1 (bJ f)|obtain ⟨a,_,rfl⟩:=aS.1 (bJ (cQ f))|obtain ⟨a,_,rfl⟩:=aS.1 (cQ f)|obtain ⟨a,_,rfl⟩:=aS.1 f);(first|rfl|(intro d o;rcases n a d o with rfl|rfl|rfl|rfl|rfl|rfl<;>rfl)))|(refine z _ _ (.inl ?_);rw [v g];simp [go_sem,Y,i,dLI];try omega)
  .have Y:=xa3 Y @Arr.c.eq_1 K g ((bC (Nat.not_lt.1 hz2)));refine wo (h:=?_);first|(refine b9 (λb=>lW y x) (λb=>by simp [go_sem]) ?_)|(refine b9 (r:=dI 0) (λb=>absurd b bS) (λb=>absurd b bS) ?_)
   refine wo (h:=?_);first|(refine b9 (λb=>lW y x) (λb=>by simp [go_sem]) ?_)|(refine b9 (r:=dI 0) (λb=>absurd b bS) (λb=>absurd b bS) ?_)
   refine wo (h:=?_);and_intros<;>first|omega|exact j|(intro c f;(first|obtain ⟨a,_,rfl⟩:=aS.1 (bJ f)|obtain ⟨a,_,rfl⟩:=aS.1 (bJ (cQ f))|obtain ⟨a,_,rfl⟩:=aS.1 (cQ f)|obtain ⟨a,_,rfl⟩:=aS.1 f);(first|rfl|(intro d o;rcases n a d o with rfl|rfl|rfl|rfl|rfl|rfl<;>rfl)))|(refine z _ _ (.inl ?_);rw [v g];simp [go_sem,Y,i,dLI];try omega)
 .have Y:=xa4 Y @Arr.c.eq_1 K g (F g) (C g);refine wo (h:=?_);first|(refine b9 (λb=>lW y x) (λb=>by simp [go_sem]) ?_)|(refine b9 (r:=dI 0) (λb=>absurd b bS) (λb=>absurd b bS) ?_)
  refine dZ (λp=>?_) λp=>?_
  .have ha2:FP l x (k - 1)=FP l x l.length:=by rw [<- I,w g,if_pos (by first|exact p.2|exact p)]
   have Y:=wa Y p;exact wo (h:=wx J (c - 1) ⟨(k - 1),wg,(by omega),wj,(by exact ha2)⟩)
  .have A:FP l x l.length=k:=by
    rw [<- I];by_cases q:k=0
    .rw [q];rfl
    .rw [w q,if_neg (by first|exact absurd g q|(have:=p bL;omega)|omega)]
   refine wo (h:=?_);first|(refine b9 (λb=>lW y x) (λb=>by simp [go_sem]) ?_)|(refine b9 (r:=dI 0) (λb=>absurd b bS) (λb=>absurd b bS) ?_)
   refine dZ (λs=>?_) λs=>?_
   .have hP:rQ l x=l:=by
     unfold rQ;rw [A,if_pos (by rw [<- u];first|exact s|(simpa using s))]
    exact wv (h:=z _ _ (by rw [hP];simp [go_sem,Y]))
   .have hP:rQ l x=l.take k++x :: l.drop k:=by
     unfold rQ;rw [A,if_neg (by rw [<- u];first|exact s|(intro M;exact s M.1 M.2)|(simpa using s))]
    refine wo (h:=?_);and_intros<;>first|omega|exact j|(intro c f;(first|obtain ⟨a,_,rfl⟩:=aS.1 (bJ f)|obtain ⟨a,_,rfl⟩:=aS.1 (bJ (cQ f))|obtain ⟨a,_,rfl⟩:=aS.1 (cQ f)|obtain ⟨a,_,rfl⟩:=aS.1 f);(first|rfl|(intro d o;rcases n a d o with rfl|rfl|rfl|rfl|rfl|rfl<;>rfl)))|(refine z _ _ (.inl ?_);rw [hP];simp [go_sem,Y,i,dLI];try omega)
end Go.Abs
end
