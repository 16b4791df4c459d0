/- The step of the program: fill (a loop over a map). · The ste -/
import Derived.Test.YtjfaalokjnmdoaaGreatZaA
import Derived.Test.YtjfaalokjnmdoaaGreatZaU
import Derived.Test.YtjfaalokjnmdoaaGreatZaF
import Derived.Test.YtjfaalokjnmdoaaGreatZaT
import Derived.Test.YtjfaalokjnmdoaaGreatZaR
import Derived.Test.YtjfaalokjnmdoaaGreatZaQ
import Derived.Test.YtjfaalokjnmdoaaGreatRows
import Derived.OpenShut
set_option linter.unusedVariables false
set_option linter.unusedSimpArgs false
section
set_option maxRecDepth 100000
set_option maxHeartbeats 4000000
open Go Go.Proofs
namespace Go.Abs
theorem N7 {c:Part}{vs:List Int}{l:List Slot}(h:tR c vs l=false):RO c vs l:=by
 rw [sX] at h
 have key:∀ (p q:Nat) (hpq:p<q) (hq:q<l.length),j8 c l[p]=j8 c l[q]→l[p].attr=l[q].attr→cC l[p].term vs=cC l[q].term vs:=fun p q hpq hq e1 e2=>by
  refine bD fun hn=>?_
  have:((List.range l.length).any fun i=>(List.range i).any fun k=>rT c vs l i k)=true:=by
   rw [aU]
   refine ⟨q,by simpa using hq,?_⟩
   rw [aU]
   refine ⟨p,by simpa using hpq,?_⟩
   unfold rT A3
   simp only [aA (show p<l.length by omega),aA hq,mE,e1,e2]
   simp [hn]
  rw [h] at this;cases this
 intro s hs s' hs' e1 e2
 obtain ⟨p,hp,rfl⟩:=aN hs
 obtain ⟨q,hq,rfl⟩:=aN hs'
 rcases Nat.lt_trichotomy p q with h1|h1|h1
 ·exact key p q h1 hq e1 e2
 ·subst h1;rfl
 ·exact (key q p h1 hp e1.symm e2.symm).symm
theorem Mh (t : Types) (ht : t.ok) (r : Rule) (hR : RuleV t r) (m : Mat) (h x0 : Host) (tr co : Part) (hP : PutOk t r x0 co) (hvl : m.vars.length = r.left.vars.toNat) (hvs : Sm m.vars) (G : AHeap) (s a b0 V : Nat) (qs : List Nat)
    (hs : G.get s = some ⟨67, 38, [d9 r m h (.own a x0.graph.nodes.length) (.own b0 x0.graph.edges.length) (.own V x0.values.length) tr co], false⟩) (hh0 : HH G 0 a b0 V qs x0) (hsq : ∀ j ∈ a :: b0 :: V :: qs, j ≠ s) (hsn : s < G.next) (Q : D → AHeap → Prop)
    (hQe : ∀ H', sB t x0.graph co m.vars r.right.slots ≠ 0 → (∀ j, j < G.next → j ∉ a :: b0 :: V :: qs → H'.get j = G.get j) → G.next ≤ H'.next → Q (dI (sB t x0.graph co m.vars r.right.slots)) H')
    (hQ : ∀ H', sB t x0.graph co m.vars r.right.slots = 0 → HH H' 0 a b0 V qs ⟨x0.graph, rO co m.vars r.right.slots x0.values⟩ → (∀ j, j < G.next → j ∉ a :: b0 :: V :: qs → H'.get j = G.get j) → G.next ≤ H'.next → Q (dI 0) H') :
    ACalls Tryz.prog 143 [t.d, .ptr s 1 0 0] G Q := by
  obtain ⟨l, hl⟩ : ∃ l, l = r.right.slots := ⟨_, rfl⟩
  have hA := Ey t r hR m h x0 tr co hP hvl hvs a b0 V x0.graph.nodes.length x0.graph.edges.length x0.values.length G
  have hsl := hR.slots
  have hspot := hP.spot
  have hattr := hP.attr
  have hPf := hP.few
  rw [← hl] at hsl hspot hattr hQe hQ hA
  refine Fh (P := Tryz.prog) (K := 315) (E := 3) (Q := fun d H' _ => Q d H') ?_ (fun _ _ _ h => h)
  refine vQ Tryz.func143 rfl rfl (by exact aE rfl) ?_
  refine cR fun K1 k1 => ?_
  refine fC (c := ⟨fun t => t == 7, fun _ => []⟩) Tz.mixed (by kernel_rfl) ?_
  simp [go_sem, seval]
  refine k1 _ _ _ ?_
  clear k1 K1
  refine cR fun K1 k1 => ?_
  refine WpG.region ?_
  refine OpsG.take (md := fun t => t == 7) 3 rfl fun R kR => ?_
  simp [go_sem, seval, hs, d9]
  repeat first | intro _ | refine ⟨eM, ?_⟩
  refine kR _ _ ?_
  clear kR R
  refine OpsG.call (f := 236) (args := [.agg (d9 r m h (.own a x0.graph.nodes.length) (.own b0 x0.graph.edges.length) (.own V x0.values.length) tr co)]) (by simp [go_sem, fL, d9]) rfl rfl hA fun d H1 g1 hq => ?_
  obtain ⟨hG1, hn1, hcase⟩ := hq
  rcases hcase with ⟨hcl, q, rfl⟩ | ⟨hcl, b, k, rfl, rfl⟩
  · refine OpsG.all (md := fun t => t == 7) rfl fun R kR => ?_
    simp [go_sem, seval]
    repeat first | intro _ | refine ⟨eM, ?_⟩
    refine kR _ _ (k1 _ _ _ ?_)
    clear kR R k1 K1
    refine cR fun K2 k2 => ?_
    refine cR fun K4 k4 => ?_
    refine fC (c := ⟨fun t => t == 7, fun _ => []⟩) Tz.mixed (by kernel_rfl) ?_
    simp [go_sem, seval]
    refine k4 _ _ _ ?_
    clear k4 K4
    refine WpG.cond (t := true) (by simp [go_sem]) (fun _ => ?_) (fun hc => by cases hc)
    refine cR fun K5 k5 => ?_
    refine fC (c := ⟨fun t => t == 7, fun _ => []⟩) Tz.mixed (by kernel_rfl) ?_
    simp [go_sem, seval]
    refine k5 _ _ _ ?_
    clear k5 K5
    refine WpG.ret ?_
    simp [go_sem, Mp]
    have hE : sB t x0.graph co m.vars l = 11 := by unfold sB; rw [if_pos hcl]
    rw [hE] at hQe
    exact hQe _ (by decide) (fun j hj _ => hG1 j hj) hn1
  · refine OpsG.all (md := fun t => t == 7) rfl fun R kR => ?_
    simp [go_sem, seval]
    repeat first | intro _ | refine ⟨eM, ?_⟩
    refine kR _ _ (k1 _ _ _ ?_)
    clear kR R k1 K1
    refine cR fun K2 k2 => ?_
    refine cR fun K4 k4 => ?_
    refine fC (c := ⟨fun t => t == 7, fun _ => []⟩) Tz.mixed (by kernel_rfl) ?_
    simp [go_sem, seval]
    refine k4 _ _ _ ?_
    clear k4 K4
    refine WpG.cond (t := false) (by simp [go_sem]) (fun hc => by cases hc) (fun _ => WpG.skip ?_)
    simp only [go_sem]
    refine k2 _ _ _ ?_
    clear k2 K2
    have hE0 : sB t x0.graph co m.vars l = if l.any (vH t x0.graph co m.vars) = true then 6 else 0 := by unfold sB; rw [if_neg (by rw [hcl]; simp)]
    refine cR fun K3 k3 => ?_
    refine cR fun K4 k4 => ?_
    refine WpG.region ?_
    refine OpsG.take (md := fun t => t == 7) 1 rfl fun R kR => ?_
    simp [go_sem, seval]
    refine kR _ _ ?_
    clear kR R
    refine OpsG.range (T := 311) NR rfl rfl rfl rfl (by simp [go_sem]) fun rr rS => ?_
    refine OpsG.nil (k4 _ _ _ ?_)
    clear k4 K4
    have hRng : ∀ x ∈ l, Aw (j8 co x) ∧ Aw x.attr := fun x hx => by
      obtain ⟨s1, s2, s3⟩ := hspot x hx
      obtain ⟨t1, t2⟩ := hattr x hx
      have := p8 hR.vf (x0.graph.nodes[eI co x]?.getD 0)
      have h0 := (hsl x hx).2.1.1
      rw [mE] at s2
      exact ⟨⟨by unfold j8; omega, by unfold j8 at *; omega⟩, by omega, by omega⟩
    refine WpG.block ?_
    obtain ⟨F, hF⟩ : ∃ F, F = FA co m.vars l := ⟨_, rfl⟩
    rw [← hF]
    obtain ⟨I, hI⟩ : ∃ I : Nat → MS → cZ → AHeap → Prop, ∀ i g e H, I i g e H ↔ (∃ left cur, g = .rg b rr F left i cur ∧ e 1 = .ptr s 1 0 0 ∧ e 2 = .adr t.c ∧ e 22 = .cst (BE rr) ∧
      HH H 0 a b0 V qs ⟨x0.graph, vE F (fun u v => (F u v).isSome && !left u v) x0.values⟩ ∧ (∀ x ∈ l, left (j8 co x) x.attr = false → vH t x0.graph co m.vars x = false) ∧ (∀ j, j < G.next → j ∉ a :: b0 :: V :: qs → H.get j = G.get j) ∧ G.next ≤ H.next) := ⟨_, fun _ _ _ _ => Iff.rfl⟩
    refine WpG.loop I (fun i => i) rS ((hI _ _ _ _).2 ⟨_, _, rfl, by simp [go_sem], by simp [go_sem], by simp [go_sem], ?_, ?_, fun j hj _ => hG1 j hj, hn1⟩) fun i g e H hi0 => ?_
    · rw [MF]
      · exact hh0.same hn1 (fun j hj => hG1 j (hh0.rng j hj).2)
      · intro n v _ _; cases F n v <;> rfl
    · intro x hx hf
      have := OC (c := co) (vs := m.vars) (l := l) (s := x) (N7 hcl) hx
      rw [← hF] at this
      rw [this] at hf; cases hf
    obtain ⟨left, cur, rfl, q1, q2, q22, hh, hO, hG, hnx⟩ := (hI _ _ _ _).1 hi0
    refine cR fun K1 k1 => ?_
    refine WpG.region ?_
    refine OpsG.next NR rfl rfl rfl (by simp [go_sem, q22]) (fun hd => ?_) (fun u v c i' hu hv hlf hFc hlt => ?_)
    · refine OpsG.all (md := fun t => t == 7) rfl fun R kR => ?_
      simp [go_sem, seval]
      refine kR _ _ (k1 _ _ _ ?_)
      clear kR R k1 K1
      refine cR fun K1 k1 => ?_
      refine WpG.cond (t := false) (by simp [go_sem]) (fun hc => by cases hc) (fun _ => WpG.exit ?_)
      simp [go_sem]
      refine k3 _ _ _ ?_
      refine cR fun K5 k5 => ?_
      refine fC (c := ⟨fun t => t == 7, fun _ => []⟩) Tz.mixed (by kernel_rfl) ?_
      simp [go_sem, seval]
      refine k5 _ _ _ ?_
      clear k5 K5
      refine WpG.ret ?_
      simp [go_sem, Mp]
      have hany : l.any (vH t x0.graph co m.vars) = false := by
        rw [bH]
        intro hT
        obtain ⟨x, hx, hT⟩ := aU.1 hT
        rw [hO x hx (hd _ _ (hRng x hx).1 (hRng x hx).2)] at hT; cases hT
      rw [if_neg (by rw [hany]; simp)] at hE0
      have hV := ME (c := co) (vs := m.vars) (vals := x0.values) (l := l) (fun x hx => ⟨(hspot x hx).1, (hspot x hx).2.1, (hsl x hx).2.1.1, (hattr x hx).1⟩) (dn := fun u v => (F u v).isSome && !left u v) (fun n v _ _ => by
        rw [← hF]
        cases hFn : F n v with
        | none => rfl
        | some y =>
          obtain ⟨x, hx, e1, e2, _⟩ := CF (c := co) (vs := m.vars) (l := l) (by rw [← hF]; exact hFn)
          have := hd _ _ (hRng x hx).1 (hRng x hx).2
          rw [e1, e2] at this
          simp [this])
      rw [← hF] at hV
      rw [hV] at hh
      exact hQ _ hE0 hh hG hnx
    · refine OpsG.all (md := fun t => t == 7) rfl fun R kR => ?_
      simp [go_sem, seval]
      refine kR _ _ (k1 _ _ _ ?_)
      clear kR R k1 K1
      refine cR fun K1 k1 => ?_
      refine WpG.cond (t := true) (by simp [go_sem]) (fun _ => WpG.skip ?_) (fun hc => by cases hc)
      simp only [go_sem]
      refine k1 _ _ _ ?_
      clear k1 K1
      refine WpG.block ?_
      refine cR fun K1 k1 => ?_
      refine WpG.region ?_
      refine OpsG.entry rfl rfl rfl (by simp [go_sem, q22]) ?_
      refine OpsG.all (md := fun t => t == 7) rfl fun R kR => ?_
      simp [go_sem, seval]
      repeat first | intro _ | refine ⟨eM, ?_⟩
      refine kR _ _ (k1 _ _ _ ?_)
      clear kR R k1 K1
      obtain ⟨x, hxm, e1, e2, e3⟩ := CF (c := co) (vs := m.vars) (l := l) (by rw [← hF]; exact hFc)
      obtain ⟨s1, s2, s3⟩ := hspot x hxm
      obtain ⟨t1, t2⟩ := hattr x hxm
      have a0 := (hsl x hxm).2.1.1
      obtain ⟨n, hn⟩ : ∃ n, n = eI co x := ⟨_, rfl⟩
      rw [← hn] at s2 s3 t1 t2
      have hun : u = (n : Int) := by rw [← e1, hn, mE]; unfold j8 at *; omega
      subst hun
      obtain ⟨w, hw⟩ : ∃ w : Nat, v = (w : Int) := ⟨v.toNat, by omega⟩
      subst hw
      have hsg : H.get s = some ⟨67, 38, [d9 r m h (.own a x0.graph.nodes.length) (.own b0 x0.graph.edges.length) (.own V x0.values.length) tr co], false⟩ := by rw [hG s hsn (fun hm => hsq s hm rfl)]; exact hs
      have hga := hh.ga
      have hgV := hh.gV
      have hqa := hh.rng a hh.a_in
      have hqV := hh.rng V hh.V_in
      obtain ⟨nd, hnd⟩ : ∃ y, y = x0.graph.nodes[n] := ⟨_, rfl⟩
      have hnd0 : x0.graph.nodes[n]?.getD 0 = nd := by rw [hnd, aA s3]; rfl
      rw [hnd0] at t2
      have haA : w < (bK t nd).length := by omega
      have fr1 := And.intro (bY (show s < H.next by omega)) (And.intro (bY (show a < H.next by omega)) (bY (show V < H.next by omega)))
      have hal := nO ht nd
      refine cR fun K1 k1 => ?_
      refine fC (c := ⟨fun t => t == 7, fun _ => []⟩) Tz.mixed (by kernel_rfl) ?_
      simp [go_sem, seval, q1, q2, hsg, hga, d9, fr1, aA s3, ← hnd]
      repeat first | intro _ | refine ⟨eM, ?_⟩
      refine aI (n4 t ht nd) (by first | rfl | (simp [go_sem]; done)) ?_
      simp [go_sem, seval]
      repeat first | intro _ | refine ⟨eM, ?_⟩
      refine k1 _ _ _ ?_
      clear k1 K1
      refine cR fun K2 k2 => ?_
      refine cR fun K4 k4 => ?_
      refine fC (c := ⟨fun t => t == 7, fun _ => []⟩) Tz.mixed (by kernel_rfl) ?_
      simp [go_sem, seval, fr1, aA haA, Attr.c]
      repeat first | intro _ | refine ⟨eM, ?_⟩
      refine k4 _ _ _ ?_
      clear k4 K4
      have hh' := hh
      obtain ⟨dn, hdn⟩ : ∃ dn : Int → Int → Bool, dn = fun u v => (F u v).isSome && !left u v := ⟨_, rfl⟩
      rw [← hdn] at hh'
      have hvl0 : (vE F dn x0.values).length = x0.values.length := pR ..
      have hnV : n < (vE F dn x0.values).length := by omega
      have hnQ : n < qs.length := by rw [hh'.len]; exact hnV
      obtain ⟨q, hq⟩ : ∃ q, q = qs[n] := ⟨_, rfl⟩
      obtain ⟨vr, hvr⟩ : ∃ v, v = (vE F dn x0.values)[n] := ⟨_, rfl⟩
      have g1 : qs[n]? = some q := by rw [aA hnQ, hq]
      have g2 : (vE F dn x0.values)[n]? = some vr := by rw [aA hnV, hvr]
      have hrow := pC g1 g2
      have hgq := hh'.gq _ _ _ g1 g2
      have hvrl : vr.length = (x0.values[n]?.getD []).length := by rw [← oA F dn x0.values n, g2]; rfl
      have hwv : w < vr.length := by omega
      have hqin : q ∈ qs := aH g1
      have hqr := hh'.rng q (hh'.q_in hqin)
      have hrl := g8 hh'.len
      rw [← hdn] at hgV
      have fr2 := bY (show q < H.next by omega)
      have hOB : vH t x0.graph co m.vars x = (decide (c < (bK t nd)[w].low) || decide ((bK t nd)[w].high < c)) := by
        unfold vH; rw [← hn, hnd0, show x.attr.toNat = w by omega, aA haA, e3]; rfl
      refine WpG.cond (t := decide (c < (bK t nd)[w].low) || decide ((bK t nd)[w].high < c)) (by simp [go_sem]) (fun hcT => ?_) (fun hcF => WpG.skip ?_)
      · refine cR fun K5 k5 => ?_
        refine fC (c := ⟨fun t => t == 7, fun _ => []⟩) Tz.mixed (by kernel_rfl) ?_
        simp [go_sem, seval]
        refine k5 _ _ _ ?_
        clear k5 K5
        refine WpG.ret ?_
        simp [go_sem, Mp]
        have hT : l.any (vH t x0.graph co m.vars) = true := aU.2 ⟨_, hxm, by rw [hOB]; exact hcT⟩
        rw [if_pos hT] at hE0
        rw [hE0] at hQe
        refine hQe _ (by decide) (fun j hj hjn => ?_) (by first | (simp [go_sem]; done) | (simp [go_sem]; omega))
        simp [go_sem, show j ≠ H.next by omega]; exact hG j hj hjn
      · simp only [go_sem]
        refine k2 _ _ _ ?_
        clear k2 K2
        refine fC (c := ⟨fun t => t == 7, fun _ => []⟩) Tz.mixed (by kernel_rfl) ?_
        have hnX : n < x0.values.length := by omega
        have hqd := hh'.qn hqin
        simp [go_sem, seval, q1, hsg, hgV, d9, fr1, fr2, hrow, hgq, hrl, hvl0]
        refine ⟨hnX, hwv, ?_⟩
        simp [go_sem, aA hwv, cI]
        repeat first | intro _ | refine ⟨eM, ?_⟩
        refine ⟨i', hlt, (hI _ _ _ _).2 ⟨_, _, rfl, by simp [go_sem, q1], by simp [go_sem, q2], by simp [go_sem, q22], ?_, ?_, ?_, by first | (simp [go_sem]; done) | (simp [go_sem]; omega)⟩⟩
        · have hst := MD F x0.values (dn := dn) (dn' := fun u v => (F u v).isSome && !(left u v && (!decide (u = (n : Int)) || !decide (v = (w : Int))))) hnX (by rw [← hvrl]; exact hwv) hFc (fun n2 b2 _ _ => by
            rw [hdn]
            by_cases e1 : n2 = n
            · by_cases e2 : b2 = w
              · subst e1; subst e2; simp [hFc]
              · have e3' : ¬ ((b2 : Int) = w) := by omega
                subst e1; simp [e2, e3']
            · have e3' : ¬ ((n2 : Int) = n) := by omega
              simp [e1, e3'])
          rw [g2] at hst
          rw [← hst]
          exact hh'.rowSet (by first | (simp [go_sem]; done) | (simp [go_sem]; omega)) g1 g2 (by simp) (by simp [go_sem, hgq, cG, cI]) (fun j hj hjq => by
            have hj2 := (hh'.rng j hj).2
            simp [go_sem, hjq, show j ≠ H.next by omega])
        · intro y hy hyf
          cases hL : left (j8 co y) y.attr with
          | false => exact hO y hy hL
          | true =>
            have hyy : j8 co y = (n : Int) ∧ y.attr = (w : Int) := by rw [hL] at hyf; simpa using hyf
            have hsy : eI co y = n := by rw [mE, hyy.1]; rfl
            have hty : cC y.term m.vars = c := by rw [← e3]; exact N7 hcl y hy x hxm (by rw [hyy.1, e1]) (by rw [hyy.2, e2])
            unfold vH
            rw [hsy, hnd0, show y.attr.toNat = w by omega, aA haA, hty]; exact hcF
        · intro j hj hjn
          simp [go_sem, show j ≠ H.next by omega, show j ≠ q from fun e => hjn (e ▸ hh'.q_in hqin)]; exact hG j hj hjn
theorem Pu {d:List Int}(hd:d.Pairwise (· < ·)){n:Nat}{x:Int}(h0:0≤x)(hx:x<n)(hm:x∈d):∃ p:Nat,p<d.length∧(jF d n)[x.toNat]?=some (p:Int):=by
 obtain ⟨p,hp,rfl⟩:=aN hm
 refine ⟨p,hp,?_⟩
 rw [wU _ (by omega),show ((d[p].toNat:Nat):Int)=d[p] by omega,vZ (Ba hd) hp]
theorem Oq {im d:List Int}{n:Nat}(hd:d.Pairwise (· < ·)){k:Int}(h0:0≤k)(hk:k<im.length)(hx:0≤iA im k∧iA im k<n)(hm:iA im k∈d):∃ p:Nat,p<d.length∧(mX im (pN d n))[k.toNat]?.getD 0=p:=by
 obtain ⟨p,hp,he⟩:=Pu hd hx.1 hx.2 hm
 have hkn:k.toNat<im.length:=by omega
 have e:iA im k=im[k.toNat]:=by unfold iA;rw [aA hkn];rfl
 refine ⟨p,hp,?_⟩
 unfold mX pN
 rw [aQ,aA hkn,eD,aD,← e,he];rfl
theorem Gf {keep into at_:List Int}{rem:Nat}(hin:into.Nodup)(hl:keep.length=into.length)(hk:∀ k∈keep,∃ p:Nat,p<rem∧at_[k.toNat]?.getD 0=p)(i:Nat) :
  Gg keep into at_ rem i=((rem+(b5 into i).length:Nat):Int)↔mem into i=false:=by
 have hb:=Gn hin (i:Int)
 have hle:=Ak into i into.length
 unfold Gg
 cases hm:mem into i with
 | true =>
  rw [hm] at hb
  have h0:¬ f6 into into.length i<0:=by simpa using hb
  have hlt:(f6 into into.length i).toNat<keep.length:=by omega
  obtain ⟨p,hp,hq⟩:=hk _ (aC hlt)
  rw [if_pos (by omega),aA hlt,aD,hq]
  constructor
  ·intro e;omega
  ·intro e;cases e
 | false =>
  rw [hm] at hb
  have h0:f6 into into.length i<0:=by simpa using hb
  rw [if_neg (by omega),LM hin];simp
theorem L2 {keep into at_:List Int}{right rem i:Nat}(h:i<right):(Cl keep into at_ right rem)[i]?.getD 0=Gg keep into at_ rem i:=by
 unfold Cl;simp [h]
section
variable {t:Types} {r:Rule} {h:Host} {m:Mat}
theorem StepIn.keptE (S:StepIn t r h m){k:Int}(hk:k∈r.keep.edges):iA m.m.edges k∈(b4 r h m).edges:=by
 have hK:=S.hR.keep
 have hl:=S.hm.elen
 have hr:=hK.2.2.1 k hk
 have h1:=wL S.dup.2 hr.1 (by omega) hk
 rw [S.rest]
 have h2:=S.hm.eimg k.toNat (by omega)
 have e:iA m.m.edges k=m.m.edges[k.toNat]'(by omega):=by unfold iA;rw [aA (by omega)];rfl
 exact kL.2 ⟨by rw [e];exact h2,h1⟩
theorem StepIn.kN (S:StepIn t r h m):∀ k∈r.keep.nodes,(0≤k∧k<m.m.nodes.length)∧(0≤iA m.m.nodes k∧iA m.m.nodes k<h.graph.nodes.length)∧∃ p:Nat,p<(b4 r h m).nodes.length∧(mX m.m.nodes (lN r h m).nodes)[k.toNat]?.getD 0=p:=fun k hk=>by
 have hr:=S.hR.keep.2.1 k hk
 have hl:=S.hm.len
 have hi:=S.nin _ (S.keptN hk)
 exact ⟨by omega,hi,Oq S.nasc hr.1 (by omega) hi (S.keptN hk)⟩
theorem StepIn.kE (S:StepIn t r h m):∀ k∈r.keep.edges,(0≤k∧k<m.m.edges.length)∧(0≤iA m.m.edges k∧iA m.m.edges k<h.graph.edges.length)∧∃ p:Nat,p<(b4 r h m).edges.length∧(mX m.m.edges (lN r h m).edges)[k.toNat]?.getD 0=p:=fun k hk=>by
 have hr:=S.hR.keep.2.2.1 k hk
 have hl:=S.hm.elen
 have hi:=S.ein _ (S.keptE hk)
 exact ⟨by omega,hi,Oq S.easc hr.1 (by omega) hi (S.keptE hk)⟩
theorem StepIn.frN (S:StepIn t r h m):∀ i,i<r.right.graph.nodes.length→((oH r h m).nodes[i]?.getD 0=(((b4 r h m).nodes.length+(b5 r.into.nodes i).length:Nat):Int)↔mem r.into.nodes i=false):=fun i hi=>by
 have:=Gf S.intoN.1 S.hR.keep.1.1 (fun k hk=>(S.kN k hk).2.2) i
 unfold oH;simp only
 rw [L2 hi];exact this
theorem StepIn.frE (S:StepIn t r h m):∀ i,i<r.right.graph.edges.length→((oH r h m).edges[i]?.getD 0=(((b4 r h m).edges.length+(b5 r.into.edges i).length:Nat):Int)↔mem r.into.edges i=false):=fun i hi=>by
 have:=Gf S.intoN.2 S.hR.keep.1.2 (fun k hk=>(S.kE k hk).2.2) i
 unfold oH;simp only
 rw [L2 hi];exact this
theorem StepIn.bdE (S:StepIn t r h m):bdE h (b4 r h m) (lN r h m) (b4 r h m).edges.length=⟨b7 h.graph (b4 r h m),(b4 r h m).nodes.map fun k=>h.values[k.toNat]?.getD []⟩:=by
 unfold Go.Abs.bdE b7
 rw [if_pos S.sub,aJ (bC _)]
 congr 2
 refine bS fun k hk=>?_
 obtain ⟨s1,s2⟩:=HY S.sub hk
 have key:∀ v:Int,v∈(b4 r h m).nodes→iA (lN r h m).nodes v=(sE (b4 r h m).nodes v:Int):=fun v hv=>by
  have hr:=S.nin v hv
  unfold iA lN pN
  simp only
  rw [wU _ (by omega),aD,show ((v.toNat:Nat):Int)=v by omega,Gl S.nasc,if_pos ((cW _ _).2 hv)]
 unfold RW
 rw [key _ s1,key _ s2];rfl
theorem StepIn.grow (S:StepIn t r h m):iH t r (oH r h m) (Go.Abs.bdE h (b4 r h m) (lN r h m) (b4 r h m).edges.length)=cK t r h m:=by
 rw [S.bdE];rfl
end
theorem O4 {t:Types}{r:Rule}{h:Host}{m:Mat}(h0:Cc t r h m=0):eG t r.left.graph h.graph m.m r.inj=0∧(dA t r.left h m.m).2=0∧(dA t r.left h m.m).1=m.vars:=by
 unfold Cc at h0
 split at h0
 ·cases h0
 ·rename_i h1
  split at h0
  ·exact absurd h0 (by assumption)
  ·rename_i h2
   split at h0
   ·cases h0
   ·rename_i h3
    exact ⟨by simpa using h1,by simpa using h2,by simpa using h3⟩
theorem Of {t:Types}{r:Rule}(h:ruleF t r=0):condF t r.left r.cond=0:=by
 unfold ruleF at h
 split at h
 ·exact absurd h (by assumption)
 ·split at h
  ·cases h
  ·split at h
   ·exact absurd h (by assumption)
   ·split at h
    ·exact absurd h (by assumption)
    ·split at h
     ·exact absurd h (by assumption)
     ·split at h
      ·cases h
      ·exact h
def r4 (t:Types)(r:Rule)(h:Host)(m:Mat):Stp26:=if f5 t r h m=0 then AE t r h m else lO
theorem Qd {P:Program}{f:FuncId}{args:List D}{r:D}(hcl:r.cl=true)(h:∀ Q:D→AHeap→Prop,(∀ d H',(gF H' d).cl=true→(gF H' d=r∨No (gF H' d)=r)→Q d H')→ACalls P f args .emp Q):Pure P f args r:=by
 refine LA hcl fun Q hq=>ACalls.deep (h _ fun d H' hc hr=>hq _ _ ?_)
 rw [Lu _ hc];exact hr
theorem J6 (t:Types)(ht:t.ok)(r:Rule)(hr:r.ok)(hr0:ruleF t r=0)(h:Host)(hh0:fM t h=0)(m:Mat):Pure Tryz.prog 64 [t.d,r.d,h.d,m.d] (.tup [.agg (r4 t r h m).c,dI (f5 t r h m)]):=by
 refine Qd (by simp [go_sem,D.cl,D.clL,Stp26.cl]) fun Q hQ=>?_
 have hR:=PB hr hr0
 have ho:=vO hh0
 have hcF:=Of hr0
 refine (aG (cfg:=⟨fun t=>t==8||t==11||t==13||t==15,fun r=>match r with|15=>[(0,2),(2,3),(0,4),(0,6),(1,6),(2,6),(3,6),(4,6)]|16=>[(6,7),(6,8),(6,9),(6,10),(6,11),(6,12)]|17=>[(20,21),(20,22),(20,23),(20,24),(20,25),(20,26),(20,27),(20,28),(20,29),(20,30),(20,31),(20,32),(20,33),(20,34),(20,35),(20,36),(20,37),(20,38),(20,39),(20,40)]|_=>[]⟩) Tz.mixed Tryz.func64 rfl rfl (aE rfl) (by kernel_rfl) ?_)
 have Y:=wa @Host.d.eq_1 (wa @Host.c.eq_1 (wa @Mat.d.eq_1 @Mat.c.eq_1))
 refine wv (h:=aB (GD t ht r h m) wl ?_)
 refine cT (fun h2=>?_) fun h2=>?_
 ·have hA:f5 t r h m=Cc t r h m:=by unfold f5 j6;rw [IJ,if_pos h2];simp [h2]
  have hV:r4 t r h m=lO:=by unfold r4;rw [if_neg (by omega)]
  refine wv (h:=?_)
  refine hQ _ _ (by simp [go_sem,gF,iM,mW,eB,D.cl,D.clL]) (by first|(left;(simp [go_sem,gF,iM,mW,eB,hA,hV,lO,mF,oM,gX,Stp26.c,Rule.c,Mat.c,Host.c,Cond.kind,Cond.kids,Cond.map,Cond.pattern,dLI,dI]);done)|(right;(simp [go_sem,gF,iM,mW,eB,hA,hV,lO,mF,oM,gX,Stp26.c,Rule.c,Mat.c,Host.c,Cond.kind,Cond.kids,Cond.map,Cond.pattern,dLI,dI]);done))
 ·have hp0:qJ t r h m=oU (oB r.left.graph h.graph m.m) h.graph r.keep m.m:=by rw [IJ,if_neg (by omega)]
  obtain ⟨hck,hso,hsv⟩:=O4 (show Cc t r h m=0 by omega)
  have hck0:=Ld hck
  have hin:w3 t r.left.graph h.graph m.m=oB r.left.graph h.graph m.m:=by unfold w3;rw [if_pos hck0]
  have hmk:=pV (pH hck0).2
  have hgl:=bJ hR.pl.gg
  have hgr:=bJ hR.gr
  have hgh:=bJ ho.gg
  have hml:=hmk.len
  have hmel:=hmk.elen
  have hkl:=hR.kl
  have hvh:=ho.vl
  have hrw:∀ v∈h.values,v.length≤100000:=fun v hv=>by have:=(ho.row v hv).1;omega
  have Y:=wa Y (wa hck0 hin)
  refine wv (h:=aB (B9 t ht r.left.graph h.graph m.m) wl ?_)
  refine wv (h:=aB (E9 (oB r.left.graph h.graph m.m) h.graph r.keep m.m (by omega) (by omega) (by omega) (by omega) (by omega)) wl ?_)
  refine cT (fun h8=>?_) fun h8=>?_
  ·have hpe:qJ t r h m≠0:=by omega
   have hA:f5 t r h m=qJ t r h m:=by unfold f5 j6;rw [if_pos hpe,if_pos hpe]
   have hV:r4 t r h m=lO:=by unfold r4;rw [if_neg (by omega)]
   refine wv (h:=?_)
   refine hQ _ _ (by simp [go_sem,gF,iM,mW,eB,D.cl,D.clL]) (by first|(left;(simp [go_sem,gF,iM,mW,eB,hA,hp0,hV,lO,mF,oM,gX,Stp26.c,Rule.c,Mat.c,Host.c,Cond.kind,Cond.kids,Cond.map,Cond.pattern,dLI,dI]);done)|(right;(simp [go_sem,gF,iM,mW,eB,hA,hp0,hV,lO,mF,oM,gX,Stp26.c,Rule.c,Mat.c,Host.c,Cond.kind,Cond.kids,Cond.map,Cond.pattern,dLI,dI]);done))
  ·have hpre:qJ t r h m=0:=by omega
   have S:=NB hR ho hpre
   have hMat:=FR S hpre
   have hP:p5 (oB r.left.graph h.graph m.m) h.graph r.keep m.m=b4 r h m:=rfl
   have hcg:Pq t r.left r.cond h m r.inj=0:=by
    unfold Pq;rw [if_neg (by omega),if_neg (by omega),if_neg (by omega),if_neg (by omega),if_neg (by rw [hsv];simp)]
   have hS1:j6 t r h m=if (lI t h r.inj r.cond m).2≠0 then (lI t h r.inj r.cond m).2 else if (lI t h r.inj r.cond m).1=false then 16 else 0:=by unfold j6;rw [if_neg (by omega)]
   have Y:=wa Y hP
   refine wv (h:=aB ((by have hq:=w5 t ht r.left r.cond hr.cond hR.cond hR.pl h ho m hMat r.inj hcg;simp only [Cond.c_eq] at hq;unfold Types.d Types.c Pattern.d Pattern.c Host.d Host.c Mat.d Mat.c dLI dI at hq;exact hq)) wl ?_)
   refine cT (fun h11=>?_) fun h11=>?_
   ·have hA:f5 t r h m=(lI t h r.inj r.cond m).2:=by unfold f5;rw [hS1,if_pos h11];simp [h11]
    have hV:r4 t r h m=lO:=by unfold r4;rw [if_neg (by omega)]
    refine wv (h:=?_)
    refine hQ _ _ (by simp [go_sem,gF,iM,mW,eB,D.cl,D.clL]) (by first|(left;(simp [go_sem,gF,iM,mW,eB,hA,hV,lO,mF,oM,gX,Stp26.c,Rule.c,Mat.c,Host.c,Cond.kind,Cond.kids,Cond.map,Cond.pattern,dLI,dI]);done)|(right;(simp [go_sem,gF,iM,mW,eB,hA,hV,lO,mF,oM,gX,Stp26.c,Rule.c,Mat.c,Host.c,Cond.kind,Cond.kids,Cond.map,Cond.pattern,dLI,dI]);done))
   ·refine qP (fun h13=>?_) fun h13=>?_
    ·have hA:f5 t r h m=16:=by
      have:(lI t h r.inj r.cond m).1=false:=by simpa using h13
      have hps:j6 t r h m=16:=by rw [hS1,if_neg (by omega),if_pos this]
      unfold f5;rw [if_pos (by omega),hps]
     have hV:r4 t r h m=lO:=by unfold r4;rw [if_neg (by omega)]
     refine wv (h:=?_)
     refine hQ _ _ (by simp [go_sem,gF,iM,mW,eB,D.cl,D.clL]) (by first|(left;(simp [go_sem,gF,iM,mW,eB,hA,hV,lO,mF,oM,gX,Stp26.c,Rule.c,Mat.c,Host.c,Cond.kind,Cond.kids,Cond.map,Cond.pattern,dLI,dI]);done)|(right;(simp [go_sem,gF,iM,mW,eB,hA,hV,lO,mF,oM,gX,Stp26.c,Rule.c,Mat.c,Host.c,Cond.kind,Cond.kids,Cond.map,Cond.pattern,dLI,dI]);done))
    ·have hps:j6 t r h m=0:=by
      have h13':(lI t h r.inj r.cond m).1=true:=by simpa using h13
      rw [hS1,if_neg (by omega),if_neg (by rw [h13'];simp)]
     have hK:=hR.keep
     have hkN:=S.kN
     have hkE:=S.kE
     obtain ⟨tr,htr⟩:∃ tr,tr=lN r h m:=⟨_,rfl⟩
     obtain ⟨cm,hcm⟩:∃ cm,cm=oH r h m:=⟨_,rfl⟩
     have hT1:pN (b4 r h m).nodes h.graph.nodes.length=tr.nodes:=by rw [htr];rfl
     have hT2:pN (b4 r h m).edges h.graph.edges.length=tr.edges:=by rw [htr];rfl
     have htl1:tr.nodes.length=h.graph.nodes.length:=by rw [← hT1];exact jX _ _
     have htl2:tr.edges.length=h.graph.edges.length:=by rw [← hT2];exact jX _ _
     rw [← htr] at hkN hkE
     have hC1:Cl r.keep.nodes r.into.nodes (mX m.m.nodes tr.nodes) r.right.graph.nodes.length (b4 r h m).nodes.length=cm.nodes:=by rw [hcm,htr];rfl
     have hC2:Cl r.keep.edges r.into.edges (mX m.m.edges tr.edges) r.right.graph.edges.length (b4 r h m).edges.length=cm.edges:=by rw [hcm,htr];rfl
     have hdl:=S.len
     have hvl:=hMat.vl
     have hvs:Sm m.vars:=fun v hv=>by have:=hMat.vs v hv;omega
     have hvv:=hR.pl.vars
     have hcl1:cm.nodes.length=r.right.graph.nodes.length:=by rw [hcm];simp [oH,Cl]
     have hcl2:cm.edges.length=r.right.graph.edges.length:=by rw [hcm];simp [oH,Cl]
     have hfN:=S.frN
     have hfE:=S.frE
     have hB:=S.grow
     rw [← hcm] at hfN hfE hB
     rw [← htr] at hB
     have Y:=wa Y (wa hT1 (wa hT2 (wa hC1 hC2)))
     refine wv (h:=aI (CS m (by omega) (by omega) (by omega)) wl ?_)
     refine wv (h:=aI (Ex h (by omega) (by omega) (by omega) hrw) wl ?_)
     refine wp (h:=aI (CP h.graph.nodes.length (by omega) (b4 r h m).nodes S.nasc (by omega)) wl ?_)
     refine wp (h:=aI (CP h.graph.edges.length (by omega) (b4 r h m).edges S.easc (by omega)) wl ?_)
     refine wp (h:=aI (y3 r.right.graph.nodes.length (by omega) r.keep.nodes r.into.nodes m.m.nodes tr.nodes (b4 r h m).nodes.length (by omega) (by omega) hK.2.2.2.1 (fun x hx=>(hkN x hx).1) (fun x hx=>by have:=(hkN x hx).2.1;omega) (fun x hx=>by obtain ⟨p,_,hp⟩:=(hkN x hx).2.2;omega)) wl ?_)
     refine wp (h:=aI (y3 r.right.graph.edges.length (by omega) r.keep.edges r.into.edges m.m.edges tr.edges (b4 r h m).edges.length (by omega) (by omega) hK.2.2.2.2 (fun x hx=>(hkE x hx).1) (fun x hx=>by have:=(hkE x hx).2.1;omega) (fun x hx=>by obtain ⟨p,_,hp⟩:=(hkE x hx).2.2;omega)) wl ?_)
     refine wp (h:=?_)
     refine tS (.step (.step (.step (.refl _) 9 0 31 3 1 _ _ (by simp [go_sem];rfl) rfl rfl rfl) 9 0 32 101 3 _ _ (by simp [go_sem];rfl) rfl rfl rfl) 9 0 33 34 1 _ _ (by simp [go_sem];rfl) rfl rfl rfl) ?_
     simp [go_sem]
     unfold eY
     refine J5 t ht r hR m h ho (b4 r h m) tr cm S.nin S.ein hdl htl1 ⟨hcl1,hcl2⟩ hfN hfE 9 73 74 75 _ (by simp [go_sem,d9,dLI]) ⟨by simp [go_sem],by simp [go_sem],by simp [go_sem,jA],rfl,fun i q v h1 _=>by simp at h1,by simp,fun q hq=>by simp at hq;rcases hq with rfl|rfl|rfl<;>simp [go_sem]⟩ (by simp [go_sem]) (by simp) (fun j hj hA=>?_) _ (fun qs H1 hH1 hs1 hq1 hq2 hf1 hn1=>?_)
     ·simp [go_sem,mS,qC,Gs,Eg] at hA hj;omega
     rw [hB] at hH1 hs1
     have hn1':76≤H1.next:=by simp [go_sem] at hn1;omega
     have k0:=hf1 0 (by simp [go_sem]) (by simp)
     simp [go_sem] at k0
     have hq0:∀ j,j<73→j∉73 :: 74 :: 75 :: qs:=fun j hj hm=>by
      simp only [aS] at hm
      rcases hm with h|h|h|h
      ·omega
      ·omega
      ·omega
      ·have:=hq2 j h;simp [go_sem] at this;omega
     refine wp (h:=?_)
     unfold eY
     refine Mh t ht r hR m h (cK t r h m) tr cm (hcm ▸ S.put) hvl hvs H1 9 73 74 75 qs hs1 hH1 hq1 (by omega) _ (fun H2 hE2 hf2 hn2=>?_) (fun H2 hE2 hH2 hf2 hn2=>?_)
     ·have m0:=(hf2 0 (by omega) (hq0 0 (by omega))).trans k0
      have hA:f5 t r h m=sB t (cK t r h m).graph cm m.vars r.right.slots:=by unfold f5;rw [if_neg (by omega),← hcm,if_pos hE2]
      have hV:r4 t r h m=lO:=by unfold r4;rw [if_neg (by omega)]
      simp [go_sem,seval,m0]
      refine aO (fun hc=>?_) (fun hc=>absurd (by simpa using hc) hE2)
      simp [go_sem,seval,m0]
      refine hQ _ _ (by simp [go_sem,gF,iM,mW,eB,D.cl,D.clL]) (by first|(left;(simp [go_sem,gF,iM,mW,eB,hA,hV,lO,mF,oM,gX,Stp26.c,Rule.c,Mat.c,Host.c,Cond.kind,Cond.kids,Cond.map,Cond.pattern,dLI,dI]);done)|(right;(simp [go_sem,gF,iM,mW,eB,hA,hV,lO,mF,oM,gX,Stp26.c,Rule.c,Mat.c,Host.c,Cond.kind,Cond.kids,Cond.map,Cond.pattern,dLI,dI]);done))
     have m0:=(hf2 0 (by omega) (hq0 0 (by omega))).trans k0
     have m9:=(hf2 9 (by omega) (hq0 9 (by omega))).trans hs1
     simp only [d9] at m9
     have m73:H2.get 73=some ⟨3,1,(cK t r h m).graph.nodes.map cI,false⟩:=hH2.ga
     have m74:H2.get 74=some ⟨101,3,(cK t r h m).graph.edges.map Edge.c,false⟩:=hH2.gb
     have Y:=wa Y (wa m0 (wa m9 (wa m73 m74)))
     refine qP (fun h22=>?_) fun h22=>?_
     ·have hA:f5 t r h m=3:=by
       unfold f5;rw [if_neg (by omega),← hcm,if_neg (by omega),if_pos (by first|exact h22|omega)]
      have hV:r4 t r h m=lO:=by unfold r4;rw [if_neg (by omega)]
      refine wv (h:=?_)
      refine hQ _ _ (by simp [go_sem,gF,iM,mW,eB,D.cl,D.clL]) (by first|(left;(simp [go_sem,gF,iM,mW,eB,hA,hV,lO,mF,oM,gX,Stp26.c,Rule.c,Mat.c,Host.c,Cond.kind,Cond.kids,Cond.map,Cond.pattern,dLI,dI]);done)|(right;(simp [go_sem,gF,iM,mW,eB,hA,hV,lO,mF,oM,gX,Stp26.c,Rule.c,Mat.c,Host.c,Cond.kind,Cond.kids,Cond.map,Cond.pattern,dLI,dI]);done))
     ·have hA:f5 t r h m=0:=by
       unfold f5;rw [if_neg (by omega),← hcm,if_neg (by omega),if_neg (by first|exact h22|omega)]
      have hV:r4 t r h m=AE t r h m:=by unfold r4;rw [if_pos hA]
      have hW:v8 t r h m=⟨(cK t r h m).graph,rO cm m.vars r.right.slots (cK t r h m).values⟩:=by rw [hcm];rfl
      have hvl5:=(pQ cm m.vars r.right.slots (cK t r h m).values).1
      have fin:∀ k:Blk,Q (.tup [.agg (d9 r m h (.own 73 (cK t r h m).graph.nodes.length) (.own 74 (cK t r h m).graph.edges.length) (.own 75 (cK t r h m).values.length) tr cm),dI 0]) (H2.put 0 k):=fun k=>by
       obtain ⟨E,hE⟩:∃ E,E=H2.put 0 k:=⟨_,rfl⟩
       have h5:HH E 0 73 74 75 qs (v8 t r h m):=by
        rw [hW];exact hH2.same (by rw [hE];simp [go_sem]) (fun j hj=>by
         have hj0:j≠0:=fun e=>hq0 0 (by omega) (e ▸ hj)
         rw [hE];simp [go_sem,hj0])
       have hd:=h5.deep
       have e1:(v8 t r h m).graph.nodes.length=(cK t r h m).graph.nodes.length:=by rw [hW]
       have e2:(v8 t r h m).graph.edges.length=(cK t r h m).graph.edges.length:=by rw [hW]
       have e3:(v8 t r h m).values.length=(cK t r h m).values.length:=by rw [hW];exact hvl5
       rw [e1,e2,e3] at hd
       simp only [iM,fT,g5,Host.d,Host.c,D.agg.injEq,List.cons.injEq,and_true] at hd
       obtain ⟨d1,d2,d3⟩:=hd
       have key:gF E (.tup [.agg (d9 r m h (.own 73 (cK t r h m).graph.nodes.length) (.own 74 (cK t r h m).graph.edges.length) (.own 75 (cK t r h m).values.length) tr cm),dI 0])=.tup [.agg (r4 t r h m).c,dI (f5 t r h m)]:=by
        rw [hA,hV]
        simp only [gF,iM,d9,fT,g5,d1,d2,d3]
        simp [iM,mW,eB,AE,Stp26.c,Rule.c,Mat.c,Host.c,dLI,dI,htr,hcm]
       rw [← hE]
       exact hQ _ _ (by rw [key];simp [go_sem,D.cl,D.clL,Stp26.cl]) (.inl key)
      refine wv (h:=?_)
      exact fin _
theorem FZ {t:Types}{r:Rule}{h:Host}(h0:eW t r h=0):ruleF t r=0∧fM t h=0:=by
 unfold eW at h0
 split at h0
 ·exact absurd h0 (by assumption)
 ·rename_i h1;exact ⟨by simpa using h1,h0⟩
theorem y4 (t:Types)(ht:t.ok)(r:Rule)(hr:r.ok)(hr0:ruleF t r=0)(h:Host)(hh0:fM t h=0)(m:Mat){v:Stp26}{e:Int}(hv:v=r4 t r h m)(he:e=f5 t r h m):Pure Tryz.prog 64 [t.d,r.d,h.d,m.d] (.tup [.agg v.c,dI e]):=by
 subst hv he;exact J6 t ht r hr hr0 h hh0 m
theorem J7 (t:Types)(ht:t.ok)(r:Rule)(hr:r.ok)(h:Host)(m:Mat):Pure Tryz.prog 23 [t.d,r.d,h.d,m.d] (.tup [.agg (kH t r h m).c,dI (sZ t r h m)]):=by
 obtain ⟨v,hv⟩:∃ v,v=r4 t r h m:=⟨_,rfl⟩
 obtain ⟨e,he⟩:∃ e,e=f5 t r h m:=⟨_,rfl⟩
 refine Tz.pK ⟨fun t=>t==8,fun _=>[]⟩ Tryz.func23 rfl (fun Q hQ=>?_)
 have Y:=wa @Host.d.eq_1 (wa @Host.c.eq_1 (wa @Mat.d.eq_1 (wa @Mat.c.eq_1 @Stp26.c.eq_1)))
 refine wv (h:=aB (CR t ht r hr h) wl ?_)
 refine cT (fun h2=>?_) fun h2=>?_
 ·have hA:sZ t r h m=eW t r h:=by unfold sZ;rw [if_pos h2]
  have hV:kH t r h m=lO:=by unfold kH;rw [if_neg (by omega)]
  exact wv (h:=hQ _ _ (by simp [go_sem,hA,hV,lO,mF,oM,gX,Stp26.c,Rule.c,Mat.c,Host.c,Cond.kind,Cond.kids,Cond.map,Cond.pattern,dLI,dI]))
 ·have hz:=FZ (show eW t r h=0 by omega)
  have hA:sZ t r h m=e:=by rw [he];unfold sZ;rw [if_neg (by omega)]
  have hV:kH t r h m=v:=by rw [hv];unfold kH r4;rw [hA,he]
  refine wv (h:=aB ((by have hq:=y4 t ht r hr hz.1 h hz.2 m hv he;simp only [Stp26.c,Rule.c,Mat.c,Host.c,fV,fP] at hq;unfold Mat.d Mat.c Host.d Host.c dLI at hq;exact hq)) wl ?_)
  exact wv (h:=hQ _ _ (by simp [go_sem,hA,hV,Stp26.c,Rule.c,Mat.c,Host.c]))
theorem tZ (t:Types)(ht:t.ok)(r:Rule)(hr:r.ok)(h:Host):Pure Tryz.prog 19 [t.d,r.d,h.d] (.tup [.list ((qM t r h).1.map Mat.c),dI (qM t r h).2]):=by
 refine Tz.pK ⟨fun t=>t==11||t==13||t==14,fun _=>[]⟩ Tryz.func19 rfl (fun Q hQ=>?_)
 have Y:=wa @Host.d.eq_1 @Host.c.eq_1
 refine wv (h:=aB (CR t ht r hr h) wl ?_)
 refine cT (fun h2=>?_) fun h2=>?_
 ·have hS:qM t r h=([],eW t r h):=by unfold qM;rw [if_pos h2]
  exact wv (h:=hQ _ _ (by simp [go_sem,hS]))
 ·have hz:=FZ (show eW t r h=0 by omega)
  refine wv (h:=aB (Am t ht r.left h r.inj) wl ?_)
  refine cT (fun h5=>?_) fun h5=>?_
  ·have hS:qM t r h=([],(dG t r.left h r.inj).2):=by unfold qM;rw [if_neg (by omega),if_pos h5]
   exact wv (h:=hQ _ _ (by simp [go_sem,hS]))
  ·have hS:qM t r h=((dG t r.left h r.inj).1.filter fun m=>decide (f5 t r h m=0),0):=by unfold qM;rw [if_neg (by omega),if_neg (by omega)]
   have hL5:=vI t r.left h r.inj
   obtain ⟨L,hL⟩:∃ L,L=(dG t r.left h r.inj).1:=⟨_,rfl⟩
   rw [← hL] at hS hL5
   have Y:=wa Y (Eq.symm hL)
   refine wp (h:=bB (fun i e H=>∃ ms:List Mat,(e 3=.adr t.c∧e 4=.adr r.c∧e 5=.adr h.c∧e 36=.list (L.map Mat.c)∧e 37=dI L.length∧e 11=.own 0 ms.length∧e 38=dI i)∧(H.get 0=some ⟨65,3,ms.map Mat.c,false⟩)∧(0<H.next)∧(i≤L.length)∧(ms=(L.take i).filter fun m=>decide (f5 t r h m=0))∧(ms.length≤i)) (fun i=>L.length - i) 0 ⟨([]),wg,wn,wn,wi,(by rfl),(by (simp))⟩ fun I0 hI0 i e H hi0=>?_)
   obtain ⟨ms,E0,g0_0,n0_0,hi,hms,hml⟩:=hi0
   have Y:=wa Y (wa E0 (wa g0_0 (bY n0_0)))
   refine cT (fun h9=>?_) fun h9=>?_
   ·obtain ⟨v,hv⟩:∃ v,v=r4 t r h L[i]:=⟨_,rfl⟩
    obtain ⟨e,he⟩:∃ e,e=f5 t r h L[i]:=⟨_,rfl⟩
    obtain ⟨ms2,hms2⟩:∃ y,y=ms++[L[i]].filter fun m=>decide (f5 t r h m=0):=⟨_,rfl⟩
    have hes:f5 t r h L[i]=e:=he.symm
    have Y:=wa Y (wa h9 (wa (aA h9) (wa @Mat.c.eq_1 @Stp26.c.eq_1)))
    refine wp (h:=aB ((by have hq:=y4 t ht r hr hz.1 h hz.2 L[i] hv he;simp only [Stp26.c,Rule.c,Mat.c,Host.c,fV,fP] at hq;unfold Mat.d Mat.c Host.d Host.c dLI at hq;exact hq)) wl ?_)
    refine qP (fun h12=>?_) fun h12=>?_
    ·have hm3:ms2=ms++[L[i]]:=by rw [hms2,Ep (by rw [hes];simpa using h12)];rfl
     have Y:=wa Y hm3
     exact wp (h:=wx hI0 (i+1) ⟨ms2,wg,wn,wn,wj,(by (rw [aF h9,gM,← hms,hms2])),(by (rw [hm3];first|(simp;omega)|omega))⟩)
    ·have hm3:ms2=ms:=by rw [hms2,Er (by rw [hes];simpa using h12)];simp
     have Y:=wa Y hm3
     exact wp (h:=wx hI0 (i+1) ⟨ms2,wg,wn,wn,wj,(by (rw [aF h9,gM,← hms,hms2])),(by (rw [hm3];first|(simp;omega)|omega))⟩)
   ·rw [aJ (by omega)] at hms
    exact wv (h:=hQ _ _ (by simp [go_sem,Y,hS,← hms]))
theorem GU (t:Types)(h1:∀ n∈t.nodes,n.attrs.length≤1000000000000000)(r:Rule)(hr:r.le)(h:Host):Pure Tryz.prog 18 [t.d,r.d,h.d] (.bool (light26 t r h)):=by
 refine Tz.pK ⟨fun _=>false,fun _=>[]⟩ Tryz.func18 rfl (fun Q hQ=>?_)
 have Y:=wa @Host.c.eq_1 (wa @Rule.c.eq_1 @Cond.c_eq)
 refine wo (h:=aB (Fx t h1) wl ?_)
 refine wo (h:=aK (fun hg=>(by have hz:=Mu r hr;simpa [Rule.d,Rule.c,Cond.c_eq,go_sem] using hz)) (fun hg=>wl) ?_)
 refine wo (h:=aK (fun hg=>(by have hz:=Iq t (Hk (by simp at hg;exact hg.1)) r.left r.cond hr.cond h;rwa [Cond.c_eq] at hz)) (fun hg=>wl) ?_)
 have Y:=wa Y @light26.eq_1
 exact wo (h:=hQ _ _ wy)
theorem KJ {t:Types}{r:Rule}{h:Host}(hL:light26 t r h=true):t.ok∧r.ok:=by
 unfold light26 at hL
 simp only [aP] at hL
 exact ⟨Hk hL.1.1,LS hL.1.2⟩
theorem NP (l:List ByteArray):eE (l.map cS)=l.map cS:=sH fun c hc=>by
 rw [bG] at hc;obtain ⟨x,_,rfl⟩:=hc;rfl
theorem MK (l:List Attr):eE (l.map Attr.c)=l.map Attr.c:=sH fun c hc=>by
 rw [bG] at hc;obtain ⟨x,_,rfl⟩:=hc
 simp [Attr.c,i4,lK,qL,dI,NP]
theorem FI (l:List NodeTy):eE (l.map NodeTy.c)=l.map NodeTy.c:=sH fun c hc=>by
 rw [bG] at hc;obtain ⟨x,_,rfl⟩:=hc
 simp [NodeTy.c,i4,lK,dI,MK]
theorem BA (l:List EdgeTy):eE (l.map EdgeTy.c)=l.map EdgeTy.c:=sH fun c hc=>by
 rw [bG] at hc;obtain ⟨x,_,rfl⟩:=hc
 simp [EdgeTy.c,i4,lK,dI]
theorem Pure.nzk {P:Program}{f:FuncId}{args args':List D}{r:D}(hp:Pure P f args' r)(ha:args.map lK=args'):Pure P f args r:=by
 subst ha
 refine ⟨hp.1,fun M w vals hM hv=>hp.2 M w vals hM ⟨by simpa using hv.len,fun j u d hu hd=>?_⟩⟩
 rw [aQ,bE] at hd
 obtain ⟨y,hy,rfl⟩:=hd
 exact LK (hv.rep j u y hu hy)
def exT:Types:=⟨[⟨⟨#[65,99,99,111,117,110,116]⟩,-1,true,[⟨⟨#[98,97,108,97,110,99,101]⟩,-1000,1000,[]⟩]⟩,⟨⟨#[67,97,115,104]⟩,0,false,[]⟩,⟨⟨#[76,111,97,110]⟩,0,false,[⟨⟨#[115,116,97,116,101]⟩,0,1,[⟨#[111,112,101,110]⟩,⟨#[99,108,111,115,101,100]⟩]⟩]⟩,⟨⟨#[80,101,114,115,111,110]⟩,-1,false,[]⟩],
 [⟨⟨#[111,119,110,115]⟩,3,0,0,-1,1,1⟩,⟨⟨#[112,97,121,115]⟩,1,1,0,-1,0,-1⟩]⟩
theorem xI:Pure Tryz.prog 57 [] exT.d:=by
 refine vF (by first|rfl|(simp [go_sem];done)) (fun Q hQ=>(aG (cfg:=⟨fun t=>t==0,fun _=>[]⟩) Tz.mixed Tryz.func57 rfl rfl (aE rfl) (by kernel_rfl) ?_))
 have Y:=trivial
 refine Px (h:=?_)
 exact hQ _ _ (by simp [go_sem,exT,Types.d,Types.c,NodeTy.c,EdgeTy.c,Attr.c,qL,cS,dI])
def payR:Rule:=⟨⟨#[112,97,121]⟩,⟨⟨[1,1],[]⟩,[⟨0,0,⟨0,0⟩⟩,⟨1,0,⟨1,0⟩⟩],2,[]⟩,⟨⟨[1,1],[⟨1,0,1⟩]⟩,[⟨0,0,⟨0,-3⟩⟩,⟨1,0,⟨1,3⟩⟩],2,[]⟩,⟨[0,1],[]⟩,⟨[0,1],[]⟩,true,.mk 1 [] ⟨[],[]⟩ oM⟩
theorem FU:Pure Tryz.prog 58 [] payR.d:=by
 refine vF (by first|rfl|(simp [go_sem];done)) (fun Q hQ=>(aG (cfg:=⟨fun t=>t==0||t==1||t==2||t==3,fun _=>[]⟩) Tz.mixed Tryz.func58 rfl rfl (aE rfl) (by kernel_rfl) ?_))
 have Y:=trivial
 refine Px (h:=?_)
 exact hQ _ _ (by simp [go_sem,payR,oM,Rule.d,Rule.c,Cond.kind,Cond.kids,Cond.map,Cond.pattern,Slot.c,Edge.c,dLI,cI,dI])
def payH:Host:=⟨⟨[3,1,1],[⟨0,0,1⟩,⟨0,0,2⟩]⟩,[[],[10],[5]]⟩
def G5:Mat:=⟨⟨[1,2],[]⟩,[10,5]⟩
theorem Pg:sO exT=true:=by decide +kernel
theorem NL:fewR payR=true:=by decide +kernel
theorem Vl:sZ exT payR payH G5=0:=by decide +kernel
theorem Vk:(qM exT payR payH).2=0:=by decide +kernel
theorem Vj:(qM exT payR payH).1.length=2:=by decide +kernel
theorem Vi:(kH exT payR payH G5).after.values=[[],[7],[8]]:=by decide +kernel
theorem Vh:(kH exT payR payH G5).after.graph.edges.length=3:=by decide +kernel
theorem Vg:(kH exT payR payH G5).track.nodes=[0,1,2]∧(kH exT payR payH G5).track.edges=[0,1]:=by decide +kernel
theorem oL (a:List Int):Pure Tryz.prog 109 [dLI a,dLI a] (.bool true):=by
 refine Tz.pK ⟨fun _=>false,fun _=>[]⟩ Tryz.func109 rfl (fun Q hQ=>?_)
 have Y:=trivial
 refine wo (h:=bB (fun i e H=>(e 0=dLI a∧e 1=dLI a∧e 5=dI i)∧(i≤a.length)) (fun i=>a.length - i) 0 ⟨wg,wi⟩ fun I0 hI0 i e H hi0=>?_)
 obtain ⟨E0,hi⟩:=hi0
 have Y:=wa Y E0
 refine wv (h:=?_)
 repeat first|intro _|refine ⟨eP,?_⟩
 refine wq (fun h4=>?_) fun h4=>?_
 ·have Y:=wa Y (wa h4 (aA h4))
  exact wo (h:=wx hI0 (i+1) ⟨wg,wj⟩)
 ·have Y:=wa Y h4
  exact wv (h:=hQ _ _ wy)
theorem t7 (a:List Int):Pure Tryz.prog 80 [dLI a,dLI a] (.bool true):=by
 refine Tz.pK ⟨fun _=>false,fun _=>[]⟩ Tryz.func80 rfl (fun Q hQ=>?_)
 have Y:=trivial
 refine wo (h:=bB (fun i e H=>(e 0=dLI a∧e 1=dLI a∧e 5=dI i)∧(i≤a.length)) (fun i=>a.length - i) 0 ⟨wg,wi⟩ fun I0 hI0 i e H hi0=>?_)
 obtain ⟨E0,hi⟩:=hi0
 have Y:=wa Y E0
 refine wv (h:=?_)
 repeat first|intro _|refine ⟨eP,?_⟩
 refine wq (fun h4=>?_) fun h4=>?_
 ·have Y:=wa Y (wa h4 (aA h4))
  exact wo (h:=wx hI0 (i+1) ⟨wg,wj⟩)
 ·have Y:=wa Y h4
  exact wv (h:=hQ _ _ wy)
theorem IA (p:Part):Pure Tryz.prog 31 [p.d,p.d] (.bool true):=by
 refine Tz.pK ⟨fun _=>false,fun _=>[]⟩ Tryz.func31 rfl (fun Q hQ=>?_)
 have Y:=trivial
 refine wo (h:=aB (t7 p.nodes) wl ?_)
 refine wo (h:=aK (fun hg=>t7 p.edges) (fun hg=>wl) ?_)
 exact wo (h:=hQ _ _ wy)
theorem BC:Pure Tryz.prog 17 [] (.bool true):=by
 have ht:=Hk Pg
 have hr:=LS NL
 have hA:=J7 exT ht payR hr payH G5
 have hL:=tZ exT ht payR hr payH
 rw [Vl] at hA
 rw [Vk] at hL
 have h3:=Vj
 have h4:=Vi
 have h5:=Vh
 obtain ⟨h6,h7⟩:=Vg
 generalize kH exT payR payH G5=v at *
 generalize (qM exT payR payH).1=L at *
 refine Tz.pK ⟨fun t=>t==1||t==2||t==3,fun r=>match r with|3=>[(0,8),(1,8),(2,8),(3,8),(4,8)]|_=>[]⟩ Tryz.func17 rfl (fun Q hQ=>?_)
 have Y:=wa @Stp26.c.eq_1 (wa @Rule.c.eq_1 (wa @Mat.c.eq_1 (wa @Host.c.eq_1 (wa h4 (wa h5 (wa h6 (wa h7 h3)))))))
 refine Px (h:=aI (xI) wl ?_)
 refine Px (h:=aI (FU) wl ?_)
 refine Px (h:=aI (hA.nzk (by simp [go_sem,FI,BA,payR,payH,G5,oM,Rule.d,Rule.c,Types.d,Types.c,Host.d,Host.c,Mat.d,Mat.c,Slot.c,Edge.c,cL,dLI,cI,dI,Cond.kind,Cond.kids,Cond.map,Cond.pattern,lK,i4,eE])) wl ?_)
 refine Px (h:=aI (xI) wl ?_)
 refine Px (h:=aI (FU) wl ?_)
 refine Px (h:=aI (hL.nzk (by simp [go_sem,FI,BA,payR,payH,G5,oM,Rule.d,Rule.c,Types.d,Types.c,Host.d,Host.c,Mat.d,Mat.c,Slot.c,Edge.c,cL,dLI,cI,dI,Cond.kind,Cond.kids,Cond.map,Cond.pattern,lK,i4,eE])) wl ?_)
 refine Uv (h:=aI (NI payH.graph (by decide) (by decide)) wl ?_)
 refine Uv (h:=aI (IA ⟨[0,1,2],[0,1]⟩) wl ?_)
 exact Uv (h:=hQ _ _ wy)
theorem AO (a:Mat):Pure Tryz.prog 67 [a.d,a.d] (.bool true):=by
 refine Tz.pK ⟨fun _=>false,fun _=>[]⟩ Tryz.func67 rfl (fun Q hQ=>?_)
 have Y:=wa @Mat.d.eq_1 @Mat.c.eq_1
 refine wo (h:=aB (oL a.m.nodes) wl ?_)
 refine wo (h:=aK (fun hg=>oL a.m.edges) (fun hg=>wl) ?_)
 refine wo (h:=aK (fun hg=>oL a.vars) (fun hg=>wl) ?_)
 exact wo (h:=hQ _ _ wy)
theorem x7 (l:List Mat)(hl:l.length≤1000000):Pure Tryz.prog 21 [.list (l.map Mat.c),.list (l.map Mat.c)] (.bool true):=by
 refine Tz.pK ⟨fun _=>false,fun _=>[]⟩ Tryz.func21 rfl (fun Q hQ=>?_)
 have Y:=trivial
 refine wo (h:=bB (fun i e H=>(e 0=.list (l.map Mat.c)∧e 1=.list (l.map Mat.c)∧e 5=dI i)∧(i≤l.length)) (fun i=>l.length - i) 0 ⟨wg,wi⟩ fun I0 hI0 i e H hi0=>?_)
 obtain ⟨E0,hi⟩:=hi0
 have Y:=wa Y E0
 refine dV (fun h4=>?_) fun h4=>?_
 ·have Y:=wa Y (wa h4 (wa (aA h4) @Mat.c.eq_1))
  refine wo (h:=aI ((by have hq:=AO l[i];unfold Mat.d Mat.c dLI at hq;exact hq)) wl ?_)
  exact wo (h:=wx hI0 (i+1) ⟨wg,wj⟩)
 ·have Y:=wa Y h4
  exact wv (h:=hQ _ _ wy)
theorem vM (t:Types)(h1:∀ n∈t.nodes,n.attrs.length≤1000000000000000)(r:Rule)(hr:r.le)(h:Host):Pure Tryz.prog 4 [t.d,r.d,h.d] (.bool true):=by
 obtain ⟨b,hb⟩:∃ b,b=light26 t r h:=⟨_,rfl⟩
 have hLg:=GU t h1 r hr h
 rw [← hb] at hLg
 refine Tz.pK ⟨fun _=>false,fun _=>[]⟩ Tryz.func4 rfl (fun Q hQ=>?_)
 have Y:=trivial
 refine wo (h:=aB (BC) wl ?_)
 refine wo (h:=aK (fun hg=>hLg) (fun hg=>wl) ?_)
 refine dV (fun h1=>?_) fun h1=>?_
 ·refine wv (h:=aB (BC) wl ?_)
  have Y:=wa Y h1
  exact wv (h:=hQ _ _ wy)
 ·have hO:=KJ (t:=t) (r:=r) (h:=h) (by rw [← hb];cases hbb:b<;>simp [hbb] at h1 ⊢)
  refine wv (h:=aB (tZ t hO.1 r hO.2 h) wl ?_)
  refine wv (h:=aB (AM t hO.1 r hO.2 h) wl ?_)
  refine wo (h:=aK (fun hg=>x7 (qM t r h).1 (by have:=Pw t r h;omega)) (fun hg=>wl) ?_)
  have Y:=wa Y h1
  exact wo (h:=hQ _ _ wy)
end Go.Abs
end
section
namespace Go.Proofs.YtjfaalokjnmdoaaGreat.bulks
open Go.Abs
theorem one_le {H:Type}(d:DataW H):1≤Rows.uptoBulk d:=by
 cases d with
 | lit l=>cases l<;>simp [Rows.uptoBulk]
 | _=>simp [Rows.uptoBulk]
theorem mem_le {H:Type}{d:DataW H}:∀ {l:List (DataW H)},d∈l→Rows.uptoBulk d≤Rows.uptoBulkAll l
 | [],h=>by cases h
 | x :: r,h=>by
  simp only [Rows.uptoBulkAll]
  rcases aS.1 h with rfl|h
  ·omega
  ·have:=mem_le h;omega
theorem len_le {H:Type}:∀ l:List (DataW H),l.length≤Rows.uptoBulkAll l
 | []=>by simp [Rows.uptoBulkAll]
 | x :: r=>by have:=one_le x;have:=len_le r;simp only [Rows.uptoBulkAll,eC];omega
theorem ok {H:Type}:Go.Abs.Bulk (Rows.uptoBulk (H:=H)) where
 len e s:=by have:=len_le e;simp only [Rows.uptoBulk];omega
 el e s d h:=by have:=mem_le h;simp only [Rows.uptoBulk];omega
 part l d h:=by have:=mem_le h;simp only [Rows.uptoBulk];omega
 str s:=by simp [Rows.uptoBulk]
theorem bound {H:Type}{l:List (DataW H)}(hk:Rows.uptoSmall H l=true):∀ d∈l,Rows.uptoBulk d≤1048576:=fun d hd=>by
 have h:=of_decide_eq_true hk
 have:=mem_le hd
 omega
end Go.Proofs.YtjfaalokjnmdoaaGreat.bulks
end
section
set_option maxRecDepth 100000
set_option maxHeartbeats 4000000
open Go Go.Proofs
namespace Go.Abs
section
variable {H:Type} {enc:TypeId × Value→H} {P:Program} {w:World} {base:Nat} {spare:Nat→Bool} {held:Bool} {bulk:DataW H→Nat} {B:Nat} {n:Nat} {t:TypeId}
end
section
variable {H:Type} {enc:TypeId × Value→H} {w:World} {base:Nat} {spare:Nat→Bool} {held:Bool} {bulk:DataW H→Nat} {B:Nat}
theorem V2:∀ n,Opens enc Tryz.prog w base spare held bulk B n 4 (fun b:Bool=>[D.bool b]) (fun _=>True):=fun n=>KA Tryz.underlying4
end
mutual
def Cond.bnd (B:Nat):Cond→Prop
 | .mk k l m p=>(m.nodes.length≤B∧m.edges.length≤B)∧Cond.bnds B l
def Cond.bnds (B:Nat):List Cond→Prop
 | []=>True
 | c :: l=>c.bnd B∧Cond.bnds B l
end
theorem Fi (B:Nat)(l:List Cond):Cond.bnds B l↔∀ c∈l,c.bnd B:=by
 induction l with
 | nil=>simp [Cond.bnds]
 | cons a l ih=>simp [Cond.bnds,ih]
theorem Au (B:Nat)(c:Cond):c.bnd B↔(c.map.nodes.length≤B∧c.map.edges.length≤B)∧∀ k∈c.kids,k.bnd B:=by cases c;simp [Cond.bnd,Fi,Cond.kids,Cond.map]
theorem Cond.bnd_le {B:Nat}(hB:B≤1000000000000000):∀ c:Cond,c.bnd B→c.le:=by
 refine jH fun c ih h=>?_
 obtain ⟨h1,h2⟩:=(Au B c).1 h
 exact (B0 c).2 ⟨⟨by omega,by omega⟩,fun k hk=>ih k hk (h2 k hk)⟩
def Rule.bnd (B:Nat)(x:Rule):Prop:=(x.keep.nodes.length≤B∧x.keep.edges.length≤B)∧(x.into.nodes.length≤B∧x.into.edges.length≤B)∧x.cond.bnd B
theorem Rule.bnd_le {B:Nat}(hB:B≤1000000000000000){r:Rule}(h:r.bnd B):r.le:=by
 obtain ⟨⟨h1,h2⟩,⟨h3,h4⟩,h5⟩:=h
 exact ⟨⟨by omega,by omega⟩,⟨by omega,by omega⟩,Cond.bnd_le hB _ h5⟩
section
variable {H:Type} {enc:TypeId × Value→H} {w:World} {base:Nat} {spare:Nat→Bool} {held:Bool} {bulk:DataW H→Nat} {B:Nat}
theorem Su (hB:Bulk bulk):∀ n,Opens enc Tryz.prog w base spare held bulk B n 9 cS (fun _=>True):=fun n=>(G6 hB Tryz.underlying9).map id (fun _=>rfl) (fun _ _=>trivial)
theorem FF:∀ n,Opens enc Tryz.prog w base spare held bulk B n 3 cI (fun _=>True):=fun n=>(MI Tryz.underlying3).map id (fun _=>rfl) (fun _ _=>trivial)
theorem SB (hB:Bulk bulk):∀ n,Opens enc Tryz.prog w base spare held bulk B n 184 (fun l:List ByteArray=>[D.list (l.map cS)]) (fun l=>l.length≤B∧∀ a∈l,(fun _=>True) a)
 | 0=>Opens.zero
 | n+1=>g6 hB Tryz.underlying184 (Su hB n)
theorem SA (hB:Bulk bulk):∀ n,Opens enc Tryz.prog w base spare held bulk B n 186 Attr.c (fun _=>True)
 | 0=>Opens.zero
 | n+1=>(dR hB Tryz.underlying186 (by kernel_rfl) (aX (Su hB n) (aX (FF n) (aX (FF n) (aX (SB hB n) eZ))))).map (fun p=>⟨p.1,p.2.1,p.2.2.1,p.2.2.2.1⟩) (fun p=>rfl) (fun p h=>trivial)
theorem SD (hB:Bulk bulk):∀ n,Opens enc Tryz.prog w base spare held bulk B n 181 (fun l:List Attr=>[D.list (l.map Attr.c)]) (fun l=>l.length≤B∧∀ a∈l,(fun _=>True) a)
 | 0=>Opens.zero
 | n+1=>g6 hB Tryz.underlying181 (SA hB n)
theorem SC (hB:Bulk bulk):∀ n,Opens enc Tryz.prog w base spare held bulk B n 183 NodeTy.c (fun x=>x.attrs.length≤B)
 | 0=>Opens.zero
 | n+1=>(dR hB Tryz.underlying183 (by kernel_rfl) (aX (Su hB n) (aX (FF n) (aX (V2 n) (aX (SD hB n) eZ))))).map (fun p=>⟨p.1,p.2.1,p.2.2.1,p.2.2.2.1⟩) (fun p=>rfl) (fun p h=>h.2.2.2.1.1)
theorem VA (hB:Bulk bulk):∀ n,Opens enc Tryz.prog w base spare held bulk B n 29 (fun l:List NodeTy=>[D.list (l.map NodeTy.c)]) (fun l=>l.length≤B∧∀ a∈l,(fun x=>x.attrs.length≤B) a)
 | 0=>Opens.zero
 | n+1=>g6 hB Tryz.underlying29 (SC hB n)
theorem Sz (hB:Bulk bulk):∀ n,Opens enc Tryz.prog w base spare held bulk B n 188 EdgeTy.c (fun _=>True)
 | 0=>Opens.zero
 | n+1=>(dR hB Tryz.underlying188 (by kernel_rfl) (aX (Su hB n) (aX (FF n) (aX (FF n) (aX (FF n) (aX (FF n) (aX (FF n) (aX (FF n) eZ)))))))).map (fun p=>⟨p.1,p.2.1,p.2.2.1,p.2.2.2.1,p.2.2.2.2.1,p.2.2.2.2.2.1,p.2.2.2.2.2.2.1⟩) (fun p=>rfl) (fun p h=>trivial)
theorem Vz (hB:Bulk bulk):∀ n,Opens enc Tryz.prog w base spare held bulk B n 30 (fun l:List EdgeTy=>[D.list (l.map EdgeTy.c)]) (fun l=>l.length≤B∧∀ a∈l,(fun _=>True) a)
 | 0=>Opens.zero
 | n+1=>g6 hB Tryz.underlying30 (Sz hB n)
theorem Vy (hB:Bulk bulk):∀ n,Opens enc Tryz.prog w base spare held bulk B n 32 Types.c (fun x=>x.nodes.length≤B∧x.edges.length≤B∧∀ n∈x.nodes,n.attrs.length≤B)
 | 0=>Opens.zero
 | n+1=>(dR hB Tryz.underlying32 (by kernel_rfl) (aX (VA hB n) (aX (Vz hB n) eZ))).map (fun p=>⟨p.1,p.2.1⟩) (fun p=>rfl) (fun p h=>⟨h.1.1,h.2.1.1,h.1.2⟩)
theorem MJ (hB:Bulk bulk):∀ n,Opens enc Tryz.prog w base spare held bulk B n 34 (fun l:List Int=>[D.list (l.map cI)]) (fun l=>l.length≤B∧∀ a∈l,(fun _=>True) a)
 | 0=>Opens.zero
 | n+1=>g6 hB Tryz.underlying34 (FF n)
theorem SE (hB:Bulk bulk):∀ n,Opens enc Tryz.prog w base spare held bulk B n 101 Edge.c (fun _=>True)
 | 0=>Opens.zero
 | n+1=>(dR hB Tryz.underlying101 (by kernel_rfl) (aX (FF n) (aX (FF n) (aX (FF n) eZ)))).map (fun p=>⟨p.1,p.2.1,p.2.2.1⟩) (fun p=>rfl) (fun p h=>trivial)
theorem Vx (hB:Bulk bulk):∀ n,Opens enc Tryz.prog w base spare held bulk B n 35 (fun l:List Edge=>[D.list (l.map Edge.c)]) (fun l=>l.length≤B∧∀ a∈l,(fun _=>True) a)
 | 0=>Opens.zero
 | n+1=>g6 hB Tryz.underlying35 (SE hB n)
theorem Sx (hB:Bulk bulk):∀ n,Opens enc Tryz.prog w base spare held bulk B n 37 Graph.c (fun x=>x.nodes.length≤B∧x.edges.length≤B)
 | 0=>Opens.zero
 | n+1=>(dR hB Tryz.underlying37 (by kernel_rfl) (aX (MJ hB n) (aX (Vx hB n) eZ))).map (fun p=>⟨p.1,p.2.1⟩) (fun p=>rfl) (fun p h=>⟨h.1.1,h.2.1.1⟩)
theorem Qm (hB:Bulk bulk):∀ n,Opens enc Tryz.prog w base spare held bulk B n 97 Term.c (fun _=>True)
 | 0=>Opens.zero
 | n+1=>(dR hB Tryz.underlying97 (by kernel_rfl) (aX (FF n) (aX (FF n) eZ))).map (fun p=>⟨p.1,p.2.1⟩) (fun p=>rfl) (fun p h=>trivial)
theorem Vq (hB:Bulk bulk):∀ n,Opens enc Tryz.prog w base spare held bulk B n 99 Slot.c (fun _=>True)
 | 0=>Opens.zero
 | n+1=>(dR hB Tryz.underlying99 (by kernel_rfl) (aX (FF n) (aX (FF n) (aX (Qm hB n) eZ)))).map (fun p=>⟨p.1,p.2.1,p.2.2.1⟩) (fun p=>by simp [Slot.c,Term.c,cI,dI]) (fun p h=>trivial)
theorem Vu (hB:Bulk bulk):∀ n,Opens enc Tryz.prog w base spare held bulk B n 50 (fun l:List Slot=>[D.list (l.map Slot.c)]) (fun l=>l.length≤B∧∀ a∈l,(fun _=>True) a)
 | 0=>Opens.zero
 | n+1=>g6 hB Tryz.underlying50 (Vq hB n)
theorem Sy (hB:Bulk bulk):∀ n,Opens enc Tryz.prog w base spare held bulk B n 292 Test.c (fun _=>True)
 | 0=>Opens.zero
 | n+1=>(dR hB Tryz.underlying292 (by kernel_rfl) (aX (FF n) (aX (Qm hB n) (aX (Qm hB n) eZ)))).map (fun p=>⟨p.1,p.2.1,p.2.2.1⟩) (fun p=>by simp [Test.c,Term.c,cI,dI]) (fun p h=>trivial)
theorem Vt (hB:Bulk bulk):∀ n,Opens enc Tryz.prog w base spare held bulk B n 51 (fun l:List Test=>[D.list (l.map Test.c)]) (fun l=>l.length≤B∧∀ a∈l,(fun _=>True) a)
 | 0=>Opens.zero
 | n+1=>g6 hB Tryz.underlying51 (Sy hB n)
theorem Qn (hB:Bulk bulk):∀ n,Opens enc Tryz.prog w base spare held bulk B n 53 Pattern.c (fun _=>True)
 | 0=>Opens.zero
 | n+1=>(dR hB Tryz.underlying53 (by kernel_rfl) (aX (Sx hB n) (aX (Vu hB n) (aX (FF n) (aX (Vt hB n) eZ))))).map (fun p=>⟨p.1,p.2.1,p.2.2.1,p.2.2.2.1⟩) (fun p=>by simp [Pattern.c,Graph.c,cI,dI]) (fun p h=>trivial)
theorem Vs (hB:Bulk bulk):∀ n,Opens enc Tryz.prog w base spare held bulk B n 55 Part.c (fun x=>x.nodes.length≤B∧x.edges.length≤B)
 | 0=>Opens.zero
 | n+1=>(dR hB Tryz.underlying55 (by kernel_rfl) (aX (MJ hB n) (aX (MJ hB n) eZ))).map (fun p=>⟨p.1,p.2.1⟩) (fun p=>rfl) (fun p h=>⟨h.1.1,h.2.1.1⟩)
theorem Sw (hB:Bulk bulk):∀ n,Opens enc Tryz.prog w base spare held bulk B n 56 Part.c (fun x=>x.nodes.length≤B∧x.edges.length≤B)
 | 0=>Opens.zero
 | n+1=>(dR hB Tryz.underlying56 (by kernel_rfl) (aX (MJ hB n) (aX (MJ hB n) eZ))).map (fun p=>⟨p.1,p.2.1⟩) (fun p=>rfl) (fun p h=>⟨h.1.1,h.2.1.1⟩)
theorem Sv (hB:Bulk bulk):∀ n,Opens enc Tryz.prog w base spare held bulk B n 59 Cond.c (fun c=>c.bnd B)
 | 0=>Opens.zero
 | n+1 =>
  have hk:Opens enc Tryz.prog w base spare held bulk B n 57 (fun l:List Cond=>[D.list (l.map Cond.c)]) (fun l=>l.length≤B∧∀ a∈l,Cond.bnd B a):=match n with
   | 0=>Opens.zero
   | m+1=>g6 hB Tryz.underlying57 ((Sv hB (m+1)).mono (Nat.le_succ m))
  (dR hB Tryz.underlying59 (by kernel_rfl) (aX (FF n) (aX hk (aX (Sw hB n) (aX (Qn hB n) eZ))))).map (fun p=>Cond.mk p.1 p.2.1 p.2.2.1 p.2.2.2.1) (fun p=>by simp [Cond.c,Cond.cs_eq,Part.c,Pattern.c,cI,dI]) (fun p h=>(Au B _).2 ⟨h.2.2.1,h.2.1.2⟩)
theorem Vr (hB:Bulk bulk):∀ n,Opens enc Tryz.prog w base spare held bulk B n 61 Rule.c (fun x=>(x.keep.nodes.length≤B∧x.keep.edges.length≤B)∧(x.into.nodes.length≤B∧x.into.edges.length≤B)∧x.cond.bnd B)
 | 0=>Opens.zero
 | n+1=>(dR hB Tryz.underlying61 (by kernel_rfl) (aX (Su hB n) (aX (Qn hB n) (aX (Qn hB n) (aX (Vs hB n) (aX (Sw hB n) (aX (V2 n) (aX (Sv hB n) eZ)))))))).map (fun p=>⟨p.1,p.2.1,p.2.2.1,p.2.2.2.1,p.2.2.2.2.1,p.2.2.2.2.2.1,p.2.2.2.2.2.2.1⟩) (fun p=>by simp [Rule.c,Pattern.c,Part.c,Cond.c_eq,cS,cI,dI]) (fun p h=>⟨h.2.2.2.1,h.2.2.2.2.1,h.2.2.2.2.2.2.1⟩)
theorem Vw (hB:Bulk bulk):∀ n,Opens enc Tryz.prog w base spare held bulk B n 38 (fun l:List (List Int)=>[D.list (l.map (fun l:List Int=>[D.list (l.map cI)]))]) (fun l=>l.length≤B∧∀ a∈l,(fun l=>l.length≤B∧∀ a∈l,(fun _=>True) a) a)
 | 0=>Opens.zero
 | n+1=>g6 hB Tryz.underlying38 (MJ hB n)
theorem Vv (hB:Bulk bulk):∀ n,Opens enc Tryz.prog w base spare held bulk B n 40 Host.c (fun _=>True)
 | 0=>Opens.zero
 | n+1=>(dR hB Tryz.underlying40 (by kernel_rfl) (aX (Sx hB n) (aX (Vw hB n) eZ))).map (fun p=>⟨p.1,p.2.1⟩) (fun p=>rfl) (fun p h=>trivial)
end
end Go.Abs
end
