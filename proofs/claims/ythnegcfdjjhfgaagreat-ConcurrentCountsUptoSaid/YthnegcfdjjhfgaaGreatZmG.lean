/- Layer 1: names. · Layer 1, the reference: names. · Layer 4:  -/
import Derived.Test.YthnegcfdjjhfgaaGreatZmF
import Derived.Laws.Externs
import Derived.WalkKit
set_option linter.unusedVariables false
set_option linter.unusedSimpArgs false
section
set_option maxRecDepth 4000
open Go Go.Proofs
namespace Go.Abs
def isLetter (c : Int) : Bool := decide (97 ≤ c) && decide (c ≤ 122) || (decide (65 ≤ c) && decide (c ≤ 90))
def isDigit (c : Int) : Bool := decide (48 ≤ c) && decide (c ≤ 57)
def isPart (c : Int) : Bool := isLetter c || isDigit c || c == 95
theorem token_letter (c : Int) : Pure Tryz.prog 228 [.int .u8 c] (.bool (isLetter c)) := by
  refine pure_of_calls (acalls_of_body (cfg := ⟨fun _ => false, fun _ => []⟩) Tz.mixed Tryz.func228 rfl rfl (nlb rfl) (by kernel_rfl) ?_)
  simp [go_sem, seval, isLetter, D.cl]
  omega
theorem token_digit (c : Int) : Pure Tryz.prog 231 [.int .u8 c] (.bool (isDigit c)) := by
  refine pure_of_calls (acalls_of_body (cfg := ⟨fun _ => false, fun _ => []⟩) Tz.mixed Tryz.func231 rfl rfl (nlb rfl) (by kernel_rfl) ?_)
  simp [go_sem, seval, isDigit, D.cl]
theorem token_part (c : Int) : Pure Tryz.prog 230 [.int .u8 c] (.bool (isPart c)) := by
  refine pure_of_calls (acalls_of_body (cfg := ⟨fun _ => false, fun _ => []⟩) Tz.mixed Tryz.func230 rfl rfl (nlb rfl) (by kernel_rfl) ?_)
  simp [go_sem, seval]
  refine callQ_pure0 (token_letter c) rfl ?_
  simp [go_sem, seval]
  refine gcallQ_pure0 (fun _ => token_digit c) (fun _ => rfl) ?_
  simp [go_sem, seval, isPart, D.cl]
def bAt (s : ByteArray) (i : Nat) : Int := ((s.data[i]?.getD 0).toNat : Int)
def runLen (p : Int → Bool) (s : ByteArray) : Nat := (s.data.toList.takeWhile fun b => p (b.toNat : Int)).length
theorem takeWhile_len {α : Type} (p : α → Bool) : ∀ (l : List α) (n : Nat), (∀ j x, j < n → l[j]? = some x → p x = true) → n ≤ l.length → (∀ x, l[n]? = some x → p x = false) → (l.takeWhile p).length = n
  | [], n, _, h, _ => by simp at h; subst h; rfl
  | a :: l, 0, _, _, h => by have := h a rfl; simp [List.takeWhile, this]
  | a :: l, n + 1, h1, h2, h3 => by
    have ha := h1 0 a (by omega) rfl
    simp only [List.takeWhile, ha, List.length_cons]
    rw [takeWhile_len p l n (fun j x hj hx => h1 (j + 1) x (by omega) hx) (by simpa using h2) fun x hx => h3 x hx]
theorem runLen_eq (p : Int → Bool) (s : ByteArray) (n : Nat) (h1 : ∀ j, j < n → p (bAt s j) = true) (h2 : n ≤ s.size) (h3 : n < s.size → p (bAt s n) = false) : runLen p s = n := by
  have hl : s.data.toList.length = s.size := rfl
  have hb : ∀ j x, s.data.toList[j]? = some x → bAt s j = (x.toNat : Int) := fun j x hx => by
    simp only [Array.getElem?_toList] at hx
    simp [bAt, hx]
  refine takeWhile_len _ _ _ (fun j x hj hx => by rw [← hb j x hx]; exact h1 j hj) (by rw [hl]; exact h2) fun x hx => ?_
  rw [← hb n x hx]
  refine h3 ?_
  rw [← hl]
  exact (List.getElem?_eq_some_iff.1 hx).1
theorem bAt_range (s : ByteArray) (i : Nat) : 0 ≤ bAt s i ∧ bAt s i ≤ 255 := by
  unfold bAt
  have := (s.data[i]?.getD 0).toNat_lt
  omega
theorem token_run (s : ByteArray) (g : FuncId) (p : Int → Bool) (hs : s.size ≤ 1000000) (hg : ∀ c, 0 ≤ c → c ≤ 255 → Pure Tryz.prog g [.int .u8 c] (.bool (p c))) :
    Pure Tryz.prog 229 [.str s, .fn g []] (dI (runLen p s)) := by
  refine pure_of_calls (acalls_of_body (cfg := ⟨fun _ => false, fun _ => []⟩) Tz.mixed Tryz.func229 rfl rfl (nlb rfl) (by kernel_rfl) ?_)
  simp [go_sem, seval]
  refine loop_rule (ι := Nat) (fun n e H => H = .emp ∧ n ≤ s.size ∧ e 0 = .str s ∧ e 1 = .fn g [] ∧ e 5 = dI n ∧ (∀ j, j < n → p (bAt s j) = true)) (fun n => s.size - n) 0 (by simp [go_sem, seval, dI]) ?_
  intro n e H ⟨hH, hn, h0, h1, h5, hp⟩
  subst hH
  simp [go_sem, seval, h0, h1, h5, dI]
  have hb := bAt_range s n
  refine gcallQ_pure0 (r := .bool (p (bAt s n))) (fun _ => hg _ hb.1 hb.2) (fun _ => rfl) ?_
  simp [go_sem, seval, h0, h1, h5, dI]
  refine condQ_mk (fun h => ?_) (fun h => ?_)
  · simp at h
    simp [go_sem, seval, h0, h1, h5, dI]
    refine ⟨inR_i64 (by omega) (by omega), n + 1, by omega, by omega, by omega, fun j hj => ?_⟩
    rcases Nat.lt_or_ge j n with hj' | hj'
    · exact hp j hj'
    · have : j = n := by omega
      subst this; exact h.2
  · simp at h
    simp [go_sem, seval, h0, h1, h5, dI, D.cl]
    rw [runLen_eq p s n hp hn h]
def idx {α : Type} [DecidableEq α] (xs : List α) (v : α) : Int := match xs.findIdx? (fun x => decide (x = v)) with | some i => i | none => -1
def mem {α : Type} [DecidableEq α] (xs : List α) (v : α) : Bool := decide (0 ≤ idx xs v)
theorem idx_some {α : Type} [DecidableEq α] {xs : List α} {v : α} {i : Nat} (h : ∀ j, j < i → xs[j]? ≠ some v) (hi : xs[i]? = some v) : idx xs v = i := by
  have : xs.findIdx? (fun x => decide (x = v)) = some i := by
    have hlt := (List.getElem?_eq_some_iff.1 hi).1
    rw [List.findIdx?_eq_some_iff_getElem]
    refine ⟨hlt, by simpa using (List.getElem?_eq_some_iff.1 hi).2, fun j hj => ?_⟩
    have := h j hj
    rw [lge (by omega)] at this
    simpa using this
  simp [idx, this]
theorem idx_none {α : Type} [DecidableEq α] {xs : List α} {v : α} (h : ∀ j, j < xs.length → xs[j]? ≠ some v) : idx xs v = -1 := by
  have : xs.findIdx? (fun x => decide (x = v)) = none := by
    rw [List.findIdx?_eq_none_iff]
    intro x hx
    obtain ⟨j, hj, rfl⟩ := List.getElem_of_mem hx
    have := h j hj
    rw [lge hj] at this
    simpa using this
  simp [idx, this]
theorem idx_mem {α : Type} [DecidableEq α] (xs : List α) (v : α) : 0 ≤ idx xs v ↔ v ∈ xs := by
  unfold idx
  cases h : xs.findIdx? (fun x => decide (x = v)) with
  | none =>
    rw [List.findIdx?_eq_none_iff] at h
    constructor
    · intro h'; simp at h'
    · intro hv; have := h v hv; simp at this
  | some i =>
    rw [List.findIdx?_eq_some_iff_getElem] at h
    obtain ⟨hi, hv, _⟩ := h
    have : xs[i] = v := by simpa using hv
    constructor
    · intro _; rw [← this]; exact lgm hi
    · intro _; simp
theorem mem_iff {α : Type} [DecidableEq α] (xs : List α) (v : α) : mem xs v = true ↔ v ∈ xs := by simp [mem, idx_mem]
theorem index_str (xs : List ByteArray) (v : ByteArray) : Pure Tryz.prog 300 [dLS xs, .str v] (dI (idx xs v)) := by
  refine pure_of_calls (acalls_of_body (cfg := ⟨fun _ => false, fun _ => []⟩) Tz.mixed Tryz.func300 rfl rfl (nlb rfl) (by kernel_rfl) ?_)
  simp [go_sem, seval, dI, dLS]
  intro hlen
  refine loop_rule (ι := Nat) (fun i e H => H = .emp ∧ i ≤ xs.length ∧ e 0 = dLS xs ∧ e 1 = .str v ∧ e 7 = dI xs.length ∧ e 8 = dI i ∧ (∀ j, j < i → xs[j]? ≠ some v)) (fun i => xs.length - i) 0 (by simp [go_sem, seval, dI, dLS]) ?_
  intro i e H ⟨hH, hi, h0, h1, h7, h8, hn⟩
  subst hH
  simp [go_sem, seval, h0, h1, h7, h8, dI, dLS]
  refine condQ_dec (fun hlt => ?_) (fun hge => ?_)
  · simp [go_sem, seval, h0, h1, h7, h8, dI, dLS, cS, hlt]
    refine condQ_mk (fun h => ?_) (fun h => ?_)
    · simp at h
      simp [go_sem, seval, h0, h1, h7, h8, dI, dLS, D.cl]
      rw [idx_some hn (by rw [lge hlt, h])]
    · simp at h
      simp [go_sem, seval, h0, h1, h7, h8, dI, dLS, D.cl]
      refine ⟨inR_i64 (by omega) (by omega), i + 1, by omega, by omega, by omega, fun j hj => ?_⟩
      rcases Nat.lt_or_ge j i with hj' | hj'
      · exact hn j hj'
      · have : j = i := by omega
        subst this; rw [lge hlt]; simpa using fun e => h e.symm
  · simp [go_sem, seval, h0, h1, h7, h8, dI, dLS, D.cl]
    rw [idx_none fun j hj => hn j (by omega)]
theorem contains_str (xs : List ByteArray) (v : ByteArray) : Pure Tryz.prog 275 [dLS xs, .str v] (.bool (mem xs v)) := by
  refine pure_of_calls (acalls_of_body (cfg := ⟨fun _ => false, fun _ => []⟩) Tz.mixed Tryz.func275 rfl rfl (nlb rfl) (by kernel_rfl) ?_)
  simp [go_sem, seval]
  refine callQ_pure0 (index_str xs v) (by simp [D.clL, go_sem, D.cl, dI]) ?_
  simp [go_sem, seval, D.cl, dI, mem]
theorem index_int (xs : List Int) (v : Int) : Pure Tryz.prog 135 [dLI xs, dI v] (dI (idx xs v)) := by
  refine pure_of_calls (acalls_of_body (cfg := ⟨fun _ => false, fun _ => []⟩) Tz.mixed Tryz.func135 rfl rfl (nlb rfl) (by kernel_rfl) ?_)
  simp [go_sem, seval, dI, dLI]
  intro hlen
  refine loop_rule (ι := Nat) (fun i e H => H = .emp ∧ i ≤ xs.length ∧ e 0 = dLI xs ∧ e 1 = dI v ∧ e 7 = dI xs.length ∧ e 8 = dI i ∧ (∀ j, j < i → xs[j]? ≠ some v)) (fun i => xs.length - i) 0 (by simp [go_sem, seval, dI, dLI]) ?_
  intro i e H ⟨hH, hi, h0, h1, h7, h8, hn⟩
  subst hH
  simp [go_sem, seval, h0, h1, h7, h8, dI, dLI]
  refine condQ_dec (fun hlt => ?_) (fun hge => ?_)
  · simp [go_sem, seval, h0, h1, h7, h8, dI, dLI, cI, hlt]
    refine condQ_mk (fun h => ?_) (fun h => ?_)
    · simp at h
      simp [go_sem, seval, h0, h1, h7, h8, dI, dLI, D.cl]
      rw [idx_some hn (by rw [lge hlt, h])]
    · simp at h
      simp [go_sem, seval, h0, h1, h7, h8, dI, dLI, D.cl]
      refine ⟨inR_i64 (by omega) (by omega), i + 1, by omega, by omega, by omega, fun j hj => ?_⟩
      rcases Nat.lt_or_ge j i with hj' | hj'
      · exact hn j hj'
      · have : j = i := by omega
        subst this; rw [lge hlt]; simpa using fun e => h e.symm
  · simp [go_sem, seval, h0, h1, h7, h8, dI, dLI, D.cl]
    rw [idx_none fun j hj => hn j (by omega)]
theorem contains_int (xs : List Int) (v : Int) : Pure Tryz.prog 172 [dLI xs, dI v] (.bool (mem xs v)) := by
  refine pure_of_calls (acalls_of_body (cfg := ⟨fun _ => false, fun _ => []⟩) Tz.mixed Tryz.func172 rfl rfl (nlb rfl) (by kernel_rfl) ?_)
  simp [go_sem, seval]
  refine callQ_pure0 (index_int xs v) (by simp [D.clL, go_sem, D.cl, dI]) ?_
  simp [go_sem, seval, D.cl, dI, mem]
def notQuote (c : Int) : Bool := decide (32 ≤ c) && decide (c ≤ 126) && c != 34
theorem token_quoted1 (c : Int) : Pure Tryz.prog 276 [.int .u8 c] (.bool (notQuote c)) := by
  refine pure_of_calls (acalls_of_body (cfg := ⟨fun _ => false, fun _ => []⟩) Tz.mixed Tryz.func276 rfl rfl (nlb rfl) (by kernel_rfl) ?_)
  simp [go_sem, seval, notQuote, D.cl]
def quotedF (s : ByteArray) : Int × Int :=
  let n := runLen notQuote (s.extract 1 s.size)
  if (1 + (n : Int) = s.size) ∨ bAt s (1 + n) ≠ 34 then (0, 2) else if 60 < n then (0, 3) else (n + 2, 0)
theorem runLen_le (p : Int → Bool) (s : ByteArray) : runLen p s ≤ s.size := by
  have := (List.takeWhile_sublist (l := s.data.toList) (fun b : UInt8 => p (b.toNat : Int))).length_le
  exact this
theorem token_quoted (s : ByteArray) (h1 : 1 ≤ s.size) (h2 : s.size ≤ 100000) : Pure Tryz.prog 232 [.str s] (.tup [dI (quotedF s).1, dI (quotedF s).2]) := by
  refine pure_of_calls (acalls_of_body (cfg := ⟨fun _ => false, fun _ => []⟩) Tz.mixed Tryz.func232 rfl rfl (nlb rfl) (by kernel_rfl) ?_)
  simp [go_sem, seval, h1]
  have hx : (s.extract 1 s.size).size ≤ 1000000 := by rw [ByteArray.size_extract]; omega
  refine ⟨by omega, callQ_pure0 (token_run (s.extract 1 s.size) _ _ hx (fun c _ _ => token_quoted1 c)) rfl ?_⟩
  have hl := runLen_le notQuote (s.extract 1 s.size)
  rw [ByteArray.size_extract] at hl
  simp [go_sem, seval, dI]
  unfold quotedF
  generalize runLen notQuote (s.extract 1 s.size) = n at *
  have hb : ((s.data[(1 + (n : Int)).toNat]?.getD 0).toNat : Int) = bAt s (1 + n) := by
    unfold bAt; congr 3
  rw [hb]
  refine ⟨inR_i64 (by omega) (by omega), fun _ => inR_i64 (by omega) (by omega), fun h => by omega, condQ_mk (fun h => ?_) (fun h => ?_)⟩
  · simp at h
    simp [go_sem, seval, h]
  · simp at h
    simp [go_sem, seval, h]
    refine condQ_mk (fun h6 => ?_) (fun h6 => ?_)
    · simp at h6
      simp [go_sem, seval, show 60 < n by omega]
    · simp at h6
      simp [go_sem, seval, show ¬ 60 < n by omega]
      exact inR_i64 (by omega) (by omega)
def pairs : List ByteArray := [⟨#[45, 62]⟩, ⟨#[60, 61]⟩, ⟨#[62, 61]⟩, ⟨#[61, 61]⟩, ⟨#[33, 61]⟩]
theorem token_pair (s : ByteArray) : Pure Tryz.prog 233 [.str s] (.bool (decide ((2 : Int) ≤ s.size) && mem pairs (s.extract 0 2))) := by
  refine pure_of_calls (acalls_of_body (cfg := ⟨fun _ => false, fun _ => []⟩) Tz.mixed Tryz.func233 rfl rfl (nlb rfl) (by kernel_rfl) ?_)
  simp [go_sem, seval]
  refine gcallQ_pure0 (r := .bool (mem pairs (s.extract 0 2))) (fun _ => contains_str pairs (s.extract 0 2)) (fun _ => rfl) ?_
  simp [go_sem, seval]
def singles : ByteArray := ⟨#[123, 125, 40, 41, 91, 93, 44, 59, 58, 61, 43, 45, 42, 60, 62, 33, 38, 124, 46, 63]⟩
def idxByte (s : ByteArray) (c : Int) : Int := firstIdx s c.toNat.toUInt8
theorem bytealg_run (s : ByteArray) (c : Int) (w : World) : (callFunc 301 #[.string s, .int .u8 c]).run Tryz.prog w = .ok (.value (.int .i64 (firstIdx s c.toNat.toUInt8))) w := by
  rw [run_callFunc_extern Tryz.func301 (by kernel_rfl) (by kernel_rfl) (by kernel_rfl) (e := Extern.BytealgIndexByte.indexByte) (by kernel_rfl), run_indexByte_string]
  rfl
set_option maxHeartbeats 400000 in
open RowKit in
theorem stringslite_calls (s : ByteArray) (c : Int) (w : World) :
    Calls Tryz.prog 277 #[.string s, .int .u8 c] w fun e w' => e = .returned (.int .i64 (firstIdx s c.toNat.toUInt8)) ∧ w' = w := by
  have h := bytealg_run s c
  go_enter Tryz.func277, Tryz.ntmps277
  go_wp2
  go_ret
  exact ⟨rfl, rfl⟩
theorem stringslite_IndexByte (s : ByteArray) (c : Int) : Pure Tryz.prog 277 [.str s, .int .u8 c] (dI (idxByte s c)) := by
  refine ⟨⟨Tryz.f277, Tryz.func277, rfl, rfl⟩, fun M w vals hM ha => ?_⟩
  have hv : vals = [.string s, .int .u8 c] := by
    obtain ⟨hl, hr⟩ := ha
    match vals, hl with
    | [a, b], _ =>
      have h0 := hr 0 a _ rfl rfl
      have h1 := hr 1 b _ rfl rfl
      cases h0
      cases h1
      rfl
  subst hv
  exact (stringslite_calls s c w).mono fun e w' ⟨h1, h2⟩ => ⟨_, h1, .int _ _, by subst h2; exact ⟨rfl, rfl, rfl, Nat.le_refl _, fun _ _ => rfl⟩⟩
theorem strings_IndexByte (s : ByteArray) (c : Int) : Pure Tryz.prog 234 [.str s, .int .u8 c] (dI (idxByte s c)) := by
  refine pure_of_calls (acalls_of_body (cfg := ⟨fun _ => false, fun _ => []⟩) Tz.mixed Tryz.func234 rfl rfl (nlb rfl) (by kernel_rfl) ?_)
  simp [go_sem, seval]
  refine callQ_pure0 (stringslite_IndexByte s c) rfl ?_
  simp [go_sem, seval, dI]
def nextF (s : ByteArray) : Int × Int × Int :=
  if isLetter (bAt s 0) = true then (if 20 < runLen isPart s then (0, 0, 3) else (1, runLen isPart s, 0))
  else if isDigit (bAt s 0) = true then (if 9 < runLen isDigit s then (0, 0, 3) else (2, runLen isDigit s, 0))
  else if bAt s 0 = 34 then (3, (quotedF s).1, (quotedF s).2)
  else if (decide ((2 : Int) ≤ s.size) && mem pairs (s.extract 0 2)) = true then (4, 2, 0)
  else if 0 ≤ idxByte singles (bAt s 0) then (4, 1, 0) else (0, 0, 2)
theorem token_next (s : ByteArray) (h1 : 1 ≤ s.size) (h2 : s.size ≤ 100000) : Pure Tryz.prog 157 [.str s] (.tup [dI (nextF s).1, dI (nextF s).2.1, dI (nextF s).2.2]) := by
  refine pure_of_calls (acalls_of_body (cfg := ⟨fun _ => false, fun _ => []⟩) Tz.mixed Tryz.func157 rfl rfl (nlb rfl) (by kernel_rfl) ?_)
  simp [go_sem, seval]
  have hb : ((s.data[0]?.getD 0).toNat : Int) = bAt s 0 := rfl
  simp only [hb]
  refine ⟨by omega, callQ_pure0 (token_letter _) rfl ?_⟩
  simp [go_sem, seval]
  refine condQ_mk (fun hl => ?_) (fun hl => ?_)
  · simp [go_sem, seval]
    refine callQ_pure0 (token_run s _ _ (by omega) (fun c _ _ => token_part c)) rfl ?_
    simp [go_sem, seval, dI]
    refine condQ_mk (fun h => ?_) (fun h => ?_)
    · simp at h
      simp [go_sem, seval, nextF, hl, show 20 < runLen isPart s by omega]
    · simp at h
      simp [go_sem, seval, nextF, hl, show ¬ 20 < runLen isPart s by omega]
  · simp [go_sem, seval]
    refine callQ_pure0 (token_digit _) rfl ?_
    simp [go_sem, seval]
    refine condQ_mk (fun hd => ?_) (fun hd => ?_)
    · simp [go_sem, seval]
      refine callQ_pure0 (token_run s _ _ (by omega) (fun c _ _ => token_digit c)) rfl ?_
      simp [go_sem, seval, dI]
      refine condQ_mk (fun h => ?_) (fun h => ?_)
      · simp at h
        simp [go_sem, seval, nextF, hl, hd, show 9 < runLen isDigit s by omega]
      · simp at h
        simp [go_sem, seval, nextF, hl, hd, show ¬ 9 < runLen isDigit s by omega]
    · simp [go_sem, seval]
      refine condQ_mk (fun hq => ?_) (fun hq => ?_)
      · simp at hq
        simp [go_sem, seval]
        refine callQ_pure0 (token_quoted s h1 h2) rfl ?_
        have e : nextF s = (3, (quotedF s).1, (quotedF s).2) := by unfold nextF; rw [if_neg (by simp [hl]), if_neg (by simp [hd]), if_pos hq]
        simp [go_sem, seval, dI, e]
      · simp at hq
        simp [go_sem, seval]
        refine callQ_pure0 (token_pair s) rfl ?_
        simp [go_sem, seval]
        refine condQ_mk (fun hp => ?_) (fun hp => ?_)
        · simp [go_sem, seval, nextF, hl, hd, hq, hp, dI]
        · simp [go_sem, seval]
          refine callQ_pure0 (strings_IndexByte singles _) rfl ?_
          simp [go_sem, seval, dI]
          refine condQ_dec (fun hi => ?_) (fun hi => ?_)
          · simp [go_sem, seval, nextF, hl, hd, hq, hp, hi]
          · simp [go_sem, seval, nextF, hl, hd, hq, hp, hi]
def isName (s : ByteArray) : Bool := decide (s.size ≠ 0) && isLetter (bAt s 0) && decide (runLen isPart s ≤ 20) && decide (runLen isPart s = s.size)
theorem size_zero_iff (s : ByteArray) : s = ⟨#[]⟩ ↔ s.size = 0 := by
  constructor
  · intro h; subst h; rfl
  · intro h
    cases s with
    | mk d => congr 1; exact Array.size_eq_zero_iff.1 h
theorem next_name (s : ByteArray) (hz : ¬ s.size = 0) : (decide ((nextF s).2.2 = 0) && decide ((nextF s).1 = 1) && (nextF s).2.1 == (s.size : Int)) = isName s := by
  unfold nextF isName
  by_cases hl : isLetter (bAt s 0) = true
  · simp only [if_pos hl, hl]
    by_cases h : 20 < runLen isPart s
    · simp [h]; intros; omega
    · simp [h, hz, show runLen isPart s ≤ 20 by omega]
      rw [bei]; simp; omega
  · simp only [if_neg hl]
    have hl' : isLetter (bAt s 0) = false := by simpa using hl
    simp only [hl']
    repeat' split
    all_goals simp
theorem token_whole (s : ByteArray) (h2 : s.size ≤ 100000) : ∃ s', Pure Tryz.prog 78 [.agg [dI 1, .str s, dI 0]] (.tup [.str s', .bool (isName s)]) := by
  by_cases hz : s.size = 0
  · refine ⟨⟨#[]⟩, pure_of_calls (acalls_of_body (cfg := ⟨fun _ => false, fun _ => []⟩) Tz.mixed Tryz.func78 rfl rfl (nlb rfl) (by kernel_rfl) ?_)⟩
    simp [go_sem, seval, dI]
    refine condQ_mk (fun h => ?_) (fun h => ?_)
    · simp [go_sem, seval, isName, hz]
    · simp [size_zero_iff, hz] at h
  · refine ⟨s, pure_of_calls (acalls_of_body (cfg := ⟨fun _ => false, fun _ => []⟩) Tz.mixed Tryz.func78 rfl rfl (nlb rfl) (by kernel_rfl) ?_)⟩
    simp [go_sem, seval, dI]
    refine condQ_mk (fun h => ?_) (fun h => ?_)
    · simp [size_zero_iff, hz] at h
    · simp [go_sem, seval]
      refine callQ_pure0 (token_next s (by omega) h2) rfl ?_
      simp [go_sem, seval, dI]
      exact next_name s hz
theorem token_IsName (s : ByteArray) (h2 : s.size ≤ 100000) : Pure Tryz.prog 36 [.str s] (.bool (isName s)) := by
  obtain ⟨s', hw⟩ := token_whole s h2
  refine pure_of_calls (acalls_of_body (cfg := ⟨fun _ => false, fun _ => []⟩) Tz.mixed Tryz.func36 rfl rfl (nlb rfl) (by kernel_rfl) ?_)
  simp [go_sem, seval, dI]
  refine callQ_pure0 hw rfl ?_
  simp [go_sem, seval, dI]
end Go.Abs
end
section
set_option maxRecDepth 4000
open Go Go.Proofs
namespace Go.Abs
theorem ref01_letter (c : Int) : Pure Tryz.prog 287 [.int .u8 c] (.bool (isLetter c)) := by
  refine pure_of_calls (acalls_of_body (cfg := ⟨fun _ => false, fun _ => []⟩) Tz.mixed Tryz.func287 rfl rfl (nlb rfl) (by kernel_rfl) ?_)
  simp [go_sem, seval, isLetter, D.cl]
  try omega
theorem ref01_digit (c : Int) : Pure Tryz.prog 288 [.int .u8 c] (.bool (isDigit c)) := by
  refine pure_of_calls (acalls_of_body (cfg := ⟨fun _ => false, fun _ => []⟩) Tz.mixed Tryz.func288 rfl rfl (nlb rfl) (by kernel_rfl) ?_)
  simp [go_sem, seval, isDigit, D.cl]
def runP (digits : Bool) (c : Int) : Bool := isDigit c || (!digits && (isLetter c || c == 95))
theorem ref01_run (s : ByteArray) (dg : Bool) (hs : s.size ≤ 1000000) : Pure Tryz.prog 289 [.str s, dI 0, .bool dg] (dI (runLen (runP dg) s)) := by
  refine pure_of_calls (acalls_of_body (cfg := ⟨fun _ => false, fun _ => []⟩) Tz.mixed Tryz.func289 rfl rfl (nlb rfl) (by kernel_rfl) ?_)
  simp [go_sem, seval, dI]
  refine loop_rule (ι := Nat) (fun n e H => H = .emp ∧ n ≤ s.size ∧ e 0 = .str s ∧ e 1 = dI 0 ∧ e 2 = .bool dg ∧ e 7 = dI n ∧ (∀ j, j < n → runP dg (bAt s j) = true)) (fun n => s.size - n) 0 (by simp [go_sem, seval, dI]) ?_
  intro n e H ⟨hH, hn, h0, h1, h2, h7, hp⟩
  subst hH
  have hb : ((s.data[n]?.getD 0).toNat : Int) = bAt s n := rfl
  simp [go_sem, seval, h0, h1, h2, h7, dI, hb]
  refine ⟨inR_i64 (by omega) (by omega), fun _ => inR_i64 (by omega) (by omega), gcallQ_pure0 (fun _ => ref01_digit _) (fun _ => rfl) ?_⟩
  simp [go_sem, seval, h0, h1, h2, h7, dI, hb]
  refine ⟨fun _ _ _ => inR_i64 (by omega) (by omega), fun h _ _ => h, gcallQ_pure0 (fun _ => ref01_letter _) (fun _ => rfl) ?_⟩
  simp [go_sem, seval, h0, h1, h2, h7, dI, hb]
  refine ⟨fun _ _ _ _ => inR_i64 (by omega) (by omega), fun h _ _ _ => h, fun a b c d => ⟨⟨⟨a, b⟩, c⟩, d⟩, fun a b c => ⟨⟨a, b⟩, c⟩, fun a b => ⟨a, b⟩, condQ_mk (fun h => ?_) (fun h => ?_)⟩
  · have hr : n < s.size ∧ runP dg (bAt s n) = true := by simpa [runP] using h
    simp [go_sem, seval, h0, h1, h2, h7, dI]
    refine ⟨inR_i64 (by omega) (by omega), n + 1, by omega, by omega, by omega, fun j hj => ?_⟩
    rcases Nat.lt_or_ge j n with hj' | hj'
    · exact hp j hj'
    · have : j = n := by omega
      subst this; exact hr.2
  · have hr : n < s.size → runP dg (bAt s n) = false := by
      intro hlt
      simp [hlt] at h
      simp [runP]
      exact h
    simp [go_sem, seval, h0, h1, h2, h7, dI]
    rw [runLen_eq _ s n hp hn hr]
theorem first_bad (p : Nat → Bool) (n : Nat) : ∀ d k, k + d = n → (∀ j, 1 ≤ j → j < k → p j = true) → 1 ≤ k → ∃ k, 1 ≤ k ∧ k ≤ n ∧ (∀ j, 1 ≤ j → j < k → p j = true) ∧ (k < n → p k = false)
  | 0, k, h, hp, h1 => ⟨k, h1, by omega, hp, fun h => by omega⟩
  | d + 1, k, h, hp, h1 => by
    cases hk : p k with
    | false => exact ⟨k, h1, by omega, hp, fun _ => hk⟩
    | true =>
      refine first_bad p n d (k + 1) (by omega) (fun j hj hlt => ?_) (by omega)
      rcases Nat.lt_or_ge j k with h | h
      · exact hp j hj h
      · have : j = k := by omega
        subst this; exact hk
theorem ref01_quoted (s : ByteArray) (h1 : 1 ≤ s.size) (hs : s.size ≤ 1000000) : ∃ n : Int, 0 ≤ n ∧ n ≠ 1 ∧ n ≤ s.size ∧ Pure Tryz.prog 290 [.str s, dI 0] (dI n) := by
  obtain ⟨k, hk1, hk2, hk3, hk4⟩ := first_bad (fun j => notQuote (bAt s j)) s.size (s.size - 1) 1 (by omega) (fun j h h' => by omega) (by omega)
  refine ⟨if k < s.size ∧ bAt s k = 34 then k + 1 else 0, by split <;> omega, by split <;> omega, by split <;> omega, pure_of_calls (acalls_of_body (cfg := ⟨fun _ => false, fun _ => []⟩) Tz.mixed Tryz.func290 rfl rfl (nlb rfl) (by kernel_rfl) ?_)⟩
  simp [go_sem, seval, dI]
  refine loop_rule (ι := Nat) (fun n e H => H = .emp ∧ 1 ≤ n ∧ n ≤ k ∧ e 0 = .str s ∧ e 1 = dI 0 ∧ e 5 = dI n) (fun n => s.size - n) 1 (by simp [go_sem, seval, dI]; omega) ?_
  intro n e H ⟨hH, hn1, hn, h0, h1, h5⟩
  subst hH
  have hb : ((s.data[n]?.getD 0).toNat : Int) = bAt s n := rfl
  simp [go_sem, seval, h0, h1, h5, dI, hb]
  refine ⟨inR_i64 (by omega) (by omega), condQ_mk (fun hlt => ?_) (fun hge => ?_)⟩
  · simp at hlt
    simp [go_sem, seval, h0, h1, h5, dI, hb]
    refine ⟨inR_i64 (by omega) (by omega), hlt, condQ_mk (fun hq => ?_) (fun hq => ?_)⟩
    · simp at hq
      have hnk : n = k := by
        rcases Nat.lt_or_ge n k with h | h
        · have := hk3 n hn1 h; simp [notQuote, hq] at this
        · omega
      subst hnk
      simp [go_sem, seval, h0, h1, h5, dI]
      exact ⟨inR_i64 (by omega) (by omega), fun h => absurd hq (h hlt)⟩
    · simp at hq
      simp [go_sem, seval, h0, h1, h5, dI]
      refine condQ_mk (fun hc => ?_) (fun hc => ?_)
      · simp at hc
        have hnk : n = k := by
          rcases Nat.lt_or_ge n k with h | h
          · have := hk3 n hn1 h; simp [notQuote] at this; omega
          · omega
        subst hnk
        simp [go_sem, seval, h0, h1, h5, dI]
        omega
      · simp at hc
        have hnk : n < k := by
          rcases Nat.lt_or_ge n k with h | h
          · exact h
          · have hh : n = k := by omega
            subst hh
            have := hk4 hlt; simp [notQuote] at this; omega
        simp [go_sem, seval, h0, h1, h5, dI]
        exact ⟨inR_i64 (by omega) (by omega), n + 1, by omega, by omega, by omega, by omega⟩
  · simp at hge
    simp [go_sem, seval, h0, h1, h5, dI]
    omega
def signs : List ByteArray := pairs ++ [⟨#[123]⟩, ⟨#[125]⟩, ⟨#[40]⟩, ⟨#[41]⟩, ⟨#[91]⟩, ⟨#[93]⟩, ⟨#[44]⟩, ⟨#[59]⟩, ⟨#[58]⟩, ⟨#[61]⟩, ⟨#[43]⟩, ⟨#[45]⟩, ⟨#[42]⟩, ⟨#[60]⟩, ⟨#[62]⟩, ⟨#[33]⟩, ⟨#[38]⟩, ⟨#[124]⟩, ⟨#[46]⟩, ⟨#[63]⟩]
theorem ref01_signs : Pure Tryz.prog 291 [] (dLS signs) := by
  refine pure_of_calls (acalls_of_body (cfg := ⟨fun _ => false, fun _ => []⟩) Tz.mixed Tryz.func291 rfl rfl (nlb rfl) (by kernel_rfl) ?_)
  simp [go_sem, seval, dLS, cS, pairs, signs]
theorem ref01_text (s : ByteArray) : Pure Tryz.prog 254 [.agg [dI 1, .str s, dI 0]] (.str s) := by
  refine pure_of_calls (acalls_of_body (cfg := ⟨fun _ => false, fun _ => []⟩) Tz.mixed Tryz.func254 rfl rfl (nlb rfl) (by kernel_rfl) ?_)
  simp [go_sem, seval, dI]
theorem runP_false : runP false = isPart := by
  funext c
  simp [runP, isPart, Bool.or_assoc, Bool.or_comm, Bool.or_left_comm]
def signAt (s l : ByteArray) : Bool := decide ((l.size : Int) ≤ s.size) && decide (s.extract 0 l.size = l)
def oneF (q : Int) (s : ByteArray) : Int × ByteArray × Int × Int :=
  if (isLetter (bAt s 0) || isDigit (bAt s 0)) = true then
    (if isDigit (bAt s 0) = true then (if 9 < runLen (runP true) s then (0, ⟨#[]⟩, 0, 3) else (2, s.extract 0 (runLen (runP true) s), runLen (runP true) s, 0))
     else (if 20 < runLen (runP false) s then (0, ⟨#[]⟩, 0, 3) else (1, s.extract 0 (runLen (runP false) s), runLen (runP false) s, 0)))
  else if bAt s 0 = 34 then
    (if q = 0 then (0, ⟨#[]⟩, 0, 2) else if 60 < q - 2 then (0, ⟨#[]⟩, 0, 3) else (3, s.extract 1 (q - 1).toNat, q, 0))
  else match signs.find? (signAt s) with
    | some l => (4, l, l.size, 0)
    | none => (0, ⟨#[]⟩, 0, 2)
theorem ref01_one (s : ByteArray) (h1 : 1 ≤ s.size) (hs : s.size ≤ 100000) (q : Int) (hq0 : 0 ≤ q) (hq1 : q ≠ 1) (hq2 : q ≤ s.size) (hq : Pure Tryz.prog 290 [.str s, dI 0] (dI q)) :
    Pure Tryz.prog 255 [.str s, dI 0] (.tup [.agg [dI (oneF q s).1, .str (oneF q s).2.1, dI 0], dI (oneF q s).2.2.1, dI (oneF q s).2.2.2]) := by
  have hb : ((s.data[0]?.getD 0).toNat : Int) = bAt s 0 := rfl
  refine pure_of_calls (acalls_of_body (cfg := ⟨fun t => t == 4, fun r => match r with | 22 => [(7, 10), (8, 10), (9, 10)] | _ => []⟩) Tz.mixed Tryz.func255 rfl rfl (nlb rfl) (by kernel_rfl) ?_)
  simp [go_sem, seval, dI, hb]
  refine ⟨by omega, callQ_pure0 (ref01_letter _) rfl ?_⟩
  simp [go_sem, seval, dI]
  refine gcallQ_pure0 (fun _ => ref01_digit _) (fun _ => rfl) ?_
  simp [go_sem, seval, dI]
  refine condQ_mk (fun hld => ?_) (fun hld => ?_)
  · simp [go_sem, seval]
    refine callQ_pure0 (ref01_digit _) rfl ?_
    simp [go_sem, seval]
    refine callQ_pure0 (ref01_run s _ (by omega)) rfl ?_
    simp [go_sem, seval, dI]
    refine callQ_pure0 (ref01_digit _) rfl ?_
    simp [go_sem, seval]
    refine condQ_mk (fun hd => ?_) (fun hd => ?_)
    · simp [go_sem, seval]
      rw [hd]
      have hr := runLen_le (runP true) s
      refine condQ_mk (fun h => ?_) (fun h => ?_)
      · simp at h
        simp [go_sem, seval, oneF, hd, show 9 < runLen (runP true) s by omega]
      · simp at h
        simp [go_sem, seval, oneF, hd, show ¬ 9 < runLen (runP true) s by omega]
        exact ⟨inR_i64 (by omega) (by omega), by omega⟩
    · have hd' : isDigit (bAt s 0) = false := by simpa using hd
      simp [go_sem, seval]
      rw [hd']
      have hr := runLen_le (runP false) s
      have hl : isLetter (bAt s 0) = true := by simpa [hd'] using hld
      refine condQ_mk (fun h => ?_) (fun h => ?_)
      · simp at h
        simp [go_sem, seval, oneF, hd', hl, show 20 < runLen (runP false) s by omega]
      · simp at h
        simp [go_sem, seval, oneF, hd', hl, show ¬ 20 < runLen (runP false) s by omega]
        exact ⟨inR_i64 (by omega) (by omega), by omega⟩
  · have hld' : ¬ (isLetter (bAt s 0) || isDigit (bAt s 0)) = true := by simp at hld; simp [hld]
    simp [go_sem, seval]
    refine condQ_mk (fun h34 => ?_) (fun h34 => ?_)
    · simp at h34
      simp [go_sem, seval]
      refine callQ_pure0 hq rfl ?_
      simp [go_sem, seval, dI]
      have e : oneF q s = (if q = 0 then (0, ⟨#[]⟩, 0, 2) else if 60 < q - 2 then (0, ⟨#[]⟩, 0, 3) else (3, s.extract 1 (q - 1).toNat, q, 0)) := by
        unfold oneF; rw [if_neg hld', if_pos h34]
      rw [e]
      refine condQ_mk (fun hz => ?_) (fun hz => ?_)
      · simp at hz
        simp [go_sem, seval, hz]
      · simp at hz
        simp [go_sem, seval, hz]
        refine ⟨inR_i64 (by omega) (by omega), condQ_dec (fun h6 => ?_) (fun h6 => ?_)⟩
        · simp [go_sem, seval, h6]
        · simp [go_sem, seval, h6]
          exact ⟨inR_i64 (by omega) (by omega), inR_i64 (by omega) (by omega), inR_i64 (by omega) (by omega), by omega, by omega⟩
    · simp at h34
      simp [go_sem, seval]
      refine callQ_pure0 ref01_signs rfl ?_
      simp [go_sem, seval, dI]
      have e : oneF q s = (match signs.find? (signAt s) with | some l => (4, l, l.size, 0) | none => (0, ⟨#[]⟩, 0, 2)) := by
        unfold oneF; rw [if_neg hld', if_neg h34]
      rw [e]
      refine loop_rule (ι := Nat) (fun n e H => (∃ ty, H.get 0 = some ⟨ty, 3, [[dI 0, .str ⟨#[]⟩, dI 0]], false⟩) ∧ n ≤ signs.length ∧ e 0 = .str s ∧ e 1 = dI 0 ∧ e 4 = .ptr 0 1 0 0 ∧ e 12 = dLS signs ∧ e 13 = dI n ∧ (∀ j l, j < n → signs[j]? = some l → signAt s l = false)) (fun n => signs.length - n) 0 (by simp [go_sem, seval, dI]) ?_
      intro n e H ⟨⟨ty, hH⟩, hn, h0, h1', h4, h12, h13, hp⟩
      simp [go_sem, seval, h0, h1', h4, h12, h13, dI, hH, dLS]
      intro hlen
      refine condQ_dec (fun hlt => ?_) (fun hge => ?_)
      · simp [go_sem, seval, h0, h1', h4, h12, h13, dI, hH, dLS, hlt, cS]
        have hz2 : signs[n].size ≤ 2 := (show ∀ l ∈ signs, l.size ≤ 2 by decide) _ (lgm hlt)
        refine ⟨inR_i64 (by omega) (by omega), fun _ => inR_i64 (by omega) (by omega), condQ_mk (fun hc => ?_) (fun hc => ?_)⟩
        · have hs1 : signAt s signs[n] = true := by simpa [signAt] using hc
          have hf : signs.find? (signAt s) = some signs[n] := by
            rw [List.find?_eq_some_iff_getElem]
            refine ⟨hs1, n, hlt, rfl, fun j hj => ?_⟩
            simpa using hp j _ hj (lge (by omega))
          simp [go_sem, seval, h0, h1', h4, h12, h13, dI, hH, dLS, hlt, cS, hf]
        · have hs1 : signAt s signs[n] = false := by simpa [signAt] using hc
          simp [go_sem, seval, h0, h1', h4, h12, h13, dI, hH, dLS]
          have hsl : signs.length = 25 := rfl
          refine ⟨inR_i64 (by omega) (by omega), n + 1, by omega, by omega, by omega, fun j l hj hl => ?_⟩
          rcases Nat.lt_or_ge j n with hj' | hj'
          · exact hp j l hj' hl
          · have : j = n := by omega
            subst this
            rw [lge hlt] at hl
            cases hl; exact hs1
      · simp [go_sem, seval, h0, h1', h4, h12, h13, dI, hH, dLS]
        have : signs.find? (signAt s) = none := by
          rw [List.find?_eq_none]
          intro x hx
          obtain ⟨j, hj, rfl⟩ := List.getElem_of_mem hx
          simpa using hp j _ (by omega) (lge hj)
        simp [this]
theorem one_name (s : ByteArray) (hz : ¬ s.size = 0) (q : Int) : (decide ((oneF q s).2.2.2 = 0) && (oneF q s).2.2.1 == (s.size : Int) && (oneF q s).1 == 1) = isName s := by
  unfold oneF isName
  by_cases hl : isLetter (bAt s 0) = true
  · have hdg : isDigit (bAt s 0) = false := by simp [isLetter, isDigit] at *; omega
    rw [if_pos (by simp [hl])]
    simp only [hdg, hl, runP_false]
    by_cases h : 20 < runLen isPart s
    · simp [h]; intros; omega
    · simp [h, hz, show runLen isPart s ≤ 20 by omega]
      rw [bei]; simp; omega
  · have hl' : isLetter (bAt s 0) = false := by simpa using hl
    simp only [hl']
    repeat' split
    all_goals first | (simp; done) | (simp_all; done)
theorem ref01_Right (s : ByteArray) (hs : s.size ≤ 100000) : Pure Tryz.prog 196 [.agg [dI 1, .str s, dI 0]] (.bool (isName s)) := by
  by_cases hz : s.size = 0
  · refine pure_of_calls (acalls_of_body (cfg := ⟨fun t => t == 4, fun _ => []⟩) Tz.mixed Tryz.func196 rfl rfl (nlb rfl) (by kernel_rfl) ?_)
    simp [go_sem, seval, dI]
    refine callQ_pure0 (ref01_text s) rfl ?_
    simp [go_sem, seval, dI]
    refine condQ_mk (fun h => ?_) (fun h => ?_)
    · simp [go_sem, seval, isName, hz]
    · simp [size_zero_iff, hz] at h
  · obtain ⟨q, hq0, hq1, hq2, hq⟩ := ref01_quoted s (by omega) (by omega)
    refine pure_of_calls (acalls_of_body (cfg := ⟨fun t => t == 4, fun _ => []⟩) Tz.mixed Tryz.func196 rfl rfl (nlb rfl) (by kernel_rfl) ?_)
    simp [go_sem, seval, dI]
    refine callQ_pure0 (ref01_text s) rfl ?_
    simp [go_sem, seval, dI]
    refine condQ_mk (fun h => ?_) (fun h => ?_)
    · simp [size_zero_iff, hz] at h
    · simp [go_sem, seval]
      refine callQ_pure0 (ref01_one s (by omega) hs q hq0 hq1 hq2 hq) rfl ?_
      simp [go_sem, seval, dI]
      exact one_name s hz q
theorem ref01_IsName (s : ByteArray) (hs : s.size ≤ 100000) : Pure Tryz.prog 116 [.str s] (.bool (isName s)) := by
  refine pure_of_calls (acalls_of_body (cfg := ⟨fun _ => false, fun _ => []⟩) Tz.mixed Tryz.func116 rfl rfl (nlb rfl) (by kernel_rfl) ?_)
  simp [go_sem, seval, dI]
  refine callQ_pure0 (ref01_Right s hs) rfl ?_
  simp [go_sem, seval, dI]
end Go.Abs
end
section
set_option maxRecDepth 4000
open Go Go.Proofs
namespace Go.Abs
def idxF {α : Type} (xs : List α) (p : α → Bool) : Int := match xs.findIdx? p with | some i => i | none => -1
theorem idxF_some {α : Type} {xs : List α} {p : α → Bool} {i : Nat} (h : ∀ j x, j < i → xs[j]? = some x → p x = false) (hi : i < xs.length) (hp : p xs[i] = true) : idxF xs p = i := by
  have : xs.findIdx? p = some i := by
    rw [List.findIdx?_eq_some_iff_getElem]
    exact ⟨hi, hp, fun j hj => by simp [h j _ hj (lge (by omega))]⟩
  simp [idxF, this]
theorem idxF_none {α : Type} {xs : List α} {p : α → Bool} (h : ∀ j x, j < xs.length → xs[j]? = some x → p x = false) : idxF xs p = -1 := by
  have : xs.findIdx? p = none := by
    rw [List.findIdx?_eq_none_iff]
    intro x hx
    obtain ⟨j, hj, rfl⟩ := List.getElem_of_mem hx
    exact h j _ hj (lge hj)
  simp [idxF, this]
theorem idxF_any {α : Type} (xs : List α) (p : α → Bool) : decide (0 ≤ idxF xs p) = xs.any p := by
  unfold idxF
  cases h : xs.findIdx? p with
  | none =>
    rw [List.findIdx?_eq_none_iff] at h
    have : xs.any p = false := by simpa using h
    simp [this]
  | some i =>
    rw [List.findIdx?_eq_some_iff_getElem] at h
    obtain ⟨hi, hv, _⟩ := h
    have : xs.any p = true := List.any_eq_true.2 ⟨xs[i], lgm hi, hv⟩
    simp [this]
theorem indexFunc_attr (xs : List Attr) (g : FuncId) (caps : List D) (p : Attr → Bool) (hc : D.clL caps = true) (hg : ∀ x ∈ xs, Pure Tryz.prog g (.agg x.c :: caps) (.bool (p x))) :
    Pure Tryz.prog 274 [.list (xs.map Attr.c), .fn g caps] (dI (idxF xs p)) := by
  refine pure_of_calls (acalls_of_body (cfg := ⟨fun _ => false, fun _ => []⟩) Tz.mixed Tryz.func274 rfl rfl (nlb rfl) (by kernel_rfl) ?_)
  simp [go_sem, seval, dI, dLI]
  intro hlen
  refine loop_rule (ι := Nat) (fun i e H => H = .emp ∧ i ≤ xs.length ∧ e 0 = .list (xs.map Attr.c) ∧ e 1 = .fn g caps ∧ e 7 = dI xs.length ∧ e 8 = dI i ∧ (∀ j x, j < i → xs[j]? = some x → p x = false)) (fun i => xs.length - i) 0 (by simp [go_sem, seval, dI, dLI]) ?_
  intro i e H ⟨hH, hi, h0, h1, h7, h8, hn⟩
  subst hH
  simp [go_sem, seval, h0, h1, h7, h8, dI, dLI]
  refine condQ_dec (fun hlt => ?_) (fun hge => ?_)
  · have hgx := hg xs[i] (lgm hlt)
    simp [go_sem, seval, h0, h1, h7, h8, dI, dLI, hlt, Attr.c] at hgx ⊢
    refine callQ_pure0 hgx (by simp [go_sem, hc]) ?_
    simp [go_sem, seval, h0, h1, h7, h8, dI, dLI]
    refine condQ_mk (fun h => ?_) (fun h => ?_)
    ·simp [go_sem, seval, h0, h1, h7, h8, dI, dLI]
     rw [idxF_some hn hlt h]
    ·simp [go_sem, seval, h0, h1, h7, h8, dI, dLI]
     refine ⟨inR_i64 (by omega) (by omega), i + 1, by omega, by omega, by omega, fun j x hj hx => ?_⟩
     rcases Nat.lt_or_ge j i with hj' | hj'
     ·exact hn j x hj' hx
     ·have : j = i := by omega
      subst this
      rw [lge hlt] at hx
      cases hx; exact h
  · simp [go_sem, seval, h0, h1, h7, h8, dI, dLI]
    rw [idxF_none fun j x hj => hn j x (by omega)]
theorem containsFunc_attr (xs : List Attr) (g : FuncId) (caps : List D) (p : Attr → Bool) (hc : D.clL caps = true) (hl : D.cl (.list (xs.map Attr.c)) = true) (hg : ∀ x ∈ xs, Pure Tryz.prog g (.agg x.c :: caps) (.bool (p x))) :
    Pure Tryz.prog 224 [.list (xs.map Attr.c), .fn g caps] (.bool (xs.any p)) := by
  refine pure_of_calls (acalls_of_body (cfg := ⟨fun _ => false, fun _ => []⟩) Tz.mixed Tryz.func224 rfl rfl (nlb rfl) (by kernel_rfl) ?_)
  simp [go_sem, seval]
  refine callQ_pure0 (indexFunc_attr xs g caps p hc hg) (by simp only [D.clL, hl, Bool.true_and]; simp [D.cl, hc]) ?_
  simp [go_sem, seval, dI, idxF_any]
theorem attrs_cl (l : List Attr) : D.clLL (l.map Attr.c) = true := clLL_map _ Attr.cl l
def namesE (l : List ByteArray) : List ByteArray → Int
  | [] => 0
  | s :: r => if isName s = false then 2 else if mem l s = true then 5 else namesE (l ++ [s]) r
def namesF (l : List ByteArray) : Int := if 20 < l.length then 3 else namesE [] l
theorem types_names (l : List ByteArray) (hs : ∀ s ∈ l, s.size ≤ 100000) : Pure Tryz.prog 226 [dLS l] (dI (namesF l)) := by
  refine pure_of_calls (acalls_of_body (cfg := ⟨fun _ => false, fun _ => []⟩) Tz.mixed Tryz.func226 rfl rfl (nlb rfl) (by kernel_rfl) ?_)
  simp [go_sem, seval, dI, dLS]
  intro hlen
  refine condQ_mk (fun h => ?_) (fun h => ?_)
  · simp at h
    simp [go_sem, seval, namesF, show 20 < l.length by omega]
  · simp at h
    simp [go_sem, seval, namesF, show ¬ 20 < l.length by omega]
    intro hlen2
    refine loop_rule (ι := Nat) (fun i e H => H = .emp ∧ i ≤ l.length ∧ e 0 = dLS l ∧ e 8 = dLS l ∧ e 9 = dI l.length ∧ e 10 = dI i ∧ namesE (l.take i) (l.drop i) = namesE [] l) (fun i => l.length - i) 0 (by simp [go_sem, seval, dI, dLS]) ?_
    intro i e H ⟨hH, hi, h0, h8, h9, h10, hn⟩
    subst hH
    simp [go_sem, seval, h0, h8, h9, h10, dI, dLS]
    refine condQ_dec (fun hlt => ?_) (fun hge => ?_)
    ·rw [List.drop_eq_getElem_cons hlt] at hn
     have hsz := hs _ (lgm hlt)
     simp [go_sem, seval, h0, h8, h9, h10, dI, dLS, hlt, cS]
     refine callQ_pure0 (token_IsName _ hsz) rfl ?_
     simp [go_sem, seval]
     refine condQ_mk (fun hc => ?_) (fun hc => ?_)
     ·simp at hc
      simp [go_sem, seval]
      rw [← hn]; simp [namesE, hc]
     ·simp at hc
      simp [go_sem, seval, h0, h8, h9, h10, dI, dLS]
      have hcs := contains_str (l.take i) l[i]
      simp only [dLS, List.map_take] at hcs
      have hcl : D.clLL (List.take i (List.map cS l)) = true := by rw [← List.map_take]; exact clLL_map cS (fun _ => rfl) _
      refine ⟨⟨hi, by cases l <;> simp [cS]⟩, callQ_pure0 hcs (by simp [D.clL, D.cl, hcl]) ?_⟩
      simp [go_sem, seval, h0, h8, h9, h10, dI, dLS]
      refine condQ_mk (fun hm => ?_) (fun hm => ?_)
      ·simp [go_sem, seval]
       rw [← hn]; simp [namesE, hc, hm]
      ·simp [go_sem, seval, h0, h8, h9, h10, dI, dLS]
       refine ⟨inR_i64 (by omega) (by omega), i + 1, by omega, by omega, by omega, ?_⟩
       rw [← hn, namesE, if_neg (by simp [hc]), if_neg (by simp [hm]), List.take_succ_eq_append_getElem hlt]
    ·simp [go_sem, seval, h0, h8, h9, h10, dI, dLS]
     rw [← hn, show i = l.length by omega]; simp [namesE]
theorem types_attribute1 (x y : Attr) : Pure Tryz.prog 225 [.agg y.c, .adr x.c] (.bool (decide (y.name = x.name))) := by
  refine pure_of_calls (acalls_of_body (cfg := ⟨fun _ => false, fun _ => []⟩) Tz.mixed Tryz.func225 rfl rfl (nlb rfl) (by kernel_rfl) ?_)
  simp [go_sem, seval, Attr.c, dI, dLS]
structure Attr.ok (x : Attr) : Prop where
  name : x.name.size ≤ 100000
  names : ∀ s ∈ x.names, s.size ≤ 100000
  few : x.names.length ≤ 1000
def attributeF (x : Attr) (before : List Attr) : Int :=
  if isName x.name = false then 2
  else if (before.any fun y => decide (y.name = x.name)) = true then 5
  else if namesF x.names ≠ 0 then namesF x.names
  else if (if 0 < x.names.length then decide (x.low = 0) && decide (x.high = x.names.length - 1) else decide (-1000000 ≤ x.low) && decide (x.low ≤ x.high) && decide (x.high ≤ 1000000)) = true then 0 else 6
theorem types_attribute (x : Attr) (before : List Attr) (hx : x.ok) : Pure Tryz.prog 152 [.agg x.c, .list (before.map Attr.c)] (dI (attributeF x before)) := by
  refine pure_of_calls (acalls_of_body (cfg := ⟨fun _ => false, fun _ => []⟩) Tz.mixed Tryz.func152 rfl rfl (nlb rfl) (by kernel_rfl) ?_)
  simp [go_sem, seval, dI, dLS, Attr.c]
  refine callQ_pure0 (token_IsName _ hx.name) rfl ?_
  simp [go_sem, seval]
  refine condQ_mk (fun hn => ?_) (fun hn => ?_)
  · simp at hn
    simp [go_sem, seval, attributeF, hn]
  · simp at hn
    simp [go_sem, seval]
    have hc := containsFunc_attr before 225 [.adr x.c] (fun y => decide (y.name = x.name)) (by simp [D.clL, D.cl, Attr.cl]) (by simp [D.cl, attrs_cl]) (fun y _ => types_attribute1 x y)
    simp only [Attr.c, dI, dLS] at hc
    have hcS : D.clLL (List.map cS x.names) = true := clLL_map cS (fun _ => rfl) _
    refine callQ_pure0 hc (by simp [D.clL, D.cl, attrs_cl, hcS]) ?_
    simp [go_sem, seval]
    refine condQ_mk (fun hb => ?_) (fun hb => ?_)
    ·simp [go_sem, seval, attributeF, hn, hb]
    ·simp [go_sem, seval]
     have hnm := types_names x.names hx.names
     simp only [dLS, dI] at hnm
     refine callQ_pure0 hnm (by simp [D.clL, D.cl, hcS]) ?_
     simp [go_sem, seval]
     have hfew := hx.few
     refine condQ_mk (fun hz => ?_) (fun hz => ?_)
     ·simp at hz
      simp [go_sem, seval, attributeF, hn, hb, hz]
     ·simp at hz
      simp [go_sem, seval]
      intro hlen
      refine condQ_mk (fun hp => ?_) (fun hp => ?_)
      ·have hp' : 0 < x.names.length := by simp at hp; omega
       simp [go_sem, seval]
       refine fun _ => ⟨fun _ => inR_i64 (by omega) (by omega), condQ_mk (fun ho => ?_) (fun ho => ?_)⟩
       ·have e : attributeF x before = 6 := by unfold attributeF; rw [if_neg (by simp [hn]), if_neg (by simp [hb]), if_neg (by simp [hz]), if_pos hp', if_neg (by simp at ho ⊢; omega)]
        simp [go_sem, seval, e]
       ·have e : attributeF x before = 0 := by unfold attributeF; rw [if_neg (by simp [hn]), if_neg (by simp [hb]), if_neg (by simp [hz]), if_pos hp', if_pos (by simp at ho ⊢; omega)]
        simp [go_sem, seval, e]
      ·have hp' : ¬ 0 < x.names.length := by simp at hp; simp [hp]
       simp [go_sem, seval]
       refine condQ_mk (fun ho => ?_) (fun ho => ?_)
       ·have e : attributeF x before = 6 := by unfold attributeF; rw [if_neg (by simp [hn]), if_neg (by simp [hb]), if_neg (by simp [hz]), if_neg hp', if_neg (by simp at ho ⊢; omega)]
        simp [go_sem, seval, e]
       ·have e : attributeF x before = 0 := by unfold attributeF; rw [if_neg (by simp [hn]), if_neg (by simp [hb]), if_neg (by simp [hz]), if_neg hp', if_pos (by simp at ho ⊢; omega)]
        simp [go_sem, seval, e]
structure NodeTy.ok (n : NodeTy) : Prop where
  name : n.name.size ≤ 100000
  attrs : ∀ x ∈ n.attrs, x.ok
  few : n.attrs.length ≤ 1000
structure EdgeTy.ok (x : EdgeTy) : Prop where
  name : x.name.size ≤ 100000
structure Types.ok (t : Types) : Prop where
  nodes : ∀ n ∈ t.nodes, n.ok
  edges : ∀ x ∈ t.edges, x.ok
  fewN : t.nodes.length ≤ 1000
  fewE : t.edges.length ≤ 1000
def attrsF (nodes : List NodeTy) : Nat → Nat → List Attr
  | 0, _ => []
  | f + 1, a => match nodes[a]? with
    | none => []
    | some n => (if 0 ≤ n.parent then attrsF nodes f n.parent.toNat else []) ++ n.attrs
def Types.attrs (t : Types) (a : Nat) : List Attr := attrsF t.nodes (a + 1) a
theorem attrsF_len (nodes : List NodeTy) (h : ∀ n ∈ nodes, n.attrs.length ≤ 1000) : ∀ f a, (attrsF nodes f a).length ≤ 1000 * f
  | 0, a => by simp [attrsF]
  | f + 1, a => by
    unfold attrsF
    split
    ·simp
    ·rename_i n hn
     have := h n (List.mem_of_getElem? hn)
     have h2 := attrsF_len nodes h f n.parent.toNat
     simp only [List.length_append]
     split <;> simp <;> omega
@[go_sem] theorem Attr.len (a : Attr) : a.c.length = 4 := rfl
theorem Attr.cells (a : Attr) : ∀ x ∈ a.c, x.cell = true := by simp [Attr.c, D.cell, dI, dLS]
def parentsOK (nodes : List NodeTy) (a : Nat) : Prop := ∀ j n, j ≤ a → nodes[j]? = some n → n.parent < j
theorem attrsF_fuel (nodes : List NodeTy) : ∀ a f g, parentsOK nodes a → a < f → a < g → attrsF nodes f a = attrsF nodes g a := by
  intro a
  induction a using Nat.strongRecOn with
  | _ a ih =>
    intro f g hp hf hg
    obtain ⟨f, rfl⟩ : ∃ f', f = f' + 1 := ⟨f - 1, by omega⟩
    obtain ⟨g, rfl⟩ : ∃ g', g = g' + 1 := ⟨g - 1, by omega⟩
    unfold attrsF
    split
    ·rfl
    ·rename_i n hn
     have := hp a n (Nat.le_refl _) hn
     congr 1
     split
     ·exact ih n.parent.toNat (by omega) f g (fun j m hj hm => hp j m (by omega) hm) (by omega) (by omega)
     ·rfl
theorem types_attrs (t : Types) (ht : t.ok) : ∀ a, a < t.nodes.length → parentsOK t.nodes a → Own Tryz.prog 151 [t.d, dI a] 128 4 ((t.attrs a).map Attr.c) := by
  intro a
  induction a using Nat.strongRecOn with
  | _ a ih =>
    intro ha hp
    have hpa := hp a _ (Nat.le_refl _) (lge ha)
    have hlen := attrsF_len t.nodes (fun n hn => (ht.nodes n hn).few) (a + 1) a
    have hfew := ht.fewN
    have hna := (ht.nodes _ (lgm ha)).few
    refine own_of_calls (acalls_of_body (cfg := ⟨fun t => t == 5, fun _ => []⟩) Tz.mixed Tryz.func151 rfl rfl (nlb rfl) (by kernel_rfl) ?_)
    simp [go_sem, seval, dI, Types.d, Types.c, NodeTy.c, lge ha, ha]
    refine condQ_mk (fun h => ?_) (fun h => ?_)
    ·have h' : 0 ≤ t.nodes[a].parent := by simpa using h
     have hlt : t.nodes[a].parent.toNat < a := by omega
     have hc := ih _ hlt (by omega) (fun j m hj hm => hp j m (by omega) hm)
     rw [Int.toNat_of_nonneg h'] at hc
     have e : t.attrs a = t.attrs t.nodes[a].parent.toNat ++ t.nodes[a].attrs := by
      have := attrsF_fuel t.nodes t.nodes[a].parent.toNat a (t.nodes[a].parent.toNat + 1) (fun j m hj hm => hp j m (by omega) hm) hlt (by omega)
      simp [Types.attrs, attrsF, lge ha, h', this]
     have hlen2 := attrsF_len t.nodes (fun n hn => (ht.nodes n hn).few) (t.nodes[a].parent.toNat + 1) t.nodes[a].parent.toNat
     have hl3 : (t.attrs t.nodes[a].parent.toNat).length ≤ 2000000 := by
      have : (t.attrs t.nodes[a].parent.toNat).length ≤ 1000 * (t.nodes[a].parent.toNat + 1) := hlen2
      omega
     simp [go_sem, seval, dI, Types.d, Types.c, NodeTy.c, lge ha, ha] at hc ⊢
     refine callQ_own0 hc (by simp [D.clL, D.cl, clLL_map _ NodeTy.cl, clLL_map _ EdgeTy.cl]) ?_
     simp [go_sem, seval, dI, Types.d, Types.c, NodeTy.c, lge ha, ha, e, attrs_cl]
     exact ⟨⟨by omega, fun x _ y hy => Attr.cells x y hy⟩, by rw [← List.map_append]; exact attrs_cl _⟩
    ·have h' : ¬ 0 ≤ t.nodes[a].parent := by simpa using h
     have e : t.attrs a = t.nodes[a].attrs := by simp [Types.attrs, attrsF, lge ha, h']
     simp [go_sem, seval, dI, Types.d, Types.c, NodeTy.c, lge ha, ha, e, attrs_cl]
     exact ⟨by omega, fun x _ y hy => Attr.cells x y hy⟩
end Go.Abs
end
section
set_option maxRecDepth 4000
open Go Go.Proofs
namespace Go.Abs
attribute [go_sem] attrs_cl
@[go_sem] theorem strs_cl (l : List ByteArray) : D.clLL (l.map cS) = true := clLL_map cS (fun _ => rfl) l
theorem indexFunc_node (xs : List NodeTy) (g : FuncId) (caps : List D) (p : NodeTy → Bool) (hc : D.clL caps = true) (hg : ∀ x ∈ xs, Pure Tryz.prog g (.agg x.c :: caps) (.bool (p x))) :
    Pure Tryz.prog 223 [.list (xs.map NodeTy.c), .fn g caps] (dI (idxF xs p)) := by
  refine pure_of_calls (acalls_of_body (cfg := ⟨fun _ => false, fun _ => []⟩) Tz.mixed Tryz.func223 rfl rfl (nlb rfl) (by kernel_rfl) ?_)
  simp [go_sem, seval, dI, dLI]
  intro hlen
  refine loop_rule (ι := Nat) (fun i e H => H = .emp ∧ i ≤ xs.length ∧ e 0 = .list (xs.map NodeTy.c) ∧ e 1 = .fn g caps ∧ e 7 = dI xs.length ∧ e 8 = dI i ∧ (∀ j x, j < i → xs[j]? = some x → p x = false)) (fun i => xs.length - i) 0 (by simp [go_sem, seval, dI, dLI]) ?_
  intro i e H ⟨hH, hi, h0, h1, h7, h8, hn⟩
  subst hH
  simp [go_sem, seval, h0, h1, h7, h8, dI, dLI]
  refine condQ_dec (fun hlt => ?_) (fun hge => ?_)
  · have hgx := hg xs[i] (lgm hlt)
    simp [go_sem, seval, h0, h1, h7, h8, dI, dLI, hlt, NodeTy.c] at hgx ⊢
    refine callQ_pure0 hgx (by simp [go_sem, hc]) ?_
    simp [go_sem, seval, h0, h1, h7, h8, dI, dLI]
    refine condQ_mk (fun h => ?_) (fun h => ?_)
    ·simp [go_sem, seval, h0, h1, h7, h8, dI, dLI]
     rw [idxF_some hn hlt h]
    ·simp [go_sem, seval, h0, h1, h7, h8, dI, dLI]
     refine ⟨inR_i64 (by omega) (by omega), i + 1, by omega, by omega, by omega, fun j x hj hx => ?_⟩
     rcases Nat.lt_or_ge j i with hj' | hj'
     ·exact hn j x hj' hx
     ·have : j = i := by omega
      subst this
      rw [lge hlt] at hx
      cases hx; exact h
  · simp [go_sem, seval, h0, h1, h7, h8, dI, dLI]
    rw [idxF_none fun j x hj => hn j x (by omega)]
theorem containsFunc_node (xs : List NodeTy) (g : FuncId) (caps : List D) (p : NodeTy → Bool) (hc : D.clL caps = true) (hl : D.cl (.list (xs.map NodeTy.c)) = true) (hg : ∀ x ∈ xs, Pure Tryz.prog g (.agg x.c :: caps) (.bool (p x))) :
    Pure Tryz.prog 149 [.list (xs.map NodeTy.c), .fn g caps] (.bool (xs.any p)) := by
  refine pure_of_calls (acalls_of_body (cfg := ⟨fun _ => false, fun _ => []⟩) Tz.mixed Tryz.func149 rfl rfl (nlb rfl) (by kernel_rfl) ?_)
  simp [go_sem, seval]
  refine callQ_pure0 (indexFunc_node xs g caps p hc hg) (by simp only [D.clL, hl, Bool.true_and]; simp [D.cl, hc]) ?_
  simp [go_sem, seval, dI, idxF_any]
theorem indexFunc_edge (xs : List EdgeTy) (g : FuncId) (caps : List D) (p : EdgeTy → Bool) (hc : D.clL caps = true) (hg : ∀ x ∈ xs, Pure Tryz.prog g (.agg x.c :: caps) (.bool (p x))) :
    Pure Tryz.prog 227 [.list (xs.map EdgeTy.c), .fn g caps] (dI (idxF xs p)) := by
  refine pure_of_calls (acalls_of_body (cfg := ⟨fun _ => false, fun _ => []⟩) Tz.mixed Tryz.func227 rfl rfl (nlb rfl) (by kernel_rfl) ?_)
  simp [go_sem, seval, dI, dLI]
  intro hlen
  refine loop_rule (ι := Nat) (fun i e H => H = .emp ∧ i ≤ xs.length ∧ e 0 = .list (xs.map EdgeTy.c) ∧ e 1 = .fn g caps ∧ e 7 = dI xs.length ∧ e 8 = dI i ∧ (∀ j x, j < i → xs[j]? = some x → p x = false)) (fun i => xs.length - i) 0 (by simp [go_sem, seval, dI, dLI]) ?_
  intro i e H ⟨hH, hi, h0, h1, h7, h8, hn⟩
  subst hH
  simp [go_sem, seval, h0, h1, h7, h8, dI, dLI]
  refine condQ_dec (fun hlt => ?_) (fun hge => ?_)
  · have hgx := hg xs[i] (lgm hlt)
    simp [go_sem, seval, h0, h1, h7, h8, dI, dLI, hlt, EdgeTy.c] at hgx ⊢
    refine callQ_pure0 hgx (by simp [go_sem, hc]) ?_
    simp [go_sem, seval, h0, h1, h7, h8, dI, dLI]
    refine condQ_mk (fun h => ?_) (fun h => ?_)
    ·simp [go_sem, seval, h0, h1, h7, h8, dI, dLI]
     rw [idxF_some hn hlt h]
    ·simp [go_sem, seval, h0, h1, h7, h8, dI, dLI]
     refine ⟨inR_i64 (by omega) (by omega), i + 1, by omega, by omega, by omega, fun j x hj hx => ?_⟩
     rcases Nat.lt_or_ge j i with hj' | hj'
     ·exact hn j x hj' hx
     ·have : j = i := by omega
      subst this
      rw [lge hlt] at hx
      cases hx; exact h
  · simp [go_sem, seval, h0, h1, h7, h8, dI, dLI]
    rw [idxF_none fun j x hj => hn j x (by omega)]
theorem containsFunc_edge (xs : List EdgeTy) (g : FuncId) (caps : List D) (p : EdgeTy → Bool) (hc : D.clL caps = true) (hl : D.cl (.list (xs.map EdgeTy.c)) = true) (hg : ∀ x ∈ xs, Pure Tryz.prog g (.agg x.c :: caps) (.bool (p x))) :
    Pure Tryz.prog 154 [.list (xs.map EdgeTy.c), .fn g caps] (.bool (xs.any p)) := by
  refine pure_of_calls (acalls_of_body (cfg := ⟨fun _ => false, fun _ => []⟩) Tz.mixed Tryz.func154 rfl rfl (nlb rfl) (by kernel_rfl) ?_)
  simp [go_sem, seval]
  refine callQ_pure0 (indexFunc_edge xs g caps p hc hg) (by simp only [D.clL, hl, Bool.true_and]; simp [D.cl, hc]) ?_
  simp [go_sem, seval, dI, idxF_any]
@[go_sem] theorem nodes_cl (l : List NodeTy) : D.clLL (l.map NodeTy.c) = true := clLL_map _ NodeTy.cl l
@[go_sem] theorem edges_cl (l : List EdgeTy) : D.clLL (l.map EdgeTy.c) = true := clLL_map _ EdgeTy.cl l
theorem types_node1 (x y : NodeTy) : Pure Tryz.prog 150 [.agg y.c, .adr x.c] (.bool (decide (y.name = x.name))) := by
  refine pure_of_calls (acalls_of_body (cfg := ⟨fun _ => false, fun _ => []⟩) Tz.mixed Tryz.func150 rfl rfl (nlb rfl) (by kernel_rfl) ?_)
  simp [go_sem, seval, NodeTy.c, dI, dLS]
theorem attrsF_ok (nodes : List NodeTy) (h : ∀ n ∈ nodes, n.ok) : ∀ f a, ∀ x ∈ attrsF nodes f a, x.ok
  | 0, a, x, hx => by simp [attrsF] at hx
  | f + 1, a, x, hx => by
    unfold attrsF at hx
    split at hx
    ·simp at hx
    ·rename_i n hn
     rcases List.mem_append.1 hx with hx | hx
     ·split at hx
      ·exact attrsF_ok nodes h f _ x hx
      ·simp at hx
     ·exact (h n (List.mem_of_getElem? hn)).attrs x hx
def firstE (f : Nat → Int) : Nat → Nat → Int
  | _, 0 => 0
  | k, n + 1 => if f k ≠ 0 then f k else firstE f (k + 1) n
def nodeF (t : Types) (i : Nat) : Int :=
  match t.nodes[i]? with
  | none => 0
  | some n =>
    if isName n.name = false then 2
    else if ((t.nodes.take i).any fun m => decide (m.name = n.name)) = true then 5
    else if (decide (n.parent < -1) || decide ((i : Int) ≤ n.parent)) = true then 6
    else if 4 < n.attrs.length then 3
    else if 8 < (t.attrs i).length then 3
    else firstE (fun k => match (t.attrs i)[k]? with | some x => attributeF x ((t.attrs i).take k) | none => 0) ((t.attrs i).length - n.attrs.length) n.attrs.length
theorem types_node (t : Types) (ht : t.ok) (i : Nat) (hi : i < t.nodes.length) (hp : ∀ j n, j < i → t.nodes[j]? = some n → n.parent < j) : Pure Tryz.prog 76 [t.d, dI i] (dI (nodeF t i)) := by
  have hno := ht.nodes _ (lgm hi)
  refine pure_of_calls (acalls_of_body (cfg := ⟨fun t => t == 5, fun _ => []⟩) Tz.mixed Tryz.func76 rfl rfl (nlb rfl) (by kernel_rfl) ?_)
  simp [go_sem, seval, dI, Types.d, Types.c, NodeTy.c, lge hi, hi]
  refine callQ_pure0 (token_IsName _ hno.name) rfl ?_
  simp [go_sem, seval]
  refine condQ_mk (fun hn => ?_) (fun hn => ?_)
  · simp at hn
    simp [go_sem, seval, nodeF, lge hi, hn]
  · simp at hn
    simp [go_sem, seval]
    have hc := containsFunc_node (t.nodes.take i) 150 [.adr t.nodes[i].c] (fun y => decide (y.name = t.nodes[i].name)) (by simp [D.clL, D.cl, NodeTy.cl]) (by rw [D.cl]; exact nodes_cl _) (fun y _ => types_node1 t.nodes[i] y)
    refine ⟨⟨by omega, by cases t.nodes <;> simp [NodeTy.c]⟩, callQ_pureC hc (by simp [rsvC, rsvP, cellsAt, go_sem, NodeTy.c, dI, List.map_take]) (by simp only [D.clL, D.cl, nodes_cl, NodeTy.cl]; rfl) rfl ?_⟩
    simp [go_sem, seval]
    refine condQ_mk (fun hb => ?_) (fun hb => ?_)
    ·simp [go_sem, seval, nodeF, lge hi, hn, hb]
    ·simp [go_sem, seval, NodeTy.c, dI]
     refine condQ_mk (fun hr => ?_) (fun hr => ?_)
     ·have hr' : (decide (t.nodes[i].parent < -1) || decide ((i : Int) ≤ t.nodes[i].parent)) = true := by simpa using hr
      simp [go_sem, seval]
      have e : nodeF t i = 6 := by simp only [nodeF, lge hi]; rw [if_neg (by simp [hn]), if_neg (by simp [hb]), if_pos hr']
      simp [e]
     ·simp at hr
      simp [go_sem, seval]
      have hr' : ¬ (decide (t.nodes[i].parent < -1) || decide ((i : Int) ≤ t.nodes[i].parent)) = true := by simp; omega
      intro hlen
      refine condQ_mk (fun h4 => ?_) (fun h4 => ?_)
      ·have h4' : 4 < t.nodes[i].attrs.length := by simp at h4; omega
       simp [go_sem, seval]
       have e : nodeF t i = 3 := by simp only [nodeF, lge hi]; rw [if_neg (by simp [hn]), if_neg (by simp [hb]), if_neg hr', if_pos h4']
       simp [e]
      ·have h4' : ¬ 4 < t.nodes[i].attrs.length := by simp at h4; omega
       simp [go_sem, seval]
       have hpo : parentsOK t.nodes i := fun j n hj hn' => by
        rcases Nat.lt_or_ge j i with h | h
        ·exact hp j n h hn'
        ·have : j = i := by omega
         subst this
         rw [lge hi] at hn'
         cases hn'; omega
       have hat := types_attrs t ht i hi hpo
       simp only [Types.d, Types.c, dI] at hat
       refine callQ_pure0 hat.pure (by simp [D.clL, D.cl, nodes_cl, edges_cl]) ?_
       simp [go_sem, seval, NodeTy.c, dI]
       intro hlen2
       refine condQ_mk (fun h8 => ?_) (fun h8 => ?_)
       ·have h8' : 8 < (t.attrs i).length := by simp at h8; omega
        simp [go_sem, seval]
        have e : nodeF t i = 3 := by simp only [nodeF, lge hi]; rw [if_neg (by simp [hn]), if_neg (by simp [hb]), if_neg hr', if_neg h4', if_pos h8']
        simp [e]
       ·have h8' : ¬ 8 < (t.attrs i).length := by simp at h8; omega
        have e : nodeF t i = firstE (fun k => match (t.attrs i)[k]? with | some x => attributeF x ((t.attrs i).take k) | none => 0) ((t.attrs i).length - t.nodes[i].attrs.length) t.nodes[i].attrs.length := by
         simp only [nodeF, lge hi]; rw [if_neg (by simp [hn]), if_neg (by simp [hb]), if_neg hr', if_neg h4', if_neg h8']
        have hle : t.nodes[i].attrs.length ≤ (t.attrs i).length := by simp [Types.attrs, attrsF, lge hi]
        have hok : ∀ x ∈ t.attrs i, x.ok := attrsF_ok t.nodes ht.nodes _ _
        simp [go_sem, seval, NodeTy.c, dI]
        refine fun _ _ => ⟨inR_i64 (by omega) (by omega), ?_⟩
        refine loop_rule (ι := Nat) (fun k e H => k ≤ (t.attrs i).length ∧ e 6 = .list ((t.attrs i).map Attr.c) ∧ e 7 = dI k ∧
         firstE (fun k => match (t.attrs i)[k]? with | some x => attributeF x ((t.attrs i).take k) | none => 0) k ((t.attrs i).length - k) = nodeF t i) (fun k => (t.attrs i).length - k) ((t.attrs i).length - t.nodes[i].attrs.length) ?_ ?_
        ·simp [go_sem, seval, dI]
         refine ⟨by omega, ?_⟩
         rw [e]; congr 1; omega
        ·intro k e' H ⟨hk, h6, h7, hF⟩
         simp [go_sem, seval, h6, h7, dI]
         intro hlen3
         refine condQ_dec (fun hlt => ?_) (fun hge => ?_)
         ·simp [go_sem, seval, h6, h7, dI, hlt, Attr.c]
          have hta := types_attribute (t.attrs i)[k] ((t.attrs i).take k) (hok _ (lgm hlt))
          simp only [Attr.c, dI, List.map_take] at hta
          have hcl : D.clLL (List.take k (List.map Attr.c (t.attrs i))) = true := by rw [← List.map_take]; exact attrs_cl _
          refine ⟨⟨hk, by cases t.attrs i <;> simp [Attr.c]⟩, dcallQ_pure0 hta (by simp [D.clL, D.cl, hcl, dLS_cl]) ?_⟩
          have hstep : firstE (fun k => match (t.attrs i)[k]? with | some x => attributeF x ((t.attrs i).take k) | none => 0) k ((t.attrs i).length - k) =
            if attributeF (t.attrs i)[k] ((t.attrs i).take k) ≠ 0 then attributeF (t.attrs i)[k] ((t.attrs i).take k) else firstE (fun k => match (t.attrs i)[k]? with | some x => attributeF x ((t.attrs i).take k) | none => 0) (k + 1) ((t.attrs i).length - (k + 1)) := by
           rw [show (t.attrs i).length - k = (t.attrs i).length - (k + 1) + 1 by omega, firstE, lge hlt]
          rw [hstep] at hF
          simp [go_sem, seval]
          refine condQ_mk (fun hz => ?_) (fun hz => ?_)
          ·have hz' : attributeF (t.attrs i)[k] ((t.attrs i).take k) ≠ 0 := by simpa using hz
           rw [if_pos hz'] at hF
           simp [go_sem, seval, hF]
          ·have hz' : ¬ attributeF (t.attrs i)[k] ((t.attrs i).take k) ≠ 0 := by simpa using hz
           rw [if_neg hz'] at hF
           simp [go_sem, seval, h6, h7, dI]
           exact ⟨inR_i64 (by omega) (by omega), k + 1, by omega, by omega, by omega, hF⟩
         ·simp [go_sem, seval]
          rw [← hF, show (t.attrs i).length - k = 0 by omega]; rfl
end Go.Abs
end
section
set_option maxRecDepth 4000
open Go Go.Proofs
namespace Go.Abs
def boundedF (low high : Int) : Bool := (decide (0 ≤ low) && decide (low ≤ 40)) && (decide (high = -1) || (decide (low ≤ high) && decide (high ≤ 40)))
theorem types_bounded (low high : Int) : Pure Tryz.prog 156 [dI low, dI high] (.bool (boundedF low high)) := by
  refine pure_of_calls (acalls_of_body (cfg := ⟨fun _ => false, fun _ => []⟩) Tz.mixed Tryz.func156 rfl rfl (nlb rfl) (by kernel_rfl) ?_)
  simp [go_sem, seval, dI, boundedF]
  try omega
theorem types_edge1 (t : Types) (a : Int) : Pure Tryz.prog 153 [dI a, .adr t.c] (.bool (decide (0 ≤ a) && decide (a < t.nodes.length))) := by
  refine pure_of_calls (acalls_of_body (cfg := ⟨fun _ => false, fun _ => []⟩) Tz.mixed Tryz.func153 rfl rfl (nlb rfl) (by kernel_rfl) ?_)
  simp [go_sem, seval, dI, Types.c]
theorem types_edge2 (x y : EdgeTy) : Pure Tryz.prog 155 [.agg y.c, .adr x.c] (.bool (decide (y.name = x.name))) := by
  refine pure_of_calls (acalls_of_body (cfg := ⟨fun _ => false, fun _ => []⟩) Tz.mixed Tryz.func155 rfl rfl (nlb rfl) (by kernel_rfl) ?_)
  simp [go_sem, seval, EdgeTy.c, dI]
def insideF (t : Types) (a : Int) : Bool := decide (0 ≤ a) && decide (a < t.nodes.length)
def edgeF (t : Types) (i : Nat) : Int :=
  match t.edges[i]? with
  | none => 0
  | some x =>
    if isName x.name = false then 2
    else if ((t.edges.take i).any fun y => decide (y.name = x.name)) = true then 5
    else if (insideF t x.from_ && insideF t x.to_ && boundedF x.outLow x.outHigh && boundedF x.inLow x.inHigh) = true then 0 else 6
theorem types_edge (t : Types) (ht : t.ok) (i : Nat) (hi : i < t.edges.length) : Pure Tryz.prog 77 [t.d, dI i] (dI (edgeF t i)) := by
  have hno := ht.edges _ (lgm hi)
  have hcN : D.clLL (List.map NodeTy.c t.nodes) = true := nodes_cl _
  have hcE : D.clLL (List.map EdgeTy.c t.edges) = true := edges_cl _
  have hin : ∀ a : Int, Pure Tryz.prog 153 [.int .i64 a, .adr [.list (t.nodes.map NodeTy.c), .list (t.edges.map EdgeTy.c)]] (.bool (insideF t a)) := types_edge1 t
  have hbd : ∀ a b : Int, Pure Tryz.prog 156 [.int .i64 a, .int .i64 b] (.bool (boundedF a b)) := types_bounded
  refine pure_of_calls (acalls_of_body (cfg := ⟨fun t => t == 5, fun _ => []⟩) Tz.mixed Tryz.func77 rfl rfl (nlb rfl) (by kernel_rfl) ?_)
  simp [go_sem, seval, dI, Types.d, Types.c, EdgeTy.c, lge hi, hi]
  refine callQ_pure0 (token_IsName _ hno.name) rfl ?_
  simp [go_sem, seval]
  refine condQ_mk (fun hn => ?_) (fun hn => ?_)
  · simp at hn
    simp [go_sem, seval, edgeF, lge hi, hn]
  · simp at hn
    simp [go_sem, seval]
    have hc := containsFunc_edge (t.edges.take i) 155 [.adr t.edges[i].c] (fun y => decide (y.name = t.edges[i].name)) (by simp [D.clL, D.cl, EdgeTy.cl]) (by rw [D.cl]; exact edges_cl _) (fun y _ => types_edge2 t.edges[i] y)
    refine ⟨⟨by omega, by cases t.edges <;> simp [EdgeTy.c]⟩, callQ_pureC hc (by simp [rsvC, rsvP, cellsAt, go_sem, EdgeTy.c, dI, List.map_take]) (by simp only [D.clL, D.cl, edges_cl, EdgeTy.cl]; rfl) rfl ?_⟩
    simp [go_sem, seval]
    refine condQ_mk (fun hb => ?_) (fun hb => ?_)
    ·simp [go_sem, seval, edgeF, lge hi, hn, hb]
    ·simp [go_sem, seval, EdgeTy.c, dI]
     refine callQ_pure0 (hin _) (by simp [D.clL, D.cl, hcN, hcE]) ?_
     simp [go_sem, seval, EdgeTy.c, dI]
     refine gcallQ_pure0 (fun _ => hin _) (fun _ => by simp [D.clL, D.cl, hcN, hcE]) ?_
     simp [go_sem, seval, EdgeTy.c, dI]
     refine condQ_mk (fun h1 => ?_) (fun h1 => ?_)
     ·have e : edgeF t i = 6 := by
       simp only [edgeF, lge hi]; rw [if_neg (by simp [hn]), if_neg (by simp [hb]), if_neg (by intro h; simp at h; simp [h] at h1)]
      simp [go_sem, seval]
      refine condQ_mk (fun _ => ?_) (fun h => ?_)
      ·simp [go_sem, seval, e]
      ·rw [h1] at h; cases h
     ·simp [go_sem, seval, EdgeTy.c, dI]
      refine callQ_pure0 (hbd _ _) rfl ?_
      simp [go_sem, seval, EdgeTy.c, dI]
      refine gcallQ_pure0 (fun _ => hbd _ _) (fun _ => rfl) ?_
      simp [go_sem, seval, EdgeTy.c, dI]
      refine condQ_mk (fun h2 => ?_) (fun h2 => ?_)
      ·have e : edgeF t i = 6 := by
        simp only [edgeF, lge hi]; rw [if_neg (by simp [hn]), if_neg (by simp [hb]), if_neg (by intro h; simp at h; simp [h] at h2)]
       simp [go_sem, seval, e]
      ·have e : edgeF t i = 0 := by
        simp only [edgeF, lge hi]; rw [if_neg (by simp [hn]), if_neg (by simp [hb]), if_pos (by simp at h1 h2 ⊢; simp [h1, h2])]
       simp [go_sem, seval, e]
end Go.Abs
end
section
set_option maxRecDepth 4000
open Go Go.Proofs
namespace Go.Abs
theorem nodeF_parent (t : Types) (j : Nat) (n : NodeTy) (h : nodeF t j = 0) (hn : t.nodes[j]? = some n) : n.parent < j := by
  simp only [nodeF, hn] at h
  split at h
  · cases h
  · split at h
    ·cases h
    ·split at h
     ·cases h
     ·rename_i hr; simp at hr; omega
def firstNE (f : Nat → Int) (nm : Nat → ByteArray) (last : ByteArray × Int) : Nat → Nat → ByteArray × Int
  | _, 0 => last
  | k, n + 1 => if f k ≠ 0 then (nm k, f k) else firstNE f nm last (k + 1) n
def Types.nodeName (t : Types) (i : Nat) : ByteArray := match t.nodes[i]? with | some n => n.name | none => ⟨#[]⟩
def Types.edgeName (t : Types) (i : Nat) : ByteArray := match t.edges[i]? with | some n => n.name | none => ⟨#[]⟩
def validF (t : Types) : ByteArray × Int :=
  if t.nodes.length = 0 then (⟨#[]⟩, 7)
  else if 12 < t.nodes.length ∨ 20 < t.edges.length then (⟨#[]⟩, 3)
  else firstNE (nodeF t) t.nodeName (firstNE (edgeF t) t.edgeName (⟨#[]⟩, 0) 0 t.edges.length) 0 t.nodes.length
theorem types_Valid (t : Types) (ht : t.ok) : Pure Tryz.prog 35 [t.d] (.tup [.str (validF t).1, dI (validF t).2]) := by
  refine pure_of_calls (acalls_of_body (cfg := ⟨fun t => t == 5 || t == 8, fun _ => []⟩) Tz.mixed Tryz.func35 rfl rfl (nlb rfl) (by kernel_rfl) ?_)
  simp [go_sem, seval, dI, Types.d, Types.c]
  intro hlen
  refine condQ_mk (fun h0 => ?_) (fun h0 => ?_)
  · simp at h0
    simp [go_sem, seval, validF, h0]
  · simp at h0
    simp [go_sem, seval]
    intro _ _
    refine condQ_mk (fun hb => ?_) (fun hb => ?_)
    ·have hb' : 12 < t.nodes.length ∨ 20 < t.edges.length := by simp at hb; omega
     simp [go_sem, seval, validF, h0, hb']
    ·have hb' : ¬ (12 < t.nodes.length ∨ 20 < t.edges.length) := by simp at hb; omega
     have e : validF t = firstNE (nodeF t) t.nodeName (firstNE (edgeF t) t.edgeName (⟨#[]⟩, 0) 0 t.edges.length) 0 t.nodes.length := by simp [validF, h0, hb']
     simp [go_sem, seval]
     intro _
     refine loop_rule (ι := Nat) (fun i e H => i ≤ t.nodes.length ∧ e 1 = .adr t.c ∧ e 27 = .list (t.nodes.map NodeTy.c) ∧ e 28 = dI t.nodes.length ∧ e 29 = dI i ∧ (∀ j, j < i → nodeF t j = 0) ∧
      firstNE (nodeF t) t.nodeName (firstNE (edgeF t) t.edgeName (⟨#[]⟩, 0) 0 t.edges.length) i (t.nodes.length - i) = validF t) (fun i => t.nodes.length - i) 0 (by simp [go_sem, seval, dI, Types.c, e]) ?_
     intro i e' H ⟨hi, h1, h27, h28, h29, hz, hF⟩
     simp [go_sem, seval, h1, h27, h28, h29, dI, Types.c]
     refine condQ_dec (fun hlt => ?_) (fun hge => ?_)
     ·simp [go_sem, seval, h1, h27, h28, h29, dI, Types.c, NodeTy.c, hlt]
      have hnd := types_node t ht i hlt (fun j n hj hn => nodeF_parent t j n (hz j hj) hn)
      simp only [Types.d, Types.c, dI] at hnd
      have hstep : firstNE (nodeF t) t.nodeName (firstNE (edgeF t) t.edgeName (⟨#[]⟩, 0) 0 t.edges.length) i (t.nodes.length - i) =
        if nodeF t i ≠ 0 then (t.nodeName i, nodeF t i) else firstNE (nodeF t) t.nodeName (firstNE (edgeF t) t.edgeName (⟨#[]⟩, 0) 0 t.edges.length) (i + 1) (t.nodes.length - (i + 1)) := by
       rw [show t.nodes.length - i = t.nodes.length - (i + 1) + 1 by omega, firstNE]
      rw [hstep] at hF
      refine callQ_pure0 hnd (by simp [D.clL, D.cl, nodes_cl, edges_cl]) ?_
      simp [go_sem, seval]
      refine condQ_mk (fun hc => ?_) (fun hc => ?_)
      ·have hc' : nodeF t i ≠ 0 := by simpa using hc
       rw [if_pos hc'] at hF
       simp [go_sem, seval, ← hF, Types.nodeName, lge hlt]
      ·have hc' : ¬ nodeF t i ≠ 0 := by simpa using hc
       rw [if_neg hc'] at hF
       simp [go_sem, seval, h1, h27, h28, h29, dI, Types.c]
       refine ⟨inR_i64 (by omega) (by omega), i + 1, by omega, by omega, by omega, fun j hj => ?_, hF⟩
       rcases Nat.lt_or_ge j i with hj' | hj'
       ·exact hz j hj'
       ·have : j = i := by omega
        subst this; simpa using hc'
     ·simp [go_sem, seval, h1, h27, h28, h29, dI, Types.c]
      intro _
      rw [show t.nodes.length - i = 0 by omega] at hF
      simp only [firstNE] at hF
      refine loop_rule (ι := Nat) (fun i e H => i ≤ t.edges.length ∧ e 1 = .adr t.c ∧ e 44 = .list (t.edges.map EdgeTy.c) ∧ e 45 = dI t.edges.length ∧ e 46 = dI i ∧
       firstNE (edgeF t) t.edgeName (⟨#[]⟩, 0) i (t.edges.length - i) = validF t) (fun i => t.edges.length - i) 0 (by simp [go_sem, seval, h1, dI, Types.c, hF]) ?_
      intro i e' H ⟨hi, h1, h44, h45, h46, hF⟩
      simp [go_sem, seval, h1, h44, h45, h46, dI, Types.c]
      refine condQ_dec (fun hlt => ?_) (fun hge => ?_)
      ·simp [go_sem, seval, h1, h44, h45, h46, dI, Types.c, EdgeTy.c, hlt]
       have hnd := types_edge t ht i hlt
       simp only [Types.d, Types.c, dI] at hnd
       have hstep : firstNE (edgeF t) t.edgeName (⟨#[]⟩, 0) i (t.edges.length - i) =
         if edgeF t i ≠ 0 then (t.edgeName i, edgeF t i) else firstNE (edgeF t) t.edgeName (⟨#[]⟩, 0) (i + 1) (t.edges.length - (i + 1)) := by
        rw [show t.edges.length - i = t.edges.length - (i + 1) + 1 by omega, firstNE]
       rw [hstep] at hF
       refine callQ_pure0 hnd (by simp [D.clL, D.cl, nodes_cl, edges_cl]) ?_
       simp [go_sem, seval]
       refine condQ_mk (fun hc => ?_) (fun hc => ?_)
       ·have hc' : edgeF t i ≠ 0 := by simpa using hc
        rw [if_pos hc'] at hF
        simp [go_sem, seval, ← hF, Types.edgeName, lge hlt]
       ·have hc' : ¬ edgeF t i ≠ 0 := by simpa using hc
        rw [if_neg hc'] at hF
        simp [go_sem, seval, h1, h44, h45, h46, dI, Types.c]
        exact ⟨inR_i64 (by omega) (by omega), i + 1, by omega, by omega, by omega, hF⟩
      ·rw [show t.edges.length - i = 0 by omega] at hF
       simp only [firstNE] at hF
       simp [go_sem, seval, ← hF]
end Go.Abs
end
