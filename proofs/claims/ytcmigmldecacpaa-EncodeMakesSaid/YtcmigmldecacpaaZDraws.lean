/- An ID's picks, as they are drawn: plain. -/
import Derived.Test.YtcmigmldecacpaaZRandN
import Derived.Test.YtcmigmldecacpaaZGivCell
namespace Go.Proofs.Ytcmigmldecacpaa.Draws
open Go Go.RowKit Go.Proofs.YtcmigmldecacpaaW.PrintWords Go.Proofs.Ytcmigmldecacpaa.Rand Go.Proofs.Ytcmigmldecacpaa.Giv

abbrev Cl := S70
/-! ### the first free place, around -/
def freeOf (T : List Bool) : Nat := T.findIdx (fun b => !b)
def dst (n f a : Nat) : Nat := if a ≤ f then f - a else f + n - a
def up1 (n a : Nat) : Nat := if a + 1 = n then 0 else a + 1
def probeF (T : List Bool) (n : Nat) : Nat → Nat → Nat
  | 0, a => a
  | k + 1, a => if T.getD a false = true then probeF T n k (up1 n a) else a
def probe (T : List Bool) (n a : Nat) : Nat := probeF T n (dst n (freeOf T) a) a
theorem free_spec {T : List Bool} (h : T.count true < T.length) : freeOf T < T.length ∧ T.getD (freeOf T) false = false := by
  have hx : ∃ x ∈ T, (!x) = true := by
    by_cases e : ∃ x ∈ T, (!x) = true
    · exact e
    · exfalso
      have : T.count true = T.length := List.count_eq_length.2 (fun x hx => by
        cases x with
        | true => rfl
        | false => exact absurd ⟨false, hx, rfl⟩ e)
      omega
  have hl : freeOf T < T.length := List.findIdx_lt_length.2 hx
  have h2 : (!(T[freeOf T])) = true := List.findIdx_getElem (w := hl)
  refine ⟨hl, ?_⟩
  rw [List.getD_eq_getElem?_getD, List.getElem?_eq_getElem hl]
  show T[freeOf T] = false
  simpa using h2
theorem up1_lt {n a : Nat} (h : a < n) : up1 n a < n := by unfold up1; split <;> omega
theorem up1_mod {n a : Nat} (h : a < n) : (a + 1) % n = up1 n a := by
  unfold up1
  split
  · rename_i e; rw [e, Nat.mod_self]
  · exact Nat.mod_eq_of_lt (by omega)
theorem dst_up {n f a : Nat} (hf : f < n) (ha : a < n) (hne : a ≠ f) : dst n f a = dst n f (up1 n a) + 1 := by
  unfold dst up1
  split <;> split <;> split <;> omega
theorem probe_free {T : List Bool} {n a : Nat} (h : T.getD a false = false) : probe T n a = a := by
  unfold probe
  cases dst n (freeOf T) a with
  | zero => rfl
  | succ k =>
    show (if T.getD a false = true then _ else a) = a
    rw [h]
    rfl
theorem probe_taken {T : List Bool} {n a : Nat} (hf : T.count true < T.length) (hn : T.length = n) (ha : a < n) (h : T.getD a false = true) : probe T n (up1 n a) = probe T n a ∧ dst n (freeOf T) (up1 n a) < dst n (freeOf T) a := by
  obtain ⟨h1, h2⟩ := free_spec hf
  have hne : a ≠ freeOf T := fun e => by rw [e, h2] at h; cases h
  have hd := dst_up (by omega : freeOf T < n) ha hne
  refine ⟨?_, by omega⟩
  unfold probe
  rw [hd]
  show _ = (if T.getD a false = true then _ else a)
  rw [if_pos h]
theorem probe_ok {T : List Bool} {n : Nat} (hf : T.count true < T.length) (hn : T.length = n) : ∀ (d a : Nat), dst n (freeOf T) a = d → a < n → probe T n a < n ∧ T.getD (probe T n a) false = false := by
  intro d
  induction d with
  | zero =>
    intro a hd ha
    obtain ⟨h1, h2⟩ := free_spec hf
    have e : a = freeOf T := by unfold dst at hd; split at hd <;> omega
    have h3 : T.getD a false = false := by rw [e]; exact h2
    rw [probe_free h3]
    exact ⟨ha, h3⟩
  | succ d ih =>
    intro a hd ha
    cases h : T.getD a false with
    | false => rw [probe_free h]; exact ⟨ha, h⟩
    | true =>
      obtain ⟨h1, h2⟩ := free_spec hf
      have hne : a ≠ freeOf T := fun e => by rw [e, h2] at h; cases h
      have hu := dst_up (by omega : freeOf T < n) ha hne
      rw [← (probe_taken hf hn ha h).1]
      exact ih (up1 n a) (by omega) (up1_lt ha)
theorem count_set {T : List Bool} : ∀ {a : Nat}, a < T.length → T.getD a false = false → (T.set a true).count true = T.count true + 1 := by
  induction T with
  | nil => intro a h _; simp at h
  | cons b t ih =>
    intro a h h2
    cases a with
    | zero =>
      have e : b = false := h2
      subst e
      simp
    | succ a =>
      have h3 := ih (a := a) (by simpa using h) (by simpa using h2)
      rw [List.set_cons_succ, List.count_cons, List.count_cons, h3]
      omega
/-! ### the draws -/
structure Dr where
  x : Nat
  T : List Bool
  out : List Cl
def drawStep (n : Nat) (s : Dr) : Dr :=
  ⟨rnN (rnN s.x), s.T.set (probe s.T n (rnN s.x % n)) true, s.out ++ [⟨((probe s.T n (rnN s.x % n) : Nat) : Int), ((1 + rnN (rnN s.x) % 255 : Nat) : Int)⟩]⟩
def drawTo (n : Nat) (s : Dr) : Nat → Dr
  | 0 => s
  | i + 1 => drawStep n (drawTo n s i)
structure DrOk (n i : Nat) (s : Dr) : Prop where
  lt : s.x < 4294967296
  len : s.T.length = n
  cnt : s.T.count true = i
  ol : s.out.length = i
  rng : ∀ p ∈ s.out, 0 ≤ p.f0 ∧ p.f0 < n ∧ 1 ≤ p.f1 ∧ p.f1 < 256
theorem step_ok {n i : Nat} {s : Dr} (h : DrOk n i s) (hi : i < n) : DrOk n (i + 1) (drawStep n s) := by
  have hc : s.T.count true < s.T.length := by rw [h.cnt, h.len]; exact hi
  have h1 := (rn_cast h.lt).2
  obtain ⟨p1, p2⟩ := probe_ok hc h.len _ (rnN s.x % n) rfl (Nat.mod_lt _ (by omega))
  refine ⟨(rn_cast h1).2, by show (List.set _ _ _).length = n; rw [List.length_set]; exact h.len, ?_, ?_, fun p hp => ?_⟩
  · show (List.set _ _ _).count true = _
    rw [count_set (by rw [h.len]; exact p1) p2, h.cnt]
  · show (_ ++ [_]).length = _
    rw [List.length_append, h.ol]
    rfl
  · rcases List.mem_append.1 hp with hp | hp
    · exact h.rng p hp
    · rw [List.mem_singleton.1 hp]
      have : rnN (rnN s.x) % 255 < 255 := Nat.mod_lt _ (by omega)
      exact ⟨Int.natCast_nonneg _, by show ((probe s.T n (rnN s.x % n) : Nat) : Int) < n; omega, by show (1 : Int) ≤ ((1 + rnN (rnN s.x) % 255 : Nat) : Int); omega, by show ((1 + rnN (rnN s.x) % 255 : Nat) : Int) < 256; omega⟩
theorem drawTo_ok {n : Nat} {s : Dr} (h : DrOk n 0 s) : ∀ i, i ≤ n → DrOk n i (drawTo n s i)
  | 0, _ => h
  | i + 1, hi => step_ok (drawTo_ok h i (by omega)) (by omega)
/-! ### all of an ID's -/
def placesN (k : Nat) : Nat := (k + 7) / 8 + 3 + k
def seedN (k id : Nat) : Nat := (id * 2654435761 + k * 40503) % 4294967296
def state0 (k id : Nat) : Nat := rbN (seedN k id)
def degN (k id : Nat) : Nat := (mx (mn (deg0 ((rnN (state0 k id) : Int) % 1024)) (placesN k : Int)) 1).toNat
def dr0 (k id : Nat) : Dr := ⟨rnN (state0 k id), List.replicate (placesN k) false, []⟩
def drawn (k id : Nat) : Dr := drawTo (placesN k) (dr0 k id) (degN k id)
theorem state_lt (k id : Nat) : state0 k id < 4294967296 := (rb_cast (Nat.mod_lt _ (by omega))).2
theorem dr0_ok (k id : Nat) : DrOk (placesN k) 0 (dr0 k id) := by
  refine ⟨(rn_cast (state_lt k id)).2, List.length_replicate, ?_, rfl, fun p hp => by cases hp⟩
  show (List.replicate (placesN k) false).count true = 0
  rw [List.count_replicate]
  rfl
theorem deg0_pos (x : Int) : 1 ≤ deg0 x ∧ deg0 x ≤ 34 := by
  unfold deg0
  repeat' split
  all_goals omega
theorem deg_cast (k id : Nat) : mx (mn (deg0 ((rnN (state0 k id) : Int) % 1024)) (placesN k : Int)) 1 = ((degN k id : Nat) : Int) ∧ 1 ≤ degN k id ∧ degN k id ≤ placesN k ∧ degN k id ≤ 34 := by
  have h := deg0_pos ((rnN (state0 k id) : Int) % 1024)
  have hp : 3 ≤ placesN k := by unfold placesN; omega
  unfold degN
  generalize deg0 ((rnN (state0 k id) : Int) % 1024) = d at h
  unfold mx mn
  split <;> split <;> omega
theorem drawn_ok (k id : Nat) : DrOk (placesN k) (degN k id) (drawn k id) := drawTo_ok (dr0_ok k id) _ (deg_cast k id).2.2.1
end Go.Proofs.Ytcmigmldecacpaa.Draws
