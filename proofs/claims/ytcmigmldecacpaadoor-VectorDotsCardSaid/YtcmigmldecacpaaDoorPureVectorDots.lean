/- The sum of any products of bytes is what the document says, and whether all is 0. No condition beyond the kinds of the arguments. -/
import Derived.Test.YtcmigmldecacpaaDoorQVectorDotsx2
import Derived.Test.YtcmigmldecacpaaDoorGf
import Derived.Test.YtcmigmldecacpaaDoorBt
import Derived.Test.YtcmigmldecacpaaDoorGivZero
import Derived.Test.YtcmigmldecacpaaDoorGivAwake4
namespace Go.Proofs.YtcmigmldecacpaaDoor.Pure
open Go Go.RowKit Go.Proofs.YtcmigmldecacpaaDoor.QVectorDots Go.Proofs.YtcmigmldecacpaaDoorW.PrintWords Go.Proofs.YtcmigmldecacpaaDoorW.PrintLast Go.Proofs.YtcmigmldecacpaaDoor.Vec Go.Proofs.YtcmigmldecacpaaDoor.Giv

theorem shr_u8 (b : Nat) (i : Nat) (hi : i < 8) : shr .u8 (b : Int) (IntKind.u64.wrap (i : Int)) = ((b / 2 ^ i : Nat) : Int) := by
  unfold shr
  rw [Gy.u64_wrap_id (by omega) (by omega)]
  have e : min ((i : Int)).toNat (IntKind.bits .u8) = i := by show min i 8 = i; omega
  rw [e]
  norm_cast
theorem pow_lt8 {i : Nat} (h : i < 8) : 2 ^ i ≤ 128 := by
  have : 2 ^ i ≤ 2 ^ 7 := Nat.pow_le_pow_right (by omega) (by omega)
  exact this
theorem shl_i64 {a : Nat} (ha : a < 512) (i : Nat) (hi : i < 8) : shl .i64 (a : Int) (IntKind.u64.wrap (i : Int)) = ((a * 2 ^ i : Nat) : Int) := by
  unfold shl
  rw [Gy.u64_wrap_id (by omega) (by omega)]
  have e : min ((i : Int)).toNat (IntKind.bits .i64) = i := by show min i 64 = i; omega
  rw [e]
  have h1 := pow_lt8 hi
  have h2 : a * 2 ^ i ≤ 511 * 128 := Nat.mul_le_mul (by omega) h1
  have e2 : (a : Int) * 2 ^ i = ((a * 2 ^ i : Nat) : Int) := by norm_cast
  rw [e2, Gy.wrapI64]
  omega
theorem shr_i64 (v : Nat) (i : Nat) (hi : i < 64) : shr .i64 (v : Int) (IntKind.u64.wrap (i : Int)) = ((v / 2 ^ i : Nat) : Int) := by
  unfold shr
  rw [Gy.u64_wrap_id (by omega) (by omega)]
  have e : min ((i : Int)).toNat (IntKind.bits .i64) = i := by show min i 64 = i; omega
  rw [e]
  norm_cast
theorem rm_l1 : ∀ (f v k : Nat), f ≤ 7 → v < 2 ^ 20 → f < k → geyserref03_Mul.l1 k v ((f : Int) + 7) = some ((Gy.rmulR f v % 256 : Nat) : Int) := by
  intro f
  induction f with
  | zero =>
    intro v k _ hv hk
    obtain ⟨k, rfl⟩ : ∃ m, k = m + 1 := ⟨k - 1, by omega⟩
    simp only [geyserref03_Mul.l1]
    rw [if_neg (by omega)]
    rfl
  | succ f ih =>
    intro v k hf hv hk
    obtain ⟨k, rfl⟩ : ∃ m, k = m + 1 := ⟨k - 1, by omega⟩
    have e8 : ((f + 1 : Nat) : Int) + 7 = ((f + 8 : Nat) : Int) := by omega
    rw [e8]
    simp only [geyserref03_Mul.l1]
    rw [if_pos (by omega), if_pos (by rw [Gy.u64_wrap_id (by omega) (by omega)]; omega)]
    rw [shr_i64 v (f + 8) (by omega), Gy.i64_and1 _ (Nat.lt_of_le_of_lt (Nat.div_le_self _ _) (by omega))]
    have em1 : wrap64 (((f + 8 : Nat) : Int) - 1) = (f : Int) + 7 := by rw [Gy.wrap64_id (by omega) (by omega)]; omega
    have em8 : wrap64 (((f + 8 : Nat) : Int) - 8) = (f : Int) := by rw [Gy.wrap64_id (by omega) (by omega)]; omega
    rw [em1, em8]
    have hm : Gy.rmulR (f + 1) v = Gy.rmulR f (if (v / 2 ^ (f + 8)) % 2 = 1 then v ^^^ (285 * 2 ^ f) else v) := rfl
    have e285 : shl .i64 (285 : Int) (IntKind.u64.wrap (f : Int)) = ((285 * 2 ^ f : Nat) : Int) := shl_i64 (a := 285) (by omega) f (by omega)
    have hp := pow_lt8 (i := f) (by omega)
    rw [e285, Gy.i64_xor v (285 * 2 ^ f) (by omega) (by omega)]
    by_cases h1 : (v / 2 ^ (f + 8)) % 2 = 1
    · rw [if_pos (by omega), if_pos (by rw [Gy.u64_wrap_id (by omega) (by omega)]; omega), hm, if_pos h1]
      exact ih _ _ (by omega) (Gy.xor_lt 20 hv (by omega)) (by omega)
    · rw [if_neg (by omega), hm, if_neg h1]
      exact ih _ _ (by omega) hv (by omega)
theorem rm_l0 : ∀ (f i : Nat) (a b v k : Nat), f + i = 8 → a < 256 → b < 256 → v < 2 ^ 20 → f + 9 < k →
    geyserref03_Mul.l0 k a b v i = some ((Gy.rmulR 7 (Gy.rmulV f a b v i) % 256 : Nat) : Int) := by
  intro f
  induction f with
  | zero =>
    intro i a b v k hi ha hb hv hk
    obtain ⟨k, rfl⟩ : ∃ m, k = m + 1 := ⟨k - 1, by omega⟩
    simp only [geyserref03_Mul.l0]
    rw [if_neg (by omega)]
    exact rm_l1 7 v k (by omega) hv (by omega)
  | succ f ih =>
    intro i a b v k hi ha hb hv hk
    obtain ⟨k, rfl⟩ : ∃ m, k = m + 1 := ⟨k - 1, by omega⟩
    simp only [geyserref03_Mul.l0]
    rw [if_pos (by omega), if_pos (by rw [Gy.u64_wrap_id (by omega) (by omega)]; omega)]
    rw [shr_u8 b i (by omega), Gy.u8_and1 _ (Nat.lt_of_le_of_lt (Nat.div_le_self _ _) hb)]
    have e1 : wrap64 ((i : Int) + 1) = ((i + 1 : Nat) : Int) := by rw [Gy.wrap64_id (by omega) (by omega)]; omega
    rw [e1, Gy.wrap64_id (by omega) (by omega), shl_i64 (by omega) i (by omega)]
    have hp := pow_lt8 (i := i) (by omega)
    have hav : a * 2 ^ i ≤ 255 * 128 := Nat.mul_le_mul (by omega) hp
    rw [Gy.i64_xor v (a * 2 ^ i) (by omega) (by omega)]
    have hm : Gy.rmulV (f + 1) a b v i = Gy.rmulV f a b (if (b / 2 ^ i) % 2 = 1 then v ^^^ (a * 2 ^ i) else v) (i + 1) := rfl
    by_cases h1 : (b / 2 ^ i) % 2 = 1
    · rw [if_pos (by omega), hm, if_pos h1]
      exact ih _ _ _ _ _ (by omega) ha hb (Gy.xor_lt 20 hv (by omega)) (by omega)
    · rw [if_neg (by omega), hm, if_neg h1]
      exact ih _ _ _ _ _ (by omega) ha hb hv (by omega)
theorem rmul_def (a b : Nat) : Gy.rmul a b = Gy.rmulR 7 (Gy.rmulV 8 a b 0 0) % 256 := by unfold Gy.rmul; rfl
theorem rmul {k : Nat} (hk : 18 ≤ k) {a b : Nat} (ha : a < 256) (hb : b < 256) : geyserref03_Mul.f k a b = some ((Gy.gmul a b : Nat) : Int) := by
  have h := rm_l0 8 0 a b 0 k (by omega) ha hb (by omega) (by omega)
  rw [← rmul_def, Gy.rmul_eq ha hb] at h
  exact h
theorem up5 {i n : Nat} (h : i < n) (hn : n ≤ 5000) : wrap64 ((i : Int) + 1) = ((i + 1 : Nat) : Int) := by rw [Gy.wrap64_id (by omega) (by omega)]; omega
theorem nought_take (a : List Int) (i : Nat) (hi : i < a.length) : decide (Nought (a.take (i + 1))) = (decide (Nought (a.take i)) && (a[i] == 0)) := by
  rw [List.take_succ_eq_append_getElem hi, Bool.eq_iff_iff]
  simp only [decide_eq_true_eq, Bool.and_eq_true, beq_iff_eq]
  constructor
  · intro h
    exact ⟨fun x hx => h x (List.mem_append_left _ hx), h _ (List.mem_append_right _ List.mem_cons_self)⟩
  · intro h x hx
    rcases List.mem_append.1 hx with hx | hx
    · exact h.1 x hx
    · rw [List.mem_singleton.1 hx]; exact h.2
theorem l1_dot (a b : List Int) (ha : By a) (hb : By b) (hl : a.length = b.length) (hn : a.length ≤ 5000) (X : Int) : ∀ (d i : Nat), i + d = a.length →
    Ev (fun n => geyserlaw04_VectorDots.l1 n a b X 0 ((dotN a b i : Nat) : Int) (a.length : Int) i) (X == ((dotN a b a.length : Nat) : Int)) := by
  intro d
  induction d with
  | zero =>
    intro i hi
    obtain rfl : i = a.length := by omega
    refine Ev.step (fun n => ?_) (Ev.now _)
    simp only [geyserlaw04_VectorDots.l1]
    rw [if_neg (by omega), if_pos trivial]
  | succ d ih =>
    intro i hi
    obtain ⟨m, hm, lm⟩ := ha.at i (by omega)
    obtain ⟨p, hp, lp⟩ := hb.at i (by omega)
    have hsum : dotN a b (i + 1) = dotN a b i ^^^ Gy.gmul m p := by
      show dotN a b i ^^^ Gy.gmul (a.getD i 0).toNat (b.getD i 0).toNat = _
      rw [getD_at a i (by omega), getD_at b i (by omega), hm, hp, Int.toNat_natCast, Int.toNat_natCast]
    have hmul : Ev (fun n => geyserref03_Mul.f n (m : Int) (p : Int)) ((Gy.gmul m p : Nat) : Int) := ⟨18, fun n hn => rmul hn lm lp⟩
    have hx : Go.bits .xor .u8 ((dotN a b i : Nat) : Int) ((Gy.gmul m p : Nat) : Int) = ((dotN a b (i + 1) : Nat) : Int) := by
      rw [hsum]; exact Go.u8_xor_nat _ _ (dotN_lt ha hb i (by omega) (by omega)) (Gy.gmul_lt lm lp)
    refine Ev.step (f := fun n => (geyserref03_Mul.f n (m : Int) (p : Int)).bind fun t => geyserlaw04_VectorDots.l1 n a b X 0 (Go.bits .xor .u8 ((dotN a b i : Nat) : Int) t) (a.length : Int) ((i + 1 : Nat) : Int)) (fun n => ?_) (Ev.bind hmul ?_)
    · simp only [geyserlaw04_VectorDots.l1]
      rw [if_pos (by omega), if_pos (by omega), if_pos (by omega), if_pos (by omega), rd_at a i (by omega), rd_at b i (by omega), hm, hp, up5 (by omega) hn]
    · rw [hx]; exact ih (i + 1) (by omega)
theorem l0_zero (a b : List Int) (x e : Int) (hn : a.length ≤ 5000) {R : Bool} (hR : Ev (fun n => (vector_Zero.f a).bind fun t131 => (if (t131 != decide (Nought a)) = true then (some false) else (if (a.length : Int) = (b.length : Int) then (geyserlaw04_VectorDots.l1 n a b x e 0 (a.length : Int) 0) else (if e = 1 then (some (x == 0)) else (some false))))) R) : ∀ (d i : Nat), i + d = a.length →
    Ev (fun n => geyserlaw04_VectorDots.l0 n a b x e (decide (Nought (a.take i))) (a.length : Int) i) R := by
  intro d
  induction d with
  | zero =>
    intro i hi
    rw [List.take_of_length_le (by omega)]
    refine Ev.step (fun n => ?_) hR
    simp only [geyserlaw04_VectorDots.l0]
    rw [if_neg (by omega)]
  | succ d ih =>
    intro i hi
    have h1 := ih (i + 1) (by omega)
    rw [nought_take a i (by omega)] at h1
    by_cases hz : Nought (a.take i)
    · rw [decide_eq_true hz] at h1 ⊢
      rw [Bool.true_and] at h1
      refine Ev.step (fun n => ?_) h1
      simp only [geyserlaw04_VectorDots.l0]
      rw [if_pos (by omega), if_pos trivial, if_pos (by omega), if_pos (by omega), rd_at a i (by omega), up5 (by omega) hn]
    · rw [decide_eq_false hz] at h1 ⊢
      rw [Bool.false_and] at h1
      refine Ev.step (fun n => ?_) h1
      simp only [geyserlaw04_VectorDots.l0]
      rw [if_pos (by omega), if_neg (by decide), up5 (by omega) hn]
theorem VectorDots (a b : List Int) (ha : By a) (hb : By b) : ∃ k, geyserlaw04_VectorDots.f k a b = some true := by
  refine Ev.rounds ?_
  have hw : geyserlaw04_awake.f = some true := rfl
  have hj : Ev (fun n => geyserlaw04_VectorDots.j0 n a b true) true := by
    refine Ev.step (f := fun _ => some true) (fun n => ?_) (Ev.now _)
    simp only [geyserlaw04_VectorDots.j0]
    rw [if_pos trivial, hw]
    rfl
  by_cases h0 : (a.length : Int) > 5000
  · refine Ev.congr (fun n => ?_) hj
    unfold geyserlaw04_VectorDots.f
    rw [hw, Option.bind_some, if_pos rfl, if_pos h0]
  · by_cases h1 : (b.length : Int) > 5000
    · refine Ev.congr (fun n => ?_) hj
      unfold geyserlaw04_VectorDots.f
      rw [hw, Option.bind_some, if_pos rfl, if_neg h0, decide_eq_true h1]
    · have hz : vector_Zero.f a = some (decide (Nought a)) := by unfold vector_Zero.f; rw [if_pos (by omega)]
      have key : ∀ x e, vector_Dot.f a b = some (x, e) → Ev (fun n => (vector_Zero.f a).bind fun t131 => (if (t131 != decide (Nought a)) = true then (some false) else (if (a.length : Int) = (b.length : Int) then (geyserlaw04_VectorDots.l1 n a b x e 0 (a.length : Int) 0) else (if e = 1 then (some (x == 0)) else (some false))))) true → Ev (fun n => geyserlaw04_VectorDots.f n a b) true := by
        intro x e hd hR
        have hl := l0_zero a b x e (by omega) hR a.length 0 (by omega)
        have e0 : decide (Nought (a.take 0)) = true := decide_eq_true (by intro x hx; simp at hx)
        rw [e0] at hl
        have hj2 : Ev (fun n => geyserlaw04_VectorDots.j0 n a b false) true := by
          refine Ev.step (fun n => ?_) hl
          simp only [geyserlaw04_VectorDots.j0]
          rw [if_neg (by decide), hd]
          rfl
        refine Ev.congr (fun n => ?_) hj2
        unfold geyserlaw04_VectorDots.f
        rw [hw, Option.bind_some, if_pos rfl, if_neg h0, decide_eq_false h1]
      by_cases hl : a.length = b.length
      · refine key ((dotN a b a.length : Nat) : Int) 0 (by unfold vector_Dot.f; rw [if_pos hl, if_pos ⟨by omega, by_okB ha, by_okB hb⟩]) ?_
        have h := l1_dot a b ha hb hl (by omega) ((dotN a b a.length : Nat) : Int) a.length 0 (by omega)
        rw [beq_self_eq_true] at h
        refine Ev.congr (fun n => ?_) h
        rw [hz, Option.bind_some, if_neg (by simp), if_pos (by omega)]
        rfl
      · refine key 0 1 (by unfold vector_Dot.f; rw [if_neg hl]) ?_
        refine Ev.congr (f := fun _ => some true) (fun n => ?_) (Ev.now _)
        rw [hz, Option.bind_some, if_neg (by simp), if_neg (by omega), if_pos rfl]
        rfl

end Go.Proofs.YtcmigmldecacpaaDoor.Pure
