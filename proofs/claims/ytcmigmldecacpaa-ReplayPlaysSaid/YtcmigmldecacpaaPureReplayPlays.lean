/- Any schedule, done to any values, is what the document says, or refused. No condition beyond the kinds of the arguments. -/
import Derived.Test.YtcmigmldecacpaaQReplayPlaysx2
import Derived.Test.YtcmigmldecacpaaGf
import Derived.Test.YtcmigmldecacpaaBt
import Derived.Test.YtcmigmldecacpaaGivPlay
namespace Go.Proofs.Ytcmigmldecacpaa.Pure
open Go Go.RowKit Go.Proofs.Ytcmigmldecacpaa.QReplayPlays Go.Proofs.YtcmigmldecacpaaW.PrintWords Go.Proofs.YtcmigmldecacpaaW.PrintLast Go.Proofs.Ytcmigmldecacpaa.Vec Go.Proofs.Ytcmigmldecacpaa.Giv

theorem shr_u8 (b : Nat) (i : Nat) (hi : i < 8) : shr .u8 (b : Int) (IntKind.u64.wrap (i : Int)) = ((b / 2 ^ i : Nat) : Int) := by
  unfold shr
  rw [Gy.u64_wrap_id (by omega) (by omega)]
  have e : min ((i : Int)).toNat (IntKind.bits .u8) = i := by show min i 8 = i; omega
  rw [e]
  norm_cast
theorem pow_lt8 {i : Nat} (h : i < 8) : 2 ^ i ≤ 128 := by
  have : 2 ^ i ≤ 2 ^ 7 := Nat.pow_le_pow_right (by omega) (by omega)
  exact this
theorem shl_i64 {a : Nat} (ha : a < 512) (i : Nat) (hi : i < 8) : shl .i64 (a : Int) (IntKind.u64.wrap (i : Int)) = ((a * 2 ^ i : Nat) : Int) := by
  unfold shl
  rw [Gy.u64_wrap_id (by omega) (by omega)]
  have e : min ((i : Int)).toNat (IntKind.bits .i64) = i := by show min i 64 = i; omega
  rw [e]
  have h1 := pow_lt8 hi
  have h2 : a * 2 ^ i ≤ 511 * 128 := Nat.mul_le_mul (by omega) h1
  have e2 : (a : Int) * 2 ^ i = ((a * 2 ^ i : Nat) : Int) := by norm_cast
  rw [e2, Gy.wrapI64]
  omega
theorem shr_i64 (v : Nat) (i : Nat) (hi : i < 64) : shr .i64 (v : Int) (IntKind.u64.wrap (i : Int)) = ((v / 2 ^ i : Nat) : Int) := by
  unfold shr
  rw [Gy.u64_wrap_id (by omega) (by omega)]
  have e : min ((i : Int)).toNat (IntKind.bits .i64) = i := by show min i 64 = i; omega
  rw [e]
  norm_cast
theorem rm_l1 : ∀ (f v k : Nat), f ≤ 7 → v < 2 ^ 20 → f < k → geyserref03_Mul.l1 k v ((f : Int) + 7) = some ((Gy.rmulR f v % 256 : Nat) : Int) := by
  intro f
  induction f with
  | zero =>
    intro v k _ hv hk
    obtain ⟨k, rfl⟩ : ∃ m, k = m + 1 := ⟨k - 1, by omega⟩
    simp only [geyserref03_Mul.l1]
    rw [if_neg (by omega)]
    rfl
  | succ f ih =>
    intro v k hf hv hk
    obtain ⟨k, rfl⟩ : ∃ m, k = m + 1 := ⟨k - 1, by omega⟩
    have e8 : ((f + 1 : Nat) : Int) + 7 = ((f + 8 : Nat) : Int) := by omega
    rw [e8]
    simp only [geyserref03_Mul.l1]
    rw [if_pos (by omega), if_pos (by rw [Gy.u64_wrap_id (by omega) (by omega)]; omega)]
    rw [shr_i64 v (f + 8) (by omega), Gy.i64_and1 _ (Nat.lt_of_le_of_lt (Nat.div_le_self _ _) (by omega))]
    have em1 : wrap64 (((f + 8 : Nat) : Int) - 1) = (f : Int) + 7 := by rw [Gy.wrap64_id (by omega) (by omega)]; omega
    have em8 : wrap64 (((f + 8 : Nat) : Int) - 8) = (f : Int) := by rw [Gy.wrap64_id (by omega) (by omega)]; omega
    rw [em1, em8]
    have hm : Gy.rmulR (f + 1) v = Gy.rmulR f (if (v / 2 ^ (f + 8)) % 2 = 1 then v ^^^ (285 * 2 ^ f) else v) := rfl
    have e285 : shl .i64 (285 : Int) (IntKind.u64.wrap (f : Int)) = ((285 * 2 ^ f : Nat) : Int) := shl_i64 (a := 285) (by omega) f (by omega)
    have hp := pow_lt8 (i := f) (by omega)
    rw [e285, Gy.i64_xor v (285 * 2 ^ f) (by omega) (by omega)]
    by_cases h1 : (v / 2 ^ (f + 8)) % 2 = 1
    · rw [if_pos (by omega), if_pos (by rw [Gy.u64_wrap_id (by omega) (by omega)]; omega), hm, if_pos h1]
      exact ih _ _ (by omega) (Gy.xor_lt 20 hv (by omega)) (by omega)
    · rw [if_neg (by omega), hm, if_neg h1]
      exact ih _ _ (by omega) hv (by omega)
theorem rm_l0 : ∀ (f i : Nat) (a b v k : Nat), f + i = 8 → a < 256 → b < 256 → v < 2 ^ 20 → f + 9 < k →
    geyserref03_Mul.l0 k a b v i = some ((Gy.rmulR 7 (Gy.rmulV f a b v i) % 256 : Nat) : Int) := by
  intro f
  induction f with
  | zero =>
    intro i a b v k hi ha hb hv hk
    obtain ⟨k, rfl⟩ : ∃ m, k = m + 1 := ⟨k - 1, by omega⟩
    simp only [geyserref03_Mul.l0]
    rw [if_neg (by omega)]
    exact rm_l1 7 v k (by omega) hv (by omega)
  | succ f ih =>
    intro i a b v k hi ha hb hv hk
    obtain ⟨k, rfl⟩ : ∃ m, k = m + 1 := ⟨k - 1, by omega⟩
    simp only [geyserref03_Mul.l0]
    rw [if_pos (by omega), if_pos (by rw [Gy.u64_wrap_id (by omega) (by omega)]; omega)]
    rw [shr_u8 b i (by omega), Gy.u8_and1 _ (Nat.lt_of_le_of_lt (Nat.div_le_self _ _) hb)]
    have e1 : wrap64 ((i : Int) + 1) = ((i + 1 : Nat) : Int) := by rw [Gy.wrap64_id (by omega) (by omega)]; omega
    rw [e1, Gy.wrap64_id (by omega) (by omega), shl_i64 (by omega) i (by omega)]
    have hp := pow_lt8 (i := i) (by omega)
    have hav : a * 2 ^ i ≤ 255 * 128 := Nat.mul_le_mul (by omega) hp
    rw [Gy.i64_xor v (a * 2 ^ i) (by omega) (by omega)]
    have hm : Gy.rmulV (f + 1) a b v i = Gy.rmulV f a b (if (b / 2 ^ i) % 2 = 1 then v ^^^ (a * 2 ^ i) else v) (i + 1) := rfl
    by_cases h1 : (b / 2 ^ i) % 2 = 1
    · rw [if_pos (by omega), hm, if_pos h1]
      exact ih _ _ _ _ _ (by omega) ha hb (Gy.xor_lt 20 hv (by omega)) (by omega)
    · rw [if_neg (by omega), hm, if_neg h1]
      exact ih _ _ _ _ _ (by omega) ha hb hv (by omega)
theorem rmul_def (a b : Nat) : Gy.rmul a b = Gy.rmulR 7 (Gy.rmulV 8 a b 0 0) % 256 := by unfold Gy.rmul; rfl
theorem rmul {k : Nat} (hk : 18 ≤ k) {a b : Nat} (ha : a < 256) (hb : b < 256) : geyserref03_Mul.f k a b = some ((Gy.gmul a b : Nat) : Int) := by
  have h := rm_l0 8 0 a b 0 k (by omega) ha hb (by omega) (by omega)
  rw [← rmul_def, Gy.rmul_eq ha hb] at h
  exact h
theorem plus_l0 (a b : List Int) (c : Nat) (ha : By a) (hb : By b) (hc : c < 256) (hl : b.length = a.length) (hn : a.length ≤ 9223372036854775807) : ∀ (d i k : Nat) (out : List Int), i + d = a.length → out.length = a.length → d + 20 < k →
    geyserref03_Plus.l0 k a b c out (a.length : Int) (i : Int) = some (out.take i ++ (plusL a b c).drop i) := by
  intro d
  have hpl := plusL_length hl c
  induction d with
  | zero =>
    intro i k out hi ho hk
    obtain ⟨k, rfl⟩ : ∃ m, k = m + 1 := ⟨k - 1, by omega⟩
    simp only [geyserref03_Plus.l0]
    rw [if_neg (by omega), List.drop_eq_nil_of_le (by omega), List.append_nil, List.take_of_length_le (by omega)]
  | succ d ih =>
    intro i k out hi ho hk
    obtain ⟨k, rfl⟩ : ∃ m, k = m + 1 := ⟨k - 1, by omega⟩
    simp only [geyserref03_Plus.l0]
    obtain ⟨m, hm, lm⟩ := ha.at i (by omega)
    obtain ⟨n, hn2, ln⟩ := hb.at i (by omega)
    rw [if_pos (by omega), if_pos (by omega), if_pos (by omega), if_pos (by omega), rd_at a i (by omega), rd_at b i (by omega), hm, hn2, rmul (by omega) ln hc, Option.bind_some, if_pos (by omega)]
    rw [Go.u8_xor_nat m (Gy.gmul n c) lm (Gy.gmul_lt ln hc), Gy.wrap64_id (by omega) (by omega), Int.toNat_natCast]
    rw [show ((i : Int) + 1) = ((i + 1 : Nat) : Int) from by omega]
    rw [ih (i + 1) k _ (by omega) (by rw [List.length_set]; omega) (by omega)]
    congr 1
    rw [List.take_succ_eq_append_getElem (by rw [List.length_set]; omega), List.drop_eq_getElem_cons (show i < (plusL a b c).length by omega), plusL_at c i (by omega) (by omega), hm, hn2, (addI_by c m n lm ln hc).1]
    rw [List.getElem_set_self, List.take_set, List.append_assoc]
    congr 1
    rw [List.set_eq_of_length_le (by rw [List.length_take]; omega)]
theorem plus_f {a b : List Int} {c k : Nat} (ha : By a) (hb : By b) (hc : c < 256) (hl : b.length = a.length) (hn : a.length ≤ 281474976710656) (hk : a.length + 20 < k) : geyserref03_Plus.f k a b c = some (plusL a b c) := by
  unfold geyserref03_Plus.f
  rw [if_pos (by omega), if_pos (by omega), Int.toNat_natCast]
  have h := plus_l0 a b c ha hb hc hl (by omega) a.length 0 k (List.replicate a.length 0) (by omega) (by rw [List.length_replicate]) hk
  rw [List.take_zero, List.nil_append, List.drop_zero] at h
  exact h
theorem up63 {i n : Nat} (h : i < n) (hn : n ≤ 9223372036854775807) : wrap64 ((i : Int) + 1) = ((i + 1 : Nat) : Int) := by rw [Gy.wrap64_id (by omega) (by omega)]; omega
theorem rdL (l : List (List Int)) (i : Nat) (hi : i < l.length) : rd_L2 l (i : Int) = l[i] := by
  unfold rd_L2; rw [Int.toNat_natCast, List.getD_eq_getElem?_getD, List.getElem?_eq_getElem hi]; rfl
theorem rdD (l : List S42) (i : Nat) (hi : i < l.length) : rd_T42 l (i : Int) = l[i] := by
  unfold rd_T42; rw [Int.toNat_natCast, List.getD_eq_getElem?_getD, List.getElem?_eq_getElem hi]; rfl
theorem few_l0 (X : List (List Int)) (hX : X.length ≤ 9223372036854775807) : ∀ (d i : Nat), i + d = X.length → i ≤ 40 → (∀ j (h : j < X.length), j < i → X[j].length ≤ 100) →
    ∃ b, Ev (fun n => geyserlaw12_few.l0 n X (X.length : Int) i) b ∧ (b = true → X.length ≤ 40 ∧ ∀ j (h : j < X.length), X[j].length ≤ 100) := by
  intro d
  induction d with
  | zero =>
    intro i hi h70 hb
    refine ⟨true, Ev.step (fun n => ?_) (Ev.now _), fun _ => ⟨by omega, fun j h => hb j h (by omega)⟩⟩
    simp only [geyserlaw12_few.l0]
    rw [if_neg (by omega)]
  | succ d ih =>
    intro i hi h70 hb
    have hi' : i < X.length := by omega
    by_cases h1 : i ≥ 40
    · refine ⟨false, Ev.step (fun n => ?_) (Ev.now _), fun h => by cases h⟩
      simp only [geyserlaw12_few.l0]
      rw [if_pos (by omega), if_pos (by omega)]
    · by_cases h2 : ((X[i]).length : Int) > 100
      · refine ⟨false, Ev.step (fun n => ?_) (Ev.now _), fun h => by cases h⟩
        simp only [geyserlaw12_few.l0]
        rw [if_pos (by omega), if_neg (by omega), if_pos (by omega), if_pos (by omega), rdL X i hi', if_pos h2]
      · obtain ⟨b, hE, hh⟩ := ih (i + 1) (by omega) (by omega) (fun j h hj => by
          by_cases e : j = i
          · subst e; omega
          · exact hb j h (by omega))
        refine ⟨b, Ev.step (fun n => ?_) hE, hh⟩
        simp only [geyserlaw12_few.l0]
        rw [if_pos (by omega), if_neg (by omega), if_pos (by omega), if_pos (by omega), rdL X i hi', if_neg h2, up63 hi' hX]
theorem alike_l0 (X : List (List Int)) (hX : X.length ≤ 9223372036854775807) : ∀ (d i : Nat), i + d = X.length → 
    Ev (fun n => geyserlaw12_alike.l0 n X (X.length : Int) i) ((X.drop i).all fun r => decide (r.length = (X.headD []).length)) := by
  intro d
  induction d with
  | zero =>
    intro i hi
    rw [List.drop_eq_nil_of_le (by omega)]
    refine Ev.step (fun n => ?_) (Ev.now _)
    simp only [geyserlaw12_alike.l0]
    rw [if_neg (by omega)]
    rfl
  | succ d ih =>
    intro i hi
    have hi' : i < X.length := by omega
    have h00 : rd_L2 X 0 = X.headD [] := by
      cases X with
      | nil => simp at hi'
      | cons a l => rfl
    rw [List.drop_eq_getElem_cons hi', List.all_cons]
    by_cases h : (X[i]).length = (X.headD []).length
    · rw [decide_eq_true h, Bool.true_and]
      refine Ev.step (fun n => ?_) (ih (i + 1) (by omega))
      simp only [geyserlaw12_alike.l0]
      rw [if_pos (by omega), if_pos (by omega), if_pos (by omega), if_pos (by omega), rdL X i hi', h00, if_pos (by omega), up63 hi' hX]
    · rw [decide_eq_false h, Bool.false_and]
      refine Ev.step (fun n => ?_) (Ev.now _)
      simp only [geyserlaw12_alike.l0]
      rw [if_pos (by omega), if_pos (by omega), if_pos (by omega), if_pos (by omega), rdL X i hi', h00, if_neg (by omega)]
theorem alike_f (X : List (List Int)) (hX : X.length ≤ 9223372036854775807) : Ev (fun n => geyserlaw12_alike.f n X) (alikeB X) := by
  have h := alike_l0 X hX X.length 0 (by omega)
  rw [List.drop_zero] at h
  exact h
def inB (n : Nat) (z : Int) : Bool := decide (0 ≤ z) && decide (z < (n : Int))
/-- the end: what is asked when all places have been looked at -/
def fin (k : Nat) (out : List (List Int)) (e : Int) (right : Bool) (board : List (List Int)) (ds : List S42) (ns : List Int) : Option Bool :=
  if right = true then (if e = 0 then (geyserlaw12_ReplayPlays.j5 k out board ((out.length : Int) != (ns.length : Int)) ds ns) else (geyserlaw12_ReplayPlays.j5 k out board true ds ns)) else (if e = 1 then (some ((out.length : Int) == 0)) else (some false))
theorem l1_run (out : List (List Int)) (e : Int) (board : List (List Int)) (ds : List S42) (ns : List Int) (hn : ns.length ≤ 1000) {R : Bool} : ∀ (d i : Nat) (right : Bool), i + d = ns.length →
    Ev (fun k => fin k out e (right && (ns.drop i).all (inB board.length)) board ds ns) R → Ev (fun k => geyserlaw12_ReplayPlays.l1 k out e right board (ns.length : Int) i ds ns) R := by
  intro d
  induction d with
  | zero =>
    intro i right hi h
    rw [List.drop_eq_nil_of_le (by omega), List.all_nil, Bool.and_true] at h
    refine Ev.step (fun k => ?_) h
    simp only [geyserlaw12_ReplayPlays.l1]
    rw [if_neg (by omega)]
    rfl
  | succ d ih =>
    intro i right hi h
    have hi' : i < ns.length := by omega
    rw [List.drop_eq_getElem_cons hi', List.all_cons, ← Bool.and_assoc] at h
    have h' := ih (i + 1) _ (by omega) h
    refine Ev.step (fun k => ?_) h'
    simp only [geyserlaw12_ReplayPlays.l1]
    rw [if_pos (by omega)]
    cases right with
    | true =>
      rw [if_pos rfl, if_pos (by omega), if_pos (by omega), rd_at ns i hi', Bool.true_and, up63 hi' (by omega)]
      by_cases h0 : ns[i] ≥ 0
      · rw [if_pos h0]
        have : inB board.length ns[i] = decide (ns[i] < (board.length : Int)) := by unfold inB; rw [decide_eq_true h0, Bool.true_and]
        rw [this]
      · rw [if_neg h0]
        have : inB board.length ns[i] = false := by unfold inB; rw [decide_eq_false (by omega), Bool.false_and]
        rw [this]
    | false => rw [if_neg (by decide), Bool.false_and, up63 hi' (by omega)]
theorem j3_run (out : List (List Int)) (e : Int) (board : List (List Int)) (ds : List S42) (ns : List Int) (hn : ns.length ≤ 1000) {R : Bool} (right : Bool)
    (h : Ev (fun k => fin k out e (right && ns.all (inB board.length)) board ds ns) R) : Ev (fun k => geyserlaw12_ReplayPlays.j3 k out e right board ds ns) R := by
  refine Ev.step (fun k => ?_) (l1_run out e board ds ns hn ns.length 0 right (by omega) (by rw [List.drop_zero]; exact h))
  simp only [geyserlaw12_ReplayPlays.j3]
  rfl
theorem no_end (board : List (List Int)) (ds : List S42) (ns : List Int) (hn : ns.length ≤ 1000) : Ev (fun k => geyserlaw12_ReplayPlays.j3 k [] 1 false board ds ns) true := by
  refine j3_run [] 1 board ds ns hn false (Ev.congr (f := fun _ => some true) (fun k => ?_) (Ev.now _))
  unfold fin
  rw [Bool.false_and, if_neg (by decide), if_pos rfl]
  rfl
theorem l2_run (out board : List (List Int)) (ds : List S42) (ns : List Int) (hn : ns.length ≤ 1000) (hi : ∀ z ∈ ns, 0 ≤ z ∧ z < (board.length : Int)) (ho : out = ns.map fun z => board.getD z.toNat []) : ∀ (d i : Nat), i + d = out.length →
    Ev (fun k => geyserlaw12_ReplayPlays.l2 k out board (out.length : Int) i ds ns) true := by
  have hol : out.length = ns.length := by rw [ho, List.length_map]
  intro d
  induction d with
  | zero =>
    intro i h
    refine Ev.step (fun k => ?_) (Ev.now _)
    simp only [geyserlaw12_ReplayPlays.l2]
    rw [if_neg (by omega)]
  | succ d ih =>
    intro i h
    have hi1 : i < out.length := by omega
    have hi2 : i < ns.length := by omega
    obtain ⟨g0, g1⟩ := hi _ (List.getElem_mem hi2)
    obtain ⟨z, hz⟩ : ∃ z : Nat, ns[i] = (z : Int) := ⟨ns[i].toNat, by omega⟩
    have hzl : z < board.length := by omega
    have he : out[i] = board[z] := by
      subst ho
      rw [List.getElem_map, hz, Int.toNat_natCast, List.getD_eq_getElem?_getD, List.getElem?_eq_getElem hzl]
      rfl
    refine Ev.step (fun k => ?_) (ih (i + 1) (by omega))
    simp only [geyserlaw12_ReplayPlays.l2]
    rw [if_pos (by omega), if_pos (by omega), if_pos (by omega), if_pos (by omega), rd_at ns i hi2, hz, if_pos (by omega), if_pos (by omega), rdL out i hi1, rdL board z hzl, he, if_pos rfl, up63 hi1 (by omega)]
theorem plus_zeros {a : List Int} {n : Nat} (h : a.length = n) (c : Nat) : plusL (List.replicate n 0) a c = scaleL a c := by
  subst h
  unfold plusL scaleL
  apply List.ext_getElem
  · simp
  · intro i h1 h2
    simp only [List.getElem_zipWith, List.getElem_replicate]
    unfold addI mulI
    simp
theorem zeros_by (n : Nat) : By (List.replicate n 0) := by
  intro x hx
  have := List.eq_of_mem_replicate hx
  omega
set_option maxHeartbeats 4000000 in
theorem l0_run (l : List (List Int)) (n : Nat) (_hS : Slots l n) (hn : n ≤ 100) (_hl : l.length ≤ 40) (ds : List S42) (hd : ds.length ≤ 200) (hok : ∀ d ∈ ds, 0 ≤ d.f2 ∧ d.f2 < 256) (ns : List Int) (hns : ns.length ≤ 1000) : ∀ (d i : Nat) (R : List (List Int)), i + d = ds.length → deeds l (ds.take i) = some R → Slots R n → R.length = l.length →
    Ev (fun k => geyserlaw12_ReplayPlays.l0 k (playL ds ns l).1 (playL ds ns l).2 true R (ds.length : Int) i ds ns) true := by
  intro d
  induction d with
  | zero =>
    intro i R hi hR hSR hlR
    rw [List.take_of_length_le (by omega)] at hR
    have hfin : Ev (fun k => fin k (playL ds ns l).1 (playL ds ns l).2 (true && ns.all (inB R.length)) R ds ns) true := by
      rw [Bool.true_and]
      by_cases hin : ∀ z ∈ ns, 0 ≤ z ∧ z < (R.length : Int)
      · have ha : ns.all (inB R.length) = true := List.all_eq_true.2 fun z hz => by
          have := hin z hz
          unfold inB
          simp only [Bool.and_eq_true, decide_eq_true_eq]
          exact this
        have hp := play_some (ns := ns) hR hin
        rw [hp, ha]
        have h2 := l2_run (ns.map fun z => R.getD z.toNat []) R ds ns hns hin rfl ns.length 0 (by rw [List.length_map]; omega)
        refine Ev.congr (f := fun k => geyserlaw12_ReplayPlays.j5 k (ns.map fun z => R.getD z.toNat []) R false ds ns) (fun k => ?_) (Ev.step (fun k => ?_) h2)
        · unfold fin
          rw [if_pos rfl, if_pos rfl, List.length_map]
          simp
        · simp only [geyserlaw12_ReplayPlays.j5]
          rw [if_neg (by decide)]
          rfl
      · have hex : ∃ z, z ∈ ns ∧ ¬ (0 ≤ z ∧ z < (R.length : Int)) := by
          rw [Classical.not_forall] at hin
          obtain ⟨z, hz⟩ := hin
          rw [Classical.not_imp] at hz
          exact ⟨z, hz⟩
        obtain ⟨z, hz, ho⟩ := hex
        have ha : ns.all (inB R.length) = false := by
          rw [Bool.eq_false_iff]
          intro hall
          have := List.all_eq_true.1 hall z hz
          unfold inB at this
          simp only [Bool.and_eq_true, decide_eq_true_eq] at this
          exact ho this
        have hp := play_out (ns := ns) hR z hz (by omega)
        rw [hp, ha]
        refine Ev.congr (f := fun _ => some true) (fun k => ?_) (Ev.now _)
        unfold fin
        rw [if_neg (by decide), if_pos rfl]
        rfl
    refine Ev.step (fun k => ?_) (j3_run _ _ R ds ns hns true hfin)
    simp only [geyserlaw12_ReplayPlays.l0]
    rw [if_neg (by omega)]
  | succ d ih =>
    intro i R hi hR hSR hlR
    have hi' : i < ds.length := by omega
    have g0 : (i : Int) < (ds.length : Int) := by omega
    have g1 : (0 : Int) ≤ (i : Int) := by omega
    have htk : ds.take (i + 1) = ds.take i ++ [ds[i]] := List.take_succ_eq_append_getElem hi'
    have hc := hok _ (List.getElem_mem hi')
    have hrd := rdD ds i hi'
    generalize ds[i] = dd at htk hc hrd
    have hnext : deeds l (ds.take (i + 1)) = deed R dd := by rw [htk, deeds_snoc, hR]; rfl
    by_cases hin : 0 ≤ dd.f0 ∧ dd.f0 < (R.length : Int) ∧ 0 ≤ dd.f1 ∧ dd.f1 < (R.length : Int)
    · obtain ⟨z, hz⟩ : ∃ m : Nat, dd.f0 = (m : Int) := ⟨dd.f0.toNat, by omega⟩
      obtain ⟨y, hy⟩ : ∃ m : Nat, dd.f1 = (m : Int) := ⟨dd.f1.toNat, by omega⟩
      obtain ⟨c, hcc⟩ : ∃ m : Nat, dd.f2 = (m : Int) := ⟨dd.f2.toNat, by omega⟩
      have hzl : z < R.length := by omega
      have hyl : y < R.length := by omega
      obtain ⟨lz, bz⟩ := hSR.at hzl
      obtain ⟨ly, by_⟩ := hSR.at hyl
      have hdd : deed R dd = some (R.set z (if dd.f0 = dd.f1 then scaleL R[z] c else plusL R[z] R[y] c)) := by
        unfold deed
        rw [if_pos hin, hz, hy, hcc]
        simp [List.getD_eq_getElem?_getD, hzl, hyl]
      have hsl := hSR.deed hdd (by omega)
      have h1 := ih (i + 1) _ (by omega) (hnext.trans hdd) hsl.1 (hsl.2.trans hlR)
      have hw := up63 hi' (by omega)
      have hj2 : Ev (fun k => geyserlaw12_ReplayPlays.j2 k (playL ds ns l).1 (playL ds ns l).2 true R (ds.length : Int) i ds ns dd.f0 dd.f1 dd.f2) true := by
        by_cases heq : dd.f0 = dd.f1
        · rw [if_pos heq] at h1
          have hpl : Ev (fun k => geyserref03_Plus.f k (List.replicate n 0) R[z] (c : Int)) (scaleL R[z] c) := by
            rw [← plus_zeros lz c]
            exact ⟨n + 21, fun k hk => plus_f (zeros_by n) bz (by omega) (by rw [lz, List.length_replicate]) (by rw [List.length_replicate]; omega) (by rw [List.length_replicate]; omega)⟩
          refine Ev.step (f := fun k => (geyserref03_Plus.f k (List.replicate n 0) R[z] (c : Int)).bind fun t => geyserlaw12_ReplayPlays.l0 k (playL ds ns l).1 (playL ds ns l).2 true (R.set z t) (ds.length : Int) ((i + 1 : Nat) : Int) ds ns) (fun k => ?_) (Ev.bind hpl h1)
          simp only [geyserlaw12_ReplayPlays.j2]
          rw [if_pos trivial, if_pos heq, hz, hcc, if_pos (by omega), if_pos (by omega), rdL R z hzl, if_pos (by omega), if_pos (by rw [Int.toNat_natCast, lz]; omega), Int.toNat_natCast, Int.toNat_natCast, lz, hw]
        · rw [if_neg heq] at h1
          have hpl : Ev (fun k => geyserref03_Plus.f k R[z] R[y] (c : Int)) (plusL R[z] R[y] c) := ⟨n + 21, fun k hk => plus_f bz by_ (by omega) (by omega) (by omega) (by omega)⟩
          refine Ev.step (f := fun k => (geyserref03_Plus.f k R[z] R[y] (c : Int)).bind fun t => geyserlaw12_ReplayPlays.l0 k (playL ds ns l).1 (playL ds ns l).2 true (R.set z t) (ds.length : Int) ((i + 1 : Nat) : Int) ds ns) (fun k => ?_) (Ev.bind hpl h1)
          simp only [geyserlaw12_ReplayPlays.j2]
          rw [if_pos trivial, if_neg heq, hz, hy, hcc, if_pos (by omega), if_pos (by omega), if_pos (by omega), if_pos (by omega), rdL R z hzl, rdL R y hyl, Int.toNat_natCast, hw]
      refine Ev.step (fun k => ?_) hj2
      simp only [geyserlaw12_ReplayPlays.l0]
      rw [if_pos g0, if_pos g1, if_pos g0, if_pos trivial, hrd, if_pos hin.1, if_pos hin.2.1, if_pos hin.2.2.1, decide_eq_true hin.2.2.2]
    · have hdd : deed R dd = none := by unfold deed; rw [if_neg hin]
      have hnone := take_none (hnext.trans hdd)
      have hp : playL ds ns l = ([], 1) := by unfold playL; rw [hnone]
      rw [hp]
      have hj2 : Ev (fun k => geyserlaw12_ReplayPlays.j2 k [] 1 false R (ds.length : Int) i ds ns dd.f0 dd.f1 dd.f2) true := by
        refine Ev.step (fun k => ?_) (no_end R ds ns hns)
        simp only [geyserlaw12_ReplayPlays.j2]
        rw [if_neg (by decide)]
      refine Ev.step (fun k => ?_) hj2
      simp only [geyserlaw12_ReplayPlays.l0]
      rw [if_pos g0, if_pos g1, if_pos g0, if_pos trivial, hrd]
      by_cases g3 : dd.f0 ≥ 0
      · rw [if_pos g3]
        by_cases g4 : dd.f0 < (R.length : Int)
        · rw [if_pos g4]
          by_cases g2 : dd.f1 ≥ 0
          · rw [if_pos g2, decide_eq_false (fun h => hin ⟨g3, g4, g2, h⟩)]
          · rw [if_neg g2]
        · rw [if_neg g4]
      · rw [if_neg g3]
theorem ReplayPlays (ds : List S42) (ns : List Int) (l : List (List Int)) (hl : l.length ≤ 9223372036854775807) (hb : ∀ r ∈ l, By r) (hok : ∀ d ∈ ds, 0 ≤ d.f2 ∧ d.f2 < 256) : ∃ k, geyserlaw12_ReplayPlays.f k ds ns l = some true := by
  refine Ev.rounds ?_
  have hw : geyserlaw12_awake.f = some true := rfl
  have hj : Ev (fun n => geyserlaw12_ReplayPlays.j0 n l true ds ns) true := by
    refine Ev.step (f := fun _ => some true) (fun n => ?_) (Ev.now _)
    simp only [geyserlaw12_ReplayPlays.j0]
    rw [if_pos trivial, hw]
    rfl
  obtain ⟨b, hF, hB⟩ := few_l0 l hl l.length 0 (by omega) (by omega) (fun j h hj => by omega)
  have hF' : Ev (fun n => geyserlaw12_few.f n l) b := hF
  refine Ev.congr (f := fun n => (geyserlaw12_few.f n l).bind fun t118 => (if t118 = true then (if (ds.length : Int) > 200 then (geyserlaw12_ReplayPlays.j0 n l true ds ns) else (geyserlaw12_ReplayPlays.j0 n l (decide ((ns.length : Int) > 100)) ds ns)) else (geyserlaw12_ReplayPlays.j0 n l true ds ns))) (fun n => ?_) (Ev.bind hF' ?_)
  · unfold geyserlaw12_ReplayPlays.f
    rw [hw, Option.bind_some, if_pos rfl]
  cases b with
  | false => exact Ev.congr (fun n => if_neg (by decide)) hj
  | true =>
    obtain ⟨h40, h100⟩ := hB rfl
    refine Ev.congr (fun n => if_pos rfl) ?_
    by_cases hd : (ds.length : Int) > 200
    · exact Ev.congr (fun n => if_pos hd) hj
    · refine Ev.congr (fun n => if_neg hd) ?_
      by_cases hn : (ns.length : Int) > 100
      · rw [decide_eq_true hn]; exact hj
      · rw [decide_eq_false hn]
        have hokD : okD ds = true := List.all_eq_true.2 fun d h => by
          have := hok d h
          simp only [Bool.and_eq_true, decide_eq_true_eq]
          exact this
        have hokV : okV l = true := List.all_eq_true.2 fun r h => by
          obtain ⟨j, hj, rfl⟩ := List.mem_iff_getElem.1 h
          have := h100 j hj
          simp only [Bool.and_eq_true, decide_eq_true_eq]
          exact ⟨by omega, by_okB (hb _ (List.getElem_mem hj))⟩
        have hP : replay_Play.f ds ns l = some (if alikeB l = true then playL ds ns l else ([], 1)) := by
          unfold replay_Play.f
          rw [if_pos ⟨by omega, by omega, by omega, hokD, hokV⟩]
        have key : Ev (fun n => geyserlaw12_ReplayPlays.l0 n (if alikeB l = true then playL ds ns l else ([], 1)).1 (if alikeB l = true then playL ds ns l else ([], 1)).2 (alikeB l) l (ds.length : Int) 0 ds ns) true := by
          cases ha : alikeB l with
          | true =>
            rw [if_pos rfl]
            have h1 := alikeB_iff.1 ha
            have hlen : (l.headD []).length ≤ 100 := by
              cases l with
              | nil => simp
              | cons a t => exact h100 0 (by simp)
            exact l0_run l (l.headD []).length ⟨h1, hb⟩ hlen h40 ds (by omega) hok ns (by omega) ds.length 0 l (by omega) rfl ⟨h1, hb⟩ rfl
          | false =>
            rw [if_neg (by decide)]
            have hend := no_end l ds ns (by omega)
            by_cases h0 : ds.length = 0
            · refine Ev.step (fun k => ?_) hend
              simp only [geyserlaw12_ReplayPlays.l0]
              rw [if_neg (by omega)]
            · have hj2 : Ev (fun k => geyserlaw12_ReplayPlays.j2 k [] 1 false l (ds.length : Int) 0 ds ns (rd_T42 ds 0).f0 (rd_T42 ds 0).f1 (rd_T42 ds 0).f2) true := by
                refine Ev.step (fun k => ?_) hend
                simp only [geyserlaw12_ReplayPlays.j2]
                rw [if_neg (by decide)]
              refine Ev.step (fun k => ?_) hj2
              simp only [geyserlaw12_ReplayPlays.l0]
              rw [if_pos (by omega), if_pos (by omega), if_pos (by omega), if_neg (by decide)]
        refine Ev.step (f := fun n => (geyserlaw12_alike.f n l).bind fun t124 => geyserlaw12_ReplayPlays.l0 n (if alikeB l = true then playL ds ns l else ([], 1)).1 (if alikeB l = true then playL ds ns l else ([], 1)).2 t124 l (ds.length : Int) 0 ds ns) (fun n => ?_) (Ev.bind (alike_f l hl) key)
        simp only [geyserlaw12_ReplayPlays.j0]
        rw [if_neg (by decide), hP, Option.bind_some]
        congr 1
        funext t
        rw [Option.bind_some, if_pos (by simp; omega), List.nil_append]

end Go.Proofs.Ytcmigmldecacpaa.Pure
