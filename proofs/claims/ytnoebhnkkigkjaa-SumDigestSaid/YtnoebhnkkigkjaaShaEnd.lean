/- The walks over package sum: bytes filled up to whole chunks. -/
import Derived.Test.YtnoebhnkkigkjaaShaCalls
namespace Go.Proofs.Ytnoebhnkkigkjaa.Dig
open Go Go.RowKit Go.Proofs.Ytnoebhnkkigkjaa.QDig Go.Proofs.YtnoebhnkkigkjaaW.PrintWords Go.Proofs.YtnoebhnkkigkjaaW.PrintLast Go.Proofs.YtnoebhnkkigkjaaW.PrintMore Gy

theorem info_u8 : (Try.prog.info? 5).map (fun i => (i.zero, i.size, i.bytes)) = some (some (.int .u8 0), 1, 1) := by kernel_rfl
/-- so many of the last eight bytes are there -/
def stage8 (N i : Nat) : List Int := List.replicate (8 - i) 0 ++ (wide8 N).drop (8 - i)
theorem stage8_set (N : Nat) : ∀ i, i < 8 → (stage8 N i).set (7 - i) ((N / 256 ^ i % 256 : Nat) : Int) = stage8 N (i + 1)
  | 0, _ => rfl
  | 1, _ => rfl
  | 2, _ => rfl
  | 3, _ => rfl
  | 4, _ => rfl
  | 5, _ => rfl
  | 6, _ => rfl
  | 7, _ => rfl
  | _ + 8, h => by omega
theorem stage8_length (N : Nat) (i : Nat) (h : i ≤ 8) : (stage8 N i).length = 8 := by
  unfold stage8; rw [List.length_append, List.length_replicate, List.length_drop, wide8_length]; omega
theorem stage8_all (N : Nat) : stage8 N 8 = wide8 N := rfl
def front (xs : List Int) : List Int := xs ++ 128 :: List.replicate (padN xs.length - xs.length - 9) 0
theorem front_length (xs : List Int) : (front xs).length = padN xs.length - 8 := by
  have := padN_le xs.length
  unfold front
  rw [List.length_append, List.length_cons, List.length_replicate]
  omega
def endL (xs : List Int) (i : Nat) : List Int := front xs ++ stage8 (xs.length * 8) i
theorem endL_length (xs : List Int) (i : Nat) (h : i ≤ 8) : (endL xs i).length = padN xs.length := by
  have := padN_le xs.length
  unfold endL
  rw [List.length_append, front_length, stage8_length _ _ h]
  omega
theorem endL_set (xs : List Int) (i : Nat) (h : i < 8) : (endL xs i).set (padN xs.length - 1 - i) ((xs.length * 8 / 256 ^ i % 256 : Nat) : Int) = endL xs (i + 1) := by
  have h1 := padN_le xs.length
  have hl := front_length xs
  unfold endL
  rw [List.set_append_right _ _ (by omega), hl, show padN xs.length - 1 - i - (padN xs.length - 8) = 7 - i from by omega, stage8_set _ i h]
theorem endL_all (xs : List Int) : endL xs 8 = padded xs := rfl
theorem endL_start (xs : List Int) : (xs ++ List.replicate (padN xs.length - xs.length) 0).set xs.length 128 = endL xs 0 := by
  have h1 := padN_le xs.length
  have e : stage8 (xs.length * 8) 0 = List.replicate 8 0 := rfl
  unfold endL front
  rw [e, List.set_append_right _ _ (Nat.le_refl _), Nat.sub_self, show padN xs.length - xs.length = (padN xs.length - xs.length - 1) + 1 from by omega, List.replicate_succ, List.set_cons_zero, List.append_assoc, List.cons_append, List.replicate_append_replicate]
  congr 3
  omega
theorem splice_pad (xs : List Int) (m : Nat) : splice (List.replicate m (Value.int .u8 0)) 0 (nums .u8 xs) = nums .u8 (xs ++ List.replicate (m - xs.length) 0) := by
  unfold splice
  rw [List.take_zero, List.nil_append, List.drop_replicate, Nat.zero_add, nums_len]
  unfold nums
  rw [List.map_append, List.map_replicate]
structure EndAt (w wr : World) (xs : List Int) (i : Nat) : Prop where
  arr : Arr wr w.heap.size (nums .u8 (endL xs i))
  b : Below w.heap.size w wr
theorem EndAt.set {w wr : World} {xs : List Int} {i : Nat} (h : EndAt w wr xs i) (hi : i < 8) :
    EndAt w (wr.setCell ⟨w.heap.size, padN xs.length - 1 - i, none⟩ (.int .u8 ((xs.length * 8 / 256 ^ i % 256 : Nat) : Int))) xs (i + 1) := by
  have h1 := padN_le xs.length
  have h2 := h.arr.set (i := padN xs.length - 1 - i) (by rw [nums_len, endL_length _ _ (by omega)]; omega) (.int .u8 ((xs.length * 8 / 256 ^ i % 256 : Nat) : Int))
  rw [nums_set, endL_set xs i hi] at h2
  exact ⟨h2, h.b.setCell (Nat.le_refl _) _⟩
theorem EndAt.cell {w wr : World} {xs : List Int} {i : Nat} (h : EndAt w wr xs i) (hi : i < 8) : ∃ v, wr.cell? ⟨w.heap.size, padN xs.length - 1 - i, none⟩ = some v ∧ wr.frozen? ⟨w.heap.size, padN xs.length - 1 - i, none⟩ = false := by
  have h1 := padN_le xs.length
  exact ⟨_, h.arr.cell (nums_getD (by rw [endL_length _ _ (by omega)]; omega)), h.arr.fr _⟩
theorem arr_cells {w4 : World} {b : Nat} {t : TypeId} {X Y : List Value} (e : X = Y) (h : Hid (w4.heap[b]? = some (.cells X.toArray t (0, 0)))) : Arr w4 b Y := by
  subst e
  exact Arr.of_cells h
theorem end_start {w w4 : World} {xs : List Int} {m : Nat} (hm : m = padN xs.length) (h : Arr w4 w.heap.size (nums .u8 (xs ++ List.replicate (m - xs.length) 0))) (hb : Below w.heap.size w w4) :
    EndAt w (w4.setCell ⟨w.heap.size, xs.length, none⟩ (.int .u8 128)) xs 0 := by
  subst hm
  have h1 := padN_le xs.length
  have h2 := h.set (i := xs.length) (by rw [nums_len, List.length_append, List.length_replicate]; omega) (.int .u8 128)
  rw [nums_set, endL_start] at h2
  exact ⟨h2, hb.setCell (Nat.le_refl _) _⟩
theorem shr_bytes (N i : Nat) : (N : Int) / 2 ^ (8 * i) % 256 = ((N / 256 ^ i % 256 : Nat) : Int) := by
  have e : (256 : Nat) ^ i = 2 ^ (8 * i) := by rw [show (256 : Nat) = 2 ^ 8 from rfl, ← Nat.pow_mul]
  have e2 : (N : Int) / 2 ^ (8 * i) = ((N / 2 ^ (8 * i) : Nat) : Int) := by norm_cast
  rw [e, e2]
  exact (Int.natCast_emod _ 256).symm
theorem last_byte (n i : Nat) : (n : Int) * 8 / 2 ^ (8 * i) % 256 = ((n * 8 / 256 ^ i % 256 : Nat) : Int) := by
  have h := shr_bytes (n * 8) i
  rw [Int.natCast_mul] at h
  exact h
theorem end_eight {i : Nat} (h : i < 8) : 8 - (intOf (Value.int .i64 ((i : Int) + 1))).toNat < 8 - (intOf (Value.int .i64 (i : Int))).toNat := by
  show 8 - ((i : Int) + 1).toNat < 8 - ((i : Int)).toNat
  omega
set_option maxHeartbeats 4000000 in
set_option maxRecDepth 100000 in
theorem ended_calls (A : Option Addr) (c : Nat) (xs : List Int) (w : World) (hR : ReadsInt w .u8 A xs.length xs) (hx : xs.length ≤ 1000000) :
    Calls Try.prog 40 #[.slice A xs.length c] w fun e w' => e = .returned (.slice (some ⟨w.heap.size, 0, none⟩) (padN xs.length) (padN xs.length)) ∧ ReadsInt w' .u8 (some ⟨w.heap.size, 0, none⟩) (padN xs.length) (padded xs) ∧ Below w.heap.size w w' := by
  obtain ⟨m, hm⟩ : ∃ m, m = padN xs.length := ⟨_, rfl⟩
  have hm1 := padN_le xs.length
  have hm2 : m ≤ 1000072 := by rw [hm]; unfold padN; omega
  have hms : ((xs.length : Int) + 1 + 8 + 64 - 1) / 64 * 64 = (m : Int) := by rw [hm]; unfold padN; omega
  rw [← hm] at hm1
  have hmk := print_make (P := Try.prog) 25 5 .u8 1 Try.underlying25 info_u8 (by decide) m (by omega)
  obtain ⟨CS, hCS⟩ : ∃ CS : List Value, CS = nums .u8 xs := ⟨_, rfl⟩
  have hlen : CS.length = Nat.min xs.length m := by rw [hCS, nums_len]; exact (Nat.min_eq_left (by omega)).symm
  have hone : ∀ v ∈ CS, v.oneCell' = true := by rw [hCS]; exact nums_one _ _
  have hpos : 0 < CS.length → ∃ ad, A = some ad ∧ ∀ j v, CS[j]? = some v → w.cell? (ad.add j) = some v := by
    intro h0
    rw [hCS, nums_len] at h0
    obtain ⟨ad, e, hc⟩ := hR.2.2 h0
    refine ⟨ad, e, fun j v hj => ?_⟩
    rw [hCS] at hj
    have hj1 : j < xs.length := by have := (List.getElem?_eq_some_iff.1 hj).1; rwa [nums_len] at this
    rw [nums_getD hj1] at hj
    injection hj with hj
    rw [hc j hj1, ← hj]
  have hcur : (w.alloc (.cells (madeCells #[.int .u8 0] m) 5)).heap[w.heap.size]? = some (.cells (List.replicate m (Value.int .u8 0)).toArray 5 (0, 0)) := by
    rw [Gy.alloc_at, ← toList_madeCells_one]
  have hsp : splice (List.replicate m (Value.int .u8 0)) 0 CS = nums .u8 (xs ++ List.replicate (m - xs.length) 0) := by rw [hCS]; exact splice_pad xs m
  have HS := Lib.hid (And.intro hsp (And.intro hlen (And.intro hone (And.intro hpos (And.intro hcur (And.intro hm (And.intro hx (And.intro hm1 hm2))))))))
  have hfit : 0 + CS.length ≤ (List.replicate m (Value.int .u8 0)).length := by rw [List.length_replicate, hlen, Nat.zero_add]; exact Nat.min_le_right xs.length m
  clear hR hlen hone hpos hcur hsp hCS hm
  have HF := Lib.hid hfit
  clear hfit
  go_enter Try.func40, Try.ntmps40
  go_wp2_with (with_reducible refine wpList_copy_splice rfl (.tmp 17) (.tmp 18) 25 25 rfl 5 Try.underlying25 (by kernel_rfl) (some ⟨w.heap.size, 0, none⟩) A m m xs.length c rfl rfl w.heap.size 0 (List.replicate m (Value.int .u8 0)) 5 HS.out.2.2.2.2.1 CS HS.out.2.1 (fun h => ⟨rfl, by
      obtain ⟨ad, e, hc⟩ := HS.out.2.2.2.1 h
      exact ⟨ad, e, fun j v hj => by
        have h1 := hc j v hj
        have hlt : (ad.add j).block < w.heap.size := by
          rcases Nat.lt_or_ge (ad.add j).block w.heap.size with h' | h'
          · exact h'
          · simp [World.cell?, Array.getElem?_eq_none h'] at h1
        rw [(Gy.alloc_below w _).cell hlt]; exact h1⟩⟩) HF.out HS.out.2.2.1 w.heap.size w (Gy.alloc_below w _) (Nat.le_refl _) ?_; intro w4 hg4 hb4; have H4 := Lib.hid (And.intro (arr_cells HS.out.1 hg4) hb4); clear hg4 hb4; have c0 := H4.out.1.cell (nums_getD (k := .u8) (i := xs.length) (by rw [List.length_append, List.length_replicate]; have := HS.out.2.2.2.2.2.2.2.1; omega)); have f0 := H4.out.1.fr xs.length)
  have HE := Lib.hid (end_start HS.out.2.2.2.2.2.1 H4.out.1 H4.out.2)
  clear c0 f0 H4 hmk
  go_loopw [28] (fun v28 wr => ∃ i : Nat, i ≤ 8 ∧ v28 = .int .i64 (i : Int) ∧ Gy.Hd (EndAt w wr xs i)) (fun v28 _ => 8 - (intOf v28).toNat)
  case atStart => exact ⟨0, by omega, rfl, ⟨HE.out⟩⟩
  case round =>
    obtain ⟨i, hi, rfl, hH⟩ := hrel
    clear HE
    have HM := HS.out.2.2.2.2.2.1
    by_cases hi8 : i < 8
    · have t1 : decide ((i : Int) < 8) = true := by simp; omega
      obtain ⟨u0, c0, f0⟩ := hH.out.cell hi8
      rw [← HM] at c0 f0
      have hwi : wrap64 ((i : Int) + 1) = (i : Int) + 1 := by unfold wrap64; omega
      have hend := end_eight hi8
      have HX := Lib.hid (And.intro hi8 HM)
      clear HM
      have HV := Lib.hid (last_byte xs.length i)
      go_wp2
      refine ⟨⟨i + 1, HX.out.1, by norm_cast, ⟨?_⟩⟩, hend⟩
      rw [HV.out, HX.out.2]
      exact hH.out.set HX.out.1
    · obtain rfl : i = 8 := by omega
      have t1 : decide (((8 : Nat) : Int) < 8) = false := by decide
      have HM2 := Lib.hid HM
      clear HM
      go_wp2
      go_ret
      have hr := hH.out.arr.reads (by rw [endL_length _ _ (Nat.le_refl _), ← HM2.out]; omega)
      rw [endL_length _ _ (Nat.le_refl _), endL_all] at hr
      exact ⟨by rw [HM2.out]; rfl, hr, hH.out.b⟩
end Go.Proofs.Ytnoebhnkkigkjaa.Dig
