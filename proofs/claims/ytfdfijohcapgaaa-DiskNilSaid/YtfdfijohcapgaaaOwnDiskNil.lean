/- DiskNil: the walk. -/
import Derived.Test.YtfdfijohcapgaaaDisk
import Derived.Test.YtfdfijohcapgaaaOpenA
namespace Go.Proofs.Ytfdfijohcapgaaa.Disks
open Go Go.RowKit Go.Proofs.YtfdfijohcapgaaaW.PrintWords Go.Proofs.YtfdfijohcapgaaaW.PrintMore

/-- an act's cells -/
abbrev actCells (k : Int) (a b : ByteArray) (n : Int) (A1 : Option Addr) (l1 c1 : Nat) (A2 : Option Addr) (l2 c2 : Nat) : Array Value := #[.int .u8 k, .string a, .string b, .int .i64 n, .slice A1 l1 c1, .slice A2 l2 c2]
theorem kinds {k : Int} (h : 0 ≤ k ∧ k < 256) : k = 0 ∨ k = 1 ∨ k = 2 ∨ k = 3 ∨ k = 4 ∨ k = 5 ∨ k = 6 ∨ k = 7 ∨ k = 8 ∨ 8 < k := by omega
theorem odd_kind {k : Int} (h : 8 < k) : (k == 0) = false ∧ (k == 1) = false ∧ (k == 2) = false ∧ (k == 3) = false ∧ (k == 4) = false ∧ (k == 5) = false ∧ (k == 6) = false ∧ (k == 7) = false ∧ (k == 8) = false := by
  simp; omega
set_option maxHeartbeats 2000000 in
set_option maxRecDepth 100000 in
theorem do_nil (k : Int) (a b : ByteArray) (n : Int) (A1 : Option Addr) (l1 c1 : Nat) (A2 : Option Addr) (l2 c2 : Nat) (w : World) (hk : 0 ≤ k ∧ k < 256) :
    Calls Try.prog 9 #[.pointer none, .agg (actCells k a b n A1 l1 c1 A2 l2 c2)] w fun e w' => e = .returned (.int .i64 (if 8 < k then 0 else 1)) ∧ Below w.heap.size w w' := by
  rcases kinds hk with rfl | rfl | rfl | rfl | rfl | rfl | rfl | rfl | rfl | h8
  all_goals clear hk
  · go_enter Try.func9, Try.ntmps9
    go_wp2_with (go_at_call 18; (with_reducible refine (create_nil _ _).mono ?_); rintro e w1 ⟨rfl, rfl⟩)
    go_ret
    exact ⟨rfl, Gy.alloc_below _ _⟩
  · go_enter Try.func9, Try.ntmps9
    go_wp2_with (go_at_call 19; (with_reducible refine (append_nil _ _ _ _ _).mono ?_); rintro e w1 ⟨rfl, rfl⟩)
    go_ret
    exact ⟨rfl, Gy.alloc_below _ _⟩
  · go_enter Try.func9, Try.ntmps9
    go_wp2_with (go_at_call 20; (with_reducible refine (rename_nil _ _ _).mono ?_); rintro e w1 ⟨rfl, rfl⟩)
    go_ret
    exact ⟨rfl, Gy.alloc_below _ _⟩
  · go_enter Try.func9, Try.ntmps9
    go_wp2_with (go_at_call 21; (with_reducible refine (remove_nil _ _).mono ?_); rintro e w1 ⟨rfl, rfl⟩)
    go_ret
    exact ⟨rfl, Gy.alloc_below _ _⟩
  · go_enter Try.func9, Try.ntmps9
    go_wp2_with (go_at_call 17; (with_reducible refine (sync_nil _ _).mono ?_); rintro e w1 ⟨rfl, rfl⟩)
    go_ret
    exact ⟨rfl, Gy.alloc_below _ _⟩
  · go_enter Try.func9, Try.ntmps9
    go_wp2_with (go_at_call 22; (with_reducible refine (flush_nil _).mono ?_); rintro e w1 ⟨rfl, rfl⟩)
    go_ret
    exact ⟨rfl, Gy.alloc_below _ _⟩
  · go_enter Try.func9, Try.ntmps9
    go_wp2_with (go_at_call 23; (with_reducible refine (read_nil _ _).mono ?_); rintro e w1 ⟨rfl, rfl⟩)
    go_ret
    exact ⟨rfl, Gy.alloc_below _ _⟩
  · go_enter Try.func9, Try.ntmps9
    go_wp2_with (go_at_call 24; (with_reducible refine (fuse_nil _ _).mono ?_); rintro e w1 ⟨rfl, rfl⟩)
    go_ret
    exact ⟨rfl, Gy.alloc_below _ _⟩
  · go_enter Try.func9, Try.ntmps9
    go_wp2_with (go_at_call 25; (with_reducible refine (fault_nil _ _).mono ?_); rintro e w1 ⟨rfl, rfl⟩)
    go_ret
    exact ⟨rfl, Gy.alloc_below _ _⟩
  · obtain ⟨k0, k1, k2, k3, k4, k5, k6, k7, k8⟩ := odd_kind h8
    have H8 := Lib.hid h8
    clear h8
    go_enter Try.func9, Try.ntmps9
    go_wp2_with (go_at_call 14; (with_reducible refine (restart_nil _ _ _ _ _).mono ?_); rintro e w1 ⟨rfl, rfl⟩)
    go_ret
    exact ⟨by first | rfl | (rw [if_pos H8.out]), Gy.alloc_below _ _⟩
set_option maxHeartbeats 2000000 in
set_option maxRecDepth 100000 in
theorem few_one (k : Int) (a b : ByteArray) (n : Int) (A1 : Option Addr) (l1 c1 : Nat) (A2 : Option Addr) (l2 c2 : Nat) (h : Nat) (w : World) (f : Nat × Nat) (t : TypeId) (hh : w.heap[h]? = some (.cells (actCells k a b n A1 l1 c1 A2 l2 c2) t f)) :
    Calls Try.prog 7 #[.slice (some ⟨h, 0, none⟩) 1 1, .int .i64 1] w fun e w' => (∃ r, e = .returned (.bool r)) ∧ Below w.heap.size w w' := by
  have hlt : h < w.heap.size := (Array.getElem?_eq_some_iff.1 hh).1
  have HC := Lib.hid (show ∀ wr, Below w.heap.size w wr → wr.cell? ⟨h, 1, none⟩ = some (.string a) ∧ wr.cell? ⟨h, 2, none⟩ = some (.string b) ∧ wr.cell? ⟨h, 4, none⟩ = some (.slice A1 l1 c1) ∧ wr.cell? ⟨h, 5, none⟩ = some (.slice A2 l2 c2) from fun wr hb => by
    have e := hb.block h hlt
    rw [hh] at e
    unfold World.cell?
    simp only [e]
    exact ⟨rfl, rfl, rfl, rfl⟩)
  clear hh hlt
  go_enter Try.func7, Try.ntmps7
  go_wp2
  go_loopw [5, 9] (fun v5 v9 wr => ∃ (j : Nat) (m : Int), j ≤ 1 ∧ v5 = .int .i64 m ∧ v9 = .int .i64 (j : Int) ∧ Below w.heap.size w wr) (fun _ v9 _ => 1 - (intOf v9).toNat)
  case atStart => exact ⟨0, 0, by omega, rfl, rfl, Below.refl _ _⟩
  case round =>
    obtain ⟨j, m, hj, rfl, rfl, hB⟩ := hrel
    obtain ⟨d1, d2, d4, d5⟩ := HC.out wr hB
    have HB := Lib.hid hB
    clear hB
    rcases (by omega : j = 0 ∨ j = 1) with rfl | rfl
    · go_wp2
      go_quiet (fail)
      generalize wrap64 (wrap64 (wrap64 (wrap64 (m + (a.size : Int)) + (b.size : Int)) + (l1 : Int)) + (l2 : Int)) = S
      have HB2 := Lib.hid (pw_below_drewN HB.out nq)
      by_cases hS : 100000 < S
      · have s1 : decide (100000 < S) = true := by simp only [decide_eq_true_eq]; exact hS
        clear hS
        go_wp2
        go_ret
        exact ⟨⟨_, rfl⟩, HB2.out⟩
      · have s1 : decide (100000 < S) = false := by simp only [decide_eq_false_iff_not]; exact hS
        clear hS
        go_wp2
        exact ⟨⟨1, S, Nat.le_refl 1, rfl, rfl, HB2.out⟩, by simp [intOf]⟩
    · go_wp2
      go_ret
      exact ⟨⟨_, rfl⟩, HB.out⟩
abbrev kact : Kd (Int × ByteArray × ByteArray × Int × List Int × List Int) := Kd.pair (Kd.int .u8) (Kd.pair Kd.string (Kd.pair Kd.string (Kd.pair (Kd.int .i64) (Kd.pair (Kd.slice 5 (Kd.int .u8)) (Kd.slice 3 (Kd.int .i64))))))
set_option maxRecDepth 100000 in
theorem opens_act : Gy.Opens Try.prog 33 kact (fun p => (Lit.int .u8 p.1).wf = true ∧ p.2.1.size ≤ maxLen ∧ p.2.2.1.size ≤ maxLen ∧ (Lit.int .i64 p.2.2.2.1).wf = true ∧ (p.2.2.2.2.1.length ≤ 9223372036854775807 ∧ ∀ x ∈ p.2.2.2.2.1, (Lit.int .u8 x).wf = true) ∧ (p.2.2.2.2.2.length ≤ 9223372036854775807 ∧ ∀ x ∈ p.2.2.2.2.2, (Lit.int .i64 x).wf = true)) := by
  have u8 := Gy.Opens.int (P := Try.prog) Try.underlying5 (by kernel_rfl)
  have i := Gy.Opens.int (P := Try.prog) Try.underlying3 (by kernel_rfl)
  have st := Gy.Opens.string (P := Try.prog) Try.underlying9 (by kernel_rfl)
  have sb := Gy.Opens.slice (P := Try.prog) (t := 30) Try.underlying30 (by kernel_rfl) u8
  have si := Gy.Opens.slice (P := Try.prog) (t := 31) Try.underlying31 (by kernel_rfl) i
  have h5 := Gy.OpensAt.one (f := { name := "Keep", type := 31, offset := 5, embedded := false, tag := "", pkgPath := "", byteOffset := 72 }) (off := 5) rfl si
  have h4 := Gy.OpensAt.cons (f := { name := "Data", type := 30, offset := 4, embedded := false, tag := "", pkgPath := "", byteOffset := 48 }) (off := 4) rfl sb h5
  have h3 := Gy.OpensAt.cons (f := { name := "N", type := 3, offset := 3, embedded := false, tag := "", pkgPath := "", byteOffset := 40 }) (off := 3) rfl i h4
  have h2 := Gy.OpensAt.cons (f := { name := "B", type := 9, offset := 2, embedded := false, tag := "", pkgPath := "", byteOffset := 24 }) (off := 2) rfl st h3
  have h1 := Gy.OpensAt.cons (f := { name := "A", type := 9, offset := 1, embedded := false, tag := "", pkgPath := "", byteOffset := 8 }) (off := 1) rfl st h2
  have h0 := Gy.OpensAt.cons (f := { name := "Kind", type := 5, offset := 0, embedded := false, tag := "", pkgPath := "", byteOffset := 0 }) (off := 0) rfl u8 h1
  exact Gy.Opens.struct Try.underlying33 (by kernel_rfl) h0
theorem act_cells {w : World} {cs : Array Value} {x : Int × ByteArray × ByteArray × Int × List Int × List Int} (h : kact.K w x cs.toList) : ∃ A1 l1 c1 A2 l2 c2, cs = actCells x.1 x.2.1 x.2.2.1 x.2.2.2.1 A1 l1 c1 A2 l2 c2 := by
  obtain ⟨y1, z1, e1, k1, y2, z2, rfl, k2, y3, z3, rfl, k3, y4, z4, rfl, k4, y5, z5, rfl, ⟨A1, c1, k5, _, _⟩, ⟨A2, c2, k6, _, _⟩⟩ := h
  have k1' : y1 = [.int .u8 x.1] := k1
  have k2' : y2 = [.string x.2.1] := k2
  have k3' : y3 = [.string x.2.2.1] := k3
  have k4' : y4 = [.int .i64 x.2.2.2.1] := k4
  subst k1' k2' k3' k4' k5 k6
  refine ⟨A1, x.2.2.2.2.1.length, c1, A2, x.2.2.2.2.2.length, c2, Array.ext' ?_⟩
  rw [e1]
  rfl
theorem act_at {w : World} {h : Nat} {k n : Int} {a b : ByteArray} {A1 A2 : Option Addr} {l1 c1 l2 c2 : Nat} {t : TypeId} {f : Nat × Nat} (e : w.heap[h]? = some (.cells (actCells k a b n A1 l1 c1 A2 l2 c2) t f)) :
    w.cell? ⟨h, 0, none⟩ = some (.int .u8 k) ∧ w.cell? ⟨h, 1, none⟩ = some (.string a) ∧ w.cell? ⟨h, 2, none⟩ = some (.string b) ∧ w.cell? ⟨h, 3, none⟩ = some (.int .i64 n) ∧ w.cell? ⟨h, 4, none⟩ = some (.slice A1 l1 c1) ∧ w.cell? ⟨h, 5, none⟩ = some (.slice A2 l2 c2) := by
  unfold World.cell?
  simp only [e]
  exact ⟨rfl, rfl, rfl, rfl, rfl, rfl⟩
theorem keep_at {w w1 : World} {h : Nat} {o : Obj} (e : w.heap[h]? = some o) (hb : Below w.heap.size w w1) : w1.heap[h]? = some o := by
  rw [hb.block h (Array.getElem?_eq_some_iff.1 e).1]; exact e
theorem u8_wf {x : Int} (h : (Lit.int .u8 x).wf = true) : 0 ≤ x ∧ x < 256 := by
  have h1 : IntKind.u8.min ≤ x ∧ x ≤ IntKind.u8.max := by simpa [Lit.wf] using h
  have e1 : IntKind.u8.min = 0 := by decide
  have e2 : IntKind.u8.max = 255 := by decide
  omega
set_option maxHeartbeats 4000000 in
set_option maxRecDepth 100000 in
theorem disknil (cs : Array Value) (x : Int × ByteArray × ByteArray × Int × List Int × List Int) (W : World) (hK : kact.K W x cs.toList) (hg : (Lit.int .u8 x.1).wf = true ∧ x.2.1.size ≤ maxLen ∧ x.2.2.1.size ≤ maxLen ∧ (Lit.int .i64 x.2.2.2.1).wf = true ∧ (x.2.2.2.2.1.length ≤ 9223372036854775807 ∧ ∀ y ∈ x.2.2.2.2.1, (Lit.int .u8 y).wf = true) ∧ (x.2.2.2.2.2.length ≤ 9223372036854775807 ∧ ∀ y ∈ x.2.2.2.2.2, (Lit.int .i64 y).wf = true)) :
    Calls Try.prog 5 #[.agg cs] W fun e w' => e = .returned (.bool true) ∧ Below W.heap.size W w' := by
  obtain ⟨A1, l1, c1, A2, l2, c2, rfl⟩ := act_cells hK
  have hk := u8_wf hg.1
  generalize x.1 = k at *
  generalize x.2.1 = a at *
  generalize x.2.2.1 = b at *
  generalize x.2.2.2.1 = n at *
  clear hK hg
  have tail : ∀ (b8 : Bool) (r0 : Int), b8 = decide (8 < k) → r0 = (if 8 < k then 0 else 1) → (b8 = true ∧ r0 = 0 ∨ r0 = 1) → Calls Try.prog 5 #[.agg (actCells k a b n A1 l1 c1 A2 l2 c2)] W fun e w' => e = .returned (.bool true) ∧ Below W.heap.size W w' := by
    intro b8 r0 hb8 hr0 hc
    have hd : ∀ w, Calls Try.prog 9 #[.pointer none, .agg (actCells k a b n A1 l1 c1 A2 l2 c2)] w fun e w' => e = .returned (.int .i64 r0) ∧ Below w.heap.size w w' := fun w => by
      rw [hr0]; exact do_nil k a b n A1 l1 c1 A2 l2 c2 w hk
    have HD := Lib.hid hd
    have hb := hb8.symm
    clear hd hb8 hr0 hk
    rcases hc with ⟨rfl, rfl⟩ | rfl
    all_goals
      go_enter Try.func5, Try.ntmps5
      go_wp2_with (first
        | (go_at_call 6; (with_reducible refine (awake_calls _).mono ?_); rintro e w1 ⟨rfl, h1⟩; first | (have H3 := Lib.hid (H2.out.trans (h1.mono H2.out.size)); clear h1) | (have E1 := Lib.hid (keep_at (Gy.alloc_at W _) h1); have H1 := Lib.hid ((Gy.alloc_below W _).trans (h1.mono (Nat.le_of_lt (Nat.lt_of_lt_of_eq (Nat.lt_succ_self _) (size_alloc W _).symm)))); clear h1; obtain ⟨x0, x1, x2, x3, x4, x5⟩ := act_at E1.out))
        | (go_at_call 7; (with_reducible refine (few_one k a b n A1 l1 c1 A2 l2 c2 w1.heap.size _ _ _ (Gy.alloc_at _ _)).mono ?_); rintro e w2 ⟨⟨r, rfl⟩, h2⟩; have E2 := Lib.hid (keep_at (keep_at E1.out (Gy.alloc_below w1 _)) h2); have H2 := Lib.hid ((H1.out.trans ((Gy.alloc_below w1 _).mono H1.out.size)).trans (h2.mono (Nat.le_trans H1.out.size (Gy.alloc_below w1 _).size))); clear h2; obtain ⟨y0, y1, y2, y3, y4, y5⟩ := act_at E2.out; cases r)
        | (go_at_call 9; (with_reducible refine (HD.out _).mono ?_); rintro e w3 ⟨rfl, h3⟩; have E3 := Lib.hid (keep_at E2.out h3); have H3 := Lib.hid (H2.out.trans (h3.mono H2.out.size)); clear h3; obtain ⟨z0, z1, z2, z3, z4, z5⟩ := act_at E3.out)
        | (go_at_call 11; (with_reducible refine (names_nil _).mono ?_); rintro e w' ⟨rfl, rfl⟩)
        | (go_at_call 12; (with_reducible refine (room_nil _).mono ?_); rintro e w' ⟨rfl, rfl⟩)
        | (go_at_call 16; (with_reducible refine (waits_nil _).mono ?_); rintro e w' ⟨rfl, rfl⟩)
        | (go_at_call 15; (with_reducible refine (lost_nil _).mono ?_); rintro e w' ⟨rfl, rfl⟩)
        | (go_at_call 10; (with_reducible refine (clone_nil _).mono ?_); rintro e w4 ⟨rfl, h4⟩; have H4 := Lib.hid (H3.out.trans (h4.mono H3.out.size)); clear h4))
      · go_ret
        exact ⟨rfl, H3.out⟩
      · go_ret
        exact ⟨rfl, H4.out⟩
  by_cases h8 : 8 < k
  · exact tail true 0 (by simp [h8]) (by rw [if_pos h8]) (.inl ⟨rfl, rfl⟩)
  · exact tail false 1 (by simp [h8]) (by rw [if_neg h8]) (.inr rfl)
end Go.Proofs.Ytfdfijohcapgaaa.Disks
