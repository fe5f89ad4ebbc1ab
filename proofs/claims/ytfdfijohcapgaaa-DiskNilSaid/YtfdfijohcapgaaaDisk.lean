/- The walks over package disk: an empty disk; a nil one. -/
import Derived.Test.YtfdfijohcapgaaaProg
import Derived.Test.YtfdfijohcapgaaaMem
import Derived.Laws.IdiomRangeMap
import Derived.Deep.QuietTactic
import Derived.BigQuiet
import Derived.Deep.RegionWith
namespace Go.Proofs.Ytfdfijohcapgaaa.Disks
open Go Go.RowKit Go.Proofs.YtfdfijohcapgaaaW.PrintWords Go.Proofs.YtfdfijohcapgaaaW.PrintMore

/-- an empty disk of room for 9 bytes -/
structure DiskIs (w : World) (g m : Nat) : Prop where
  c0 : w.cell? ⟨g, 0, none⟩ = some (.int .i64 9)
  c1 : w.cell? ⟨g, 1, none⟩ = some (.map (some m))
  c6 : w.cell? ⟨g, 6, none⟩ = some (.bool false)
  hm : w.heap[m]? = some (.map #[] 0)
theorem DiskIs.below {w w' : World} {g m : Nat} (h : DiskIs w g m) (hb : Below w.heap.size w w') : DiskIs w' g m := by
  have hlt : m < w.heap.size := (Array.getElem?_eq_some_iff.1 h.hm).1
  exact ⟨by rw [hb.cell (Gy.cell_lt h.c0)]; exact h.c0, by rw [hb.cell (Gy.cell_lt h.c1)]; exact h.c1, by rw [hb.cell (Gy.cell_lt h.c6)]; exact h.c6, by rw [hb.block m hlt]; exact h.hm⟩
theorem size_alloc (w : World) (o : Obj) : (w.alloc o).heap.size = w.heap.size + 1 := by
  show (w.heap.push o).size = _
  simp
theorem lookup_empty {P : Program} (w : World) (t k e : TypeId) (m c : Nat) (s : ByteArray) (z : Value) (ht : P.underlying t = some (.map k e)) (hk : P.underlying k = some .string) (hz : (zeroValue e).run P w = .ok z w) (hm : w.heap[m]? = some (.map #[] c)) :
    (Instr.lookup t (.map (some m)) (.string s) false).run P w = .ok z w := by
  have hc : (Instr.checkKey true 10000 k (.string s)).run P w = .ok () w := MapKept.run_checkKey hk (show MapKept.IsKey .string (.string s) from trivial) true 9999
  simp [Instr.lookup, run_underlying ht, MapKept.run_getObj_map hm, hc, run_underlying hk, Instr.findKey, Instr.findNow, hz, Result.andThen]
theorem next_empty {P : Program} (w : World) (ty : TypeId) (m : Nat) (hm : w.heap[m]? = some (.map #[] 0)) :
    (Instr.next (.pointer (some ⟨w.heap.size, 0, none⟩)) false ty).run P (w.alloc (.mapIter (some m) 0 #[] 0)) = .ok (.tuple #[.bool false]) (w.alloc (.mapIter (some m) 0 #[] 0)) := by
  rcases run_next_map (P := P) w ty m 0 0 #[] #[] 0 hm (by simp) (Nat.le_refl _) with ⟨_, h⟩ | ⟨e, he, _⟩
  · exact h
  · simp [leftOf] at he
theorem gone_nil (w : World) : Calls Try.prog 35 #[.pointer none] w fun e w' => e = .returned (.int .i64 1) ∧ w = w' := by
  go_enter Try.func35, Try.ntmps35
  go_wp2
  go_ret
  exact ⟨rfl, rfl⟩
theorem there_nil (s : ByteArray) (w : World) : Calls Try.prog 33 #[.pointer none, .string s] w fun e w' => e = .returned (.int .i64 1) ∧ w = w' := by
  go_enter Try.func33, Try.ntmps33
  go_wp2_with (first | (go_at_call 35; (with_reducible refine (gone_nil _).mono ?_); rintro e w1 ⟨rfl, rfl⟩))
  go_ret
  exact ⟨rfl, rfl⟩
theorem create_nil (s : ByteArray) (w : World) : Calls Try.prog 18 #[.pointer none, .string s] w fun e w' => e = .returned (.int .i64 1) ∧ w = w' := by
  go_enter Try.func18, Try.ntmps18
  go_wp2_with (first | (go_at_call 35; (with_reducible refine (gone_nil _).mono ?_); rintro e w1 ⟨rfl, rfl⟩))
  go_ret
  exact ⟨rfl, rfl⟩
theorem append_nil (s : ByteArray) (A : Option Addr) (n c : Nat) (w : World) : Calls Try.prog 19 #[.pointer none, .string s, .slice A n c] w fun e w' => e = .returned (.int .i64 1) ∧ w = w' := by
  go_enter Try.func19, Try.ntmps19
  go_wp2_with (first | (go_at_call 33; (with_reducible refine (there_nil _ _).mono ?_); rintro e w1 ⟨rfl, rfl⟩))
  go_ret
  exact ⟨rfl, rfl⟩
theorem rename_nil (s s2 : ByteArray) (w : World) : Calls Try.prog 20 #[.pointer none, .string s, .string s2] w fun e w' => e = .returned (.int .i64 1) ∧ w = w' := by
  go_enter Try.func20, Try.ntmps20
  go_wp2_with (first | (go_at_call 35; (with_reducible refine (gone_nil _).mono ?_); rintro e w1 ⟨rfl, rfl⟩))
  go_ret
  exact ⟨rfl, rfl⟩
theorem remove_nil (s : ByteArray) (w : World) : Calls Try.prog 21 #[.pointer none, .string s] w fun e w' => e = .returned (.int .i64 1) ∧ w = w' := by
  go_enter Try.func21, Try.ntmps21
  go_wp2_with (first | (go_at_call 33; (with_reducible refine (there_nil _ _).mono ?_); rintro e w1 ⟨rfl, rfl⟩))
  go_ret
  exact ⟨rfl, rfl⟩
theorem sync_nil (s : ByteArray) (w : World) : Calls Try.prog 17 #[.pointer none, .string s] w fun e w' => e = .returned (.int .i64 1) ∧ w = w' := by
  go_enter Try.func17, Try.ntmps17
  go_wp2_with (first | (go_at_call 33; (with_reducible refine (there_nil _ _).mono ?_); rintro e w1 ⟨rfl, rfl⟩))
  go_ret
  exact ⟨rfl, rfl⟩
theorem flush_nil (w : World) : Calls Try.prog 22 #[.pointer none] w fun e w' => e = .returned (.int .i64 1) ∧ w = w' := by
  go_enter Try.func22, Try.ntmps22
  go_wp2_with (first | (go_at_call 35; (with_reducible refine (gone_nil _).mono ?_); rintro e w1 ⟨rfl, rfl⟩))
  go_ret
  exact ⟨rfl, rfl⟩
theorem read_nil (s : ByteArray) (w : World) : Calls Try.prog 23 #[.pointer none, .string s] w fun e w' => e = .returned (.tuple #[.slice none 0 0, .int .i64 1]) ∧ w = w' := by
  go_enter Try.func23, Try.ntmps23
  go_wp2_with (first | (go_at_call 33; (with_reducible refine (there_nil _ _).mono ?_); rintro e w1 ⟨rfl, rfl⟩))
  go_ret2
  exact ⟨rfl, rfl⟩
theorem fuse_nil (n : Int) (w : World) : Calls Try.prog 24 #[.pointer none, .int .i64 n] w fun e w' => e = .returned (.int .i64 1) ∧ w = w' := by
  go_enter Try.func24, Try.ntmps24
  go_wp2_with (first | (go_at_call 35; (with_reducible refine (gone_nil _).mono ?_); rintro e w1 ⟨rfl, rfl⟩))
  go_ret
  exact ⟨rfl, rfl⟩
theorem fault_nil (n : Int) (w : World) : Calls Try.prog 25 #[.pointer none, .int .i64 n] w fun e w' => e = .returned (.int .i64 1) ∧ w = w' := by
  go_enter Try.func25, Try.ntmps25
  go_wp2_with (first | (go_at_call 35; (with_reducible refine (gone_nil _).mono ?_); rintro e w1 ⟨rfl, rfl⟩))
  go_ret
  exact ⟨rfl, rfl⟩
theorem restart_nil (n : Int) (A : Option Addr) (m c : Nat) (w : World) : Calls Try.prog 14 #[.pointer none, .int .i64 n, .slice A m c] w fun e w' => e = .returned (.tuple #[]) ∧ w = w' := by
  go_enter Try.func14, Try.ntmps14
  go_wp2
  exact bodyPost_ret (results_none rfl _ _ _) rfl ⟨rfl, rfl⟩
theorem names_nil (w : World) : Calls Try.prog 11 #[.pointer none] w fun e w' => e = .returned (.slice none 0 0) ∧ w = w' := by
  go_enter Try.func11, Try.ntmps11
  go_wp2
  go_ret
  exact ⟨rfl, rfl⟩
theorem room_nil (w : World) : Calls Try.prog 12 #[.pointer none] w fun e w' => e = .returned (.int .i64 0) ∧ w = w' := by
  go_enter Try.func12, Try.ntmps12
  go_wp2
  go_ret
  exact ⟨rfl, rfl⟩
theorem waits_nil (w : World) : Calls Try.prog 16 #[.pointer none] w fun e w' => e = .returned (.int .i64 0) ∧ w = w' := by
  go_enter Try.func16, Try.ntmps16
  go_wp2
  go_ret
  exact ⟨rfl, rfl⟩
theorem lost_nil (w : World) : Calls Try.prog 15 #[.pointer none] w fun e w' => e = .returned (.bool false) ∧ w = w' := by
  go_enter Try.func15, Try.ntmps15
  go_wp2
  go_ret
  exact ⟨rfl, rfl⟩
theorem clone_nil (w : World) : Calls Try.prog 10 #[.pointer none] w fun e w' => e = .returned (.pointer none) ∧ Below w.heap.size w w' := by
  go_enter Try.func10, Try.ntmps10
  go_wp2
  go_ret
  exact ⟨rfl, Below.refl _ _⟩
theorem gone_ok (g m : Nat) (w : World) (h : DiskIs w g m) : Calls Try.prog 35 #[.pointer (some ⟨g, 0, none⟩)] w fun e w' => e = .returned (.int .i64 0) ∧ w = w' := by
  have h6 := h.c6
  clear h
  go_enter Try.func35, Try.ntmps35
  go_wp2
  go_ret
  exact ⟨rfl, rfl⟩
theorem file_zero (W : World) : (zeroValue 56).run Try.prog W = .ok (.pointer none) W := by kernel_rfl
theorem there_empty (g m : Nat) (s : ByteArray) (w : World) (h : DiskIs w g m) : Calls Try.prog 33 #[.pointer (some ⟨g, 0, none⟩), .string s] w fun e w' => e = .returned (.int .i64 7) ∧ w = w' := by
  have h1 := h.c1
  have hl := lookup_empty (P := Try.prog) w 45 9 56 m 0 s (.pointer none) Try.underlying45 Try.underlying9 (file_zero w) h.hm
  have H := Lib.hid h
  clear h
  go_enter Try.func33, Try.ntmps33
  go_wp2_with (go_at_call 35; (with_reducible refine (gone_ok g m _ H.out).mono ?_); rintro e w1 ⟨rfl, rfl⟩)
  go_ret
  exact ⟨rfl, rfl⟩
theorem sync_empty (g m : Nat) (s : ByteArray) (w : World) (h : DiskIs w g m) : Calls Try.prog 17 #[.pointer (some ⟨g, 0, none⟩), .string s] w fun e w' => e = .returned (.int .i64 7) ∧ w = w' := by
  have H := Lib.hid h
  clear h
  go_enter Try.func17, Try.ntmps17
  go_wp2_with (go_at_call 33; (with_reducible refine (there_empty g m s _ H.out).mono ?_); rintro e w1 ⟨rfl, rfl⟩)
  go_ret
  exact ⟨rfl, rfl⟩
set_option maxHeartbeats 400000 in
theorem room_empty (g m : Nat) (w : World) (h : DiskIs w g m) : Calls Try.prog 12 #[.pointer (some ⟨g, 0, none⟩)] w fun e w' => e = .returned (.int .i64 9) ∧ Below w.heap.size w w' := by
  have h0 := h.c0
  have h1 := h.c1
  have hrg := run_range_map (P := Try.prog) w 45 9 56 m #[] 0 Try.underlying45 h.hm
  have hnx : ∀ ty, (Instr.next (.pointer (some ⟨w.heap.size, 0, none⟩)) false ty).run Try.prog (w.alloc (.mapIter (some m) 0 #[] 0)) = .ok (.tuple #[.bool false]) (w.alloc (.mapIter (some m) 0 #[] 0)) := fun ty => next_empty w ty m h.hm
  clear h
  go_enter Try.func12, Try.ntmps12
  go_wp2
  refine wp_loop_rounds 1 ?_
  rw [rounds_succ]
  go_wp2
  go_ret
  exact ⟨rfl, Gy.alloc_below _ _⟩
theorem disk_zero (W : World) : (zeroValue 48).run Try.prog W = .ok (.agg #[.int .i64 0, .map none, .map none, .slice none 0 0, .int .i64 0, .int .i64 0, .bool false]) W := by kernel_rfl
set_option maxHeartbeats 1000000 in
set_option maxRecDepth 100000 in
theorem new9_calls (w : World) : Calls Try.prog 8 #[.int .i64 9] w fun e w' => ∃ g m, e = .returned (.tuple #[.pointer (some ⟨g, 0, none⟩), .int .i64 0]) ∧ DiskIs w' g m ∧ Below w.heap.size w w' := by
  have hmm := @run_makeMap Try.prog
  have hz := disk_zero
  go_enter Try.func8, Try.ntmps8
  go_wp2
  go_ret2
  have e1 := Gy.alloc_at ((w.alloc (.map #[] 0)).alloc (.map #[] 0)) (.cells #[.int .i64 9, .map (some w.heap.size), .map (some (w.heap.size + 1)), .slice none 0 0, .int .i64 (-1), .int .i64 (-1), .bool false] 48)
  rw [size_alloc, size_alloc] at e1
  have e2 := Gy.alloc_at w (.map #[] 0)
  refine ⟨_, w.heap.size, rfl, ⟨?_, ?_, ?_, ?_⟩, ?_⟩
  · unfold World.cell?; simp only [e1]; rfl
  · unfold World.cell?; simp only [e1]; rfl
  · unfold World.cell?; simp only [e1]; rfl
  · rw [(Gy.alloc_below _ _).block _ (by rw [size_alloc, size_alloc]; omega), (Gy.alloc_below _ _).block _ (by rw [size_alloc]; omega)]; exact e2
  · exact ((Gy.alloc_below w _).trans ((Gy.alloc_below _ _).mono (by rw [size_alloc]; omega))).trans ((Gy.alloc_below _ _).mono (by rw [size_alloc, size_alloc]; omega))
set_option maxHeartbeats 1000000 in
set_option maxRecDepth 100000 in
theorem awake_calls (w : World) : Calls Try.prog 6 #[] w fun e w' => e = .returned (.bool true) ∧ Below w.heap.size w w' := by
  go_enter Try.func6, Try.ntmps6
  go_wp2_with (first
    | (go_at_call 8; (with_reducible refine (new9_calls _).mono ?_); rintro e w1 ⟨g, m, rfl, h1, h2⟩; have H1 := Lib.hid (And.intro h1 h2); clear h1 h2)
    | (go_at_call 12; (with_reducible refine (room_empty g m _ H1.out.1).mono ?_); rintro e w2 ⟨rfl, h1⟩; have H2 := Lib.hid (And.intro (H1.out.1.below h1) (H1.out.2.trans (h1.mono H1.out.2.size))); clear h1)
    | (go_at_call 17; (with_reducible refine (sync_empty g m _ _ H2.out.1).mono ?_); rintro e w3 ⟨rfl, rfl⟩))
  go_ret
  exact ⟨rfl, H2.out.2⟩
end Go.Proofs.Ytfdfijohcapgaaa.Disks
