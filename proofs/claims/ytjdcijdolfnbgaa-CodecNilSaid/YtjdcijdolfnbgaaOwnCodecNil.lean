/- A nil Out, and a nil In, have nothing. No condition beyond the kinds of the arguments. -/
import Derived.Test.YtjdcijdolfnbgaaCodec2
namespace Go.Proofs.Ytjdcijdolfnbgaa.OwnCodecNil
open Go Go.RowKit Go.Proofs.YtjdcijdolfnbgaaW.PrintWords Go.Proofs.Ytjdcijdolfnbgaa.Codec

theorem intext_nil (w : World) : Calls Try.prog 19 #[.pointer none] w fun e w' => e = .returned (.string ⟨#[]⟩) ∧ w = w' := by
  have hcv : ∀ (W : World), (convert 25 9 (.slice none 0 0)).run Try.prog W = .ok (.string ⟨#[]⟩) W :=
    fun W => string_of_reads (xs := []) Try.underlying25 Try.underlying5 Try.underlying9 ⟨rfl, by decide, fun h => absurd h (by decide)⟩
  go_enter Try.func19, Try.ntmps19
  go_wp2_with (first
    | (go_at_call 18; (with_reducible refine (inn_nil _ _).mono ?_); rintro e w' ⟨rfl, rfl⟩)
    | (go_at_call 20; (with_reducible refine (inraw_nil _ _).mono ?_); rintro e w' ⟨rfl, rfl⟩))
  go_ret
  exact ⟨rfl, rfl⟩
theorem left_nil (w : World) : Calls Try.prog 24 #[.pointer none] w fun e w' => e = .returned (.int .i64 0) ∧ w = w' := by
  go_enter Try.func24, Try.ntmps24
  go_wp2
  go_ret
  exact ⟨rfl, rfl⟩
theorem bad_nil (w : World) : Calls Try.prog 22 #[.pointer none] w fun e w' => e = .returned (.bool false) ∧ w = w' := by
  go_enter Try.func22, Try.ntmps22
  go_wp2
  go_ret
  exact ⟨rfl, rfl⟩
theorem done_nil (w : World) : Calls Try.prog 21 #[.pointer none] w fun e w' => e = .returned (.bool false) ∧ w = w' := by
  go_enter Try.func21, Try.ntmps21
  go_wp2
  go_ret
  exact ⟨rfl, rfl⟩
set_option maxHeartbeats 4000000 in
set_option maxRecDepth 100000 in
theorem walk (a0 a1 : Int) (w : World) (_ : (Lit.int .i64 a0).wf = true) (_ : (Lit.int .i64 a1).wf = true) :
    Calls Try.prog 5 #[.int .i64 a0, .int .i64 a1] w fun e w' => e = .returned (.bool true) ∧ Below w.heap.size w w' := by
  have hcv : ∀ W : World, (convert 25 25 (.slice (some ⟨W.heap.size, 0, none⟩) 1 1)).run Try.prog (W.alloc (.cells #[.int .u8 98] 5)) = .ok (.slice (some ⟨W.heap.size, 0, none⟩) 1 1) (W.alloc (.cells #[.int .u8 98] 5 (1, 2))) :=
    fun W => Lib.run_convert_bytes_const (P := Try.prog) W 25 5 #[.int .u8 98] 1 1 Try.underlying25 Try.underlying5
  go_enter Try.func5, Try.ntmps5
  go_wp2_with (first
    | (go_at_call 10; (with_reducible refine (awake_calls _).mono ?_); rintro e w1 ⟨rfl, hb⟩; have HB := Lib.hid hb; clear hb)
    | (go_at_call 12; (with_reducible refine (n_nil _ _ _).mono ?_); rintro e w' ⟨rfl, rfl⟩)
    | (go_at_call 14; (with_reducible refine (text_nil _ _).mono ?_); rintro e w2 ⟨rfl, hb2⟩; have HB2 := Lib.hid hb2; clear hb2)
    | (go_at_call 15; (with_reducible refine (raw_nil _ _ _ _).mono ?_); rintro e w' ⟨rfl, rfl⟩)
    | (go_at_call 16; (with_reducible refine (end_nil _).mono ?_); rintro e w' ⟨rfl, rfl⟩)
    | (go_at_call 18; (with_reducible refine (inn_nil _ _).mono ?_); rintro e w' ⟨rfl, rfl⟩)
    | (go_at_call 19; (with_reducible refine (intext_nil _).mono ?_); rintro e w' ⟨rfl, rfl⟩)
    | (go_at_call 20; (with_reducible refine (inraw_nil _ _).mono ?_); rintro e w' ⟨rfl, rfl⟩)
    | (go_at_call 24; (with_reducible refine (left_nil _).mono ?_); rintro e w' ⟨rfl, rfl⟩)
    | (go_at_call 22; (with_reducible refine (bad_nil _).mono ?_); rintro e w' ⟨rfl, rfl⟩)
    | (go_at_call 21; (with_reducible refine (done_nil _).mono ?_); rintro e w' ⟨rfl, rfl⟩))
  go_ret
  exact ⟨rfl, (HB.out.trans (HB2.out.mono HB.out.size)).alloc (Nat.le_trans HB.out.size HB2.out.size) _⟩
end Go.Proofs.Ytjdcijdolfnbgaa.OwnCodecNil
