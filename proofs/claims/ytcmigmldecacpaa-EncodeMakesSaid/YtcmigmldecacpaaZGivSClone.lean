/- slices.Clone of bytes, in the form in which the printer asks for it. -/
import Derived.Test.YtcmigmldecacpaaZGiv
namespace Go.Proofs.Ytcmigmldecacpaa.Giv
open Go Go.RowKit Go.Proofs.YtcmigmldecacpaaW.PrintWords Go.Proofs.YtcmigmldecacpaaW.PrintLast Go.Proofs.YtcmigmldecacpaaW.PrintMore Go.Proofs.Ytcmigmldecacpaa.Vec

set_option maxHeartbeats 2000000 in
set_option maxRecDepth 100000 in
theorem sclone_calls (A : Option Addr) (n c : Nat) (xs : List Int) (w : World) (hR : ReadsInt w .u8 A n xs) (hl : xs.length ≤ 140737488355328) :
    Calls Try.prog 90 #[.slice A n c] w fun e w' => CopyPost w xs e w' := by
  have HR := Lib.hid hR
  have HL := Lib.hid hl
  have hnil : ∀ W : World, (binOp .eql 31 (.slice A n c) (.slice none 0 0)).run Try.prog W = .ok (.bool A.isNone) W := fun W => eql_nil W _ _ A n c Try.underlying31
  rcases A with _ | ad
  · have h0 : xs = [] := by
      rcases Nat.eq_zero_or_pos n with h | h
      · exact List.eq_nil_of_length_eq_zero (hR.1.trans h)
      · obtain ⟨ad, h, _⟩ := hR.2.2 h; cases h
    subst h0
    clear hR hl
    go_enter Try.func90, Try.ntmps90
    go_wp2
    go_ret
    exact ⟨_, rfl, ⟨rfl, .inl ⟨rfl, rfl⟩⟩, Below.refl _ _⟩
  · clear hR hl
    go_enter Try.func90, Try.ntmps90
    go_wp2_with (at_builtin; refine print_append_row (w0 := w) w.heap.size rfl (.tmp 5) (.tmp 6) 31 5 .u8 1 rfl Try.underlying31 info_u8 (by decide) (.slice (some ⟨w.heap.size, 0, none⟩) 0 0) [] xs (some ad) n c rfl rfl (World.ownsRow_lit w #[] 0 (Nat.le_refl _) (by decide) rfl) (reads_alloc HR.out _) ((Below.refl _ _).alloc (Nat.le_refl _) _) (by simp) (by have := HR.out.1; have := HL.out; simp; omega) ?_; intro v1 w1 ho hb hgr hat; have E := Lib.hid (And.intro ho hb); clear ho hb hgr hat)
    go_ret
    exact ⟨_, rfl, E.out.1, E.out.2⟩
/-! ### slices.Clone[[]byte,byte] -/
def slices_Clone_byte_byte.f (l0 : List Int) : Option (List Int) := if l0.length ≤ 100000 then some l0 else none
theorem slices_Clone_byte_byte.calls (A0 : Option Addr) (c0 : Nat) (l0 r : List Int) (w : World) (hr0 : Kd.C (Kd.int .u8) w A0 l0.length l0) (_hc0 : l0.length ≤ c0) (h : slices_Clone_byte_byte.f l0 = some r) :
    Calls Try.prog 90 #[.slice A0 l0.length c0] w fun e w' => ∃ v0_ : Value, e = .returned (v0_) ∧ Kd.R (Kd.int .u8) 5 w' w.heap.size (fun _ => True) v0_ r ∧ Below w.heap.size w w' := by
  unfold slices_Clone_byte_byte.f at h
  split at h
  · obtain rfl := Option.some.inj h
    refine (sclone_calls A0 l0.length c0 l0 w (Gy.reads_of_kd hr0) (by omega)).mono ?_
    rintro e w' ⟨v, rfl, ho, hb⟩
    exact ⟨v, rfl, R_bytes ho, hb⟩
  · cases h
end Go.Proofs.Ytcmigmldecacpaa.Giv
