/- The walks over package codec, second part: texts, the end of an Out, copies. -/
import Derived.Test.YtnoebhnkkigkjaaCodec
import Derived.Lib.ConvBytes
import Derived.Laws.Cover3
namespace Go.Proofs.Ytnoebhnkkigkjaa.Codec
open Go Go.RowKit Go.Proofs.YtnoebhnkkigkjaaW.PrintWords Go.Proofs.YtnoebhnkkigkjaaW.PrintMore

theorem OutIs.below {base g : Nat} {v : Value} {xs : List Int} {fail : Bool} {w w' : World} (h : OutIs base w g v xs fail) (hb : Below w.heap.size w w') : OutIs base w' g v xs fail := by
  have hg := cell_lt h.c0
  have e := hb.block g hg
  exact ⟨(cell_of_heap e).trans h.c0, (cell_of_heap e).trans h.c1, (frozen_of_heap e).trans h.f0, (frozen_of_heap e).trans h.f1,
    own_to h.own (fun k hk => hb.block k (own_lt h.own k hk)), h.ne, h.ge, Nat.le_trans h.le hb.size⟩
/-- One call behind another one. -/
theorem post_trans {base g : Nat} {v0 v1 : Value} {xs1 zs : List Int} {f1 f2 : Bool} {w w1 w2 w3 : World} (hO : OutIs base w1 g v1 xs1 f1) (hb1 : Below base w w1) (hf1 : Fr w w1 g v0) (hat1 : v1.ownBlock = v0.ownBlock ∨ ∃ b, v1.ownBlock = some b ∧ w.heap.size ≤ b)
    (h2 : Below w1.heap.size w1 w2) (h3 : OutPost base w2 g v1 zs f2 w3) : OutPost base w g v0 zs f2 w3 := by
  obtain ⟨v', hO3, hb3, hf3, hat3⟩ := h3
  refine ⟨v', hO3, (hb1.trans (h2.mono hO.le)).trans hb3, ⟨Nat.le_trans hf1.1 (Nat.le_trans h2.size hf3.1), fun k hk h4 h5 => ?_⟩, ?_⟩
  · have hk1 : k < w1.heap.size := Nat.lt_of_lt_of_le hk hf1.1
    have hk2 : k < w2.heap.size := Nat.lt_of_lt_of_le hk1 h2.size
    have hne : some k ≠ v1.ownBlock := by
      rcases hat1 with h | ⟨b, h, hb⟩
      · rw [h]; exact h5
      · rw [h]; intro e; injection e with e; omega
    rw [hf3.2 k hk2 h4 hne, h2.block k hk1, hf1.2 k hk h4 h5]
  · rcases hat3 with h | ⟨b, h, hb⟩
    · rcases hat1 with h' | ⟨b, h', hb⟩
      · exact .inl (h.trans h')
      · exact .inr ⟨b, h.trans h', hb⟩
    · exact .inr ⟨b, h, Nat.le_trans hf1.1 (Nat.le_trans h2.size hb)⟩
theorem bytes_below (w : World) (e : TypeId) (s : ByteArray) : Below w.heap.size w (Lib.bytesWorld w e s) :=
  ⟨rfl, rfl, rfl, by rw [Lib.bytesWorld_size]; omega, fun k hk => Lib.bytesWorld_at_old w e s k hk⟩
theorem bytes_reads (w : World) (e : TypeId) (s : ByteArray) (hs : s.size ≤ 9223372036854775807) : ReadsInt (Lib.bytesWorld w e s) .u8 (some ⟨w.heap.size, 0, none⟩) s.size (bytesOf s) := by
  refine ⟨bytesOf_length s, hs, fun _ => ⟨_, rfl, fun j hj => ?_⟩⟩
  rw [Gy.addr_add, Lib.bytesWorld_cell w e s j hj]
  simp [bytesOf, List.getD_eq_getElem?_getD]
  cases s.data[j]? <;> rfl

set_option maxHeartbeats 2000000 in
theorem text_calls (base g : Nat) (v0 : Value) (xs : List Int) (s : ByteArray) (fail : Bool) (w : World) (hO : OutIs base w g v0 xs fail) (hs : s.size ≤ 255) (hl : xs.length + s.size + 1 ≤ 140737488355328) :
    Calls Try.prog 14 #[.pointer (some ⟨g, 0, none⟩), .string s] w fun e w' => e = .returned (.tuple #[]) ∧ OutPost base w g v0 (xs ++ wide 1 s.size ++ bytesOf s) fail w' := by
  have HO := Lib.hid hO
  have HL := Lib.hid hl
  have hn : ∀ W, OutIs base W g v0 xs fail → Calls Try.prog 12 #[.pointer (some ⟨g, 0, none⟩), .int .i64 (s.size : Int), .int .i64 1] W fun e w' => e = .returned (.tuple #[]) ∧ OutPost base W g v0 (xs ++ wide 1 s.size) fail w' :=
    fun W h => n_calls base g v0 xs s.size 1 fail W h (by omega) (by omega) (by simp; omega) (by omega)
  have HN := Lib.hid hn
  have hcv : ∀ W : World, (convert 9 25 (.string s)).run Try.prog W = .ok (.slice (some ⟨W.heap.size, 0, none⟩) s.size (grownCap W s.size 0 5)) (Lib.bytesWorld W 5 s) :=
    fun W => Lib.run_convert_string_bytes W _ _ _ s Try.underlying9 Try.underlying25 Try.underlying5
  have hs2 : s.size ≤ 9223372036854775807 := by omega
  clear hO hl hn
  go_enter Try.func14, Try.ntmps14
  go_wp2_with (first
    | (go_at_call 12; (with_reducible refine (HN.out _ HO.out).mono ?_); rintro e w1 ⟨rfl, ⟨v1, h1, h2, h3, h4⟩⟩; have H1 := Lib.hid (And.intro h1 (And.intro h2 (And.intro h3 h4))); clear h1 h2 h3 h4)
    | (go_at_call 15; (with_reducible refine (raw_calls base g v1 (xs ++ wide 1 s.size) (bytesOf s) fail _ _ _ _ (H1.out.1.below (bytes_below _ _ s)) (bytes_reads _ _ s hs2) (by have := HL.out; simp [wide_length]; omega)).mono ?_); rintro e w3 ⟨rfl, h3⟩; have H3 := Lib.hid h3; clear h3))
  go_end0
  exact ⟨rfl, post_trans H1.out.1 H1.out.2.1 H1.out.2.2.1 H1.out.2.2.2 (bytes_below _ _ s) H3.out⟩
theorem text_nil (s : ByteArray) (w : World) : Calls Try.prog 14 #[.pointer none, .string s] w fun e w' => e = .returned (.tuple #[]) ∧ Below w.heap.size w w' := by
  have hcv : ∀ W : World, (convert 9 25 (.string s)).run Try.prog W = .ok (.slice (some ⟨W.heap.size, 0, none⟩) s.size (grownCap W s.size 0 5)) (Lib.bytesWorld W 5 s) :=
    fun W => Lib.run_convert_string_bytes W _ _ _ s Try.underlying9 Try.underlying25 Try.underlying5
  go_enter Try.func14, Try.ntmps14
  go_wp2_with (first
    | (go_at_call 12; (with_reducible refine (n_nil _ _ _).mono ?_); rintro e w1 ⟨rfl, rfl⟩)
    | (go_at_call 15; (with_reducible refine (raw_nil _ _ _ _).mono ?_); rintro e w1 ⟨rfl, rfl⟩))
  go_end0
  exact ⟨rfl, bytes_below _ _ s⟩
theorem eql_nil {P : Program} (w : World) (t e : TypeId) (a : Option Addr) (l c : Nat) (h : P.underlying t = some (.slice e)) : (binOp .eql t (.slice a l c) (.slice none 0 0)).run P w = .ok (.bool a.isNone) w := by
  simp [binOp, run_equal_slice_nil w t e a l c h]
theorem reads_alloc {w : World} {k : IntKind} {A : Option Addr} {n : Nat} {xs : List Int} (h : ReadsInt w k A n xs) (o : Obj) : ReadsInt (w.alloc o) k A n xs := by
  refine ⟨h.1, h.2.1, fun hn => ?_⟩
  obtain ⟨ad, e, hc⟩ := h.2.2 hn
  refine ⟨ad, e, fun j hj => ?_⟩
  have h1 := hc j hj
  have hb := (Below.refl w.heap.size w).alloc (Nat.le_refl _) o
  have hlt : (ad.add j).block < w.heap.size := by
    rcases Nat.lt_or_ge (ad.add j).block w.heap.size with h' | h'
    · exact h'
    · simp [World.cell?, Array.getElem?_eq_none h'] at h1
  rw [hb.cell hlt]; exact h1
/-- a copy stands in a row of its own -/
def CopyPost (w : World) (xs : List Int) (e : Ending) (w' : World) : Prop := ∃ v, e = .returned v ∧ w'.ownsRow w.heap.size 5 1 v xs.length (nums .u8 xs) ∧ Below w.heap.size w w'
set_option maxHeartbeats 2000000 in
set_option maxRecDepth 100000 in
theorem clone_calls (A : Option Addr) (n c : Nat) (xs : List Int) (w : World) (hR : ReadsInt w .u8 A n xs) (hl : xs.length ≤ 140737488355328) :
    Calls Try.prog 36 #[.slice A n c] w fun e w' => CopyPost w xs e w' := by
  have HR := Lib.hid hR
  have HL := Lib.hid hl
  have hnil : ∀ W : World, (binOp .eql 25 (.slice A n c) (.slice none 0 0)).run Try.prog W = .ok (.bool A.isNone) W := fun W => eql_nil W _ _ A n c Try.underlying25
  rcases A with _ | ad
  · have h0 : xs = [] := by
      rcases Nat.eq_zero_or_pos n with h | h
      · exact List.eq_nil_of_length_eq_zero (hR.1.trans h)
      · obtain ⟨ad, h, _⟩ := hR.2.2 h; cases h
    subst h0
    clear hR hl
    go_enter Try.func36, Try.ntmps36
    go_wp2
    go_ret
    exact ⟨_, rfl, ⟨rfl, .inl ⟨rfl, rfl⟩⟩, Below.refl _ _⟩
  · clear hR hl
    go_enter Try.func36, Try.ntmps36
    go_wp2_with (at_builtin; refine print_append_row (w0 := w) w.heap.size rfl (.tmp 5) (.tmp 6) 25 5 .u8 1 rfl Try.underlying25 info_u8 (by decide) (.slice (some ⟨w.heap.size, 0, none⟩) 0 0) [] xs (some ad) n c rfl rfl (World.ownsRow_lit w #[] 0 (Nat.le_refl _) (by decide) rfl) (reads_alloc HR.out _) ((Below.refl _ _).alloc (Nat.le_refl _) _) (by simp) (by have := HR.out.1; have := HL.out; simp; omega) ?_; intro v1 w1 ho hb hgr hat; have E := Lib.hid (And.intro ho hb); clear ho hb hgr hat)
    go_ret
    exact ⟨_, rfl, E.out.1, E.out.2⟩
/-- what End answers of an object that is not spoilt -/
def EndPost (w : World) (xs : List Int) (e : Ending) (w' : World) : Prop := ∃ v, e = .returned (.tuple #[v, .int .i64 0]) ∧ w'.ownsRow w.heap.size 5 1 v xs.length (nums .u8 xs) ∧ Below w.heap.size w w'
theorem own_reads {w : World} {base : Nat} {e : TypeId} {A : Option Addr} {n c : Nat} {xs : List Int} (h : w.ownsRow base e 1 (.slice A n c) xs.length (nums .u8 xs)) (hn : n = xs.length) (hl : xs.length ≤ 9223372036854775807) : ReadsInt w .u8 A n xs := by
  subst hn
  refine ⟨rfl, hl, fun h0 => ?_⟩
  obtain ⟨g, c', e1⟩ := own_some h h0
  injection e1 with e1 e2 e3
  subst e1 e3
  refine ⟨_, rfl, fun j hj => ?_⟩
  rw [Gy.addr_add, h.cellAt j (by omega)]
  simp [nums, List.getD_eq_getElem?_getD, hj]
set_option maxHeartbeats 2000000 in
theorem end_calls (base g : Nat) (v0 : Value) (xs : List Int) (w : World) (hO : OutIs base w g v0 xs false) (hl : xs.length ≤ 140737488355328) :
    Calls Try.prog 16 #[.pointer (some ⟨g, 0, none⟩)] w fun e w' => EndPost w xs e w' := by
  obtain ⟨A0, c0, rfl⟩ := own_slice hO.own
  have k0 := hO.c0
  have k1 := hO.c1
  have HR := Lib.hid (own_reads hO.own rfl (by omega))
  have HL := Lib.hid hl
  clear hO hl
  go_enter Try.func16, Try.ntmps16
  go_wp2_with (go_at_call 36; (with_reducible refine (clone_calls _ _ _ xs _ HR.out HL.out).mono ?_); rintro e w1 ⟨v1, rfl, h1, h2⟩; have E := Lib.hid (And.intro h1 h2); clear h1 h2)
  go_ret2
  exact ⟨_, rfl, E.out.1, E.out.2⟩
theorem end_spoilt (g : Nat) (w : World) (hc : w.cell? ⟨g, 1, none⟩ = some (.bool true)) :
    Calls Try.prog 16 #[.pointer (some ⟨g, 0, none⟩)] w fun e w' => e = .returned (.tuple #[.slice none 0 0, .int .i64 1]) ∧ w = w' := by
  go_enter Try.func16, Try.ntmps16
  go_wp2
  go_ret2
  exact ⟨rfl, rfl⟩
theorem out_new (w : World) : OutIs w.heap.size (w.alloc (.cells #[.slice none 0 0, .bool false] 27)) w.heap.size (.slice none 0 0) [] false := by
  have e1 : (w.alloc (Obj.cells #[.slice none 0 0, .bool false] 27)).heap[w.heap.size]? = some (Obj.cells #[.slice none 0 0, .bool false] 27) := by
    show (w.heap.push _)[w.heap.size]? = _
    simp
  refine ⟨?_, ?_, ?_, ?_, ⟨rfl, .inl ⟨rfl, rfl⟩⟩, by simp [Value.ownBlock], Nat.le_refl _, ?_⟩
  · unfold World.cell?; simp only [e1]; simp
  · unfold World.cell?; simp only [e1]; simp
  · unfold World.frozen?; simp only [e1]; simp
  · unfold World.frozen?; simp only [e1]; simp
  · show w.heap.size ≤ (w.heap.push _).size; simp
set_option maxHeartbeats 2000000 in
set_option maxRecDepth 100000 in
theorem awake_calls (w : World) : Calls Try.prog 10 #[] w fun e w' => e = .returned (.bool true) ∧ Below w.heap.size w w' := by
  have h00 : Calls Try.prog 14 #[.pointer (some ⟨w.heap.size, 0, none⟩), .string ⟨#[97, 98]⟩] (w.alloc (.cells #[.slice none 0 0, .bool false] 27)) fun e w' => e = .returned (.tuple #[]) ∧ OutPost w.heap.size (w.alloc (.cells #[.slice none 0 0, .bool false] 27)) w.heap.size (.slice none 0 0) [2, 97, 98] false w' :=
    text_calls w.heap.size w.heap.size (.slice none 0 0) [] ⟨#[97, 98]⟩ false _ (out_new w) (by decide) (by decide)
  have h0 := Lib.hid h00
  clear h00
  have hcv : ∀ (W : World) (A : Option Addr) (n c : Nat), ReadsInt W .u8 A n [2, 97, 98] → (convert 25 9 (.slice A n c)).run Try.prog W = .ok (.string ⟨#[2, 97, 98]⟩) W :=
    fun W A n c h => string_of_reads (xs := [2, 97, 98]) Try.underlying25 Try.underlying5 Try.underlying9 h
  have HC := Lib.hid hcv
  clear hcv
  go_enter Try.func10, Try.ntmps10
  go_wp2_with (first
    | (go_at_call 14; (with_reducible refine h0.out.mono ?_); rintro e w1 ⟨rfl, ⟨v1, h1, h2, h3, h4⟩⟩; have H1 := Lib.hid (And.intro h1 (And.intro h2 (And.intro h3 h4))); clear h1 h2 h3 h4)
    | (go_at_call 16; (with_reducible refine (end_calls _ _ _ _ _ H1.out.1 (by decide)).mono ?_); rintro e w2 ⟨v2, rfl, h5, h6⟩; obtain ⟨A2, c2, rfl⟩ := own_slice h5; have hc2 := HC.out w2 A2 3 c2 (own_reads h5 rfl (by decide)); have H6 := Lib.hid h6; clear h5 h6))
  go_ret
  exact ⟨rfl, (((Below.refl _ _).alloc (Nat.le_refl _) _).trans H1.out.2.1).trans (H6.out.mono (Nat.le_trans (by simp) H1.out.2.1.size))⟩
end Go.Proofs.Ytnoebhnkkigkjaa.Codec
