/- CodecWrites: texts that are put; what is got back. -/
import Derived.Test.YtnoebhnkkigkjaaCodecLaw3
import Derived.Test.YtnoebhnkkigkjaaOwnCodecReads
import Derived.Test.YtnoebhnkkigkjaaStep
namespace Go.Proofs.Ytnoebhnkkigkjaa.Codec
open Go Go.RowKit Go.Proofs.YtnoebhnkkigkjaaW.PrintWords Go.Proofs.YtnoebhnkkigkjaaW.PrintMore

theorem str_size (B : List Int) : (strOfNums B).size = B.length := by
  show (strOfNums B).data.size = _
  rw [← Array.length_toList, strOfNums_data, List.length_map]
/-- what an object holds more behind a text -/
def textT (B : List Int) : List Int := if B.length ≤ 255 then (B.length : Int) :: B else B
theorem text_any (base g : Nat) (v0 : Value) (xs B : List Int) (sp : Bool) (w : World) (hO : OutIs base w g v0 xs sp) (hw : ∀ x ∈ B, 0 ≤ x ∧ x < 256) (hB : B.length ≤ 20000) (hl : xs.length + B.length + 1 ≤ 140737488355328) :
    Calls Try.prog 14 #[.pointer (some ⟨g, 0, none⟩), .string (strOfNums B)] w fun e w' => e = .returned (.tuple #[]) ∧ OutPost base w g v0 (xs ++ textT B) (sp || decide (255 < (B.length : Int))) w' := by
  have hs := str_size B
  have hb := Gy.bytesOf_strOfNums B hw
  by_cases h : B.length ≤ 255
  · have h1 := text_calls base g v0 xs (strOfNums B) sp w hO (by rw [hs]; exact h) (by rw [hs]; exact hl)
    have e1 : xs ++ wide 1 (strOfNums B).size ++ bytesOf (strOfNums B) = xs ++ textT B := by
      rw [hb, hs]
      have e2 : wide 1 B.length = [(B.length : Int)] := by
        show [] ++ [((B.length % 256 : Nat) : Int)] = _
        rw [Nat.mod_eq_of_lt (by omega)]
        rfl
      rw [e2, List.append_assoc]
      unfold textT
      rw [if_pos h]
      rfl
    have e3 : (sp || decide (255 < (B.length : Int))) = sp := by
      rw [decide_eq_false (by omega), Bool.or_false]
    rw [e1] at h1
    rw [e3]
    exact h1
  · have h1 := text_spoil base g v0 xs (strOfNums B) sp w hO (by rw [hs]; omega) (by rw [hs]; omega) (by rw [hs]; omega)
    have e1 : bytesOf (strOfNums B) = textT B := by
      rw [hb]
      unfold textT
      rw [if_neg h]
    have e3 : (sp || decide (255 < (B.length : Int))) = true := by
      rw [decide_eq_true (by omega), Bool.or_true]
    rw [e1] at h1
    rw [e3]
    exact h1
theorem textT_le (B : List Int) (h : B.length ≤ 20000) : (textT B).length ≤ 20010 := by
  unfold textT
  split
  · simp only [List.length_cons]; omega
  · omega
theorem wround_text {W wa : World} {l : List It} {g j : Nat} {v va : Value} {xs ys : List Int} {sp : Bool} {n z : Int} {B : List Int} {q : Nat} (hj : j + 1 ≤ l.length) (hp : l[j] = (3, n, z, B)) (hq : B.length ≤ 255 → q = B.length) (hB : B.length ≤ 20000)
    (h : WInv W wa g v va (xs ++ textT B) (ys ++ [(q : Int)] ++ B) (sp || decide (255 < (B.length : Int))))
    (hxy : xs.length ≤ j * 20010 ∧ ys.length ≤ j * 20010) (hs : sp = false → xs = code (l.take j) ∧ ys = code (l.take j) ∧ ∀ p ∈ l.take j, okItem p) : WRound W l g (j + 1) va (.bool (sp || decide (255 < (B.length : Int)))) wa := by
  by_cases h5 : B.length ≤ 255
  · have e3 : (sp || decide (255 < (B.length : Int))) = sp := by
      rw [decide_eq_false (by omega), Bool.or_false]
    rw [e3] at h ⊢
    have e : encItem (3, n, z, B) = (B.length : Int) :: B := by simp [encItem]
    have e1 : textT B = encItem (3, n, z, B) := by rw [e]; unfold textT; rw [if_pos h5]
    have e2 : ys ++ [(q : Int)] ++ B = ys ++ encItem (3, n, z, B) := by rw [e, hq h5, List.append_assoc]; rfl
    rw [e1, e2] at h
    refine wround_ok hj hp h ⟨fun h => absurd (show (3 : Int) < 3 from h) (by decide), fun _ => h5⟩ ?_ hxy hs
    rw [e]; simp only [List.length_cons]; omega
  · have e3 : (sp || decide (255 < (B.length : Int))) = true := by
      rw [decide_eq_true (by omega), Bool.or_true]
    rw [e3] at h ⊢
    have h2 := textT_le B hB
    refine wround_bad h ?_ ?_
    · rw [List.length_append]; omega
    · simp only [List.length_append, List.length_singleton]; omega
theorem and_255 (m : Nat) (h : m ≤ 20000) : ∃ q : Nat, q < 256 ∧ (m ≤ 255 → q = m) ∧ bits .and .i64 (m : Int) 255 = (q : Int) ∧ IntKind.u8.wrap (q : Int) = (q : Int) := by
  refine ⟨m % 256, Nat.mod_lt _ (by omega), fun h => Nat.mod_eq_of_lt (by omega), ?_, ?_⟩
  · have h1 := Gy.i64_and m 255 (by omega) (by omega)
    have h2 : m &&& 255 = m % 256 := Nat.and_two_pow_sub_one_eq_mod m 8
    rw [h2] at h1
    exact h1
  · show ((m % 256 : Nat) : Int) % 256 = _
    omega
theorem below_cell {W w : World} {a : Addr} {u : Value} (hb : Below W.heap.size W w) (h : W.cell? a = some u) : w.cell? a = some u := by
  have hlt : a.block < W.heap.size := by
    rcases Nat.lt_or_ge a.block W.heap.size with h' | h'
    · exact h'
    · simp [World.cell?, Array.getElem?_eq_none h'] at h
  rw [hb.cell hlt]; exact h
theorem keep_alloc {w : World} {o : Obj} {a : Addr} {v : Value} (h : w.cell? a = some v) : (w.alloc o).cell? a = some v := below_cell (W := w) (alloc_below w o) h
theorem drew_below (w : World) : Below w.heap.size w w.drew := pw_below_drewN (Below.refl _ _) 1
theorem drew_alloc_below (w : World) (o : Obj) : Below w.heap.size w (w.drew.alloc o) := (drew_below w).trans (alloc_below w.drew o)
theorem reads_one (w : World) (q : Int) (t : TypeId) (f : Nat × Nat) : ReadsInt (w.alloc (.cells #[.int .u8 q] t f)) .u8 (some ⟨w.heap.size, 0, none⟩) 1 [q] := by
  refine ⟨rfl, by omega, fun _ => ⟨_, rfl, fun j hj => ?_⟩⟩
  obtain rfl : j = 0 := by omega
  rw [Gy.addr_add]
  have h := alloc_at w (.cells #[.int .u8 q] t f)
  unfold World.cell?
  simp only [h]
  rfl
/-- a cell of a block that is none of the row's own -/
theorem grown_cell {w w1 : World} {b o : Nat} {u v : Value} (hgr : w.grownBy w1 v.ownBlock) (ho : v.ownBlock ≠ some b) (h : w.cell? ⟨b, o, none⟩ = some u) : w1.cell? ⟨b, o, none⟩ = some u := by
  rw [cell_of_heap (hgr.block b (cell_lt h) (fun e => ho e.symm))]
  exact h
theorem own_ne {W w : World} {g b : Nat} {v wv : Value} {xs ys : List Int} {sp : Bool} (h : WInv W w g v wv xs ys sp) (hb : w.heap.size ≤ b) : wv.ownBlock ≠ some b := by
  intro e
  have := own_lt h.own b e
  omega
theorem keepg_cell {w w' : World} {g : Nat} {b o : Nat} {u : Value} (hk : KeepG w w' g) (hb : b ≠ g) (h : w.cell? ⟨b, o, none⟩ = some u) : w'.cell? ⟨b, o, none⟩ = some u := by
  rw [cell_of_heap (hk.block b (cell_lt h) hb)]
  exact h

theorem own_ne2 {v va : Value} {b n : Nat} (h1 : v.ownBlock ≠ some b) (hat : va.ownBlock = v.ownBlock ∨ ∃ k, va.ownBlock = some k ∧ n ≤ k) (hlt : b < n) : va.ownBlock ≠ some b := by
  rcases hat with h | ⟨k, h, hk⟩
  · rw [h]; exact h1
  · rw [h]; intro e; injection e with e; omega
theorem hl1 {a b : Nat} (h : a + b + 1 ≤ 140737488355328) : (a + 1) * 1 ≤ 140737488355328 := by omega
theorem hl2 {ys : List Int} {q : Int} {b : Nat} (h : ys.length + b + 1 ≤ 140737488355328) : ((ys ++ [q]).length + b) * 1 ≤ 140737488355328 := by
  rw [List.length_append, List.length_singleton]; omega
theorem alloc_drew_below (w : World) (o : Obj) : Below w.heap.size w (w.alloc o).drew := (alloc_below w o).trans ((drew_below (w.alloc o)).mono (alloc_below w o).size)
/-- what holds at each round of the reading back -/
def RInv (W w : World) (g : Nat) (l : List It) (j : Nat) : Prop := InSt w g (some (code (l.drop j))) ∧ Below W.heap.size W w
theorem InSt.lt {w : World} {g : Nat} {st : Option (List Int)} (h : InSt w g st) : g < w.heap.size := by
  rcases st with _ | ys
  · exact cell_lt (InIs.c0 h)
  · obtain ⟨A, c, h⟩ := h
    exact cell_lt h.c0
theorem rinv_step {W wr w5 : World} {g j : Nat} {l : List It} {o : Obj} (hB : Below W.heap.size W wr) (hg : W.heap.size ≤ g) (e1 : InSt w5 g (some (code (l.drop (j + 1))))) (hk : KeepG (wr.alloc o).drew w5 g) : RInv W w5 g l (j + 1) :=
  ⟨e1, keep_below (hB.trans ((alloc_drew_below wr o).mono hB.size)) hg hk⟩
theorem rinv_end {W w : World} {g : Nat} {l : List It} (h : RInv W w g l l.length) : InSt w g (some []) := by
  have h1 := h.1
  rw [List.drop_length] at h1
  exact h1
theorem done_end (g : Nat) (w : World) (hI : InSt w g (some [])) : Calls Try.prog 21 #[.pointer (some ⟨g, 0, none⟩)] w fun e w' => e = .returned (.bool true) ∧ w = w' := done_calls g (some []) w hI
/- what is got back -/
theorem wide_num : ∀ (z n : Nat), n < 256 ^ z → numOf (wide z n) = (n : Int) := by
  intro z
  induction z with
  | zero => intro n h; have : n = 0 := by simpa using h
            subst this; rfl
  | succ z ih =>
    intro n h
    have e : wide (z + 1) n = wide z (n / 256) ++ [((n % 256 : Nat) : Int)] := rfl
    rw [e]
    have h1 := ih (n / 256) (Nat.div_lt_of_lt_mul (by rw [Nat.pow_succ, Nat.mul_comm] at h; exact h))
    unfold numOf at h1 ⊢
    rw [List.foldl_append, h1]
    simp only [List.foldl_cons, List.foldl_nil]
    omega
theorem wide_bytes : ∀ (z n : Nat), ∀ x ∈ wide z n, 0 ≤ x ∧ x < 256 := by
  intro z
  induction z with
  | zero => intro n x h; simp [wide] at h
  | succ z ih =>
    intro n x h
    have e : wide (z + 1) n = wide z (n / 256) ++ [((n % 256 : Nat) : Int)] := rfl
    rw [e, List.mem_append, List.mem_singleton] at h
    rcases h with h | rfl
    · exact ih _ x h
    · omega
theorem code_bytes (l : List It) (hok : ∀ p ∈ l, okItem p) (hw : ∀ p ∈ l, ∀ x ∈ p.2.2.2, 0 ≤ x ∧ x < 256) : ∀ x ∈ code l, 0 ≤ x ∧ x < 256 := by
  intro x hx
  unfold code at hx
  rw [List.mem_flatMap] at hx
  obtain ⟨p, hp, hx⟩ := hx
  unfold encItem at hx
  split at hx
  · exact wide_bytes _ _ x hx
  · rename_i h1
    split at hx
    · rename_i h2
      rcases List.mem_cons.1 hx with rfl | hx
      · have := (hok p hp).2 h2; omega
      · exact hw p hp x hx
    · exact hw p hp x hx
theorem in_num {g j n z : Nat} {k : Int} {B : List Int} {l : List It} {w : World} (hj : j < l.length) (hp : l[j] = (k, (n : Int), (z : Int), B)) (hk : k < 3) (h1 : 1 ≤ z) (h6 : z ≤ 6) (hn : n < 256 ^ z) (hw : ∀ x ∈ code (l.drop j), 0 ≤ x ∧ x < 256) (hI : InSt w g (some (code (l.drop j)))) :
    Calls Try.prog 18 #[.pointer (some ⟨g, 0, none⟩), .int .i64 (z : Int)] w fun e w' => e = .returned (.int .i64 (n : Int)) ∧ InSt w' g (some (code (l.drop (j + 1)))) ∧ KeepG w w' g := by
  have e : code (l.drop j) = wide z n ++ code (l.drop (j + 1)) := by
    rw [code_drop l j hj, hp]
    have : encItem (k, (n : Int), (z : Int), B) = wide z n := by simp [encItem, hk]
    rw [this]
  obtain ⟨A, c, hI⟩ := hI
  rw [e] at hI hw
  have h := inn_ok g A c _ z w hI h1 h6 (by rw [List.length_append, wide_length]; omega) hw
  rw [List.take_append_of_le_length (by rw [wide_length]; omega), List.take_of_length_le (by rw [wide_length]; omega), wide_num z n hn, List.drop_append_of_le_length (by rw [wide_length]; omega), List.drop_of_length_le (by rw [wide_length]; omega), List.nil_append] at h
  exact h
theorem in_text {g j : Nat} {n z : Int} {B : List Int} {l : List It} {w : World} (hj : j < l.length) (hp : l[j] = (3, n, z, B)) (h5 : B.length ≤ 255) (hw : ∀ x ∈ code (l.drop j), 0 ≤ x ∧ x < 256) (hI : InSt w g (some (code (l.drop j)))) :
    Calls Try.prog 19 #[.pointer (some ⟨g, 0, none⟩)] w fun e w' => e = .returned (.string (strOfNums B)) ∧ InSt w' g (some (code (l.drop (j + 1)))) ∧ KeepG w w' g := by
  have e : code (l.drop j) = (B.length : Int) :: B ++ code (l.drop (j + 1)) := by
    rw [code_drop l j hj, hp]
    have : encItem (3, n, z, B) = (B.length : Int) :: B := by simp [encItem]
    rw [this]
  obtain ⟨A, c, hI⟩ := hI
  rw [e] at hI hw
  exact intext_ok g A c B.length B _ w rfl h5 hw hI
theorem in_raw {g j : Nat} {k n z : Int} {B : List Int} {l : List It} {w : World} (hj : j < l.length) (hp : l[j] = (k, n, z, B)) (hk : ¬ k < 3) (h3 : ¬ k = 3) (hI : InSt w g (some (code (l.drop j)))) :
    Calls Try.prog 20 #[.pointer (some ⟨g, 0, none⟩), .int .i64 (B.length : Int)] w fun e w' => RawPost w g B (code (l.drop (j + 1))) e w' := by
  have e : code (l.drop j) = B ++ code (l.drop (j + 1)) := by
    rw [code_drop l j hj, hp]
    have : encItem (k, n, z, B) = B := by simp [encItem, hk, h3]
    rw [this]
  obtain ⟨A, c, hI⟩ := hI
  rw [e] at hI
  have h := inraw_ok g A c _ B.length w hI (by simp)
  rw [List.take_left, List.drop_left] at h
  exact h
set_option maxRecDepth 100000 in
theorem sopens_items : Gy.SOpens Try.prog 22 (Kd.slice 29 kitem) (fun l => l.length * 48 ≤ reachBytes ∧ l.length ≤ 9223372036854775807 ∧ ∀ p ∈ l, (Lit.int .u8 p.1).wf = true ∧ (Lit.int .i64 p.2.1).wf = true ∧ (Lit.int .i64 p.2.2.1).wf = true ∧ (p.2.2.2.length * 1 ≤ reachBytes ∧ p.2.2.2.length ≤ 9223372036854775807 ∧ ∀ x ∈ p.2.2.2, (Lit.int .u8 x).wf = true)) := by
  have u8 := (Gy.Opens.int (P := Try.prog) Try.underlying5 (by kernel_rfl)).sized
  have i64 := (Gy.Opens.int (P := Try.prog) Try.underlying2 (by kernel_rfl)).sized
  have i := (Gy.Opens.int (P := Try.prog) Try.underlying3 (by kernel_rfl)).sized
  have hb := Gy.SOpens.slice (P := Try.prog) (t := 25) 1 (by kernel_rfl) Try.underlying25 (by kernel_rfl) u8
  have h3 := Gy.SOpensAt.one (f := { name := "B", type := 25, offset := 3, embedded := false, tag := "", pkgPath := "", byteOffset := 24 }) (off := 3) rfl hb
  have h2 := Gy.SOpensAt.cons (f := { name := "Size", type := 3, offset := 2, embedded := false, tag := "", pkgPath := "", byteOffset := 16 }) (off := 2) rfl i h3
  have h1 := Gy.SOpensAt.cons (f := { name := "V", type := 2, offset := 1, embedded := false, tag := "", pkgPath := "", byteOffset := 8 }) (off := 1) rfl i64 h2
  have h0 := Gy.SOpensAt.cons (f := { name := "Kind", type := 5, offset := 0, embedded := false, tag := "", pkgPath := "", byteOffset := 0 }) (off := 0) rfl u8 h1
  exact Gy.SOpens.slice (P := Try.prog) (t := 22) 48 (by kernel_rfl) Try.underlying22 (by kernel_rfl) (Gy.SOpens.struct Try.underlying29 (by kernel_rfl) h0)
end Go.Proofs.Ytnoebhnkkigkjaa.Codec
