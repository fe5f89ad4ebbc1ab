/- The laws of codec: the reference's Wide, what is spoilt, a text got back. -/
import Derived.Test.YtnoebhnkkigkjaaCodecLaw
import Derived.Test.YtnoebhnkkigkjaaOpenS
namespace Go.Proofs.Ytnoebhnkkigkjaa.Codec
open Go Go.RowKit Go.Proofs.YtnoebhnkkigkjaaW.PrintWords Go.Proofs.YtnoebhnkkigkjaaW.PrintMore

/-- the object is spoilt -/
theorem n_spoil_aux {base g : Nat} {v : Value} {xs : List Int} {fail : Bool} {w : World} (hO : OutIs base w g v xs fail) : OutPost base w g v xs true (w.setCell ⟨g, 1, none⟩ (.bool true)) := by
  refine ⟨v, ⟨?_, Gy.cell_set hO.c1 _, ?_, ?_, own_to hO.own (fun k hk => set_heap _ _ _ _ _ (fun e => hO.ne (by rw [hk, e]))), hO.ne, hO.ge, by rw [set_size]; exact hO.le⟩, (Below.refl base w).setCell hO.ge _, ⟨by rw [set_size]; exact Nat.le_refl _, fun k hk h1 h2 => set_heap _ _ _ _ _ h1⟩, .inl rfl⟩
  · rw [set_other _ _ _ _ _ (by omega)]; exact hO.c0
  · rw [set_frozen]; exact hO.f0
  · rw [set_frozen]; exact hO.f1
theorem wide_over {m : Nat} {v : Int} (h1 : 1 ≤ m) (h6 : m ≤ 6) (hv : (256 : Int) ^ m ≤ v) : decide (wrap64 (2 ^ (8 * m)) ≤ v) = true := by
  rw [decide_eq_true_iff]
  rcases (by omega : m = 1 ∨ m = 2 ∨ m = 3 ∨ m = 4 ∨ m = 5 ∨ m = 6) with h | h | h | h | h | h <;> subst h <;> simp at hv <;> unfold wrap64 <;> simp <;> omega
set_option maxHeartbeats 2000000 in
set_option maxRecDepth 100000 in
theorem n_spoil (base g : Nat) (v0 : Value) (xs : List Int) (v size : Int) (fail : Bool) (w : World) (hO : OutIs base w g v0 xs fail) (hb : size < 1 ∨ 6 < size ∨ v < 0 ∨ (1 ≤ size ∧ size ≤ 6 ∧ (256 : Int) ^ size.toNat ≤ v)) :
    Calls Try.prog 12 #[.pointer (some ⟨g, 0, none⟩), .int .i64 v, .int .i64 size] w fun e w' => e = .returned (.tuple #[]) ∧ OutPost base w g v0 xs true w' := by
  have h0 := hO.c0
  have h1 := hO.c1
  have f1 := hO.f1
  have HO := Lib.hid hO
  have HB := Lib.hid hb
  clear hO hb
  by_cases b1 : size < 1
  · have t1 : decide (size < 1) = true := by simp [b1]
    clear b1
    go_enter Try.func12, Try.ntmps12
    go_wp2
    exact bodyPost_ret (results_none rfl _ _ _) rfl ⟨rfl, n_spoil_aux HO.out⟩
  · have t1 : decide (size < 1) = false := by simp [b1]
    by_cases b2 : 6 < size
    · have t2 : decide (6 < size) = true := by simp [b2]
      clear b1 b2
      go_enter Try.func12, Try.ntmps12
      go_wp2
      exact bodyPost_ret (results_none rfl _ _ _) rfl ⟨rfl, n_spoil_aux HO.out⟩
    · have t2 : decide (6 < size) = false := by simp [b2]
      by_cases b3 : v < 0
      · have t3 : decide (v < 0) = true := by simp [b3]
        clear b1 b2 b3
        go_enter Try.func12, Try.ntmps12
        go_wp2
        exact bodyPost_ret (results_none rfl _ _ _) rfl ⟨rfl, n_spoil_aux HO.out⟩
      · have t3 : decide (v < 0) = false := by simp [b3]
        obtain ⟨m, rfl⟩ : ∃ m : Nat, size = (m : Int) := ⟨size.toNat, by omega⟩
        have hv := HB.out
        rw [Int.toNat_natCast] at hv
        have t4 := wide_over (m := m) (v := v) (by omega) (by omega) (by omega)
        clear hv
        go_enter Try.func12, Try.ntmps12
        go_wp2
        exact bodyPost_ret (results_none rfl _ _ _) rfl ⟨rfl, n_spoil_aux HO.out⟩
set_option maxHeartbeats 2000000 in
theorem text_spoil (base g : Nat) (v0 : Value) (xs : List Int) (s : ByteArray) (fail : Bool) (w : World) (hO : OutIs base w g v0 xs fail) (hs : 255 < s.size) (hs1 : s.size ≤ 140737488355328) (hl : xs.length + s.size ≤ 140737488355328) :
    Calls Try.prog 14 #[.pointer (some ⟨g, 0, none⟩), .string s] w fun e w' => e = .returned (.tuple #[]) ∧ OutPost base w g v0 (xs ++ bytesOf s) true w' := by
  have HO := Lib.hid hO
  have HL := Lib.hid hl
  have hn : ∀ W, OutIs base W g v0 xs fail → Calls Try.prog 12 #[.pointer (some ⟨g, 0, none⟩), .int .i64 (s.size : Int), .int .i64 1] W fun e w' => e = .returned (.tuple #[]) ∧ OutPost base W g v0 xs true w' :=
    fun W h => n_spoil base g v0 xs s.size 1 fail W h (.inr (.inr (.inr ⟨by omega, by omega, by simp; omega⟩)))
  have HN := Lib.hid hn
  have hcv : ∀ W : World, (convert 9 25 (.string s)).run Try.prog W = .ok (.slice (some ⟨W.heap.size, 0, none⟩) s.size (grownCap W s.size 0 5)) (Lib.bytesWorld W 5 s) :=
    fun W => Lib.run_convert_string_bytes W _ _ _ s Try.underlying9 Try.underlying25 Try.underlying5
  have hs2 : s.size ≤ 9223372036854775807 := by omega
  clear hO hl hn hs
  go_enter Try.func14, Try.ntmps14
  go_wp2_with (first
    | (go_at_call 12; (with_reducible refine (HN.out _ HO.out).mono ?_); rintro e w1 ⟨rfl, ⟨v1, h1, h2, h3, h4⟩⟩; have H1 := Lib.hid (And.intro h1 (And.intro h2 (And.intro h3 h4))); clear h1 h2 h3 h4)
    | (go_at_call 15; (with_reducible refine (raw_calls base g v1 xs (bytesOf s) true _ _ _ _ (H1.out.1.below (bytes_below _ _ s)) (bytes_reads _ _ s hs2) (by have := HL.out; omega)).mono ?_); rintro e w3 ⟨rfl, h3⟩; have H3 := Lib.hid h3; clear h3))
  go_end0
  exact ⟨rfl, post_trans H1.out.1 H1.out.2.1 H1.out.2.2.1 H1.out.2.2.2 (bytes_below _ _ s) H3.out⟩
theorem raw_row {w : World} {base : Nat} {e : TypeId} {v : Value} {zs : List Int} {m : Nat} (h : w.ownsRow base e 1 v zs.length (nums .u8 zs)) (hl : zs.length = m) (hm : m ≤ 9223372036854775807) : ∃ A c, v = .slice A m c ∧ ReadsInt w .u8 A m zs := by
  obtain ⟨A, c, rfl⟩ := own_slice h
  subst hl
  exact ⟨A, c, rfl, own_reads h rfl hm⟩
set_option maxHeartbeats 2000000 in
set_option maxRecDepth 100000 in
/-- a text got back -/
theorem intext_ok (g : Nat) (A : Option Addr) (c : Nat) (n : Nat) (bs rest : List Int) (w : World) (hn : n = bs.length) (h255 : n ≤ 255) (hw : ∀ x ∈ (n : Int) :: bs ++ rest, 0 ≤ x ∧ x < 256) (hI : InIs w g A c ((n : Int) :: bs ++ rest) false) :
    Calls Try.prog 19 #[.pointer (some ⟨g, 0, none⟩)] w fun e w' => e = .returned (.string (strOfNums bs)) ∧ InSt w' g (some rest) ∧ KeepG w w' g := by
  have h1 : Calls Try.prog 18 #[.pointer (some ⟨g, 0, none⟩), .int .i64 1] w fun e w' => e = .returned (.int .i64 (n : Int)) ∧ InSt w' g (some (bs ++ rest)) ∧ KeepG w w' g := by
    have h := inn_ok g A c _ 1 w hI (by omega) (by omega) (by simp) hw
    have e1 : numOf (((n : Int) :: bs ++ rest).take 1) = n := by simp [numOf]
    rw [e1] at h
    exact h
  have H1 := Lib.hid h1
  have HN := Lib.hid hn
  have h2 : ∀ W, InSt W g (some (bs ++ rest)) → Calls Try.prog 20 #[.pointer (some ⟨g, 0, none⟩), .int .i64 (n : Int)] W fun e w' => RawPost W g bs rest e w' := fun W h => by
    obtain ⟨A1, c1, h⟩ := h
    have h3 := inraw_ok g A1 c1 (bs ++ rest) n W h (by rw [hn]; simp)
    rw [hn, List.take_left, List.drop_left] at h3
    rw [hn]
    exact h3
  have H2 := Lib.hid h2
  have hm : n ≤ 9223372036854775807 := by omega
  have HM := Lib.hid hm
  clear h1 h2 hn h255 hw hI hm
  go_enter Try.func19, Try.ntmps19
  go_wp2_with (first
    | (go_at_call 18; (with_reducible refine H1.out.mono ?_); rintro e w1 ⟨rfl, e1, e2⟩; have E1 := Lib.hid (And.intro e1 e2); clear e1 e2)
    | (go_at_call 20; (with_reducible refine (H2.out _ E1.out.1).mono ?_); rintro e w2 ⟨v2, rfl, e0, e1, e2⟩; obtain ⟨A4, c4, rfl, e4⟩ := raw_row e0 HN.out.symm HM.out; clear e0; have s3 := string_of_reads (P := Try.prog) (c := c4) Try.underlying25 Try.underlying5 Try.underlying9 e4; have E2 := Lib.hid (And.intro e1 (E1.out.2.trans e2)); clear e1 e2 e4))
  go_ret
  exact ⟨rfl, E2.out⟩
/-- the row of Wide at each round -/
def WAt (W : World) (h n v r : Nat) (wr : World) : Prop :=
  wr.ownsRow W.heap.size 5 1 (.slice (some ⟨h, 0, none⟩) n n) n (nums .u8 (List.replicate r 0 ++ wide (n - r) v)) ∧ Below W.heap.size W wr
theorem WAt.round {W wr : World} {h n v r : Nat} (hw : WAt W h n v (r + 1) wr) (hr : r + 1 ≤ n) : WAt W h n v r (wr.setCell ⟨h, r, none⟩ (.int .u8 ((v / 256 ^ (n - (r + 1)) % 256 : Nat) : Int))) := by
  obtain ⟨ho, hb⟩ := hw
  have h2 := ho.stored r (.int .u8 ((v / 256 ^ (n - (r + 1)) % 256 : Nat) : Int))
  have e : (nums .u8 (List.replicate (r + 1) 0 ++ wide (n - (r + 1)) v)).set r (.int .u8 ((v / 256 ^ (n - (r + 1)) % 256 : Nat) : Int)) = nums .u8 (List.replicate r 0 ++ wide (n - r) v) := by
    have h := rowAt_set [] n v r hr
    unfold rowAt at h
    simp only [List.nil_append, List.length_nil, Nat.zero_add] at h
    rw [← h]
    simp [nums, List.map_set]
  rw [e] at h2
  exact ⟨h2.1, hb.setCell (own_base ho h rfl) _⟩
theorem wat_cell {W wr : World} {h n v r : Nat} (hw : WAt W h n v (r + 1) wr) (hr : r + 1 ≤ n) : wr.cell? ⟨h, r, none⟩ = some (.int .u8 0) := by
  have h2 := hw.1.cellAt r (by omega)
  rw [h2]
  simp [nums, List.replicate_succ']
theorem wat_free {W wr : World} {h n v r : Nat} (hw : WAt W h n v r wr) (j : Nat) : wr.frozen? ⟨h, j, none⟩ = false := hw.1.frozenAt j
theorem div_lt {v k : Nat} (hv : v < 18446744073709551616) : v / 256 ^ k < 18446744073709551616 := Nat.lt_of_le_of_lt (Nat.div_le_self v (256 ^ k)) hv
set_option maxHeartbeats 2000000 in
set_option maxRecDepth 100000 in
theorem wide_calls (v n : Nat) (w : World) (h1 : 1 ≤ n) (h6 : n ≤ 6) (hv : v < 18446744073709551616) :
    Calls Try.prog 13 #[.int .u64 v, .int .i64 n] w fun e w' => ∃ r, e = .returned r ∧ w'.ownsRow w.heap.size 5 1 r n (nums .u8 (wide n v)) ∧ Below w.heap.size w w' := by
  have hm := print_make (P := Try.prog) 25 5 .u8 1 Try.underlying25 info_u8 (by decide) n (by omega)
  have HN := Lib.hid (And.intro h1 (And.intro h6 hv))
  have hs : wrap64 ((n : Int) - 1) = (n : Int) - 1 := by unfold wrap64; omega
  clear h1 h6 hv
  go_enter Try.func13, Try.ntmps13
  go_wp2
  have h0 : WAt w w.heap.size n v n (w.alloc (.cells (madeCells #[.int .u8 0] n) 5)) := by
    refine ⟨?_, (Below.refl _ _).alloc (Nat.le_refl _) _⟩
    rw [Nat.sub_self]
    have h := own_made w w.heap.size 5 .u8 n (Nat.le_refl _) (by have := HN.out; omega)
    simpa [wide] using h
  have H0 := Lib.hid h0
  clear h0
  go_loopw [0, 6] (fun v0 v6 wr => ∃ r : Nat, r ≤ n ∧ v6 = .int .i64 ((r : Int) - 1) ∧ v0 = .int .u64 ((v / 256 ^ (n - r) : Nat) : Int) ∧ Gy.Hd (WAt w w.heap.size n v r wr)) (fun _ v6 _ => (intOf v6 + 1).toNat)
  case atStart => exact ⟨n, Nat.le_refl _, by rw [hs], by simp, ⟨H0.out⟩⟩
  case round =>
    obtain ⟨r, hr, rfl, rfl, hn⟩ := hrel
    clear hm hs
    cases r with
    | zero =>
      go_wp2
      go_ret
      refine ⟨_, rfl, ?_, hn.out.2⟩
      have h := hn.out.1
      rw [Nat.sub_zero] at h
      exact h
    | succ r =>
      have hx := wat_cell hn.out hr
      have hy := wat_free hn.out r
      have e : (((r + 1 : Nat) : Int) - 1) = (r : Int) := by omega
      have hrn : r < n := by omega
      have hq := div_lt (v := v) (k := n - (r + 1)) HN.out.2.2
      have hd : v / 256 ^ (n - r) = v / 256 ^ (n - (r + 1)) / 256 := by rw [show n - r = n - (r + 1) + 1 from by omega, Nat.pow_succ, Nat.div_div_eq_div_mul]
      have hst := WAt.round hn.out hr
      have HST := Lib.hid hst
      have hs : wrap64 ((r : Int) - 1) = (r : Int) - 1 := by have := HN.out; unfold wrap64; omega
      rw [e]
      clear e hst hn
      generalize v / 256 ^ (n - (r + 1)) = q at *
      go_wp2
      rw [hs, show ((q : Int) % 256) = ((q % 256 : Nat) : Int) from by norm_cast]
      refine ⟨⟨r, Nat.le_of_lt hrn, rfl, by rw [hd]; norm_cast, ⟨HST.out⟩⟩, ?_⟩
      simp only [intOf]
      omega
set_option maxHeartbeats 2000000 in
set_option maxRecDepth 100000 in
theorem few_tells (A : Option Addr) (c : Nat) (l : List (Int × Int × Int × List Int)) (w : World) (h : kitem.C w A l.length l) (hb : ∀ p ∈ l, p.2.2.2.length ≤ 140737488355328) :
    Calls Try.prog 11 #[.slice A l.length c] w fun e w' => (∃ b, e = .returned (.bool b) ∧ (b = true → l.length ≤ 100 ∧ ∀ p ∈ l, p.2.2.2.length ≤ 20000)) ∧ w = w' := by
  have H := Lib.hid h
  have HB := Lib.hid hb
  clear h hb
  go_enter Try.func11, Try.ntmps11
  go_wp2
  go_loopw [3, 7] (fun v3 v7 wr => ∃ (j m : Nat), j ≤ l.length ∧ v3 = .int .i64 (m : Int) ∧ v7 = .int .i64 (j : Int) ∧ wr = w ∧ Gy.Hd (m ≤ 20000 ∧ j ≤ 100 ∧ ∀ p ∈ l.take j, p.2.2.2.length ≤ 20000)) (fun _ v7 _ => l.length - (intOf v7).toNat)
  case atStart => exact ⟨0, 0, by omega, rfl, rfl, rfl, ⟨by omega, by omega, fun p hp => by simp at hp⟩⟩
  case round =>
    obtain ⟨j, m, hj, rfl, rfl, rfl, hd⟩ := hrel
    by_cases hjn : j < l.length
    · obtain ⟨ad, A', c', rfl, f0, f1, f2, f3, hc, hr⟩ := item_at H.out j hjn
      have t3 : decide ((j : Int) < (l.length : Int)) = true := by simp; omega
      have hlast : ∀ p ∈ l.take (j + 1), p ∈ l.take j ∨ p = l[j] := fun p hp => by
        rw [List.take_succ_eq_append_getElem hjn, List.mem_append, List.mem_singleton] at hp
        exact hp
      have hbq := HB.out _ (List.getElem_mem hjn)
      have HLAST := Lib.hid (show (l[j].2.2.2.length ≤ 20000 → ∀ p ∈ l.take (j + 1), p.2.2.2.length ≤ 20000) from fun hq p hp => by
        rcases hlast p hp with h | rfl
        · exact hd.out.2.2 p h
        · exact hq)
      clear hlast
      generalize l[j].2.2.2.length = q at f3 hc hr hbq HLAST
      clear f0 f1 f2 hr
      have hl : (l.length : Int) ≤ 9223372036854775807 := by have := H.out.2.1; unfold maxLen at this; omega
      have hw : wrap64 ((j : Int) + 1) = (j : Int) + 1 := by unfold wrap64; omega
      have hw2 : wrap64 ((m : Int) + (q : Int)) = (m : Int) + (q : Int) := by have := hd.out.1; unfold wrap64; omega
      by_cases b1 : 100 ≤ (j : Int)
      · have s1 : decide (100 ≤ (j : Int)) = true := by simp [b1]
        clear b1
        go_wp2
        go_ret
        exact ⟨⟨false, rfl, fun h => by cases h⟩, rfl⟩
      · have s1 : decide (100 ≤ (j : Int)) = false := by simp [b1]
        by_cases b2 : 20000 < (m : Int) + (q : Int)
        · have s2 : decide (20000 < (m : Int) + (q : Int)) = true := by simp [b2]
          clear b1 b2
          go_wp2
          go_ret
          exact ⟨⟨false, rfl, fun h => by cases h⟩, rfl⟩
        · have s2 : decide (20000 < (m : Int) + (q : Int)) = false := by simp [b2]
          have hq2 : m + q ≤ 20000 := by omega
          have HQ := Lib.hid (And.intro hq2 (show j + 1 ≤ 100 by omega))
          clear b1 b2 hq2
          go_wp2
          refine ⟨⟨j + 1, m + q, hjn, by first | (rw [hw2]; norm_cast) | norm_cast, by norm_cast, trivial, ⟨HQ.out.1, HQ.out.2, HLAST.out (by have := HQ.out.1; omega)⟩⟩, ?_⟩
          simp only [intOf]
          omega
    · obtain rfl : j = l.length := by omega
      have t3 : decide ((l.length : Int) < (l.length : Int)) = false := by simp
      have HD := Lib.hid hd
      clear hd
      go_wp2
      go_ret
      refine ⟨⟨true, rfl, fun _ => ⟨HD.out.out.2.1, fun p hp => HD.out.out.2.2 p ?_⟩⟩, rfl⟩
      rw [List.take_length]; exact hp
end Go.Proofs.Ytnoebhnkkigkjaa.Codec
