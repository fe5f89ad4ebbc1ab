/- A number's text by strconv.FormatUint at base 10; and package args' reading of numbers. -/
import Derived.Test.YtfdfijohcapgaaaDoorArgsR
import Derived.Shelf.Pu.ErrVarParseUint
import Derived.Shelf.Strconv.Itoa3
namespace Go.Proofs.YtfdfijohcapgaaaDoor.Path
open Go Go.RowKit Go.Shelf Go.Sort Go.Lib Go.Proofs.YtfdfijohcapgaaaDoor.QPart Go.Proofs.YtfdfijohcapgaaaDoorW.PrintWords Go.Proofs.YtfdfijohcapgaaaDoorW.PrintLast Go.Proofs.YtfdfijohcapgaaaDoorW.PrintMore

theorem holds_zero0 (w : World) (T : TypeId) (nd : Nat) (hs : nd ≤ 24) : Holds (fun (b : UInt8) => Value.int .u8 (b.toNat : Int)) (w.alloc (.cells Lib.zeros24 T)) w.heap.size 0 (Array.replicate nd (0 : UInt8)) := fun j hj => by
  have hj' : j < nd := by simpa using hj
  refine ⟨?_, World.frozen?_alloc_new _ _ _ _⟩
  rw [World.cell?_alloc_new, zeros24_at _ (by omega), getElem!_pos _ j hj]
  simp
theorem fin0 (w : World) (o : Obj) (dk : Array UInt8) (k : Nat) : ∃ os, (putRow (fun (b : UInt8) => Value.int .u8 (b.toNat : Int)) (w.alloc o) w.heap.size 0 dk).drewN k = grow (w.drewN k) os := by
  rw [alloc_eq_grow]
  obtain ⟨os', _, e⟩ := putRow_grow_new (fun (b : UInt8) => Value.int .u8 (b.toNat : Int)) w #[o] w.heap.size 0 dk (Nat.le_refl _)
  exact ⟨os', by rw [e]; rfl⟩
set_option maxHeartbeats 6400000 in
set_option maxRecDepth 100000 in
theorem formatIn_calls (u : Nat) (hu64 : u < 18446744073709551616) (w : World) (htab : Lib.TabIs Tryd.prog w "internal/strconv.uint64pow10" .u64 Lib.pow10Tab) :
    Calls Tryd.prog 27 #[.int .u64 u, .int .i64 10] w fun e w' => e = .returned (.string ⟨(Lib.decDigits u).toArray⟩) ∧ Below w.heap.size w w' := by
  have htab' := Lib.hid htab
  clear htab
  by_cases hs : u < 100
  · have g : (u : Int) < 100 := by omega
    go_enter Tryd.func27, Tryd.ntmps27
    go_wp2_with (go_at_call 38; refine (Any.internal_strconv_small Tryd.smallLay u hs _).mono ?_; rintro e w' ⟨rfl, rfl⟩)
    go_ret
    exact ⟨rfl, Below.refl _ _⟩
  · have g : ¬ (u : Int) < 100 := by omega
    have hu1 : 1 ≤ u := by omega
    have hnd20 : Lib.nDigits u ≤ 20 := by have := Lib.numDigits_eq u hu1 hu64; split at this <;> omega
    have hb3 : Lib.nDigits u ≤ 24 := by omega
    have hal : Tryd.prog.arrayLen 64 = 24 := by kernel_rfl
    have hsl1 : ∀ W, (Instr.sliceAt 64 (.pointer (some ⟨w.heap.size, 0, none⟩)) none (some (.int .i64 (Lib.nDigits u : Int))) none).run Tryd.prog W = .ok (.slice (some ⟨w.heap.size, 0, none⟩) (Lib.nDigits u) 24) W := fun W => by
      rw [run_sliceAt_array_h W 64 ⟨w.heap.size, 0, none⟩ (by kernel_rfl) .i64 (Lib.nDigits u : Int) (by omega) (by rw [hal]; omega)]
      rw [hal]
      go_simp
      try omega
    have hH0 := holds_zero0 w 64 (Lib.nDigits u) (by omega)
    have hfmt := Any.internal_strconv_formatBase10 Tryd.baseLay w.heap.size 0 24 u (Array.replicate (Lib.nDigits u) 0) (w.alloc (.cells Lib.zeros24 64)) hH0 (by rw [Array.size_replicate]; exact Lib.lt_pow_nDigits u) hu64 (by rw [Array.size_replicate]; omega)
    rw [Array.size_replicate] at hfmt
    have HH0 := Lib.hid hH0
    clear hH0 hal
    go_enter Tryd.func27, Tryd.ntmps27
    go_wp2_with (first
      | (go_at_call 39; refine (Any.internal_strconv_numDigits Tryd.digitsLay u hu1 hu64 _ (Lib.tabIs_alloc htab'.out _)).mono ?_; rintro e w' ⟨rfl, rfl⟩))
    go_at_call 40
    refine hfmt.mono ?_
    rintro e w' ⟨rfl, k, v', dk, rfl, hF⟩
    have hcv : (convert 37 9 (.slice (some ⟨w.heap.size, 0, none⟩) (Lib.nDigits u) 24)).run Tryd.prog ((putRow (fun (b : UInt8) => Value.int .u8 (b.toNat : Int)) (w.alloc (.cells Lib.zeros24 64)) w.heap.size 0 dk).drewN k) = .ok (.string ⟨(Lib.decDigits u).toArray⟩) ((putRow (fun (b : UInt8) => Value.int .u8 (b.toNat : Int)) (w.alloc (.cells Lib.zeros24 64)) w.heap.size 0 dk).drewN k) := by
      have h := run_convert_bytes_back (P := Tryd.prog) ((putRow (fun (b : UInt8) => Value.int .u8 (b.toNat : Int)) (w.alloc (.cells Lib.zeros24 64)) w.heap.size 0 dk).drewN k) 37 9 5 ⟨w.heap.size, 0, none⟩ 24 (Lib.decDigits u) Tryd.underlying37 Tryd.underlying5 Tryd.underlying9 (fun j hj => by
        rw [Lib.row_is_numeral hF j hj, Lib.add_plain, World.cell?_drewN]
        exact cell?_putRow (fun (b : UInt8) => Value.int .u8 (b.toNat : Int)) _ w.heap.size 0 _ dk HH0.out (by rw [hF.size, Array.size_replicate]) j (by rw [hF.size]; rw [Lib.decDigits_length] at hj; exact hj))
      rw [Lib.decDigits_length] at h
      exact h
    go_wp2
    go_ret
    obtain ⟨os, eo⟩ := fin0 w (.cells Lib.zeros24 64) dk k
    refine ⟨rfl, ?_⟩
    rw [eo]
    exact Lib.below_grow _ _ (Nat.le_refl _) _ _
set_option maxHeartbeats 2000000 in
set_option maxRecDepth 100000 in
theorem format_calls (u : Nat) (hu64 : u < 18446744073709551616) (w : World) (htab : Lib.TabIs Tryd.prog w "internal/strconv.uint64pow10" .u64 Lib.pow10Tab) :
    Calls Tryd.prog 18 #[.int .u64 u, .int .i64 10] w fun e w' => e = .returned (.string ⟨(Lib.decDigits u).toArray⟩) ∧ Below w.heap.size w w' := by
  have htab' := Lib.hid htab
  clear htab
  go_enter Tryd.func18, Tryd.ntmps18
  go_wp2_with (go_at_call 27; refine (formatIn_calls u hu64 _ htab'.out).mono ?_; rintro e w' ⟨rfl, hd⟩; have hb := Lib.hid hd; clear hd)
  go_ret
  exact ⟨rfl, hb.out⟩
theorem bytes_below2 {w w' : World} {T : TypeId} {t : ByteArray} (h : w' = w ∨ w' = Lib.bytesWorld w T t) : Below w.heap.size w w' := by
  rcases h with rfl | rfl
  · exact Below.refl _ _
  · exact Lib.bytesWorld_below _ _ _
set_option maxHeartbeats 4000000 in
set_option maxRecDepth 100000 in
theorem number_calls (s : ByteArray) (hs : s.size ≤ 1000000000) (w : World) (G : Good w) :
    Calls Tryd.prog 23 #[.string s] w fun e w' => e = .returned (.int .i64 (Args.num s)) ∧ Below w.heap.size w w' := by
  have G' := Lib.hid G
  clear G
  have HN : Args.num s = Args.num s := rfl
  unfold Args.num Args.numL at HN ⊢
  clear HN
  have chain : ∀ {w w1 w2 : World}, Below w.heap.size w w1 → Below w1.heap.size w1 w2 → Below w.heap.size w w2 := fun h1 h2 => h1.trans (h2.mono h1.size)
  rcases h : Lib.parseUintB 32 s.data.toList with u | _ | _
  next =>
    have hu := Lib.parseUintB_le h
    have hu2 : u ≤ 4294967295 := hu
    have hu64 : u < 18446744073709551616 := by omega
    have h' := Lib.hid h
    clear h hu
    simp only
    obtain ⟨d, hd⟩ : ∃ d : ByteArray, ⟨(Lib.decDigits u).toArray⟩ = d := ⟨_, rfl⟩
    have hdl : Lib.decDigits u = d.data.toList := by rw [← hd]
    have HD := Lib.hid hd
    rw [hdl]
    clear hd hdl
    by_cases he : d.data.toList = s.data.toList
    · rw [if_pos he]
      have hds : d = s := Args.ba_ext d s he
      have he2 : (d.toList == s.toList) = true := by rw [hds]; simp
      clear he
      go_enter Tryd.func23, Tryd.ntmps23
      go_wp2_with (first
        | (go_at_call 34; refine (Any.strconv_ParseUint_10_at32_ok Tryd.parseLay s (by omega) u h'.out _).mono ?_; rintro e w1 ⟨rfl, hw⟩; have hb1 := Lib.hid (bytes_below2 hw); clear hw)
        | (go_at_call 18; refine (format_calls u hu64 _ (G'.out.below hb1.out).tab).mono ?_; rw [HD.out]; rintro e w2 ⟨rfl, hd⟩; have hb2 := Lib.hid hd; clear hd))
      go_ret
      exact ⟨by first | rfl | (congr 2; omega), chain hb1.out hb2.out⟩
    · rw [if_neg he]
      have he2 : (d.toList == s.toList) = false := by rw [beq_bytes]; exact decide_eq_false (fun e => he (by rw [e]))
      clear he
      go_enter Tryd.func23, Tryd.ntmps23
      go_wp2_with (first
        | (go_at_call 34; refine (Any.strconv_ParseUint_10_at32_ok Tryd.parseLay s (by omega) u h'.out _).mono ?_; rintro e w1 ⟨rfl, hw⟩; have hb1 := Lib.hid (bytes_below2 hw); clear hw)
        | (go_at_call 18; refine (format_calls u hu64 _ (G'.out.below hb1.out).tab).mono ?_; rw [HD.out]; rintro e w2 ⟨rfl, hd⟩; have hb2 := Lib.hid hd; clear hd))
      go_ret
      exact ⟨rfl, chain hb1.out hb2.out⟩
  next =>
    have h' := Lib.hid h
    clear h
    simp only
    obtain ⟨t, p, hv0⟩ := G'.out.es
    have hv := Lib.hid hv0
    clear hv0
    go_enter Tryd.func23, Tryd.ntmps23
    go_wp2_with (go_at_call 34; refine (Any.strconv_ParseUint_10_at32_syntax Tryd.parseLay s (by omega) h'.out _ _ hv.out (Or.inr ⟨_, _, rfl⟩)).mono ?_; rintro e w2 ⟨n, rfl, -, -, hw⟩; have hb2 := Lib.hid hw; clear hw)
    go_ret
    exact ⟨rfl, hb2.out⟩
  next =>
    have h' := Lib.hid h
    clear h
    simp only
    obtain ⟨t, p, hv0⟩ := G'.out.er
    have hv := Lib.hid hv0
    clear hv0
    go_enter Tryd.func23, Tryd.ntmps23
    go_wp2_with (go_at_call 34; refine (Any.strconv_ParseUint_10_at32_range Tryd.parseLay s (by omega) h'.out _ _ hv.out (Or.inr ⟨_, _, rfl⟩)).mono ?_; rintro e w2 ⟨n, rfl, -, -, hw⟩; have hb2 := Lib.hid hw; clear hw)
    go_ret
    exact ⟨rfl, hb2.out⟩
end Go.Proofs.YtfdfijohcapgaaaDoor.Path
