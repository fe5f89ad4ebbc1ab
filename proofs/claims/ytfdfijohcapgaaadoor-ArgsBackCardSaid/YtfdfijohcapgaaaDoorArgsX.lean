/- The door of layer 22: its digits, and its test whether two say the same. -/
import Derived.Test.YtfdfijohcapgaaaDoorArgsW
import Derived.Lib.ConvBytes
namespace Go.Proofs.YtfdfijohcapgaaaDoor.Path
open Go Go.RowKit Go.Shelf Go.Proofs.YtfdfijohcapgaaaDoor.QPart Go.Proofs.YtfdfijohcapgaaaDoorW.PrintWords Go.Proofs.YtfdfijohcapgaaaDoorW.PrintLast Go.Proofs.YtfdfijohcapgaaaDoorW.PrintMore

/-- one byte as a string -/
def one (x : Int) : ByteArray := ⟨#[UInt8.ofNat x.toNat]⟩
theorem conv_one (x : Int) (h0 : 0 ≤ x) (h1 : x ≤ 255) (W : World) :
    (convert 37 9 (.slice (some ⟨W.heap.size, 0, none⟩) 1 1)).run Tryd.prog (W.alloc (.cells #[.int .u8 x] 5)) = .ok (.string (one x)) (W.alloc (.cells #[.int .u8 x] 5)) := by
  refine run_convert_bytes_back (W.alloc (.cells #[.int .u8 x] 5)) _ _ 5 ⟨W.heap.size, 0, none⟩ 1 [UInt8.ofNat x.toNat] Tryd.underlying37 Tryd.underlying5 Tryd.underlying9 ?_
  intro j hj
  have : j = 0 := by simp at hj; omega
  subst this
  have e : ((UInt8.ofNat x.toNat).toNat : Int) = x := by
    rw [UInt8.toNat_ofNat']
    omega
  have hx : ([UInt8.ofNat x.toNat])[0].toNat = x := e
  rw [hx]
  simp [Addr.add]
/-- what is left to be written -/
def rest (m : Nat) : List UInt8 := if m = 0 then [] else Lib.decDigits m
theorem dig_step (m : Nat) (S : ByteArray) (h : m ≠ 0) : rest m ++ S.data.toList = rest (m / 10) ++ (one (48 + ((m % 10 : Nat) : Int)) ++ S).data.toList := by
  have e : (48 + ((m % 10 : Nat) : Int)).toNat = 48 + m % 10 := by omega
  unfold rest one
  rw [if_neg h, e]
  by_cases h1 : m < 10
  · rw [Lib.decDigits_one h1, if_pos (by omega), Nat.mod_eq_of_lt h1]
    simp
  · rw [Lib.decDigits, dif_neg h1, if_neg (by omega)]
    simp
theorem dig_zero : Lib.decDigits 0 = (one (48 + ((0 % 10 : Nat) : Int)) ++ (⟨#[]⟩ : ByteArray)).data.toList := by
  rw [Lib.decDigits_one (by decide)]
  rfl
structure Dg (u m : Nat) (S : ByteArray) (k : Nat) : Prop where
  txt : (S = ⟨#[]⟩ ∧ m = u) ∨ (S ≠ ⟨#[]⟩ ∧ rest m ++ S.data.toList = Lib.decDigits u)
  fuel : m + (if S = ⟨#[]⟩ then 1 else 0) + 1 ≤ k
  size : S.size + (rest m).length ≤ 30
theorem mod_nat (m : Nat) : (48 + (m : Int) % 10) = 48 + ((m % 10 : Nat) : Int) := by omega
theorem dig_next {u m k : Nat} {S : ByteArray} (h : Dg u m S k) (hm : ¬ m = 0) : rest (m / 10) ++ (one (48 + (m : Int) % 10) ++ S).data.toList = Lib.decDigits u := by
  rw [mod_nat, ← dig_step m S hm]
  rcases h.txt with ⟨rfl, rfl⟩ | ⟨-, h⟩
  · unfold rest; rw [if_neg hm]; simp
  · exact h
theorem dig_fuel {u m k : Nat} {S : ByteArray} (h : Dg u m S (k + 1)) (hm : ¬ m = 0) : m / 10 + (if one (48 + (m : Int) % 10) ++ S = ⟨#[]⟩ then 1 else 0) + 1 ≤ k := by
  have h1 := h.fuel
  rw [if_neg (fun e => absurd (congrArg ByteArray.size e) (by rw [ByteArray.size_append]; have h1 : (one (48 + (m : Int) % 10)).size = 1 := rfl; rw [h1]; have h0 : (⟨#[]⟩ : ByteArray).size = 0 := rfl; rw [h0]; omega))]
  omega
theorem dig_size {u m k : Nat} {S : ByteArray} (h : Dg u m S k) (hm : ¬ m = 0) : (one (48 + (m : Int) % 10) ++ S).size + (rest (m / 10)).length ≤ 30 := by
  have h1 := h.size
  have h2 := congrArg List.length (dig_step m S hm)
  rw [List.length_append, List.length_append, ← mod_nat] at h2
  have e1 : S.size = S.data.toList.length := rfl
  have e2 : (one (48 + (m : Int) % 10) ++ S).size = (one (48 + (m : Int) % 10) ++ S).data.toList.length := rfl
  omega
set_option maxHeartbeats 4000000 in
set_option maxRecDepth 100000 in
theorem ldigits_calls (u : Nat) (hu : u ≤ 4294967295) (w : World) :
    Calls Tryd.prog 7 #[.int .u64 u] w fun e w' => e = .returned (.string (Args.itB u)) ∧ Below w.heap.size w w' := by
  have eI : Args.itB u = ⟨(Lib.decDigits u).toArray⟩ := by unfold Args.itB; rw [Lib.itoa_nonneg]
  rw [eI]
  have hr0 : (rest u).length ≤ 30 := by
    unfold rest
    split
    · simp
    · rw [← Lib.itoa_nonneg]
      have := Lib.itoa_length_le (u : Int) (by omega) (by omega)
      omega
  have HR := Lib.hid hr0
  clear eI hr0
  go_enter Tryd.func7, Tryd.ntmps7
  go_wp2
  go_loopg [0, 3] (u + 2) (fun kq v0 v3 w' => ∃ (m : Nat) (S : ByteArray), v0 = .int .u64 (m : Int) ∧ v3 = .string S ∧ Hid (Dg u m S kq ∧ m ≤ 4294967295) ∧ Hid (Below w.heap.size w w'))
  case atStart => exact ⟨u, ⟨#[]⟩, rfl, rfl, Lib.hid ⟨⟨.inl ⟨rfl, rfl⟩, by simp, (by have := HR.out; show 0 + _ ≤ 30; omega)⟩, hu⟩, Lib.hid (Below.refl _ _)⟩
  case round =>
    obtain ⟨m, S, rfl, rfl, hd, hw⟩ := hrel
    cases gk with
    | zero => exact absurd hd.out.1.fuel (by omega)
    | succ k9 =>
      have hm := hd.out.2
      have zo : ∀ x, (one x).size = 1 := fun _ => rfl
      have hsz : ¬ 9223372036854775807 < 1 + S.size := by have := hd.out.1.size; omega
      by_cases hm0 : m = 0
      · by_cases hS : S = ⟨#[]⟩
        · subst hm0
          subst hS
          have hu0 : u = 0 := by
            rcases hd.out.1.txt with h | h
            · exact h.2.symm
            · exact absurd rfl h.1
          have cv := conv_one 48 (by decide) (by decide)
          go_wp2
          go_roundg k9
          case measure => omega
          case rel => exact ⟨0, one 48 ++ ⟨#[]⟩, rfl, rfl, Lib.hid ⟨⟨.inr ⟨fun e => absurd (congrArg ByteArray.size e) (by decide), by rw [hu0, dig_zero]; rfl⟩, (by have := hd.out.1.fuel; rw [if_neg (fun e => absurd (congrArg ByteArray.size e) (by decide))]; simp at this; omega), by decide⟩, by omega⟩, Lib.hid (hw.out.alloc hw.out.size _)⟩
        · subst hm0
          have t1 : (S.toList == ([] : List UInt8)) = false := by
            rw [Lib.toList_data]
            exact beq_eq_false_iff_ne.2 (fun e => hS (Args.ba_ext _ _ e))
          have E : S = ⟨(Lib.decDigits u).toArray⟩ := by
            rcases hd.out.1.txt with h | h
            · exact absurd h.1 hS
            · apply Args.ba_ext
              have := h.2
              unfold rest at this
              simpa using this
          have HE := Lib.hid E
          clear E hS
          go_wp2
          go_ret
          exact ⟨by rw [← HE.out]; rfl, hw.out⟩
      · have g1 : (m : Int) > 0 := by omega
        have cv := conv_one (48 + (m : Int) % 10) (by omega) (by omega)
        have hm1 : ¬ m = 0 := hm0
        clear hm0
        go_wp2
        go_roundg k9
        case measure => omega
        case rel => exact ⟨m / 10, one (48 + (m : Int) % 10) ++ S, by first | rfl | (congr 1), rfl, Lib.hid ⟨⟨.inr ⟨fun e => absurd (congrArg ByteArray.size e) (by rw [ByteArray.size_append]; have h1 : (one (48 + (m : Int) % 10)).size = 1 := rfl; rw [h1]; have h0 : (⟨#[]⟩ : ByteArray).size = 0 := rfl; rw [h0]; omega), dig_next hd.out.1 hm1⟩, dig_fuel hd.out.1 hm1, dig_size hd.out.1 hm1⟩, by omega⟩, Lib.hid (hw.out.alloc hw.out.size _)⟩
/-- the two boxes -/
structure Sm (w w' : World) (us vs : List Value) : Prop where
  a : Gy.Arr w' w.heap.size us
  d : Gy.Arr w' (w.heap.size + 1) vs
  b : Below w.heap.size w w'
theorem Sm.below {w w1 w2 : World} {us vs : List Value} (h : Sm w w1 us vs) (hb : Below w1.heap.size w1 w2) : Sm w w2 us vs := ⟨h.a.below hb, h.d.below hb, h.b.trans (hb.mono h.b.size)⟩
theorem sm_start (w : World) (v0 v1 v2 v3 v4 u0 u1 u2 u3 u4 : Value) (T T' : TypeId) : Sm w ((w.alloc (.cells #[v0, v1, v2, v3, v4] T)).alloc (.cells #[u0, u1, u2, u3, u4] T')) [v0, v1, v2, v3, v4] [u0, u1, u2, u3, u4] := by
  have e : (w.alloc (.cells #[v0, v1, v2, v3, v4] T)).heap.size = w.heap.size + 1 := Gy.size_alloc' _ _
  have h := Gy.Arr.fresh (w.alloc (.cells #[v0, v1, v2, v3, v4] T)) [u0, u1, u2, u3, u4] _ rfl T'
  rw [e] at h
  exact ⟨(Gy.Arr.fresh w [v0, v1, v2, v3, v4] _ rfl T).alloc _, h, ((Below.refl _ _).alloc (Nat.le_refl _) _).alloc (by rw [e]; omega) _⟩
set_option maxHeartbeats 4000000 in
set_option maxRecDepth 100000 in
theorem lsame_calls (verb : ByteArray) (slice count frm : Int) (names : List ByteArray) (hn : names.length ≤ 1000000) (B1 B2 : Nat) (v1 v2 : Value) (w : World) (S1 : Strs B1 w v1 names) (S2 : Strs B2 w v2 names) :
    Calls Tryd.prog 10 #[.agg #[.string verb, .int .i64 slice, .int .i64 count, .int .u32 frm, v1], .agg #[.string verb, .int .i64 slice, .int .i64 count, .int .u32 frm, v2]] w fun e w' => e = .returned (.bool true) ∧ Below w.heap.size w w' := by
  obtain ⟨a1, c1, rfl, e1⟩ := S1
  obtain ⟨a2, c2, rfl, e2⟩ := S2
  have t1 : (verb.toList == verb.toList) = true := by simp
  by_cases h0 : names.length = 0
  · rw [h0]
    have HS := Lib.hid (sm_start w (.string verb) (.int .i64 slice) (.int .i64 count) (.int .u32 frm) (.slice a1 0 c1) (.string verb) (.int .i64 slice) (.int .i64 count) (.int .u32 frm) (.slice a2 0 c2) 25 25)
    clear e1 e2
    go_enter Tryd.func10, Tryd.ntmps10
    go_wp2
    go_loopg [44] 1 (fun kq v44 w' => v44 = .int .i64 0 ∧ Hid (Below w.heap.size w w'))
    case atStart => exact ⟨rfl, Lib.hid HS.out.b⟩
    case round =>
      obtain ⟨rfl, hw⟩ := hrel
      go_wp2
      go_ret
      exact ⟨rfl, hw.out⟩
  · obtain ⟨o1, rfl, R1⟩ : ∃ o1, a1 = some ⟨B1, o1, none⟩ ∧ Row B1 o1 names w := by
      rcases e1 with ⟨rfl, -⟩ | ⟨o1, h, -, R1⟩
      · exact absurd rfl h0
      · exact ⟨o1, h, R1⟩
    obtain ⟨o2, rfl, R2⟩ : ∃ o2, a2 = some ⟨B2, o2, none⟩ ∧ Row B2 o2 names w := by
      rcases e2 with ⟨rfl, -⟩ | ⟨o2, h, -, R2⟩
      · exact absurd rfl h0
      · exact ⟨o2, h, R2⟩
    have HR1 := Lib.hid R1
    have HR2 := Lib.hid R2
    obtain ⟨N, hN⟩ : ∃ N, names.length = N := ⟨_, rfl⟩
    have HN := Lib.hid hN
    rw [hN] at hn h0 ⊢
    clear R1 R2 e1 e2 hN
    have HS := Lib.hid (sm_start w (.string verb) (.int .i64 slice) (.int .i64 count) (.int .u32 frm) (.slice (some ⟨B1, o1, none⟩) N c1) (.string verb) (.int .i64 slice) (.int .i64 count) (.int .u32 frm) (.slice (some ⟨B2, o2, none⟩) N c2) 25 25)
    go_enter Tryd.func10, Tryd.ntmps10
    go_wp2
    go_loopg [44] (N + 1) (fun kq v44 w' => ∃ i : Nat, v44 = .int .i64 (i : Int) ∧ Hid (i + kq = N + 1 ∧ i ≤ N) ∧ Hid (Sm w w' [.string verb, .int .i64 slice, .int .i64 count, .int .u32 frm, .slice (some ⟨B1, o1, none⟩) N c1] [.string verb, .int .i64 slice, .int .i64 count, .int .u32 frm, .slice (some ⟨B2, o2, none⟩) N c2]))
    case atStart => exact ⟨0, rfl, Lib.hid ⟨by omega, by omega⟩, HS⟩
    case round =>
      obtain ⟨i, rfl, hi, hw⟩ := hrel
      clear HS
      cases gk with
      | zero => exact absurd hi.out.1 (by have := hi.out.2; omega)
      | succ k9 =>
        by_cases hlt : i < N
        · have g1 : (i : Int) < (N : Int) := by omega
          obtain ⟨nm, hnm⟩ : ∃ nm, names.getD i ⟨#[]⟩ = nm := ⟨_, rfl⟩
          have x1 := (HR1.out.below hw.out.b).cells i (by rw [HN.out]; exact hlt)
          have x2 := (HR2.out.below hw.out.b).cells i (by rw [HN.out]; exact hlt)
          rw [hnm] at x1 x2
          clear hnm
          obtain ⟨k0, k1, k2, k3, k4, kf⟩ := arr5 hw.out.a
          obtain ⟨d0, d1, d2, d3, d4, df⟩ := arr5 hw.out.d
          have t2 : (nm.toList == nm.toList) = true := by simp
          go_wp2
          go_quiet (fail)
          go_wp2
          go_roundg k9
          case measure => omega
          case rel => exact ⟨i + 1, congrArg _ (by omega), Lib.hid ⟨by have := hi.out.1; omega, by omega⟩, Lib.hid (hw.out.below (pw_below_drewN (Below.refl _ _) _))⟩
        · have hiN : i = N := by have := hi.out.2; omega
          subst hiN
          have g1 : ¬ ((i : Int) < (i : Int)) := by omega
          go_wp2
          go_ret
          exact ⟨rfl, hw.out.b⟩
end Go.Proofs.YtfdfijohcapgaaaDoor.Path
