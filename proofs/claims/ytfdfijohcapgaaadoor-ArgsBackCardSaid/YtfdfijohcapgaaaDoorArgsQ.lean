/- The plain law under ArgsBack: what may be said is read from its line. -/
import Derived.Test.YtfdfijohcapgaaaDoorArgsP
namespace Go.Proofs.YtfdfijohcapgaaaDoor.Args
open Go

theorem size_len (s : ByteArray) : s.size = s.data.toList.length := rfl
theorem lens_le (m : Nat) : ∀ (r : List ByteArray), (∀ w ∈ r, w.size ≤ m) → Lib.lens (r.map (·.data.toList)) ≤ m * r.length
  | [], _ => by simp [Lib.lens]
  | y :: r, h => by
    have h1 := lens_le m r (fun w hw => h w (by simp [hw]))
    have h2 := h y (by simp)
    rw [size_len] at h2
    simp only [Lib.lens, List.map_cons, List.sum_cons, List.length_cons, Nat.mul_succ] at h1 ⊢
    omega
theorem join_size (x : ByteArray) (r : List ByteArray) (m : Nat) (hx : x.size ≤ m) (h : ∀ w ∈ r, w.size ≤ m) : (joinB (x :: r)).size ≤ m + (m + 1) * r.length := by
  have h1 := lens_le m (x :: r) (fun w hw => by
    rcases List.mem_cons.1 hw with rfl | hw
    · exact hx
    · exact h w hw)
  rw [size_len]
  show (Lib.join ((x :: r).map (·.data.toList)) [32]).length ≤ _
  rw [List.map_cons, Lib.join_length]
  simp only [List.map_cons, List.length_cons, List.length_map, List.length_nil, Nat.mul_succ, Nat.add_mul] at h1 ⊢
  omega
theorem join_len (x : ByteArray) (r : List ByteArray) (m : Nat) (hx : x.size ≤ m) (h : ∀ w ∈ r, w.size ≤ m) : (Lib.join ((x :: r).map (·.data.toList)) [32]).length ≤ m + (m + 1) * r.length := join_size x r m hx h
theorem prs_words (right : ByteArray → Bool) (x : ByteArray) (r : List ByteArray) (hx : x.size ≤ 40) (h : ∀ w ∈ r, w.size ≤ 40) (hl : r.length ≤ 20) (hs : ∀ w ∈ x :: r, ∀ b ∈ w.data.toList, b ≠ 32) (hn : ∀ w ∈ x :: r, w ≠ ⟨#[]⟩) :
    prs right (joinB (x :: r)) = prw right (x :: r) := by
  have h1 := join_size x r 40 hx h
  unfold prs
  rw [if_neg (by omega), wd_join x r hs, if_neg (fun hc => hn _ ((Lib.containsS_iff _ _).1 hc) rfl)]
theorem itB_size (n : Int) (h0 : -9223372036854775808 ≤ n) (h1 : n ≤ 9223372036854775807) : (itB n).size ≤ 21 := by
  rw [size_len]
  exact Lib.itoa_length_le n h0 h1
theorem prs_line (right : ByteArray → Bool) (hr : ∀ s, right s = true → s ≠ ⟨#[]⟩ ∧ (∀ b ∈ s.data.toList, b ≠ 32) ∧ s.size ≤ 40) (a : Ar) (hf0 : 0 ≤ a.frm) (hf1 : a.frm ≤ 4294967295) (h : okA right a) :
    prs right (joinB (txt a)) = (a, 0) := by
  have dsp : ∀ n : Int, 0 ≤ n → ∀ b ∈ (itB n).data.toList, b ≠ 32 := fun n hn b hb e => by
    have := (itB_digit n hn b hb).1
    rw [e] at this
    exact absurd this (by decide)
  obtain ⟨verb, slice, count, frm, names⟩ := a
  simp only [okA] at h
  simp only at hf0 hf1
  rcases h with ⟨rfl, s1, s2, c1, c2, rfl, n1, n2, hall⟩ | ⟨rfl, rfl, c1, c2, rfl⟩ | ⟨hv, rfl, rfl, rfl, rfl⟩
  · obtain ⟨n, ns, rfl⟩ : ∃ n ns, names = n :: ns := by
      cases names with
      | nil => simp at n1
      | cons n ns => exact ⟨n, ns, rfl⟩
    have hnm : ∀ w ∈ n :: ns, right w = true := List.all_eq_true.1 hall
    have et : txt ⟨crB, slice, count, 0, n :: ns⟩ = crB :: itB slice :: itB count :: n :: ns := by simp [txt]
    rw [et, prs_words right]
    · simp only [prw, if_true, pcr]
      rw [num_itB slice (by omega) (by omega), num_itB count (by omega) (by omega), if_neg (by omega), if_neg (by omega), if_neg (by rw [hall]; simp), if_neg (by have n3 : (n :: ns).length ≤ 8 := n2; omega)]
    · decide
    · intro w hw
      have i1 := itB_size slice (by omega) (by omega)
      have i2 := itB_size count (by omega) (by omega)
      rcases List.mem_cons.1 hw with rfl | hw
      · omega
      · rcases List.mem_cons.1 hw with rfl | hw
        · omega
        · exact (hr w (hnm w hw)).2.2
    · simp only [List.length_cons] at n2 ⊢; omega
    · intro w hw
      rcases List.mem_cons.1 hw with rfl | hw
      · decide
      · rcases List.mem_cons.1 hw with rfl | hw
        · exact dsp slice (by omega)
        · rcases List.mem_cons.1 hw with rfl | hw
          · exact dsp count (by omega)
          · exact (hr w (hnm w hw)).2.1
    · intro w hw
      rcases List.mem_cons.1 hw with rfl | hw
      · decide
      · rcases List.mem_cons.1 hw with rfl | hw
        · exact itB_ne slice (by omega)
        · rcases List.mem_cons.1 hw with rfl | hw
          · exact itB_ne count (by omega)
          · exact (hr w (hnm w hw)).1
  · have hne : ¬ (exB = crB) := by decide
    have et : txt ⟨exB, 0, count, frm, []⟩ = exB :: itB frm :: itB count :: [] := by simp only [txt, if_neg hne, if_true]
    have i1 := itB_size frm (by omega) (by omega)
    have i2 := itB_size count (by omega) (by omega)
    rw [et, prs_words right]
    · simp only [prw, if_neg hne, if_true, pex]
      rw [num_itB frm (by omega) (by omega), num_itB count (by omega) (by omega), if_neg (by omega), if_neg (by omega)]
    · decide
    · intro w hw
      simp only [List.mem_cons, List.not_mem_nil, or_false] at hw
      rcases hw with rfl | rfl <;> omega
    · simp
    · intro w hw
      simp only [List.mem_cons, List.not_mem_nil, or_false] at hw
      rcases hw with rfl | rfl | rfl
      · decide
      · exact dsp frm (by omega)
      · exact dsp count (by omega)
    · intro w hw
      simp only [List.mem_cons, List.not_mem_nil, or_false] at hw
      rcases hw with rfl | rfl | rfl
      · decide
      · exact itB_ne frm (by omega)
      · exact itB_ne count (by omega)
  · rcases hv with rfl | rfl | rfl
    · have et : txt ⟨veB, 0, 0, 0, []⟩ = [veB] := by decide
      rw [et, prs_words right veB [] (by decide) (by simp) (by simp) (by decide) (by decide)]
      simp only [prw]
      rw [if_neg (by decide), if_neg (by decide), if_pos (by decide)]
    · have et : txt ⟨reB, 0, 0, 0, []⟩ = [reB] := by decide
      rw [et, prs_words right reB [] (by decide) (by simp) (by simp) (by decide) (by decide)]
      simp only [prw]
      rw [if_neg (by decide), if_neg (by decide), if_pos (by decide)]
    · have et : txt ⟨liB, 0, 0, 0, []⟩ = [liB] := by decide
      rw [et, prs_words right liB [] (by decide) (by simp) (by simp) (by decide) (by decide)]
      simp only [prw]
      rw [if_neg (by decide), if_neg (by decide), if_pos (by decide)]
/-- the line, put together bit by bit -/
def addB (acc : ByteArray) (ns : List ByteArray) : ByteArray := ns.foldl (fun x n => x ++ bl ++ n) acc
theorem addB_list : ∀ (ns : List ByteArray) (acc : ByteArray), (addB acc ns).data.toList = acc.data.toList ++ Lib.joinTail [32] (ns.map (·.data.toList))
  | [], acc => by simp [addB, Lib.joinTail]
  | n :: ns, acc => by
    have := addB_list ns (acc ++ bl ++ n)
    unfold addB at this ⊢
    rw [List.foldl_cons, this, List.map_cons, tail_cons]
    simp [bl]
theorem addB_join (x : ByteArray) (r : List ByteArray) : addB x r = joinB (x :: r) := by
  apply ba_ext
  rw [addB_list]
  unfold joinB
  rw [List.map_cons, Lib.join_cons]
theorem addB_take (acc : ByteArray) (ns : List ByteArray) (i : Nat) (x : ByteArray) (h : ns[i]? = some x) : addB acc (ns.take (i + 1)) = addB acc (ns.take i) ++ bl ++ x := by
  unfold addB
  rw [List.take_add_one, h, List.foldl_append]
  rfl
end Go.Proofs.YtfdfijohcapgaaaDoor.Args
