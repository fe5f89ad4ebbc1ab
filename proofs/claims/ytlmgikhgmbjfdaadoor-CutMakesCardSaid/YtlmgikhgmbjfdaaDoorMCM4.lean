/- Package cut: which files can be cut. -/
import Derived.Test.YtlmgikhgmbjfdaaDoorMCM3
import Derived.Deep.QuietTactic
import Derived.BigQuiet
import Derived.Deep.RegionWith

namespace Go.Proofs.YtlmgikhgmbjfdaaDoor.Cuts
open Go Go.RowKit Go.Proofs.YtlmgikhgmbjfdaaDoor.QPart Go.Proofs.YtlmgikhgmbjfdaaDoorW.PrintWords Go.Proofs.YtlmgikhgmbjfdaaDoorW.PrintLast Go.Proofs.YtlmgikhgmbjfdaaDoorW.PrintMore Gy

set_option maxHeartbeats 1000000 in
set_option maxRecDepth 100000 in
theorem chk_bad (A : Option Addr) (n c : Nat) (slice : Int) (h : slice < 1 ∨ 256 < slice ∨ n = 0) (w : World) : Calls Tryd.prog 26 #[.slice A n c, .int .i64 slice] w fun e w' => e = .returned (.int .i64 1) ∧ w' = w := by
  by_cases h1 : slice < 1
  · have t1 : decide (slice < 1) = true := decide_eq_true h1
    clear h
    go_enter Tryd.func26, Tryd.ntmps26
    go_wp2
    go_ret
    exact ⟨rfl, rfl⟩
  · have t1 : decide (slice < 1) = false := decide_eq_false h1
    by_cases h2 : 256 < slice
    · have t2 : decide (256 < slice) = true := decide_eq_true h2
      clear h
      go_enter Tryd.func26, Tryd.ntmps26
      go_wp2
      go_ret
      exact ⟨rfl, rfl⟩
    · have t2 : decide (256 < slice) = false := decide_eq_false h2
      obtain rfl : n = 0 := by omega
      clear h
      go_enter Tryd.func26, Tryd.ntmps26
      go_wp2
      go_ret
      exact ⟨rfl, rfl⟩
set_option maxHeartbeats 1000000 in
set_option maxRecDepth 100000 in
theorem chk_many (A : Option Addr) (n c : Nat) (slice : Int) (h1 : ¬ slice < 1) (h2 : ¬ 256 < slice) (h3 : 8 < n) (w : World) : Calls Tryd.prog 26 #[.slice A n c, .int .i64 slice] w fun e w' => e = .returned (.int .i64 5) ∧ w' = w := by
  have t1 : decide (slice < 1) = false := decide_eq_false h1
  have t2 : decide (256 < slice) = false := decide_eq_false h2
  have t3 : ((n : Int) == 0) = false := beq_eq_false_iff_ne.2 (by omega)
  have t4 : decide (8 < (n : Int)) = true := decide_eq_true (by omega)
  go_enter Tryd.func26, Tryd.ntmps26
  go_wp2
  go_ret
  exact ⟨rfl, rfl⟩
/-- how many slices so many bytes are -/
def cnt (s n : Nat) : Nat := if n = 0 then 0 else (n - 1) / s + 1
def cntAll (s : Nat) (l : List Inp) : Nat := (l.map fun x => cnt s x.b.length).sum
def twice : List ByteArray → List Inp → Bool
  | _, [] => false
  | L, x :: l => memB x.name L || twice (x.name :: L) l
def okAll (l : List Inp) : Bool := l.all fun x => Path.right x.name
/-- what is wrong with files that aren't too many -/
def chk2 (s : Nat) (l : List Inp) : Int := if okAll l = false then 12 else if twice [] l = true then 8 else if 64 < cntAll s l then 5 else 0
theorem cnt_le (s n : Nat) : cnt s n ≤ n := by
  unfold cnt
  split
  · omega
  · have := Nat.div_le_self (n - 1) s
    omega
theorem cnt_f {s n : Nat} (h1 : 1 ≤ s) (h2 : s ≤ 256) (hn : n ≤ 1000000) : cut_Count.f (n : Int) (s : Int) = some ((cnt s n : Nat) : Int) := by
  unfold cut_Count.f packet_Count.f cnt
  by_cases h0 : n = 0
  · subst h0; rfl
  · rw [if_neg (by omega), if_neg (by omega), if_neg (by omega), if_neg (by omega), if_neg h0, Option.bind_some, Int.tdiv_eq_ediv_of_nonneg (by rw [Gy.wrap64_id (by omega) (by omega)]; omega), Gy.wrap64_id (n := (n : Int) - 1) (by omega) (by omega)]
    have e : ((n : Int) - 1) / (s : Int) = (((n - 1) / s : Nat) : Int) := by
      rw [show ((n : Int) - 1) = ((n - 1 : Nat) : Int) by omega]
      exact (Int.natCast_ediv _ _).symm
    have := Nat.div_le_self (n - 1) s
    rw [e]
    generalize (n - 1) / s = q at this
    rw [Gy.wrap64_id (n := (q : Int)) (by omega) (by omega), Gy.wrap64_id (n := (q : Int) + 1) (by omega) (by omega)]
    congr 1
theorem count_calls {s n : Nat} (h1 : 1 ≤ s) (h2 : s ≤ 256) (hn : n ≤ 1000000) (w : World) : Calls Tryd.prog 25 #[.int .i64 (n : Int), .int .i64 (s : Int)] w fun e w' => e = .returned (.int .i64 ((cnt s n : Nat) : Int)) ∧ Below w.heap.size w w' :=
  (cut_Count.calls _ _ _ w (cnt_f h1 h2 hn)).mono fun _ _ h => ⟨h.1, h.2.below⟩
theorem cntAll_drop {s : Nat} {l : List Inp} {i : Nat} {x : Inp} (h : l[i]? = some x) : cntAll s (l.take (i + 1)) = cntAll s (l.take i) + cnt s x.b.length := by
  obtain ⟨hi, e⟩ := List.getElem?_eq_some_iff.1 h
  rw [List.take_succ_eq_append_getElem hi, e]
  simp [cntAll]
theorem drop_at {l : List Inp} {i : Nat} {x : Inp} (h : l[i]? = some x) : l.drop i = x :: l.drop (i + 1) := by
  obtain ⟨hi, e⟩ := List.getElem?_eq_some_iff.1 h
  rw [List.drop_eq_getElem_cons hi, e]
theorem lensOf_at {l : List Inp} {i : Nat} {x : Inp} (h : l[i]? = some x) : x.b.length ≤ lensOf l := by
  have h2 := lensOf_drop h
  have h3 : lensOf l = lensOf (l.take i) + lensOf (l.drop i) := by
    unfold lensOf
    rw [← List.sum_append, ← List.map_append, List.take_append_drop]
  omega
set_option maxHeartbeats 8000000 in
set_option maxRecDepth 100000 in
theorem chk_main {LB lo cl s : Nat} {l : List Inp} (hs1 : 1 ≤ s) (hs2 : s ≤ 256) (hn1 : 1 ≤ l.length) (hn2 : l.length ≤ 8) (hsz : lensOf l ≤ 30000) (hnm : ∀ x ∈ l, x.name.size ≤ 30000) (w : World) (G : Path.Good w) (hI : InAt w LB lo l) :
    Calls Tryd.prog 26 #[.slice (some ⟨LB, lo, none⟩) l.length cl, .int .i64 (s : Int)] w fun e w' => e = .returned (.int .i64 (chk2 s l)) ∧ Below w.heap.size w w' := by
  have t1 : decide ((s : Int) < 1) = false := decide_eq_false (by omega)
  have t2 : decide (256 < (s : Int)) = false := decide_eq_false (by omega)
  have t3 : ((l.length : Int) == 0) = false := beq_eq_false_iff_ne.2 (by omega)
  have t4 : decide (8 < (l.length : Int)) = false := decide_eq_false (by omega)
  have HI := Lib.hid hI
  have HG := Lib.hid G
  have HN := Lib.hid (And.intro hsz hnm)
  have HS := Lib.hid (And.intro hs1 hs2)
  clear hI G hsz hnm
  go_enter Tryd.func26, Tryd.ntmps26
  go_wp2
  go_loopw [29] (fun v29 w' => ∃ i : Nat, i ≤ l.length ∧ v29 = .int .i64 (i : Int) ∧ Hid (Below w.heap.size w w') ∧ Hid (okAll l = okAll (l.drop i))) (fun v29 _ => l.length - (intOf v29).toNat)
  case atStart => exact ⟨0, by omega, rfl, Lib.hid (Below.refl _ _), Lib.hid rfl⟩
  case round =>
    obtain ⟨i, hi, rfl, hw, hk⟩ := hrel
    by_cases hil : i < l.length
    · obtain ⟨x, hx⟩ : ∃ x, l[i]? = some x := ⟨l[i], List.getElem?_eq_getElem hil⟩
      obtain ⟨A, c, g1, -⟩ := HI.out.b i x hx
      have z0 := cell_kept hw.out (HI.out.name i x hx)
      have z1 := cell_kept hw.out g1
      have tl : decide ((i : Int) < (l.length : Int)) = true := decide_eq_true (by omega)
      have hxs := HN.out.2 x (List.mem_of_getElem? hx)
      have HE := Lib.hid (drop_at hx)
      by_cases hr : Path.right x.name = true
      · go_wp2_with (go_at_call 40; refine (Path.right_calls x.name (Nat.le_trans hxs (by decide)) _ (HG.out.below (hw.out.alloc hw.out.size _))).mono ?_; rw [hr]; rintro e w2 ⟨rfl, hd⟩; have hb := Lib.hid ((hw.out.alloc hw.out.size _).trans (hd.mono (Nat.le_trans hw.out.size (Gy.alloc_below _ _).size))); clear hd)
        refine ⟨⟨i + 1, by omega, by norm_cast, hb, Lib.hid ?_⟩, ?_⟩
        · rw [hk.out, HE.out]
          show (Path.right x.name && okAll (l.drop (i + 1))) = _
          rw [hr, Bool.true_and]
        · simp only [intOf]; omega
      · have hr2 : Path.right x.name = false := by simpa using hr
        clear hr
        go_wp2_with (go_at_call 40; refine (Path.right_calls x.name (Nat.le_trans hxs (by decide)) _ (HG.out.below (hw.out.alloc hw.out.size _))).mono ?_; rw [hr2]; rintro e w2 ⟨rfl, hd⟩; have hb := Lib.hid ((hw.out.alloc hw.out.size _).trans (hd.mono (Nat.le_trans hw.out.size (Gy.alloc_below _ _).size))); clear hd)
        go_ret
        have e : chk2 s l = 12 := if_pos (by
          rw [hk.out, HE.out]
          show (Path.right x.name && okAll (l.drop (i + 1))) = _
          rw [hr2, Bool.false_and])
        rw [e]
        exact ⟨rfl, hb.out⟩
    · obtain rfl : i = l.length := by omega
      have tl : decide ((l.length : Int) < (l.length : Int)) = false := by simp
      have HO : Hid (okAll l = true) := Lib.hid (by rw [hk.out, List.drop_of_length_le (Nat.le_refl _)]; rfl)
      have hmk : ∀ W, (Instr.makeMap 84 none).run Tryd.prog W = .ok (.map (some W.heap.size)) (W.alloc (.map #[] 0)) := fun W => run_makeMap _ W
      clear hk
      have hws := hw.out.size
      go_wp2
      clear hmk
      obtain ⟨mb, hmb⟩ : ∃ mb, mb = wr.heap.size := ⟨_, rfl⟩
      rw [← hmb]
      have HB := Lib.hid (show w.heap.size ≤ mb by omega)
      have HW0 := Lib.hid (hw.out.alloc hws (.map #[] 0))
      have HK0 : Hid (Known (wr.alloc (.map #[] 0)) mb 0 []) := Lib.hid (by rw [hmb]; exact Known.made wr)
      generalize wr.alloc (.map #[] 0) = w0 at HW0 HK0 ⊢
      clear hmb hws hw
      go_loopw [41, 7] (fun v41 v7 w' => ∃ (i : Nat) (L : List ByteArray), i ≤ l.length ∧ v41 = .int .i64 (i : Int) ∧ v7 = .int .i64 ((cntAll s (l.take i) : Nat) : Int) ∧ Hid (Below w.heap.size w w') ∧ Hid (Known w' mb i L) ∧ Hid (twice [] l = twice L (l.drop i)) ∧ Hid (cntAll s (l.take i) + lensOf (l.drop i) ≤ 30000)) (fun v41 _ _ => l.length - (intOf v41).toNat)
      case atStart => exact ⟨0, [], by omega, rfl, rfl, HW0, HK0, Lib.hid rfl, Lib.hid (by have := HN.out.1; simpa [cntAll] using this)⟩
      case round =>
        obtain ⟨i, L, hi, rfl, rfl, hw, hK, hT, hC⟩ := hrel
        by_cases hil : i < l.length
        · obtain ⟨x, hx⟩ : ∃ x, l[i]? = some x := ⟨l[i], List.getElem?_eq_getElem hil⟩
          obtain ⟨A, c, g1, -⟩ := HI.out.b i x hx
          have z0 := cell_kept hw.out (HI.out.name i x hx)
          have z1 := cell_kept hw.out g1
          have tl2 : decide ((i : Int) < (l.length : Int)) = true := decide_eq_true (by omega)
          have hxs := HN.out.2 x (List.mem_of_getElem? hx)
          have hxl := lensOf_at hx
          have HE := Lib.hid (drop_at hx)
          have hlk := (hK.out.alloc (.cells #[.string x.name, .slice A x.b.length c] 46)).look x.name (Nat.le_trans hxs (by decide))
          by_cases hm : memB x.name L = true
          · rw [hm] at hlk
            go_wp2
            go_ret
            have e : chk2 s l = 8 := by
              unfold chk2
              rw [if_neg (by rw [HO.out]; decide), if_pos (by rw [hT.out, HE.out]; show (memB x.name L || _) = true; rw [hm, Bool.true_or])]
            rw [e]
            exact ⟨rfl, hw.out.alloc hw.out.size _⟩
          · have hm2 : memB x.name L = false := by simpa using hm
            rw [hm2] at hlk
            obtain ⟨w9, hup, hK9, hg9⟩ := (hK.out.alloc (.cells #[.string x.name, .slice A x.b.length c] 46)).put (by omega) x.name (Nat.le_trans hxs (by decide))
            have hlt := hK.out.lt
            have y1 : w9.cell? ⟨wr.heap.size, 1, none⟩ = some (.slice A x.b.length c) := by
              rw [World.cell?_of_block (hg9.block _ (show wr.heap.size < _ by rw [Gy.size_alloc']; omega) (show some wr.heap.size ≠ _ from fun e => absurd (Option.some.inj e) (Nat.ne_of_gt hlt)))]
              exact (Gy.Arr.fresh wr [.string x.name, .slice A x.b.length c] _ rfl 46).cell (i := 1) rfl
            have HW9 := Lib.hid ((hw.out.alloc hw.out.size (.cells #[.string x.name, .slice A x.b.length c] 46)).grown hg9 (by rw [Gy.size_alloc']; have := hw.out.size; omega) (fun k hk => by injection hk with hk; rw [← hk]; exact HB.out))
            have HK9 := Lib.hid hK9
            have HCS := Lib.hid (cntAll_drop (s := s) hx)
            have hc1 : cntAll s (l.take i) ≤ 30000 := by have := hC.out; omega
            have hc2 := Nat.le_trans (cnt_le s x.b.length) (Nat.le_trans hxl HN.out.1)
            have HC9 : Hid (cntAll s (l.take i) + cnt s x.b.length + lensOf (l.drop (i + 1)) ≤ 30000) := Lib.hid (by have h1 := hC.out; have h2 := lensOf_drop hx; have h3 := cnt_le s x.b.length; omega)
            have HXL := Lib.hid (show x.b.length ≤ 1000000 by have := HN.out.1; omega)
            clear hK9 hg9 hxl
            generalize cntAll s (l.take i) = m at hc1 HCS HC9 ⊢
            obtain ⟨q, hq⟩ : ∃ q, q = cnt s x.b.length := ⟨_, rfl⟩
            have HQ := Lib.hid hq
            rw [← hq] at hc2 HC9 HCS
            clear hq
            go_wp2_with (go_at_call 25; refine (count_calls HS.out.1 HS.out.2 HXL.out _).mono ?_; rw [← HQ.out]; rintro e w2 ⟨rfl, hd⟩; have HKd := Lib.hid (HK9.out.keptB hd); have HWd := Lib.hid (HW9.out.trans (hd.mono HW9.out.size)); clear hd)
            refine ⟨⟨i + 1, x.name :: L, by omega, by norm_cast, by rw [HCS.out]; norm_cast, HWd, Lib.hid HKd.out, Lib.hid ?_, Lib.hid ?_⟩, ?_⟩
            · rw [hT.out, HE.out]
              show (memB x.name L || twice (x.name :: L) (l.drop (i + 1))) = _
              rw [hm2, Bool.false_or]
            · rw [HCS.out]; exact HC9.out
            · simp only [intOf]; omega
        · obtain rfl : i = l.length := by omega
          have tl2 : decide ((l.length : Int) < (l.length : Int)) = false := by simp
          have HT2 : Hid (twice [] l = false) := Lib.hid (by rw [hT.out, List.drop_of_length_le (Nat.le_refl _)]; rfl)
          rw [List.take_of_length_le (Nat.le_refl _)]
          have hc1 : cntAll s l ≤ 30000 := by have := hC.out; rw [List.take_of_length_le (Nat.le_refl _)] at this; omega
          clear hT hC hK
          by_cases hb : 64 < cntAll s l
          · have e : chk2 s l = 5 := by
              unfold chk2
              rw [if_neg (by rw [HO.out]; decide), if_neg (by rw [HT2.out]; decide), if_pos hb]
            have EE := Lib.hid e
            have t64 : decide (64 < ((cntAll s l : Nat) : Int)) = true := decide_eq_true (by omega)
            clear e
            generalize cntAll s l = m at hc1 t64 hb ⊢
            go_wp2
            go_ret
            rw [EE.out]
            exact ⟨rfl, hw.out⟩
          · have e : chk2 s l = 0 := by
              unfold chk2
              rw [if_neg (by rw [HO.out]; decide), if_neg (by rw [HT2.out]; decide), if_neg hb]
            have EE := Lib.hid e
            have t64 : decide (64 < ((cntAll s l : Nat) : Int)) = false := decide_eq_false (by omega)
            clear e
            generalize cntAll s l = m at hc1 t64 hb ⊢
            go_wp2
            go_ret
            rw [EE.out]
            exact ⟨rfl, hw.out⟩
end Go.Proofs.YtlmgikhgmbjfdaaDoor.Cuts
/- Package path: the reference's test of a name is the program's. -/
namespace Go.Proofs.YtlmgikhgmbjfdaaDoor.Path
open Go Go.RowKit Go.Shelf Go.Proofs.YtlmgikhgmbjfdaaDoor.QPart Go.Proofs.YtlmgikhgmbjfdaaDoorW.PrintWords Go.Proofs.YtlmgikhgmbjfdaaDoorW.PrintLast Go.Proofs.YtlmgikhgmbjfdaaDoorW.PrintMore

def splitL : List UInt8 → List (List UInt8)
  | [] => [[]]
  | c :: r => if c = 47 then [] :: splitL r else match splitL r with
    | h :: t => (c :: h) :: t
    | [] => [[c]]
theorem splitL_ne : ∀ l, ∃ h t, splitL l = h :: t
  | [] => ⟨_, _, rfl⟩
  | c :: r => by
    obtain ⟨h, t, e⟩ := splitL_ne r
    by_cases hc : c = 47
    · exact ⟨[], splitL r, by rw [splitL, if_pos hc]⟩
    · exact ⟨c :: h, t, by rw [splitL, if_neg hc, e]⟩
theorem splitL_at : ∀ (l : List UInt8), (Lib.index l [47] = -1 ∧ splitL l = [l]) ∨ ∃ i : Nat, Lib.index l [47] = i ∧ i < l.length ∧ splitL l = l.take i :: splitL (l.drop (i + 1))
  | [] => .inl ⟨rfl, rfl⟩
  | c :: r => by
    have hI := Lib.index_one (c :: r) 47
    rw [Lib.indexByte, ← Lib.index_one r 47] at hI
    by_cases hc : c = 47
    · refine .inr ⟨0, ?_, by simp, ?_⟩
      · rw [hI, if_pos (beq_iff_eq.2 hc)]; try rfl
      · rw [splitL, if_pos hc]; rfl
    · rw [if_neg (fun h => hc (beq_iff_eq.1 h))] at hI
      rcases splitL_at r with ⟨h1, h2⟩ | ⟨i, h1, h2, h3⟩
      · refine .inl ⟨?_, ?_⟩
        · rw [hI, h1]; rfl
        · rw [splitL, if_neg hc, h2]
      · refine .inr ⟨i + 1, ?_, by simp; omega, ?_⟩
        · rw [hI, h1, if_neg (by simp only [beq_iff_eq]; omega)]; omega
        · rw [splitL, if_neg hc, h3]; rfl
theorem splitK_L : ∀ (n : Nat) (l : List UInt8), l.length ≤ n → Lib.splitK [47] 0 (Lib.count l [47]) l = splitL l
  | 0, l, h => by
    obtain rfl : l = [] := List.eq_nil_of_length_eq_zero (by omega)
    rfl
  | n + 1, l, h => by
    rcases splitL_at l with ⟨h1, h2⟩ | ⟨i, h1, h2, h3⟩
    · rw [Lib.count_miss h1, h2]; rfl
    · rw [Lib.count_hit (by decide) h1, Nat.add_comm, Lib.splitK, h1, if_neg (by simp only [beq_iff_eq]; omega), h3]
      have e : ((i : Int)).toNat = i := by omega
      rw [e]
      have := splitK_L n (l.drop (i + 1)) (by rw [List.length_drop]; omega)
      simp only [Nat.add_zero, List.length_cons, List.length_nil, Nat.zero_add]
      rw [this]
theorem pcs_list (s : ByteArray) : (pcs s).map (·.data.toList) = splitL s.data.toList := by
  unfold pcs
  rw [Lib.splitB_data]
  exact splitK_L _ _ (Nat.le_refl _)

/-- a part in the scan -/
def okPart (first : Bool) (p : List UInt8) : Bool := decide (p ≠ []) && (decide (p ≠ [46]) && (decide (p ≠ [46, 46]) && !(first && (decide (p = [111, 108, 100]) || decide (p = [116, 109, 112])))))
def scanL : Bool → List UInt8 → List UInt8 → Bool
  | first, acc, [] => okPart first acc
  | first, acc, c :: r => if c = 47 then okPart first acc && scanL false [] r else plainI (c.toNat : Int) && scanL first (acc ++ [c]) r
theorem scan_split : ∀ (l : List UInt8) (first : Bool) (acc : List UInt8), ∀ h t, splitL l = h :: t →
    scanL first acc l = (plains h && (okPart first (acc ++ h) && t.all fun p => plains p && okPart false p))
  | [], first, acc, h, t, e => by
    simp only [splitL, List.cons.injEq] at e
    obtain ⟨rfl, rfl⟩ := e
    simp [scanL, plains]
  | c :: r, first, acc, h, t, e => by
    obtain ⟨h', t', e'⟩ := splitL_ne r
    by_cases hc : c = 47
    · rw [splitL, if_pos hc, e'] at e
      simp only [List.cons.injEq] at e
      obtain ⟨rfl, rfl⟩ := e
      rw [scanL, if_pos hc, scan_split r false [] h' t' e']
      simp [plains, Bool.and_assoc]
    · rw [splitL, if_neg hc, e'] at e
      simp only [List.cons.injEq] at e
      obtain ⟨rfl, rfl⟩ := e
      rw [scanL, if_neg hc, scan_split r first (acc ++ [c]) h' t' e']
      simp [plains, Bool.and_assoc]
/-- the scan, in the printed form -/
theorem suf_list (s : ByteArray) : suf s = (decide (4 ≤ s.size) && decide (s.data.toList.drop (s.size - 4) = [46, 103, 121, 115])) := by
  unfold suf
  rw [Lib.toList_data, Lib.toList_data, Lib.extract_data]
  have e : (s.data.toList.drop (s.size - 4)).take (s.size - (s.size - 4)) = s.data.toList.drop (s.size - 4) := by
    apply List.take_of_length_le
    rw [List.length_drop]
    have : s.data.toList.length = s.size := rfl
    omega
  rw [e]
  congr 1
  rw [Bool.eq_iff_iff, beq_iff_eq, decide_eq_true_eq]
  exact Iff.rfl
theorem right_list (s : ByteArray) : right s = (decide (s.size ≤ 40) && (!suf s && scanL true [] s.data.toList)) := by
  obtain ⟨h, t, e⟩ := splitL_ne s.data.toList
  have hp := pcs_list s
  rw [e] at hp
  obtain ⟨ph, pt, ep⟩ : ∃ ph pt, pcs s = ph :: pt := by
    cases hc : pcs s with
    | nil => rw [hc] at hp; simp at hp
    | cons a b => exact ⟨a, b, rfl⟩
  rw [ep] at hp
  simp only [List.map_cons, List.cons.injEq] at hp
  obtain ⟨h1, h2⟩ := hp
  unfold right
  rw [scan_split s.data.toList true [] h t e, ep]
  have ea : pt.all partB = t.all fun p => plains p && okPart false p := by
    rw [← h2, List.all_map]
    congr 1
    funext p
    simp [partB, okPart]
  have eh : partB ph = (plains h && (decide (h ≠ []) && (decide (h ≠ [46]) && decide (h ≠ [46, 46])))) := by
    unfold partB; rw [h1]
  rw [List.all_cons, ea, eh, List.headD_cons, Lib.toList_data, h1, List.nil_append]
  have e5 : ∀ x : List UInt8, (h != x) = !decide (h = x) := fun x => by by_cases hx : h = x <;> simp [hx]
  rw [e5, e5]
  generalize (t.all fun p => plains p && okPart false p) = T
  unfold okPart
  generalize decide (s.size ≤ 40) = D
  generalize decide (h = [111, 108, 100]) = B1
  generalize decide (h = [116, 109, 112]) = B2
  generalize decide (h ≠ []) = C1
  generalize decide (h ≠ [46]) = C2
  generalize decide (h ≠ [46, 46]) = C3
  generalize plains h = PH
  generalize suf s = SS
  revert T D B1 B2 C1 C2 C3 PH SS
  decide
/-- what else the law asks of a name that is right -/
theorem right_first (s : ByteArray) (h : right s = true) : suf s = false ∧ ∃ c r, s.data.toList = c :: r ∧ c ≠ 47 ∧ (c = 46 → r ≠ []) := by
  rw [right_list] at h
  simp only [Bool.and_eq_true, Bool.not_eq_true'] at h
  refine ⟨h.2.1, ?_⟩
  have hs := h.2.2
  cases hl : s.data.toList with
  | nil => rw [hl] at hs; simp [scanL, okPart] at hs
  | cons c r =>
    rw [hl] at hs
    refine ⟨c, r, rfl, fun hc => ?_, fun hc hr => ?_⟩
    · subst hc
      simp [scanL, okPart] at hs
    · subst hc; subst hr
      simp [scanL, okPart] at hs

theorem plainI_iff (c : Int) : plainI c = true ↔ ((97 ≤ c ∧ c ≤ 122) ∨ (48 ≤ c ∧ c ≤ 57) ∨ c = 46 ∨ c = 95 ∨ c = 45) := by
  unfold plainI
  simp only [Bool.or_eq_true, decide_eq_true_eq]
  omega
theorem j2_char (k : Nat) (s : ByteArray) (a i : Int) (h0 : 0 ≤ i) (h1 : i < (s.size : Int)) :
    geyserref14_Path.j2 (k + 1) s a i true = geyserref14_Path.j3 k s a i (!plainI (bt s i)) := by
  have e : ∀ b : Bool, (b = true ↔ plainI (bt s i) = true) → geyserref14_Path.j3 k s a i (!b) = geyserref14_Path.j3 k s a i (!plainI (bt s i)) := fun b h => by
    congr 1
    cases b <;> cases hp : plainI (bt s i) <;> simp_all
  rw [geyserref14_Path.j2, if_pos rfl, if_pos h0, if_pos h1]
  generalize bt s i = c at *
  repeat' split
  all_goals (apply e; rw [plainI_iff]; simp only [beq_iff_eq, true_iff]; omega)
def piece (s : ByteArray) (a i : Nat) : List UInt8 := (s.data.toList.drop a).take (i - a)
theorem j2_part (k : Nat) (s : ByteArray) (a i : Nat) (h0 : a ≤ i) (h1 : i ≤ s.size) (hs : s.size ≤ 1000000) :
    geyserref14_Path.j2 (k + 1) s (a : Int) (i : Int) false = if okPart (decide (a = 0)) (piece s a i) then geyserref14_Path.l0 k s ((i + 1 : Nat) : Int) ((i + 1 : Nat) : Int) else some false := by
  have e : (s.extract a i).toList = piece s a i := by rw [Lib.toList_data, Lib.extract_data]; rfl
  simp only [geyserref14_Path.j2]
  rw [if_neg (by decide), if_pos (by omega), if_pos (by omega), if_pos (by omega), Int.toNat_natCast, Int.toNat_natCast, e, wrap_small _ (by omega) (by omega), show ((i : Int) + 1) = ((i + 1 : Nat) : Int) by omega]
  generalize piece s a i = p
  unfold okPart
  by_cases a1 : p = []
  · rw [if_pos a1]; simp [a1]
  · rw [if_neg a1]
    by_cases a2 : p = [46]
    · rw [if_pos a2]; simp [a2]
    · rw [if_neg a2]
      by_cases a3 : p = [46, 46]
      · rw [if_pos a3]; simp [a3]
      · rw [if_neg a3]
        by_cases a0 : a = 0
        · rw [if_pos (by omega)]
          by_cases a4 : p = [111, 108, 100]
          · rw [if_pos a4]; simp [a0, a4]
          · rw [if_neg a4]
            by_cases a5 : p = [116, 109, 112]
            · rw [if_pos a5]; simp [a0, a5]
            · rw [if_neg a5]; simp [a0, a1, a2, a3, a4, a5]
        · rw [if_neg (by omega)]
          simp [a0, a1, a2, a3]
theorem l0_past (k : Nat) (s : ByteArray) (a : Int) : geyserref14_Path.l0 (k + 1) s a ((s.size + 1 : Nat) : Int) = some true := by
  rw [geyserref14_Path.l0, if_neg (by omega)]
theorem path_l0 (s : ByteArray) (hs : s.size ≤ 1000000) : ∀ (n k a i : Nat), s.size - i ≤ n → 3 * n + 5 ≤ k → a ≤ i → i ≤ s.size →
    geyserref14_Path.l0 k s (a : Int) (i : Int) = some (scanL (decide (a = 0)) (piece s a i) (s.data.toList.drop i)) := by
  intro n
  induction n with
  | zero =>
    intro k a i h1 h2 h3 h4
    obtain ⟨k, rfl⟩ : ∃ k', k = k' + 3 := ⟨k - 3, by omega⟩
    obtain rfl : i = s.size := by omega
    rw [geyserref14_Path.l0, if_pos (by omega), if_neg (by omega), j2_part (k + 1) s a s.size h3 h4 hs]
    have ed : s.data.toList.drop s.size = [] := List.drop_eq_nil_of_le (Nat.le_refl _)
    rw [ed, scanL, l0_past]
    cases okPart (decide (a = 0)) (piece s a s.size) <;> rfl
  | succ n ih =>
    intro k a i h1 h2 h3 h4
    obtain ⟨k, rfl⟩ : ∃ k', k = k' + 3 := ⟨k - 3, by omega⟩
    by_cases hi : i = s.size
    · subst hi
      rw [geyserref14_Path.l0, if_pos (by omega), if_neg (by omega), j2_part (k + 1) s a s.size h3 h4 hs]
      have ed : s.data.toList.drop s.size = [] := List.drop_eq_nil_of_le (Nat.le_refl _)
      rw [ed, scanL, l0_past]
      cases okPart (decide (a = 0)) (piece s a s.size) <;> rfl
    · have hl : i < s.data.toList.length := by have : s.data.toList.length = s.size := rfl; omega
      have ed : s.data.toList.drop i = s.data.toList[i] :: s.data.toList.drop (i + 1) := List.drop_eq_getElem_cons hl
      have eb := bt_data s i hl
      rw [geyserref14_Path.l0, if_pos (by omega), if_pos (by omega), if_pos (by omega), ed, scanL, eb]
      by_cases hc : s.data.toList[i] = 47
      · rw [if_pos hc]
        have e1 : (((s.data.toList[i]).toNat : Int) != 47) = false := by rw [hc]; rfl
        rw [e1, j2_part (k + 1) s a i h3 h4 hs, ih (k + 1) (i + 1) (i + 1) (by omega) (by omega) (Nat.le_refl _) (by omega)]
        have e2 : piece s (i + 1) (i + 1) = [] := by unfold piece; simp
        rw [e2]
        cases okPart (decide (a = 0)) (piece s a i) <;> simp
      · rw [if_neg hc]
        have e1 : (((s.data.toList[i]).toNat : Int) != 47) = true := by
          refine bne_iff_ne.2 fun h => hc ?_
          have h47 : (s.data.toList[i]).toNat = 47 := by omega
          exact UInt8.toNat_inj.1 h47
        rw [e1, j2_char (k + 1) s a i (by omega) (by omega), eb, geyserref14_Path.j3]
        have e2 : piece s a (i + 1) = piece s a i ++ [s.data.toList[i]] := by
          unfold piece
          rw [show i + 1 - a = (i - a) + 1 by omega, List.take_add_one, List.getElem?_drop, show a + (i - a) = i by omega, List.getElem?_eq_getElem hl]
          rfl
        cases hp : plainI ((s.data.toList[i]).toNat : Int) with
        | false => simp
        | true =>
          rw [if_neg (by decide), wrap_small _ (by omega) (by omega), show ((i : Int) + 1) = ((i + 1 : Nat) : Int) by omega, ih k a (i + 1) (by omega) (by omega) (by omega) (by omega), e2]
          simp
theorem path_says (s : ByteArray) (hs : s.size ≤ 1000000) : geyserref14_Path.f (3 * s.size + 10) s = some (right s) := by
  rw [right_list]
  have hj : geyserref14_Path.l0 (3 * s.size + 9) s 0 0 = some (scanL true [] s.data.toList) := by
    have := path_l0 s hs s.size (3 * s.size + 9) 0 0 (by omega) (by omega) (Nat.le_refl _) (Nat.zero_le _)
    simpa [piece] using this
  unfold geyserref14_Path.f
  by_cases h40 : s.size ≤ 40
  · rw [if_neg (by omega)]
    by_cases h4 : 4 ≤ s.size
    · rw [if_pos (by omega), wrap_small _ (by omega) (by omega), if_pos (by omega), if_pos (by omega), geyserref14_Path.j0]
      have e : (((s.size : Int) - 4).toNat) = s.size - 4 := by omega
      have es : ((s.extract (s.size - 4) s.size).toList == ([46, 103, 121, 115] : List UInt8)) = suf s := by
        unfold suf
        rw [decide_eq_true h4, Bool.true_and]
        rw [Lib.toList_data gys]; rfl
      rw [e, es, hj]
      cases suf s <;> simp [h40]
    · rw [if_neg (by omega), geyserref14_Path.j0, if_neg (by decide), hj]
      have : suf s = false := by unfold suf; rw [decide_eq_false h4]; rfl
      rw [this]; simp [h40]
  · rw [if_pos (by omega), geyserref14_Path.j0, if_pos rfl]
    simp [h40]
end Go.Proofs.YtlmgikhgmbjfdaaDoor.Path
/- The laws of package cut: which files are looked at, what is wrong with them. -/
namespace Go.Proofs.YtlmgikhgmbjfdaaDoor.Cuts
open Go Go.RowKit Go.Proofs.YtlmgikhgmbjfdaaDoor.QPart Go.Proofs.YtlmgikhgmbjfdaaDoorW.PrintWords Go.Proofs.YtlmgikhgmbjfdaaDoorW.PrintLast Go.Proofs.YtlmgikhgmbjfdaaDoorW.PrintMore Gy

def tot (l : List Inp) : Nat := (l.map fun x => x.b.length + x.name.size).sum
theorem tot_take {l : List Inp} {i : Nat} {x : Inp} (h : l[i]? = some x) : tot (l.take (i + 1)) = tot (l.take i) + (x.b.length + x.name.size) := by
  obtain ⟨hi, e⟩ := List.getElem?_eq_some_iff.1 h
  rw [List.take_succ_eq_append_getElem hi, e]
  simp [tot]
theorem tot_le (l : List Inp) (i : Nat) : tot (l.take i) ≤ tot l := by
  have : tot l = tot (l.take i) + tot (l.drop i) := by
    unfold tot
    rw [← List.sum_append, ← List.map_append, List.take_append_drop]
  omega
def fewB (l : List Inp) : Bool := decide (l.length ≤ 12) && decide (tot l ≤ 30000)
theorem awake_calls (w : World) : Calls Tryd.prog 6 #[] w fun e w' => e = .returned (.bool true) ∧ Below w.heap.size w w' := by
  have hc := fun w => count_calls (s := 2) (n := 5) (by omega) (by omega) (by omega) w
  go_enter Tryd.func6, Tryd.ntmps6
  go_wp2_with (go_at_call 25; refine (hc _).mono ?_; rintro e w2 ⟨rfl, hd⟩; have HD := Lib.hid hd; clear hd)
  go_ret
  exact ⟨rfl, HD.out⟩
set_option maxHeartbeats 4000000 in
set_option maxRecDepth 100000 in
theorem few_calls {LB lo cl : Nat} {l : List Inp} (hb : ∀ x ∈ l, x.b.length ≤ 140737488355328 ∧ x.name.size ≤ 140737488355328) (hl : l.length ≤ 140737488355328) (w : World) (hI : InAt w LB lo l) :
    Calls Tryd.prog 7 #[.slice (some ⟨LB, lo, none⟩) l.length cl] w fun e w' => e = .returned (.bool (fewB l)) ∧ Below w.heap.size w w' := by
  have HI := Lib.hid hI
  have HB := Lib.hid hb
  clear hI hb
  go_enter Tryd.func7, Tryd.ntmps7
  go_wp2
  go_loopw [7, 3] (fun v7 v3 w' => ∃ i : Nat, i ≤ l.length ∧ v7 = .int .i64 (i : Int) ∧ v3 = .int .i64 ((tot (l.take i) : Nat) : Int) ∧ Hid (Below w.heap.size w w') ∧ Hid (i ≤ 12 ∧ tot (l.take i) ≤ 30000)) (fun v7 _ _ => l.length - (intOf v7).toNat)
  case atStart => exact ⟨0, by omega, rfl, rfl, Lib.hid (Below.refl _ _), Lib.hid ⟨by omega, by simp [tot]⟩⟩
  case round =>
    obtain ⟨i, hi, rfl, rfl, hw, hk⟩ := hrel
    by_cases hil : i < l.length
    · obtain ⟨x, hx⟩ : ∃ x, l[i]? = some x := ⟨l[i], List.getElem?_eq_getElem hil⟩
      obtain ⟨A, c, g1, -⟩ := HI.out.b i x hx
      have z0 := cell_kept hw.out (HI.out.name i x hx)
      have z1 := cell_kept hw.out g1
      have tl : decide ((i : Int) < (l.length : Int)) = true := decide_eq_true (by omega)
      obtain ⟨hxb, hxn⟩ := HB.out x (List.mem_of_getElem? hx)
      have HT := Lib.hid (tot_take hx)
      have HL := Lib.hid (tot_le l (i + 1))
      have hm := hk.out.2
      clear hk
      generalize tot (l.take i) = m at hm HT ⊢
      generalize x.b.length = q at hxb HT z1
      by_cases c1 : 12 ≤ (i : Int)
      · have s1 : decide (12 ≤ (i : Int)) = true := decide_eq_true c1
        go_wp2
        go_quiet (fail)
        go_wp2
        go_ret
        have e : fewB l = false := by unfold fewB; rw [decide_eq_false (by omega), Bool.false_and]
        rw [e]
        exact ⟨rfl, pw_below_drewN hw.out _⟩
      · have s1 : decide (12 ≤ (i : Int)) = false := decide_eq_false c1
        by_cases c2 : 30000 < (m : Int) + (q : Int) + (x.name.size : Int)
        · have s2 : decide (30000 < (m : Int) + (q : Int) + (x.name.size : Int)) = true := decide_eq_true c2
          go_wp2
          go_quiet (fail)
          go_wp2
          go_ret
          have e : fewB l = false := by unfold fewB; rw [decide_eq_false (p := tot l ≤ 30000) (by have h1 := HL.out; have h2 := HT.out; omega), Bool.and_false]
          rw [e]
          exact ⟨rfl, pw_below_drewN hw.out _⟩
        · have s2 : decide (30000 < (m : Int) + (q : Int) + (x.name.size : Int)) = false := decide_eq_false c2
          go_wp2
          go_quiet (fail)
          go_wp2
          refine ⟨⟨i + 1, by omega, by norm_cast, ?_, Lib.hid (pw_below_drewN hw.out _), Lib.hid ⟨by omega, by rw [HT.out]; omega⟩⟩, ?_⟩
          · rw [HT.out]; congr 1; push_cast; omega
          · simp only [intOf]; omega
    · obtain rfl : i = l.length := by omega
      have tl : decide ((l.length : Int) < (l.length : Int)) = false := by simp
      have hk2 := hk.out
      rw [List.take_of_length_le (Nat.le_refl _)] at hk2
      have e : fewB l = true := by unfold fewB; rw [decide_eq_true hk2.1, decide_eq_true hk2.2]; rfl
      have EE := Lib.hid e
      clear e hk hk2
      go_wp2
      go_ret
      rw [EE.out]
      exact ⟨rfl, hw.out⟩
theorem refpath_calls (s : ByteArray) (hs : s.size ≤ 1000000) (w : World) : Calls Tryd.prog 30 #[.string s] w fun e w' => e = .returned (.bool (Path.right s)) ∧ Below w.heap.size w w' :=
  (geyserref14_Path.calls _ _ _ w (Path.path_says s hs)).mono fun _ _ h => ⟨h.1, h.2.below⟩
theorem cnt_rem {s n : Nat} (hs : 0 < s) (hn : 0 < n) : (n - 1) / s + 1 = if 0 < n % s then n / s + 1 else n / s := by
  have hd := Nat.div_add_mod n s
  have hm := Nat.mod_lt n hs
  generalize n / s = q at hd
  generalize n % s = r at hd hm
  by_cases h : 0 < r
  · rw [if_pos h]
    have e : n - 1 = s * q + (r - 1) := by omega
    rw [e, Nat.mul_add_div hs, Nat.div_eq_of_lt (by omega), Nat.add_zero]
  · rw [if_neg h]
    obtain rfl : r = 0 := by omega
    cases q with
    | zero => omega
    | succ q =>
      have e : n - 1 = s * q + (s - 1) := by rw [Nat.mul_succ] at hd; omega
      rw [e, Nat.mul_add_div hs, Nat.div_eq_of_lt (by omega), Nat.add_zero]
theorem rcnt_f {s n : Nat} (h1 : 1 ≤ s) (h2 : s ≤ 256) (hn : n ≤ 1000000) : geyserref14_Count.f 1 (n : Int) (s : Int) = some ((cnt s n : Nat) : Int) := by
  unfold geyserref14_Count.f cnt
  by_cases h0 : n = 0
  · subst h0; rfl
  · rw [if_neg (by omega), if_neg (by omega), if_neg h0, cnt_rem h1 (by omega), decide_eq_false (by omega), geyserref14_Count.j0, if_neg (by decide), if_neg (by omega), Int.tdiv_eq_ediv_of_nonneg (by omega), Int.tmod_eq_emod_of_nonneg (by omega)]
    have e1 : ((n : Int) / (s : Int)) = ((n / s : Nat) : Int) := (Int.natCast_ediv _ _).symm
    have e2 : ((n : Int) % (s : Int)) = ((n % s : Nat) : Int) := (Int.natCast_emod _ _).symm
    have := Nat.div_le_self n s
    rw [e1, e2]
    generalize n / s = q at this
    generalize n % s = r
    by_cases h : 0 < r
    · rw [if_pos (by omega), if_pos h, Gy.wrap64_id (n := (q : Int)) (by omega) (by omega), Gy.wrap64_id (n := (q : Int) + 1) (by omega) (by omega)]; congr 1
    · rw [if_neg (by omega), if_neg h, Gy.wrap64_id (n := (q : Int)) (by omega) (by omega)]
theorem rcount_calls {s n : Nat} (h1 : 1 ≤ s) (h2 : s ≤ 256) (hn : n ≤ 1000000) (w : World) : Calls Tryd.prog 13 #[.int .i64 (n : Int), .int .i64 (s : Int)] w fun e w' => e = .returned (.int .i64 ((cnt s n : Nat) : Int)) ∧ Below w.heap.size w w' :=
  (geyserref14_Count.calls _ _ _ _ w (rcnt_f h1 h2 hn)).mono fun _ _ h => ⟨h.1, h.2.below⟩
set_option maxHeartbeats 1000000 in
set_option maxRecDepth 100000 in
theorem wrong_bad (A : Option Addr) (n c : Nat) (slice : Int) (h : slice < 1 ∨ 256 < slice ∨ n = 0) (w : World) : Calls Tryd.prog 9 #[.slice A n c, .int .i64 slice] w fun e w' => e = .returned (.int .i64 1) ∧ w' = w := by
  by_cases h1 : slice < 1
  · have t1 : decide (slice < 1) = true := decide_eq_true h1
    clear h
    go_enter Tryd.func9, Tryd.ntmps9
    go_wp2
    go_ret
    exact ⟨rfl, rfl⟩
  · have t1 : decide (slice < 1) = false := decide_eq_false h1
    by_cases h2 : 256 < slice
    · have t2 : decide (256 < slice) = true := decide_eq_true h2
      clear h
      go_enter Tryd.func9, Tryd.ntmps9
      go_wp2
      go_ret
      exact ⟨rfl, rfl⟩
    · have t2 : decide (256 < slice) = false := decide_eq_false h2
      obtain rfl : n = 0 := by omega
      clear h
      go_enter Tryd.func9, Tryd.ntmps9
      go_wp2
      go_ret
      exact ⟨rfl, rfl⟩
set_option maxHeartbeats 1000000 in
set_option maxRecDepth 100000 in
theorem wrong_many (A : Option Addr) (n c : Nat) (slice : Int) (h1 : ¬ slice < 1) (h2 : ¬ 256 < slice) (h3 : 8 < n) (w : World) : Calls Tryd.prog 9 #[.slice A n c, .int .i64 slice] w fun e w' => e = .returned (.int .i64 5) ∧ w' = w := by
  have t1 : decide (slice < 1) = false := decide_eq_false h1
  have t2 : decide (256 < slice) = false := decide_eq_false h2
  have t3 : ((n : Int) == 0) = false := beq_eq_false_iff_ne.2 (by omega)
  have t4 : decide (8 < (n : Int)) = true := decide_eq_true (by omega)
  go_enter Tryd.func9, Tryd.ntmps9
  go_wp2
  go_ret
  exact ⟨rfl, rfl⟩
/-- the names of the first files, the last one first -/
def namesOf (l : List Inp) (i : Nat) : List ByteArray := ((l.take i).map (·.name)).reverse
theorem namesOf_succ {l : List Inp} {i : Nat} {x : Inp} (h : l[i]? = some x) : namesOf l (i + 1) = x.name :: namesOf l i := by
  obtain ⟨hi, e⟩ := List.getElem?_eq_some_iff.1 h
  unfold namesOf
  rw [List.take_succ_eq_append_getElem hi, e]
  simp
theorem memB_cons (s t : ByteArray) (L : List ByteArray) : memB s (t :: L) = (decide (t = s) || memB s L) := rfl
theorem bytes_eq (s t : ByteArray) : (s.toList == t.toList) = decide (s = t) := by
  by_cases h : s = t
  · subst h; simp
  · rw [decide_eq_false h]
    refine beq_eq_false_iff_ne.2 fun e => h (data_inj ?_)
    rwa [Lib.toList_data, Lib.toList_data] at e
set_option maxHeartbeats 8000000 in
set_option maxRecDepth 100000 in
theorem wrong_main {LB lo cl s : Nat} {l : List Inp} (hs1 : 1 ≤ s) (hs2 : s ≤ 256) (hn1 : 1 ≤ l.length) (hn2 : l.length ≤ 8) (hsz : lensOf l ≤ 30000) (hnm : ∀ x ∈ l, x.name.size ≤ 30000) (w : World) (hI : InAt w LB lo l) :
    Calls Tryd.prog 9 #[.slice (some ⟨LB, lo, none⟩) l.length cl, .int .i64 (s : Int)] w fun e w' => e = .returned (.int .i64 (chk2 s l)) ∧ Below w.heap.size w w' := by
  have t1 : decide ((s : Int) < 1) = false := decide_eq_false (by omega)
  have t2 : decide (256 < (s : Int)) = false := decide_eq_false (by omega)
  have t3 : ((l.length : Int) == 0) = false := beq_eq_false_iff_ne.2 (by omega)
  have t4 : decide (8 < (l.length : Int)) = false := decide_eq_false (by omega)
  have HI := Lib.hid hI
  have HN := Lib.hid (And.intro hsz hnm)
  have HS := Lib.hid (And.intro hs1 hs2)
  clear hI hsz hnm
  go_enter Tryd.func9, Tryd.ntmps9
  go_wp2
  go_loopw [25] (fun v25 w' => ∃ i : Nat, i ≤ l.length ∧ v25 = .int .i64 (i : Int) ∧ Hid (Below w.heap.size w w') ∧ Hid (okAll l = okAll (l.drop i))) (fun v25 _ => l.length - (intOf v25).toNat)
  case atStart => exact ⟨0, by omega, rfl, Lib.hid (Below.refl _ _), Lib.hid rfl⟩
  case round =>
    obtain ⟨i, hi, rfl, hw, hk⟩ := hrel
    by_cases hil : i < l.length
    · obtain ⟨x, hx⟩ : ∃ x, l[i]? = some x := ⟨l[i], List.getElem?_eq_getElem hil⟩
      have z0 := cell_kept hw.out (HI.out.name i x hx)
      have tl : decide ((i : Int) < (l.length : Int)) = true := decide_eq_true (by omega)
      have hxs := HN.out.2 x (List.mem_of_getElem? hx)
      have HE := Lib.hid (drop_at hx)
      by_cases hr : Path.right x.name = true
      · go_wp2_with (go_at_call 30; refine (refpath_calls x.name (Nat.le_trans hxs (by decide)) _).mono ?_; rw [hr]; rintro e w2 ⟨rfl, hd⟩; have hb := Lib.hid (hw.out.trans (hd.mono hw.out.size)); clear hd)
        refine ⟨⟨i + 1, by omega, by norm_cast, hb, Lib.hid ?_⟩, ?_⟩
        · rw [hk.out, HE.out]
          show (Path.right x.name && okAll (l.drop (i + 1))) = _
          rw [hr, Bool.true_and]
        · simp only [intOf]; omega
      · have hr2 : Path.right x.name = false := by simpa using hr
        clear hr
        go_wp2_with (go_at_call 30; refine (refpath_calls x.name (Nat.le_trans hxs (by decide)) _).mono ?_; rw [hr2]; rintro e w2 ⟨rfl, hd⟩; have hb := Lib.hid (hw.out.trans (hd.mono hw.out.size)); clear hd)
        go_ret
        have e : chk2 s l = 12 := if_pos (by
          rw [hk.out, HE.out]
          show (Path.right x.name && okAll (l.drop (i + 1))) = _
          rw [hr2, Bool.false_and])
        rw [e]
        exact ⟨rfl, hb.out⟩
    · obtain rfl : i = l.length := by omega
      have tl : decide ((l.length : Int) < (l.length : Int)) = false := by simp
      have HO : Hid (okAll l = true) := Lib.hid (by rw [hk.out, List.drop_of_length_le (Nat.le_refl _)]; rfl)
      have HW0 := hw
      clear hk hw
      go_wp2
      generalize wr = w0 at HW0 ⊢
      go_loopw [38, 5] (fun v38 v5 w' => ∃ i : Nat, i ≤ l.length ∧ v38 = .int .i64 (i : Int) ∧ v5 = .int .i64 ((cntAll s (l.take i) : Nat) : Int) ∧ Hid (Below w.heap.size w w') ∧ Hid (twice [] l = twice (namesOf l i) (l.drop i)) ∧ Hid (cntAll s (l.take i) + lensOf (l.drop i) ≤ 30000)) (fun v38 _ _ => l.length - (intOf v38).toNat)
      case atStart => exact ⟨0, by omega, rfl, rfl, HW0, Lib.hid rfl, Lib.hid (by have := HN.out.1; simpa [cntAll] using this)⟩
      case round =>
        obtain ⟨i, hi, rfl, rfl, hw, hT, hC⟩ := hrel
        by_cases hil : i < l.length
        · obtain ⟨x, hx⟩ : ∃ x, l[i]? = some x := ⟨l[i], List.getElem?_eq_getElem hil⟩
          obtain ⟨A, c, g1, -⟩ := HI.out.b i x hx
          have tl2 : decide ((i : Int) < (l.length : Int)) = true := decide_eq_true (by omega)
          have hxl := lensOf_at hx
          have HE := Lib.hid (drop_at hx)
          have HZ := Lib.hid (And.intro (HI.out.name i x hx) g1)
          have HCS := Lib.hid (cntAll_drop (s := s) hx)
          have hc1 : cntAll s (l.take i) ≤ 30000 := by have := hC.out; omega
          have hc2 := Nat.le_trans (cnt_le s x.b.length) (Nat.le_trans hxl HN.out.1)
          have HC9 : Hid (cntAll s (l.take i) + cnt s x.b.length + lensOf (l.drop (i + 1)) ≤ 30000) := Lib.hid (by have h1 := hC.out; have h2 := lensOf_drop hx; have h3 := cnt_le s x.b.length; omega)
          have HXL := Lib.hid (show x.b.length ≤ 1000000 by have := HN.out.1; omega)
          have HNS := Lib.hid (namesOf_succ hx)
          clear hxl g1 hC
          generalize cntAll s (l.take i) = m at hc1 HCS HC9 ⊢
          obtain ⟨q, hq⟩ : ∃ q, q = cnt s x.b.length := ⟨_, rfl⟩
          have HQ := Lib.hid hq
          rw [← hq] at hc2 HC9 HCS
          clear hq
          go_wp2
          have HW1 := hw
          clear hw
          generalize wr = w1 at HW1 ⊢
          go_loopw [42] (fun v42 w' => ∃ k : Nat, k ≤ i ∧ v42 = .int .i64 (k : Int) ∧ Hid (Below w.heap.size w w') ∧ Hid (memB x.name (namesOf l k) = false)) (fun v42 _ => i - (intOf v42).toNat)
          case atStart => exact ⟨0, by omega, rfl, HW1, Lib.hid rfl⟩
          case round =>
            obtain ⟨k, hki, rfl, hw, hm⟩ := hrel
            have z0 := cell_kept hw.out HZ.out.1
            have z1 := cell_kept hw.out HZ.out.2
            by_cases hkl : k < i
            · obtain ⟨y, hy⟩ : ∃ y, l[k]? = some y := ⟨l[k]'(by omega), List.getElem?_eq_getElem (by omega)⟩
              have y0 := cell_kept hw.out (HI.out.name k y hy)
              have tl3 : decide ((k : Int) < (i : Int)) = true := decide_eq_true (by omega)
              have HY := Lib.hid (namesOf_succ hy)
              have hb : (y.name.toList == x.name.toList) = decide (y.name = x.name) := bytes_eq _ _
              by_cases hq : y.name = x.name
              · rw [decide_eq_true hq] at hb
                have HQ2 := Lib.hid (And.intro hq hy)
                clear hq hy
                go_wp2
                go_quiet (fail)
                go_wp2
                go_ret
                have e : chk2 s l = 8 := by
                  unfold chk2
                  rw [if_neg (by rw [HO.out]; decide), if_pos]
                  rw [hT.out, HE.out]
                  show (memB x.name (namesOf l i) || _) = true
                  have hmem : x.name ∈ namesOf l i := by
                    unfold namesOf
                    rw [List.mem_reverse, List.mem_map]
                    refine ⟨y, List.mem_of_getElem? (i := k) ?_, HQ2.out.1⟩
                    rw [List.getElem?_take, if_pos hkl]
                    exact HQ2.out.2
                  rw [memB_iff.2 hmem, Bool.true_or]
                rw [e]
                exact ⟨rfl, pw_below_drewN hw.out _⟩
              · rw [decide_eq_false hq] at hb
                have HQ2 := Lib.hid (decide_eq_false hq)
                clear hq hy
                go_wp2
                go_quiet (fail)
                go_wp2
                refine ⟨⟨k + 1, by omega, by norm_cast, Lib.hid (pw_below_drewN hw.out _), Lib.hid ?_⟩, ?_⟩
                · rw [HY.out, memB_cons, HQ2.out, Bool.false_or]; exact hm.out
                · simp only [intOf]; omega
            · obtain rfl : k = i := by omega
              have tl3 : decide ((k : Int) < (k : Int)) = false := by simp
              go_wp2_with (go_at_call 13; refine (rcount_calls HS.out.1 HS.out.2 HXL.out _).mono ?_; rw [← HQ.out]; rintro e w2 ⟨rfl, hd⟩; have HWd := Lib.hid (hw.out.trans (hd.mono hw.out.size)); clear hd)
              refine ⟨⟨k + 1, by omega, by norm_cast, by rw [HCS.out]; norm_cast, HWd, Lib.hid ?_, Lib.hid ?_⟩, ?_⟩
              · rw [hT.out, HE.out, HNS.out]
                show (memB x.name (namesOf l k) || twice (x.name :: namesOf l k) (l.drop (k + 1))) = _
                rw [hm.out, Bool.false_or]
              · rw [HCS.out]; exact HC9.out
              · simp only [intOf]; omega
        · obtain rfl : i = l.length := by omega
          have tl2 : decide ((l.length : Int) < (l.length : Int)) = false := by simp
          have HT2 : Hid (twice [] l = false) := Lib.hid (by rw [hT.out, List.drop_of_length_le (Nat.le_refl _)]; rfl)
          rw [List.take_of_length_le (Nat.le_refl _)]
          have hc1 : cntAll s l ≤ 30000 := by have := hC.out; rw [List.take_of_length_le (Nat.le_refl _)] at this; omega
          clear hT hC
          by_cases hb : 64 < cntAll s l
          · have EE : Hid (chk2 s l = 5) := Lib.hid (by
              unfold chk2
              rw [if_neg (by rw [HO.out]; decide), if_neg (by rw [HT2.out]; decide), if_pos hb])
            have t64 : decide (64 < ((cntAll s l : Nat) : Int)) = true := decide_eq_true (by omega)
            generalize cntAll s l = m at hc1 t64 hb ⊢
            go_wp2
            go_ret
            rw [EE.out]
            exact ⟨rfl, hw.out⟩
          · have EE : Hid (chk2 s l = 0) := Lib.hid (by
              unfold chk2
              rw [if_neg (by rw [HO.out]; decide), if_neg (by rw [HT2.out]; decide), if_neg hb])
            have t64 : decide (64 < ((cntAll s l : Nat) : Int)) = false := decide_eq_false (by omega)
            generalize cntAll s l = m at hc1 t64 hb ⊢
            go_wp2
            go_ret
            rw [EE.out]
            exact ⟨rfl, hw.out⟩
end Go.Proofs.YtlmgikhgmbjfdaaDoor.Cuts
/- A set that is formed: the reference's test says so. -/
namespace Go.Proofs.YtlmgikhgmbjfdaaDoor.Cuts
open Go Go.RowKit Go.Proofs.YtlmgikhgmbjfdaaDoor.QPart Go.Proofs.YtlmgikhgmbjfdaaDoorW.PrintWords Go.Proofs.YtlmgikhgmbjfdaaDoorW.PrintLast Go.Proofs.YtlmgikhgmbjfdaaDoorW.PrintMore Gy

theorem flat_at {α : Type} (g : α → List Value) (m : Nat) : ∀ (xs : List α), (∀ x ∈ xs, (g x).length = m) → ∀ (i : Nat) (x : α), xs[i]? = some x → ∀ j, j < m → (xs.flatMap g)[i * m + j]? = (g x)[j]?
  | [], _, i, x, h, j, _ => by simp at h
  | y :: ys, hm, 0, x, h, j, hj => by
    simp only [List.getElem?_cons_zero, Option.some.injEq] at h
    subst h
    rw [List.flatMap_cons, Nat.zero_mul, Nat.zero_add, List.getElem?_append_left (by rw [hm y (by simp)]; exact hj)]
  | y :: ys, hm, i + 1, x, h, j, hj => by
    have h2 : ys[i]? = some x := by simpa using h
    have hy := hm y (by simp)
    have e : (i + 1) * m + j = (g y).length + (i * m + j) := by rw [hy, Nat.succ_mul]; omega
    rw [List.flatMap_cons, e, List.getElem?_append_right (by omega), Nat.add_sub_cancel_left]
    exact flat_at g m ys (fun x hx => hm x (by simp [hx])) i x h2 j hj
theorem range_at {α : Type} {g : α → List Value} {m : Nat} {xs : List α} (hm : ∀ x ∈ xs, (g x).length = m) {w : World} {b o : Nat} (h : w.rangeAt b o (xs.flatMap g)) {i : Nat} {x : α} (hx : xs[i]? = some x) : w.rangeAt b (o + i * m) (g x) := by
  intro j v hv
  have hj : j < m := by
    have := (List.getElem?_eq_some_iff.1 hv).1
    rwa [hm x (List.mem_of_getElem? hx)] at this
  have h1 := h (i * m + j) v (by rw [flat_at g m xs hm i x hx j hj]; exact hv)
  rw [Nat.add_assoc]
  exact h1
theorem range_kept {w w' : World} {b o : Nat} {cs : List Value} (hb : Below w.heap.size w w') (h : w.rangeAt b o cs) : w'.rangeAt b o cs := fun j v hv => cell_kept hb (h j v hv)
/-- where a file's slices begin -/
def nextAt (s : Nat) (fs : List FileR) (i : Nat) : Nat := ((fs.take i).map fun f => cnt s f.size.toNat).sum
theorem nextAt_succ {s : Nat} {fs : List FileR} {i : Nat} {f : FileR} (h : fs[i]? = some f) : nextAt s fs (i + 1) = nextAt s fs i + cnt s f.size.toNat := by
  obtain ⟨hi, e⟩ := List.getElem?_eq_some_iff.1 h
  unfold nextAt
  rw [List.take_succ_eq_append_getElem hi, e]
  simp
/-- what a formed set's file is -/
structure FileOkAt (s : Nat) (fs : List FileR) (ss : List SliceR) (i : Nat) (f : FileR) : Prop where
  name : Path.right f.name = true
  nsize : f.name.size ≤ 30000
  dig : f.dig.length = 32
  size : ∃ z : Nat, f.size = (z : Int) ∧ z ≤ 30000
  first : f.first = (nextAt s fs i : Nat)
  more : nextAt s fs i + cnt s f.size.toNat ≤ ss.length
  other : ∀ (j : Nat) (g : FileR), j < i → fs[j]? = some g → g.name ≠ f.name
  slices : ∀ k, k < cnt s f.size.toNat → ∃ x : SliceR, ss[nextAt s fs i + k]? = some x ∧ x.size = if k + 1 = cnt s f.size.toNat then f.size - (k : Int) * (s : Int) else (s : Int)
structure FormedL (s : Nat) (fs : List FileR) (ss : List SliceR) : Prop where
  s1 : 1 ≤ s
  s2 : s ≤ 256
  n1 : 1 ≤ fs.length
  n2 : fs.length ≤ 8
  n3 : ss.length ≤ 64
  dig : ∀ x ∈ ss, x.dig.length = 32
  file : ∀ (i : Nat) (f : FileR), fs[i]? = some f → FileOkAt s fs ss i f
  all : nextAt s fs fs.length = ss.length
def z32 : List Int := List.replicate 32 0
theorem FileR.len {f : FileR} (h : f.dig.length = 32) : f.cells.length = 35 := len_file _ _ _ _ h
theorem SliceR.len {f : SliceR} (h : f.dig.length = 32) : f.cells.length = 34 := len_slice _ _ _ h
theorem FileR.one (f : FileR) : ∀ u ∈ f.cells, u.oneCell' = true := one_file _ _ _ _
theorem SliceR.one (f : SliceR) : ∀ u ∈ f.cells, u.oneCell' = true := one_slice _ _ _
theorem zlen : (fileL ⟨#[]⟩ 0 z32 0).length = 35 := by kernel_rfl
theorem info_file1 : (Tryd.prog.info? 43).map (·.size) = some 35 := by kernel_rfl
theorem file34 (nm : ByteArray) (sz : Int) (D : List Int) (first : Int) (hD : D.length = 32) : (fileL nm sz D first)[34]? = some (.int .i64 first) := by
  unfold fileL
  show (nums .u8 D ++ [.int .i64 first])[32]? = _
  rw [List.getElem?_append_right (by rw [Gy.nums_len, hD]; omega), Gy.nums_len, hD]
  rfl
/-- a box that a file is copied into -/
theorem zero_box (w : World) (T : TypeId) : Gy.Arr (w.alloc (.cells #[.string ⟨#[]⟩, .int .i64 0, .int .u8 0, .int .u8 0, .int .u8 0, .int .u8 0, .int .u8 0, .int .u8 0, .int .u8 0, .int .u8 0, .int .u8 0, .int .u8 0, .int .u8 0, .int .u8 0, .int .u8 0, .int .u8 0, .int .u8 0, .int .u8 0, .int .u8 0, .int .u8 0, .int .u8 0, .int .u8 0, .int .u8 0, .int .u8 0, .int .u8 0, .int .u8 0, .int .u8 0, .int .u8 0, .int .u8 0, .int .u8 0, .int .u8 0, .int .u8 0, .int .u8 0, .int .u8 0, .int .i64 0] T)) w.heap.size (fileL ⟨#[]⟩ 0 z32 0) := Gy.Arr.fresh w _ _ rfl T
theorem box_file {w : World} {f : FileR} (hD : f.dig.length = 32) (T : TypeId) : Gy.Arr ((w.alloc (.cells #[.string ⟨#[]⟩, .int .i64 0, .int .u8 0, .int .u8 0, .int .u8 0, .int .u8 0, .int .u8 0, .int .u8 0, .int .u8 0, .int .u8 0, .int .u8 0, .int .u8 0, .int .u8 0, .int .u8 0, .int .u8 0, .int .u8 0, .int .u8 0, .int .u8 0, .int .u8 0, .int .u8 0, .int .u8 0, .int .u8 0, .int .u8 0, .int .u8 0, .int .u8 0, .int .u8 0, .int .u8 0, .int .u8 0, .int .u8 0, .int .u8 0, .int .u8 0, .int .u8 0, .int .u8 0, .int .u8 0, .int .i64 0] T)).setCells w.heap.size 0 f.cells) w.heap.size f.cells ∧ Below w.heap.size w ((w.alloc (.cells #[.string ⟨#[]⟩, .int .i64 0, .int .u8 0, .int .u8 0, .int .u8 0, .int .u8 0, .int .u8 0, .int .u8 0, .int .u8 0, .int .u8 0, .int .u8 0, .int .u8 0, .int .u8 0, .int .u8 0, .int .u8 0, .int .u8 0, .int .u8 0, .int .u8 0, .int .u8 0, .int .u8 0, .int .u8 0, .int .u8 0, .int .u8 0, .int .u8 0, .int .u8 0, .int .u8 0, .int .u8 0, .int .u8 0, .int .u8 0, .int .u8 0, .int .u8 0, .int .u8 0, .int .u8 0, .int .u8 0, .int .i64 0] T)).setCells w.heap.size 0 f.cells) :=
  ⟨(zero_box w T).put f.cells ((FileR.len hD).trans zlen.symm), Gy.setCells_below (Nat.le_refl _) _ _ (Gy.alloc_below _ _)⟩
/-- the set's box and the file's -/
def Bx (W : World) (sb xb : Nat) (f : FileR) (vs : List Value) : Prop := Gy.Arr W xb f.cells ∧ Gy.Arr W sb vs
theorem Bx.below {W W' : World} {sb xb : Nat} {f : FileR} {vs : List Value} (h : Bx W sb xb f vs) (hb : Below W.heap.size W W') : Bx W' sb xb f vs := ⟨h.1.below hb, h.2.below hb⟩
theorem Bx.cells {W : World} {sb xb : Nat} {f : FileR} {v0 v1 v2 : Value} {z nx : Nat} (h : Bx W sb xb f [v0, v1, v2]) (hz : f.size = (z : Int)) (hn : f.first = (nx : Int)) (hD : f.dig.length = 32) :
    W.cell? ⟨xb, 0, none⟩ = some (.string f.name) ∧ W.cell? ⟨xb, 1, none⟩ = some (.int .i64 (z : Int)) ∧ W.cell? ⟨xb, 34, none⟩ = some (.int .i64 (nx : Int)) ∧ W.cell? ⟨sb, 0, none⟩ = some v0 ∧ W.cell? ⟨sb, 1, none⟩ = some v1 ∧ W.cell? ⟨sb, 2, none⟩ = some v2 :=
  ⟨h.1.cell rfl, by rw [← hz]; exact h.1.cell rfl, by rw [← hn]; exact h.1.cell (file34 _ _ _ _ hD), h.2.cell rfl, h.2.cell rfl, h.2.cell rfl⟩
set_option maxHeartbeats 8000000 in
set_option maxRecDepth 100000 in
theorem formed_true {s : Nat} {fs : List FileR} {ss : List SliceR} (F : FormedL s fs ss) {fb fo fc lc : Nat} {Al : Option Addr} (w : World) (hF : w.rangeAt fb fo (fs.flatMap FileR.cells)) (hL : 0 < ss.length → ∃ lb lo, Al = some ⟨lb, lo, none⟩ ∧ w.rangeAt lb lo (ss.flatMap SliceR.cells)) :
    Calls Tryd.prog 10 #[.agg #[.int .i64 (s : Int), .slice (some ⟨fb, fo, none⟩) fs.length fc, .slice Al ss.length lc]] w fun e w' => e = .returned (.bool true) ∧ Below w.heap.size w w' := by
  have t1 : decide ((s : Int) < 1) = false := decide_eq_false (by have := F.s1; omega)
  have t2 : decide (256 < (s : Int)) = false := decide_eq_false (by have := F.s2; omega)
  have t3 : decide ((fs.length : Int) < 1) = false := decide_eq_false (by have := F.n1; omega)
  have t4 : decide (8 < (fs.length : Int)) = false := decide_eq_false (by have := F.n2; omega)
  have t5 : decide (64 < (ss.length : Int)) = false := decide_eq_false (by have := F.n3; omega)
  have HF := Lib.hid F
  have HR := Lib.hid (And.intro hF hL)
  have HA := Lib.hid (And.intro (Gy.Arr.fresh w [.int .i64 (s : Int), .slice (some ⟨fb, fo, none⟩) fs.length fc, .slice Al ss.length lc] _ rfl 28) (Gy.alloc_below w (.cells #[.int .i64 (s : Int), .slice (some ⟨fb, fo, none⟩) fs.length fc, .slice Al ss.length lc] 28)))
  clear F hF hL
  go_enter Tryd.func10, Tryd.ntmps10
  go_wp2
  have HA2 := HA
  clear HA
  obtain ⟨sb, hsb⟩ : ∃ sb, sb = w.heap.size := ⟨_, rfl⟩
  rw [← hsb] at HA2 ⊢
  generalize w.alloc (.cells #[.int .i64 (s : Int), .slice (some ⟨fb, fo, none⟩) fs.length fc, .slice Al ss.length lc] 28) = w0 at HA2 ⊢
  have HW := Lib.hid (show Below w.heap.size w w0 by rw [← hsb]; exact HA2.out.2)
  have HS := Lib.hid HA2.out.1
  clear HA2 hsb
  go_loopw [39, 3] (fun v39 v3 w' => ∃ i : Nat, i ≤ fs.length ∧ v39 = .int .i64 (i : Int) ∧ v3 = .int .i64 ((nextAt s fs i : Nat) : Int) ∧ Hid (Below w.heap.size w w') ∧ Hid (Gy.Arr w' sb [.int .i64 (s : Int), .slice (some ⟨fb, fo, none⟩) fs.length fc, .slice Al ss.length lc]) ∧ Hid (nextAt s fs i ≤ ss.length)) (fun v39 _ _ => fs.length - (intOf v39).toNat)
  case atStart => exact ⟨0, by omega, rfl, rfl, HW, HS, Lib.hid (by simp [nextAt])⟩
  case round =>
    obtain ⟨i, hi, rfl, rfl, hw, hS, hnx⟩ := hrel
    have s0 := hS.out.cell (i := 0) (v := .int .i64 (s : Int)) rfl
    have s1 := hS.out.cell (i := 1) (v := .slice (some ⟨fb, fo, none⟩) fs.length fc) rfl
    have s2 := hS.out.cell (i := 2) (v := .slice Al ss.length lc) rfl
    have hb0 : fs.length ≤ 8 := HF.out.n2
    by_cases hil : i < fs.length
    · obtain ⟨f, hf⟩ : ∃ f, fs[i]? = some f := ⟨fs[i], List.getElem?_eq_getElem hil⟩
      have HO := Lib.hid (HF.out.file i f hf)
      obtain ⟨z, hz, hz2⟩ := HO.out.size
      have HZ := Lib.hid hz
      have tl : decide ((i : Int) < (fs.length : Int)) = true := decide_eq_true (by omega)
      have HRf := Lib.hid (range_kept hw.out (range_at (m := 35) (fun x hx => by obtain ⟨j, hj⟩ := List.getElem?_of_mem hx; exact FileR.len (HF.out.file j x hj).dig) HR.out.1 hf))
      have HBx := Lib.hid (box_file (w := wr) (f := f) HO.out.dig 43)
      have HFi := Lib.hid HO.out.first
      have hmore := HO.out.more
      rw [hz] at hmore
      have HSl := Lib.hid HO.out.slices
      have HNx := Lib.hid (nextAt_succ (s := s) hf)
      rw [hz] at HSl HNx
      rw [Int.toNat_natCast] at HSl HNx
      generalize nextAt s fs i = nx at hmore HFi hnx HSl HNx ⊢
      obtain ⟨n, hn⟩ : ∃ n, n = cnt s z := ⟨_, rfl⟩
      have HNn := Lib.hid hn
      rw [← hn] at HSl HNx
      have hmore2 : nx + n ≤ ss.length := by rw [hn]; rw [Int.toNat_natCast] at hmore; exact hmore
      have hn64 : n ≤ 64 := by have := HF.out.n3; omega
      have hb1 : ss.length ≤ 64 := HF.out.n3
      have hb2 : nx ≤ 64 := by omega
      have tz : decide ((z : Int) < 0) = false := decide_eq_false (by omega)
      have tn : decide ((ss.length : Int) - (nx : Int) < (n : Int)) = false := decide_eq_false (by omega)
      have hnm : Path.right f.name = true := HO.out.name
      have HNM := Lib.hid hnm
      clear hz hf hmore hn hnm
      go_wp2_with (first
        | (with_reducible refine wpList_load_mid rfl 43 (.tmp 45) rfl fb (fo + i * 35) rfl f.cells _ HRf.out Tryd.underlying43 rfl (by rw [FileR.len HO.out.dig]; exact info_file1) ?_)
        | ((with_reducible refine wpList_store_mid rfl 43 (.tmp 5) (.tmp 46) rfl wr.heap.size 0 f.cells.toArray rfl rfl ((zero_box wr _).there2 _ ((FileR.len HO.out.dig).trans zlen.symm)) (by rw [List.size_toArray, FileR.len HO.out.dig]; exact info_file1) (all_oneCell_toArray (FileR.one f)) ?_); generalize World.setCells _ wr.heap.size 0 _ = wb at HBx ⊢; obtain ⟨xb, hxb⟩ : ∃ xb, xb = wr.heap.size := ⟨_, rfl⟩; have HX : Hid (Bx wb sb xb f [.int .i64 (s : Int), .slice (some ⟨fb, fo, none⟩) fs.length fc, .slice Al ss.length lc]) := Lib.hid (by rw [hxb]; exact ⟨HBx.out.1, hS.out.below HBx.out.2⟩); rw [← hxb]; have HWb := Lib.hid (hw.out.trans (HBx.out.2.mono hw.out.size)); clear hxb s0 s1 s2; obtain ⟨x0, x1, x34, s0, s1, s2⟩ := HX.out.cells HZ.out HFi.out HO.out.dig)
        | (go_at_call 13; refine (rcount_calls HF.out.s1 HF.out.s2 (Nat.le_trans hz2 (by decide)) _).mono ?_; rw [← HNn.out]; rintro e w2 ⟨rfl, hd⟩; have HX := Lib.hid (HX.out.below hd); have HWb := Lib.hid (HWb.out.trans (hd.mono HWb.out.size)); clear hd x0 x1 x34 s0 s1 s2; obtain ⟨x0, x1, x34, s0, s1, s2⟩ := HX.out.cells HZ.out HFi.out HO.out.dig)
        | (go_at_call 30; refine (refpath_calls f.name (Nat.le_trans HO.out.nsize (by decide)) _).mono ?_; rw [HNM.out]; rintro e w3 ⟨rfl, hd⟩; have HX := Lib.hid (HX.out.below hd); have HWb := Lib.hid (HWb.out.trans (hd.mono HWb.out.size)); clear hd x0 x1 x34 s0 s1 s2; obtain ⟨x0, x1, x34, s0, s1, s2⟩ := HX.out.cells HZ.out HFi.out HO.out.dig))
      have HX1 := HX
      have HW1 := HWb
      clear HX HWb x0 x1 x34 s0 s1 s2
      generalize w3 = w4 at HX1 HW1 ⊢
      go_loopw [77] (fun v77 w' => ∃ k : Nat, k ≤ i ∧ v77 = .int .i64 (k : Int) ∧ Hid (Bx w' sb xb f [.int .i64 (s : Int), .slice (some ⟨fb, fo, none⟩) fs.length fc, .slice Al ss.length lc]) ∧ Hid (Below w.heap.size w w')) (fun v77 _ => i - (intOf v77).toNat)
      case atStart => exact ⟨0, by omega, rfl, HX1, HW1⟩
      case round =>
        obtain ⟨k, hki, rfl, HX, HWb⟩ := hrel
        obtain ⟨x0, x1, x34, s0, s1, s2⟩ := HX.out.cells HZ.out HFi.out HO.out.dig
        by_cases hkl : k < i
        · obtain ⟨y, hy⟩ : ∃ y, fs[k]? = some y := ⟨fs[k]'(by omega), List.getElem?_eq_getElem (by omega)⟩
          have y0 : wr.cell? ⟨fb, fo + k * 35, none⟩ = some (.string y.name) := range_kept HWb.out (range_at (m := 35) (fun x hx => by obtain ⟨j, hj⟩ := List.getElem?_of_mem hx; exact FileR.len (HF.out.file j x hj).dig) HR.out.1 hy) 0 _ rfl
          have tk : decide ((k : Int) < (i : Int)) = true := decide_eq_true (by omega)
          have hb : (y.name.toList == f.name.toList) = false := by rw [bytes_eq, decide_eq_false (HO.out.other k y hkl hy)]
          clear hy
          go_wp2
          go_quiet (fail)
          go_wp2
          refine ⟨⟨k + 1, by omega, by norm_cast, Lib.hid (HX.out.below (pw_below_drewN (Below.refl _ _) _)), Lib.hid (pw_below_drewN HWb.out _)⟩, ?_⟩
          simp only [intOf]; omega
        · obtain rfl : k = i := by omega
          have tk : decide ((k : Int) < (k : Int)) = false := by simp
          clear HX1 HW1
          go_wp2
          have HX1 := HX
          have HW1 := HWb
          clear HX HWb x0 x1 x34 s0 s1 s2
          generalize wr = w5 at HX1 HW1 ⊢
          go_loopw [91] (fun v91 w' => ∃ j : Nat, j ≤ n ∧ v91 = .int .i64 (j : Int) ∧ Hid (Bx w' sb xb f [.int .i64 (s : Int), .slice (some ⟨fb, fo, none⟩) fs.length fc, .slice Al ss.length lc]) ∧ Hid (Below w.heap.size w w')) (fun v91 _ => n - (intOf v91).toNat)
          case atStart => exact ⟨0, by omega, rfl, HX1, HW1⟩
          case round =>
            obtain ⟨j, hjn, rfl, HX, HWb⟩ := hrel
            obtain ⟨x0, x1, x34, s0, s1, s2⟩ := HX.out.cells HZ.out HFi.out HO.out.dig
            by_cases hjl : j < n
            · obtain ⟨x, hx, hxs⟩ := HSl.out j hjl
              obtain ⟨lb, lo, rfl, hrl⟩ := HR.out.2 (by omega)
              have y0 : wr.cell? ⟨lb, lo + (nx + j) * 34, none⟩ = some (.int .i64 x.size) := range_kept HWb.out (range_at (m := 34) (fun x hx => SliceR.len (HF.out.dig x hx)) hrl hx) 0 _ rfl
              have tj : decide ((j : Int) < (n : Int)) = true := decide_eq_true (by omega)
              have HEJ : Hid (((j + 1 : Nat) : Int) = (j : Int) + 1) := Lib.hid (by omega)
              clear hx hrl HX1 HW1
              by_cases hlast : j + 1 = n
              · rw [if_pos hlast] at hxs
                have hb : ((j : Int) == (n : Int) - 1) = true := beq_iff_eq.2 (by omega)
                rw [hxs] at y0
                obtain ⟨p, hp⟩ : ∃ p : Int, p = (j : Int) * (s : Int) := ⟨_, rfl⟩
                have hp1 : 0 ≤ p ∧ p ≤ 30000 := by
                  have h1 : (n - 1) * s ≤ z - 1 := by
                    have h2 := HNn.out
                    unfold cnt at h2
                    split at h2
                    · omega
                    · have h3 := Nat.div_mul_le_self (z - 1) s
                      have h4 : n - 1 = (z - 1) / s := by omega
                      rw [h4]; exact h3
                  have h5 : j = n - 1 := by omega
                  rw [hp, h5]
                  have h6 : ((n - 1 : Nat) : Int) * (s : Int) = (((n - 1) * s : Nat) : Int) := by push_cast; rfl
                  rw [h6]; omega
                rw [← hp] at y0
                have hmul : (j : Int) * (s : Int) = p := hp.symm
                clear hp hxs
                go_wp2
                refine ⟨⟨j + 1, by omega, by norm_cast, HX, HWb⟩, ?_⟩
                simp only [intOf]; omega
              · rw [if_neg hlast] at hxs
                have hb : ((j : Int) == (n : Int) - 1) = false := beq_eq_false_iff_ne.2 (by omega)
                rw [hxs] at y0
                clear hxs
                go_wp2
                refine ⟨⟨j + 1, by omega, by norm_cast, HX, HWb⟩, ?_⟩
                simp only [intOf]; omega
            · obtain rfl : j = n := by omega
              have tj : decide ((j : Int) < (j : Int)) = false := by simp
              clear HX1 HW1
              go_wp2
              refine ⟨⟨k + 1, by omega, by norm_cast, by rw [HNx.out]; norm_cast, HWb, Lib.hid HX.out.2, Lib.hid (by rw [HNx.out]; omega)⟩, ?_⟩
              simp only [intOf]; omega
    · obtain rfl : i = fs.length := by omega
      have tl : decide ((fs.length : Int) < (fs.length : Int)) = false := by simp
      rw [HF.out.all]
      go_wp2
      go_ret
      exact ⟨rfl, hw.out⟩
end Go.Proofs.YtlmgikhgmbjfdaaDoor.Cuts
/- Files that can be cut make a set that is formed: the plain law. -/
namespace Go.Proofs.YtlmgikhgmbjfdaaDoor.Cuts
open Go Go.RowKit Gy

theorem chunks_length {s : Nat} (hs : 0 < s) : ∀ (n : Nat) (b : List Int), b.length ≤ n → (chunks s b).length = cnt s b.length := by
  intro n
  induction n with
  | zero => intro b h; obtain rfl : b = [] := List.eq_nil_of_length_eq_zero (by omega); rfl
  | succ n ih =>
    intro b h
    by_cases h0 : b.length = 0
    · obtain rfl : b = [] := List.eq_nil_of_length_eq_zero h0; rfl
    · rw [chunks_step hs (by omega), List.length_cons, ih _ (by rw [List.length_drop]; omega), List.length_drop]
      unfold cnt
      rw [if_neg h0]
      by_cases h1 : b.length - s = 0
      · rw [if_pos h1, Nat.div_eq_of_lt (by omega)]
      · rw [if_neg h1]
        have e : b.length - 1 = (b.length - s - 1) + s := by omega
        rw [e, Nat.add_div_right _ hs]
theorem chunks_at {s : Nat} (hs : 0 < s) : ∀ (k : Nat) (b : List Int), k < cnt s b.length → (chunks s b)[k]? = some ((b.drop (k * s)).take s) := by
  intro k
  induction k with
  | zero =>
    intro b h
    have h0 : 0 < b.length := by
      rcases Nat.eq_zero_or_pos b.length with h1 | h1
      · rw [h1] at h; exact absurd h (Nat.not_lt_zero _)
      · exact h1
    rw [chunks_step hs h0, Nat.zero_mul]; rfl
  | succ k ih =>
    intro b h
    have h0 : 0 < b.length := by
      rcases Nat.eq_zero_or_pos b.length with h1 | h1
      · rw [h1] at h; exact absurd h (Nat.not_lt_zero _)
      · exact h1
    have hc := chunks_length hs _ b (Nat.le_refl _)
    have hc2 := chunks_length hs _ (b.drop s) (Nat.le_refl _)
    rw [chunks_step hs h0] at hc ⊢
    rw [List.length_cons] at hc
    rw [List.getElem?_cons_succ, ih (b.drop s) (by omega), List.drop_drop]
    congr 3
    rw [Nat.succ_mul]; omega
theorem cnt_low {s n k : Nat} (h : k < cnt s n) : k * s < n := by
  unfold cnt at h
  split at h
  · omega
  · have h1 := Nat.div_mul_le_self (n - 1) s
    have h2 : k * s ≤ (n - 1) / s * s := Nat.mul_le_mul_right s (by omega)
    omega
theorem cnt_high {s n k : Nat} (hs : 0 < s) (h : k + 1 = cnt s n) : n ≤ k * s + s := by
  unfold cnt at h
  split at h
  · omega
  · have h1 := Nat.lt_div_mul_add (a := n - 1) hs
    have h2 : k = (n - 1) / s := by omega
    rw [← h2] at h1
    omega
theorem chunk_len {s : Nat} (hs : 0 < s) {b : List Int} {k : Nat} (hk : k < cnt s b.length) : ((b.drop (k * s)).take s).length = if k + 1 = cnt s b.length then b.length - k * s else s := by
  have h1 := cnt_low hk
  rw [List.length_take, List.length_drop]
  split
  · rename_i h
    have := cnt_high hs h
    omega
  · rename_i h
    have h2 := cnt_low (s := s) (n := b.length) (k := k + 1) (by omega)
    rw [Nat.succ_mul] at h2
    omega
/-- the files of a set, from a place on -/
def filesFrom (s : Nat) : Nat → List Inp → List FileR
  | _, [] => []
  | n, x :: l => ⟨x.name, x.b.length, sha x.b, (n : Nat)⟩ :: filesFrom s (n + cnt s x.b.length) l
def srcOf (s : Nat) (l : List Inp) : List (List Int) := l.flatMap fun x => chunks s x.b
theorem addAll_form {s : Nat} (hs : 0 < s) : ∀ (l : List Inp) (st : Cut), Cut.addAll s st l = ⟨st.files ++ filesFrom s st.src.length l, st.slices ++ (srcOf s l).map sliceOf, st.src ++ srcOf s l⟩
  | [], st => by simp [Cut.addAll, filesFrom, srcOf]
  | x :: l, st => by
    show Cut.addAll s ((st.addF x).addCs (chunks s x.b)) l = _
    rw [addAll_form hs l, Cut.addCs_form]
    simp only [Cut.addF, srcOf, filesFrom, List.flatMap_cons, List.map_append, List.append_assoc, List.length_append, chunks_length hs _ x.b (Nat.le_refl _), List.singleton_append]
theorem cutOf_form {s : Nat} (hs : 0 < s) (l : List Inp) : cutOf s l = ⟨filesFrom s 0 l, (srcOf s l).map sliceOf, srcOf s l⟩ := by
  unfold cutOf
  rw [addAll_form hs]
  simp
theorem filesFrom_length (s : Nat) : ∀ (l : List Inp) (n : Nat), (filesFrom s n l).length = l.length
  | [], _ => rfl
  | _ :: l, n => by rw [filesFrom, List.length_cons, List.length_cons, filesFrom_length s l]
theorem filesFrom_at (s : Nat) : ∀ (l : List Inp) (n i : Nat) (f : FileR), (filesFrom s n l)[i]? = some f → ∃ x, l[i]? = some x ∧ f = ⟨x.name, x.b.length, sha x.b, ((n + cntAll s (l.take i) : Nat) : Int)⟩
  | [], n, i, f, h => by simp [filesFrom] at h
  | x :: l, n, 0, f, h => by
    simp only [filesFrom, List.getElem?_cons_zero, Option.some.injEq] at h
    exact ⟨x, rfl, by rw [← h]; simp [cntAll]⟩
  | x :: l, n, i + 1, f, h => by
    obtain ⟨y, hy, e⟩ := filesFrom_at s l (n + cnt s x.b.length) i f (by simpa [filesFrom] using h)
    refine ⟨y, by simpa using hy, ?_⟩
    rw [e]
    congr 2
    simp [cntAll]; omega
theorem filesFrom_map (s : Nat) : ∀ (l : List Inp) (n : Nat), (filesFrom s n l).map (fun f => cnt s f.size.toNat) = l.map fun x => cnt s x.b.length
  | [], _ => rfl
  | x :: l, n => by rw [filesFrom, List.map_cons, List.map_cons, filesFrom_map s l]; simp
theorem nextAt_form (s : Nat) (l : List Inp) (n i : Nat) : nextAt s (filesFrom s n l) i = cntAll s (l.take i) := by
  unfold nextAt cntAll
  rw [List.map_take, List.map_take, filesFrom_map]
theorem srcOf_length {s : Nat} (hs : 0 < s) : ∀ (l : List Inp), (srcOf s l).length = cntAll s l
  | [] => rfl
  | x :: l => by
    have ih := srcOf_length hs l
    simp only [srcOf, cntAll, List.flatMap_cons, List.length_append, List.map_cons, List.sum_cons, chunks_length hs _ x.b (Nat.le_refl _)] at ih ⊢
    omega
theorem srcOf_at {s : Nat} (hs : 0 < s) : ∀ (l : List Inp) (i : Nat) (x : Inp), l[i]? = some x → ∀ k, k < cnt s x.b.length → (srcOf s l)[cntAll s (l.take i) + k]? = (chunks s x.b)[k]?
  | [], i, x, h, k, _ => by simp at h
  | y :: l, 0, x, h, k, hk => by
    simp only [List.getElem?_cons_zero, Option.some.injEq] at h
    subst h
    have e : cntAll s ((y :: l).take 0) + k = k := by simp [cntAll]
    rw [e]
    show (chunks s y.b ++ srcOf s l)[k]? = _
    rw [List.getElem?_append_left (by rw [chunks_length hs _ _ (Nat.le_refl _)]; exact hk)]
  | y :: l, i + 1, x, h, k, hk => by
    have ih := srcOf_at hs l i x (by simpa using h) k hk
    have e : cntAll s ((y :: l).take (i + 1)) + k = (chunks s y.b).length + (cntAll s (l.take i) + k) := by
      rw [chunks_length hs _ _ (Nat.le_refl _)]
      simp [cntAll]; omega
    rw [e]
    show (chunks s y.b ++ srcOf s l)[_]? = _
    rw [List.getElem?_append_right (by omega), Nat.add_sub_cancel_left]
    exact ih
theorem twice_apart : ∀ (l : List Inp) (L : List ByteArray), twice L l = false → (∀ (i : Nat) (x : Inp), l[i]? = some x → ¬ x.name ∈ L) ∧ ∀ (j i : Nat) (x y : Inp), j < i → l[j]? = some y → l[i]? = some x → y.name ≠ x.name
  | [], L, _ => ⟨fun i x h => by simp at h, fun j i x y _ h _ => by simp at h⟩
  | z :: l, L, h => by
    have h' : (memB z.name L || twice (z.name :: L) l) = false := h
    rw [Bool.or_eq_false_iff] at h'
    obtain ⟨h1, h2⟩ := twice_apart l (z.name :: L) h'.2
    refine ⟨fun i x hx => ?_, fun j i x y hji hy hx => ?_⟩
    · cases i with
      | zero =>
        simp only [List.getElem?_cons_zero, Option.some.injEq] at hx
        subst hx
        intro hm
        rw [memB_iff.2 hm] at h'
        exact absurd h'.1 (by decide)
      | succ i => exact fun hm => h1 i x (by simpa using hx) (List.mem_cons_of_mem _ hm)
    · cases i with
      | zero => omega
      | succ i =>
        have hx2 : l[i]? = some x := by simpa using hx
        cases j with
        | zero =>
          simp only [List.getElem?_cons_zero, Option.some.injEq] at hy
          subst hy
          exact fun e => h1 i x hx2 (by rw [e]; exact List.mem_cons_self)
        | succ j => exact h2 j i x y (by omega) (by simpa using hy) hx2
theorem chk2_zero {s : Nat} {l : List Inp} (h : chk2 s l = 0) : okAll l = true ∧ twice [] l = false ∧ cntAll s l ≤ 64 := by
  unfold chk2 at h
  split at h
  · cases h
  · rename_i h1
    split at h
    · cases h
    · rename_i h2
      split at h
      · cases h
      · rename_i h3
        exact ⟨by simpa using h1, by simpa using h2, by omega⟩
theorem formed_cut {s : Nat} {l : List Inp} (hs1 : 1 ≤ s) (hs2 : s ≤ 256) (hn1 : 1 ≤ l.length) (hn2 : l.length ≤ 8) (hsz : lensOf l ≤ 30000) (hnm : ∀ x ∈ l, x.name.size ≤ 30000) (h : chk2 s l = 0) : FormedL s (cutOf s l).files (cutOf s l).slices := by
  obtain ⟨h1, h2, h3⟩ := chk2_zero h
  rw [cutOf_form hs1]
  have hlen := filesFrom_length s l 0
  have hsl := srcOf_length hs1 l
  refine ⟨hs1, hs2, by rw [hlen]; exact hn1, by rw [hlen]; exact hn2, by rw [List.length_map, hsl]; exact h3, ?_, fun i f hf => ?_, ?_⟩
  · intro x hx
    obtain ⟨c, -, rfl⟩ := List.mem_map.1 hx
    exact Gy.sha_length _
  · obtain ⟨x, hx, rfl⟩ := filesFrom_at s l 0 i f hf
    have hm := List.mem_of_getElem? hx
    have hle : cntAll s (l.take i) + cnt s x.b.length ≤ cntAll s l := by
      rw [← cntAll_drop hx]
      have : cntAll s l = cntAll s (l.take (i + 1)) + cntAll s (l.drop (i + 1)) := by
        unfold cntAll
        rw [← List.sum_append, ← List.map_append, List.take_append_drop]
      omega
    refine ⟨List.all_eq_true.1 h1 x hm, hnm x hm, Gy.sha_length _, ⟨x.b.length, rfl, Nat.le_trans (lensOf_at hx) hsz⟩, ?_, ?_, fun j g hj hg => ?_, fun k hk => ?_⟩
    · rw [nextAt_form, Nat.zero_add]
    · rw [nextAt_form, List.length_map, hsl, Int.toNat_natCast]; exact hle
    · obtain ⟨y, hy, rfl⟩ := filesFrom_at s l 0 j g hg
      exact (twice_apart l [] h2).2 j i x y hj hy hx
    · rw [Int.toNat_natCast] at hk ⊢
      refine ⟨sliceOf ((x.b.drop (k * s)).take s), ?_, ?_⟩
      · rw [nextAt_form, List.getElem?_map, srcOf_at hs1 l i x hx k hk, chunks_at hs1 k x.b hk]; rfl
      · show ((((x.b.drop (k * s)).take s).length : Nat) : Int) = _
        rw [chunk_len hs1 hk]
        have := cnt_low hk
        split
        · have e : ((x.b.length - k * s : Nat) : Int) = (x.b.length : Int) - ((k * s : Nat) : Int) := by omega
          rw [e]; push_cast; rfl
        · rfl
  · rw [nextAt_form, hlen, List.take_of_length_le (Nat.le_refl _), List.length_map, hsl]
end Go.Proofs.YtlmgikhgmbjfdaaDoor.Cuts
/- Package cut: Make of files that can be cut. -/
namespace Go.Proofs.YtlmgikhgmbjfdaaDoor.Cuts
open Go Go.RowKit Go.Proofs.YtlmgikhgmbjfdaaDoorW.PrintWords Go.Proofs.YtlmgikhgmbjfdaaDoorW.PrintLast Go.Proofs.YtlmgikhgmbjfdaaDoorW.PrintMore Gy

/-- what Make hands back, in memory -/
structure MkOut (w wr : World) (ρ : Nat → Nat) (fv lv rv : Value) (ks : List Value) (st : Cut) : Prop where
  bel : Below w.heap.size w wr
  f : Gy.Rows wr ρ w.heap.size 2 43 35 fv st.files.length (st.files.flatMap FileR.cells)
  l : Gy.Rows wr ρ w.heap.size 3 38 34 lv st.slices.length (st.slices.flatMap SliceR.cells)
  r : Gy.Rows wr ρ w.heap.size 4 39 1 rv st.src.length ks
  c : Each (fun k row => Gy.Rows wr ρ w.heap.size 5 5 1 k row.length (nums .u8 row)) ks st.src
theorem MkOut.below {w wr wr' : World} {ρ : Nat → Nat} {fv lv rv : Value} {ks : List Value} {st : Cut} (h : MkOut w wr ρ fv lv rv ks st) (hb : Below wr.heap.size wr wr') : MkOut w wr' ρ fv lv rv ks st :=
  ⟨h.bel.trans (hb.mono h.bel.size), h.f.below hb, h.l.below hb, h.r.below hb, h.c.mono fun _ _ g => g.below hb⟩
theorem info_set : (Tryd.prog.info? 28).map (·.size) = some 3 := by kernel_rfl
theorem fin_set {f : Func} (hf : f.results = #[.cell 4 28, .tmp 5, .tmp 6]) {tmps : Array Value} {w : World} {b : Nat} {k5 k6 : Value} {vs : List Value} (hl : vs.length = 3) (hp : tmps.getD 4 undef = .pointer (some ⟨b, 0, none⟩)) (h5 : tmps.getD 5 undef = k5) (h6 : tmps.getD 6 undef = k6) (h : Gy.Arr w b vs) :
    (results f tmps).run Tryd.prog w = .ok (.tuple #[.agg vs.toArray, k5, k6]) w := by
  have hT : (loadVar 28 ⟨b, 0, none⟩).run Tryd.prog w = .ok (.agg vs.toArray) w := h.loadV Tryd.underlying28 rfl (by rw [hl]; exact info_set)
  unfold results
  rw [hf]
  have e : #[ResultVar.cell 4 28, ResultVar.tmp 5, ResultVar.tmp 6] = [ResultVar.cell 4 28, ResultVar.tmp 5, ResultVar.tmp 6].toArray := rfl
  rw [e, List.mapM_toArray]
  simp only [Sem.run_bind, Sem.run_map]
  have hp2 : tmps[4]?.getD undef = .pointer (some ⟨b, 0, none⟩) := by rw [← hp, Array.getD_eq_getD_getElem?]
  have h52 : tmps[5]?.getD undef = k5 := by rw [← h5, Array.getD_eq_getD_getElem?]
  have h62 : tmps[6]?.getD undef = k6 := by rw [← h6, Array.getD_eq_getD_getElem?]
  simp [List.mapM_cons, hp2, h52, h62, asAddr, hT]
/-- the start -/
theorem mk_start {w w2 : World} (T T2 : TypeId) (s : Nat) (hd : Below (w.alloc (.cells #[.int .i64 0, .slice none 0 0, .slice none 0 0] T)).heap.size (w.alloc (.cells #[.int .i64 0, .slice none 0 0, .slice none 0 0] T)) w2) :
    Mk w (w2.alloc (.cells #[.int .i64 (s : Int), .slice none 0 0, .slice none 0 0] T2)) (fun k => if k = w.heap.size then 0 else 1) w2.heap.size [.int .i64 (s : Int), .slice none 0 0, .slice none 0 0] (.slice none 0 0) (.slice none 0 0) (.slice none 0 0) [] ⟨[], [], []⟩ := by
  have e : (w.alloc (.cells #[.int .i64 0, .slice none 0 0, .slice none 0 0] T)).heap.size = w.heap.size + 1 := Gy.size_alloc' _ _
  have hlt : w.heap.size < w2.heap.size := by have := hd.size; omega
  exact ⟨((Below.refl w.heap.size w).alloc (Nat.le_refl _) _).trans (hd.mono (by omega)) |>.alloc (Nat.le_of_lt hlt) _,
    ⟨((Gy.Arr.fresh w [.int .i64 0, .slice none 0 0, .slice none 0 0] _ rfl T).below hd).alloc _, if_pos rfl⟩, Nat.le_of_lt hlt, ⟨Gy.Arr.fresh w2 [.int .i64 (s : Int), .slice none 0 0, .slice none 0 0] _ rfl T2, if_neg (by omega)⟩,
    Rows.nil _ _ _ _ _ _, Rows.nil _ _ _ _ _ _, Rows.nil _ _ _ _ _ _, trivial⟩
theorem _root_.Gy.Mk.done {w wr : World} {ρ : Nat → Nat} {SB : Nat} {cs : List Value} {fv lv rv : Value} {ks : List Value} {st : Cut} (h : Mk w wr ρ SB cs fv lv rv ks st) (v0 v1 v2 : Value) :
    MkOut w (((wr.setCell ⟨w.heap.size, 0, none⟩ v0).setCell ⟨w.heap.size, 1, none⟩ v1).setCell ⟨w.heap.size, 2, none⟩ v2) ρ fv lv rv ks st ∧ Gy.Arr (((wr.setCell ⟨w.heap.size, 0, none⟩ v0).setCell ⟨w.heap.size, 1, none⟩ v1).setCell ⟨w.heap.size, 2, none⟩ v2) w.heap.size [v0, v1, v2] := by
  have t : Turn wr (((wr.setCell ⟨w.heap.size, 0, none⟩ v0).setCell ⟨w.heap.size, 1, none⟩ v1).setCell ⟨w.heap.size, 2, none⟩ v2) ρ ρ 0 := ((Turn.set 0 v0 h.res.role).trans (.set 1 v1 h.res.role)).trans (.set 2 v2 h.res.role)
  have b : ∀ {W : World} (i : Nat) (v : Value), Below w.heap.size w W → Below w.heap.size w (W.setCell ⟨w.heap.size, i, none⟩ v) := fun i v hb => hb.setCell (Nat.le_refl _) v
  exact ⟨⟨b 2 v2 (b 1 v1 (b 0 v0 h.bel)), h.f.turn t (by omega), h.l.turn t (by omega), h.r.turn t (by omega), h.c.mono fun _ _ g => g.turn t (by omega)⟩, ((h.res.arr.set (i := 0) (by simp) v0).set (i := 1) (by simp) v1).set (i := 2) (by simp) v2⟩
set_option maxHeartbeats 4000000 in
set_option maxRecDepth 100000 in
theorem make_calls {w : World} {LB lo cl : Nat} {s : Nat} {l : List Inp} (hs1 : 1 ≤ s) (hs2 : s ≤ 256) (hI : InAt w LB lo l) (hln : l.length ≤ 50) (hsz : lensOf l ≤ 30000)
    (hchk : ∀ W, Below w.heap.size w W → Calls Tryd.prog 26 #[.slice (some ⟨LB, lo, none⟩) l.length cl, .int .i64 (s : Int)] W fun e w' => e = .returned (.int .i64 0) ∧ Below W.heap.size W w') :
    Calls Tryd.prog 8 #[.slice (some ⟨LB, lo, none⟩) l.length cl, .int .i64 (s : Int)] w fun e w' => ∃ ρ fv lv rv ks, e = .returned (.tuple #[.agg #[.int .i64 (s : Int), fv, lv], rv, .int .i64 0]) ∧ MkOut w w' ρ fv lv rv ks (cutOf s l) := by
  have HI := Lib.hid hI
  have HC := Lib.hid hchk
  have HL := Lib.hid (And.intro hln hsz)
  clear hI hchk hln hsz
  go_enter Tryd.func8, Tryd.ntmps8
  go_wp2_with (go_at_call 26; refine (HC.out _ ((Below.refl w.heap.size w).alloc (Nat.le_refl _) _)).mono ?_; rintro e w2 ⟨rfl, hd⟩; have HD := Lib.hid hd; clear hd)
  refine o_loop (LB := LB) (lo := lo) (cl := cl) (st := ⟨[], [], []⟩) _ hs1 hs2 HI.out HL.out.1 HL.out.2 ⟨rfl, rfl, rfl, rfl, rfl, rfl, rfl, rfl, rfl, rfl, trivial⟩ (mk_start _ _ s HD.out) rfl rfl rfl ?_
  intro a' w' ρ' fv' lv' rv' ks' g1 g2
  obtain ⟨u, e⟩ := g1.out
  have e2 : a' = ⟨#[.slice (some ⟨LB, lo, none⟩) l.length cl, .int .i64 (s : Int), u 2, u 3, .pointer (some ⟨w.heap.size, 0, none⟩), u 5, u 6, u 7, .pointer (some ⟨w2.heap.size, 0, none⟩), rv', u 10, u 11, u 12, u 13, u 14, u 15, u 16, u 17, u 18, u 19, u 20, u 21, u 22, .slice (some ⟨LB, lo, none⟩) l.length cl, .int .i64 (l.length : Int), .int .i64 (l.length : Int), u 26, u 27, u 28, u 29, u 30, u 31, u 32, u 33, u 34, u 35, u 36, u 37, u 38, u 39, u 40, u 41, u 42, u 43, u 44, u 45, u 46, u 47, u 48, u 49, u 50, u 51, u 52, u 53, u 54, u 55, u 56, u 57, u 58, u 59, u 60, u 61, u 62, u 63, u 64, u 65, u 66, u 67, u 68, u 69, u 70, u 71, u 72, u 73, u 74, u 75, u 76, u 77, u 78, u 79, u 80, u 81], []⟩ := e
  rw [e2]
  clear e e2 g1
  have HM := Lib.hid g2
  have s0 := g2.s.arr.cell (i := 0) (v := .int .i64 (s : Int)) rfl
  have s1 := g2.s.arr.cell (i := 1) (v := fv') rfl
  have s2 := g2.s.arr.cell (i := 2) (v := lv') rfl
  have r0 := g2.res.arr.cell (i := 0) (v := .int .i64 0) rfl
  have r1 := g2.res.arr.cell (i := 1) (v := .slice none 0 0) rfl
  have r2 := g2.res.arr.cell (i := 2) (v := .slice none 0 0) rfl
  have rf := g2.res.arr.fr
  obtain ⟨Af, cf, hfv⟩ := Gy.own_slice g2.f.own
  obtain ⟨Al, cl', hlv⟩ := Gy.own_slice g2.l.own
  clear g2
  subst hfv hlv
  go_wp2
  obtain ⟨hO, hA⟩ := HM.out.done (.int .i64 (s : Int)) (.slice Af (cutOf s l).files.length cf) (.slice Al (cutOf s l).slices.length cl')
  exact bodyPost_ret (fin_set rfl rfl rfl rfl rfl hA) rfl ⟨ρ', _, _, rv', ks', rfl, hO⟩
end Go.Proofs.YtlmgikhgmbjfdaaDoor.Cuts
/- Package cut: what Make hands back, as it is read. -/
namespace Go.Proofs.YtlmgikhgmbjfdaaDoor.Cuts
open Go Go.RowKit Go.Proofs.YtlmgikhgmbjfdaaDoorW.PrintWords Go.Proofs.YtlmgikhgmbjfdaaDoorW.PrintLast Go.Proofs.YtlmgikhgmbjfdaaDoorW.PrintMore Gy

theorem own_range {w : World} {base : Nat} {e : TypeId} {size n : Nat} {A : Option Addr} {c : Nat} {xs : List Value} (h : w.ownsRow base e size (.slice A n c) n xs) (hn : 0 < n) : ∃ g, A = some ⟨g, 0, none⟩ ∧ n ≤ c ∧ w.rangeAt g 0 xs := by
  rcases h.2 with ⟨_, h0⟩ | ⟨g, cap, cur, hv, hb, hg, hc, _⟩
  · omega
  · injection hv with h1 h2 h3
    refine ⟨g, h1, by omega, fun j u hu => ?_⟩
    have h5 := h.cells (g := g) (by rw [h1]; rfl) j u hu
    rw [Addr.add_mid] at h5
    exact h5
/-- files, slices and sources, in memory -/
structure SetRd (W : World) (fb : Nat) (Al Ar : Option Addr) (fs : List FileR) (ss : List SliceR) (src : List (List Int)) : Prop where
  f : W.rangeAt fb 0 (fs.flatMap FileR.cells)
  l : 0 < ss.length → ∃ lb lo, Al = some ⟨lb, lo, none⟩ ∧ W.rangeAt lb lo (ss.flatMap SliceR.cells)
  r : ∀ (i : Nat) (row : List Int), src[i]? = some row → ∃ rb g c, Ar = some ⟨rb, 0, none⟩ ∧ W.cell? ⟨rb, i, none⟩ = some (.slice (some ⟨g, 0, none⟩) row.length c) ∧ row.length ≤ c ∧ ReadsInt W .u8 (some ⟨g, 0, none⟩) row.length row
theorem SetRd.below {W W' : World} {fb : Nat} {Al Ar : Option Addr} {fs : List FileR} {ss : List SliceR} {src : List (List Int)} (h : SetRd W fb Al Ar fs ss src) (hb : Below W.heap.size W W') : SetRd W' fb Al Ar fs ss src :=
  ⟨range_kept hb h.f, fun h0 => by obtain ⟨lb, lo, e, g⟩ := h.l h0; exact ⟨lb, lo, e, range_kept hb g⟩, fun i row hr => by obtain ⟨rb, g, c, e, g1, g2, g3⟩ := h.r i row hr; exact ⟨rb, g, c, e, cell_kept hb g1, g2, Gy.reads_below g3 hb⟩⟩
theorem chunk_ne {s : Nat} (hs : 0 < s) {l : List Inp} {row : List Int} (h : row ∈ srcOf s l) : 0 < row.length ∧ row.length ≤ s := by
  obtain ⟨x, _, hr⟩ := List.mem_flatMap.1 h
  obtain ⟨k, hk⟩ := List.getElem?_of_mem hr
  have hl : k < cnt s x.b.length := by
    have := (List.getElem?_eq_some_iff.1 hk).1
    rwa [chunks_length hs _ _ (Nat.le_refl _)] at this
  rw [chunks_at hs k x.b hl] at hk
  injection hk with hk
  have h1 := cnt_low hl
  rw [← hk, List.length_take, List.length_drop]
  omega
theorem chunk_bytes {s : Nat} {l : List Inp} (hb : ∀ x ∈ l, Bytes x.b) (hs : 0 < s) {row : List Int} (h : row ∈ srcOf s l) : Bytes row := by
  obtain ⟨x, hx, hr⟩ := List.mem_flatMap.1 h
  obtain ⟨k, hk⟩ := List.getElem?_of_mem hr
  have hl : k < cnt s x.b.length := by
    have := (List.getElem?_eq_some_iff.1 hk).1
    rwa [chunks_length hs _ _ (Nat.le_refl _)] at this
  rw [chunks_at hs k x.b hl] at hk
  injection hk with hk
  rw [← hk]
  exact ((hb x hx).drop _).take _
theorem make_ok {w : World} {LB lo cl s : Nat} {l : List Inp} (hs1 : 1 ≤ s) (hs2 : s ≤ 256) (hI : InAt w LB lo l) (hn1 : 1 ≤ l.length) (hln : l.length ≤ 50) (hsz : lensOf l ≤ 30000)
    (hchk : ∀ W, Below w.heap.size w W → Calls Tryd.prog 26 #[.slice (some ⟨LB, lo, none⟩) l.length cl, .int .i64 (s : Int)] W fun e w' => e = .returned (.int .i64 0) ∧ Below W.heap.size W w') :
    Calls Tryd.prog 8 #[.slice (some ⟨LB, lo, none⟩) l.length cl, .int .i64 (s : Int)] w fun e w' => ∃ fb fc Al lc Ar rc, e = .returned (.tuple #[.agg #[.int .i64 (s : Int), .slice (some ⟨fb, 0, none⟩) l.length fc, .slice Al (cntAll s l) lc], .slice Ar (cntAll s l) rc, .int .i64 0]) ∧ SetRd w' fb Al Ar (filesFrom s 0 l) ((srcOf s l).map sliceOf) (srcOf s l) ∧ Below w.heap.size w w' := by
  refine (make_calls hs1 hs2 hI hln hsz hchk).mono fun e w' h => ?_
  obtain ⟨ρ, fv, lv, rv, ks, rfl, hO⟩ := h
  rw [cutOf_form hs1] at hO
  have e1 : (filesFrom s 0 l).length = l.length := filesFrom_length s l 0
  have e2 : ((srcOf s l).map sliceOf).length = cntAll s l := by rw [List.length_map, srcOf_length hs1]
  have e3 : (srcOf s l).length = cntAll s l := srcOf_length hs1 l
  have hf := hO.f.own
  have hl := hO.l.own
  have hr := hO.r.own
  have hc := hO.c
  have hbel := hO.bel
  clear hO
  rw [show (⟨filesFrom s 0 l, (srcOf s l).map sliceOf, srcOf s l⟩ : Cut).files.length = l.length from e1] at hf
  rw [show (⟨filesFrom s 0 l, (srcOf s l).map sliceOf, srcOf s l⟩ : Cut).slices.length = cntAll s l from e2] at hl
  rw [show (⟨filesFrom s 0 l, (srcOf s l).map sliceOf, srcOf s l⟩ : Cut).src.length = cntAll s l from e3] at hr
  obtain ⟨Af, fc, rfl⟩ := Gy.own_slice hf
  obtain ⟨Al, lc, rfl⟩ := Gy.own_slice hl
  obtain ⟨Ar, rc, rfl⟩ := Gy.own_slice hr
  obtain ⟨fb, rfl, -, rf⟩ := own_range hf hn1
  refine ⟨fb, fc, Al, lc, Ar, rc, rfl, ⟨rf, fun h0 => ?_, fun i row hrow => ?_⟩, hbel⟩
  · obtain ⟨lb, rfl, -, rl⟩ := own_range hl (by rw [e2] at h0; exact h0)
    exact ⟨lb, 0, rfl, rl⟩
  · have hi : i < cntAll s l := by
      have := (List.getElem?_eq_some_iff.1 hrow).1
      rwa [e3] at this
    obtain ⟨rb, rfl, -, rr⟩ := own_range hr (by omega)
    obtain ⟨v, hv, hk⟩ := hc.at i row hrow
    have hne := (chunk_ne hs1 (List.mem_of_getElem? hrow))
    obtain ⟨g, c, rfl, hcc, -, -⟩ := own_some1 hk.own hne.1
    have h9 := rr i _ hv
    rw [Nat.zero_add] at h9
    exact ⟨rb, g, c, rfl, h9, hcc, Gy.own_reads hk.own rfl (by omega)⟩
end Go.Proofs.YtlmgikhgmbjfdaaDoor.Cuts
/- The walks over the reference: a word turned leaves the world as it is; small facts. -/
namespace Go.Proofs.YtlmgikhgmbjfdaaDoor.Dig
open Go Go.RowKit Go.Proofs.YtlmgikhgmbjfdaaDoor.QDig Go.Proofs.YtlmgikhgmbjfdaaDoorW.PrintWords Go.Proofs.YtlmgikhgmbjfdaaDoorW.PrintLast Go.Proofs.YtlmgikhgmbjfdaaDoorW.PrintMore Gy

set_option maxHeartbeats 8000000 in
set_option maxRecDepth 100000 in
theorem turned_some (a0 : Int) (a1 : Int) (r : Int) (w : World) (h : geyserref01_turned.f a0 a1 = some r) :
    Calls Tryd.prog 33 #[.int .u64 a0, .int .u64 a1] w fun e w' => e = .returned (.int .u64 r) ∧ w' = w := by
  have H : (if 0 ≤ a1 then (if 0 ≤ (IntKind.u64.wrap (32 - a1)) then (some (Go.bits .and .u64 (Go.bits .or .u64 (shr .u64 a0 a1) (shl .u64 a0 (IntKind.u64.wrap (32 - a1)))) 4294967295)) else (none)) else (none)) = some r := h
  clear h
  by_cases c3 : 0 ≤ a1
  · rw [if_pos c3] at H
    have c3b0 := eq_true c3
    have c3b1 : decide (0 ≤ a1) = true := decide_eq_true c3
    clear c3
    obtain ⟨ji4, hji4⟩ : ∃ j_ : Int, (shr .u64 a0 a1) = j_ := ⟨_, rfl⟩
    replace H : (if 0 ≤ (IntKind.u64.wrap (32 - a1)) then (some (Go.bits .and .u64 (Go.bits .or .u64 (ji4) (shl .u64 a0 (IntKind.u64.wrap (32 - a1)))) 4294967295)) else (none)) = some r := by first | (rw [hji4] at H; exact H) | (simp only [hji4] at H ⊢; exact H)
    have hji4_ : (a0 / 2 ^ min a1.toNat 64) = ji4 := hji4
    have hji4z : a1 ≤ 64 → (a0 / 2 ^ a1.toNat) = ji4 := shr_small hji4
    obtain ⟨ji5, hji5⟩ : ∃ j_ : Int, (IntKind.u64.wrap (32 - a1)) = j_ := ⟨_, rfl⟩
    replace H : (if 0 ≤ (ji5) then (some (Go.bits .and .u64 (Go.bits .or .u64 (ji4) (shl .u64 a0 (ji5))) 4294967295)) else (none)) = some r := by first | (rw [hji5] at H; exact H) | (simp only [hji5] at H ⊢; exact H)
    by_cases c6 : 0 ≤ (ji5)
    · rw [if_pos c6] at H
      have c6b0 := eq_true c6
      have c6b1 : decide (0 ≤ (ji5)) = true := decide_eq_true c6
      clear c6
      obtain ⟨ji7, hji7⟩ : ∃ j_ : Int, (shl .u64 a0 (ji5)) = j_ := ⟨_, rfl⟩
      replace H : (some (Go.bits .and .u64 (Go.bits .or .u64 (ji4) (ji7)) 4294967295)) = some r := by first | (rw [hji7] at H; exact H) | (simp only [hji7] at H ⊢; exact H)
      have hji7_ : (IntKind.u64.wrap (a0 * 2 ^ min (ji5).toNat 64)) = ji7 := hji7
      have hji7z : (ji5) ≤ 64 → (IntKind.u64.wrap (a0 * 2 ^ (ji5).toNat)) = ji7 := shl_small hji7
      obtain rfl := Option.some.inj H
      go_enter Tryd.func33, Tryd.ntmps33
      go_wp2
      go_ret
      exact ⟨by first | rfl | (simp; done) | (simp only [← hji4, ← hji5, ← hji7] <;> (first | rfl | simp)) | (simp [*]; done), rfl⟩
    · rw [if_neg c6] at H
      exact absurd H (by simp)
  · rw [if_neg c3] at H
    exact absurd H (by simp)
theorem turned_same (x : Nat) (n : Int) (w : World) (m : Nat) (hx : x < 4294967296) (h : n = (m : Int)) (h1 : 1 ≤ m) (h2 : m ≤ 31) :
    Calls Tryd.prog 33 #[.int .u64 (x : Int), .int .u64 n] w fun e w' => e = .returned (.int .u64 ((ror m x : Nat) : Int)) ∧ w' = w := by
  subst h
  exact turned_some _ _ _ w (turned_f hx h1 h2)
/-! ### a number in so many bytes -/
def wideN (v n : Nat) : List Int := (List.range n).map fun i => ((v / 256 ^ (n - 1 - i) % 256 : Nat) : Int)
theorem wideN_length (v n : Nat) : (wideN v n).length = n := by unfold wideN; rw [List.length_map, List.length_range]
theorem wideN_bytes (v n : Nat) : Bytes (wideN v n) := by
  intro x hx
  unfold wideN at hx
  obtain ⟨i, _, rfl⟩ := List.mem_map.1 hx
  omega
theorem wideN_succ (v m : Nat) : wideN v (m + 1) = wideN (v / 256) m ++ [((v % 256 : Nat) : Int)] := by
  unfold wideN
  rw [List.range_succ, List.map_append]
  congr 1
  · refine List.map_congr_left fun i hi => ?_
    have hi := List.mem_range.1 hi
    rw [Nat.div_div_eq_div_mul, show m + 1 - 1 - i = (m - 1 - i) + 1 from by omega, Nat.pow_succ, Nat.mul_comm]
  · show [((v / 256 ^ (m + 1 - 1 - m) % 256 : Nat) : Int)] = _
    rw [show m + 1 - 1 - m = 0 from by omega, Nat.pow_zero, Nat.div_one]
theorem wide8_eq (v : Nat) : wide8 v = wideN v 8 := rfl
theorem Wide_l0 : ∀ (m k v : Nat) (l : List Int), m ≤ l.length → l.length ≤ 1000 → v < 18446744073709551616 → m < k → geyserref01_Wide.l0 k (v : Int) l ((m : Int) - 1) = some (wideN v m ++ l.drop m) := by
  intro m
  induction m with
  | zero =>
    intro k v l _ _ _ hk
    obtain ⟨k, rfl⟩ : ∃ q, k = q + 1 := ⟨k - 1, by omega⟩
    simp only [geyserref01_Wide.l0]
    rw [if_neg (by omega)]
    rfl
  | succ m ih =>
    intro k v l hm hl hv hk
    obtain ⟨k, rfl⟩ : ∃ q, k = q + 1 := ⟨k - 1, by omega⟩
    have e1 : ((m + 1 : Nat) : Int) - 1 = (m : Int) := by omega
    rw [e1]
    simp only [geyserref01_Wide.l0]
    have e2 : (v : Int).tdiv 256 = ((v / 256 : Nat) : Int) := by rw [Int.tdiv_eq_ediv_of_nonneg (by omega)]; omega
    have e3 : (v : Int).tmod 256 % 256 = ((v % 256 : Nat) : Int) := by rw [Int.tmod_eq_emod_of_nonneg (by omega)]; omega
    rw [if_pos (by omega), if_pos (by omega), if_pos (by omega), e2, e3, u64id (by omega) (by omega), Int.toNat_natCast, Gy.wrap64_id (by omega) (by omega), ih k (v / 256) _ (by rw [List.length_set]; omega) (by rw [List.length_set]; omega) (by omega) (by omega), wideN_succ, List.append_assoc]
    congr 2
    have h1 : m < (l.set m ((v % 256 : Nat) : Int)).length := by rw [List.length_set]; omega
    rw [List.drop_eq_getElem_cons h1, List.getElem_set_self, List.drop_set_of_lt (by omega)]
    rfl
theorem Wide_f {v n k : Nat} (hn : n ≤ 1000) (hv : v < 18446744073709551616) (hk : n < k) : geyserref01_Wide.f k (v : Int) (n : Int) = some (wideN v n) := by
  unfold geyserref01_Wide.f
  rw [if_pos (by omega), if_pos (by omega), Int.toNat_natCast, Gy.wrap64_id (by omega) (by omega)]
  have h := Wide_l0 n k v (List.replicate n 0) (by rw [List.length_replicate]; omega) (by rw [List.length_replicate]; omega) hv hk
  rw [h, List.drop_eq_nil_of_le (by rw [List.length_replicate]; omega), List.append_nil]
theorem Wide_calls (v n : Nat) (z : Int) (w : World) (hz : z = (n : Int)) (hn : n ≤ 1000) (hv : v < 18446744073709551616) :
    Calls Tryd.prog 31 #[.int .u64 (v : Int), .int .i64 z] w fun e w' => ∃ A' c', e = .returned (.slice A' n c') ∧ ReadsInt w' .u8 A' n (wideN v n) ∧ Below w.heap.size w w' := by
  subst hz
  refine (geyserref01_Wide.calls (n + 1) _ _ _ w (Wide_f hn hv (by omega))).mono ?_
  rintro e w' ⟨v0, rfl, hR, hB⟩
  obtain ⟨A', c', rfl, _, hC⟩ := Kd.R_reads hR
  have hr := Gy.reads_of_kd hC
  rw [wideN_length] at hr ⊢
  exact ⟨A', c', rfl, hr, hB⟩
end Go.Proofs.YtlmgikhgmbjfdaaDoor.Dig
/- The walk over the reference's digest: what lies in memory at each loop. -/
namespace Go.Proofs.YtlmgikhgmbjfdaaDoor.Dig
open Go Go.RowKit Go.Proofs.YtlmgikhgmbjfdaaDoor.QDig Go.Proofs.YtlmgikhgmbjfdaaDoorW.PrintWords Go.Proofs.YtlmgikhgmbjfdaaDoorW.PrintLast Go.Proofs.YtlmgikhgmbjfdaaDoorW.PrintMore Gy

theorem reads_set {w : World} {g b : Nat} {xs : List Int} (h : ReadsInt w .u8 (some ⟨g, 0, none⟩) xs.length xs) (hb : b ≠ g) (o : Nat) (v : Value) : ReadsInt (w.setCell ⟨b, o, none⟩ v) .u8 (some ⟨g, 0, none⟩) xs.length xs := reads_far h hb o [v]
/-- the result's row, the table, the state, the bytes -/
structure RefC (w wr : World) (g : Nat) (al : List Int) (hs : List Nat) : Prop where
  R : Arr wr w.heap.size (nums .u8 (List.replicate 32 0))
  K : Arr wr (w.heap.size + 1) (n64 kTab)
  H : Arr wr (w.heap.size + 1 + 1) (n64 hs)
  A : ReadsInt wr .u8 (some ⟨g, 0, none⟩) al.length al
  B : Below w.heap.size w wr
  og : w.heap.size + 1 + 1 + 1 ≤ g
theorem RefC.below {w wr w' : World} {g : Nat} {al : List Int} {hs : List Nat} (h : RefC w wr g al hs) (hb : Below wr.heap.size wr w') : RefC w w' g al hs :=
  ⟨h.R.below hb, h.K.below hb, h.H.below hb, Gy.reads_below h.A hb, h.B.trans (hb.mono h.B.size), h.og⟩
theorem RefC.far {w wr : World} {g : Nat} {al : List Int} {hs : List Nat} (h : RefC w wr g al hs) {b : Nat} (hb : g < b) (o : Nat) (v : Value) : RefC w (wr.setCell ⟨b, o, none⟩ v) g al hs := by
  have og := h.og
  exact ⟨h.R.far (by omega) _ _, h.K.far (by omega) _ _, h.H.far (by omega) _ _, reads_set h.A (by omega) _ _, h.B.setCell (show w.heap.size ≤ b by omega) _, og⟩
theorem RefC.far_cells {w wr : World} {g : Nat} {al : List Int} {hs : List Nat} (h : RefC w wr g al hs) {b : Nat} (hb : g < b) (o : Nat) (us : List Value) : RefC w (wr.setCells b o us) g al hs := by
  have og := h.og
  exact ⟨h.R.far_cells (by omega) _ _, h.K.far_cells (by omega) _ _, h.H.far_cells (by omega) _ _, reads_far h.A (by omega) _ _, setCells_below (by omega) _ _ h.B, og⟩
theorem RefC.setH {w wr : World} {g : Nat} {al : List Int} {hs : List Nat} (h : RefC w wr g al hs) {i x : Nat} (hi : i < hs.length) : RefC w (wr.setCell ⟨w.heap.size + 1 + 1, i, none⟩ (.int .u64 (x : Int))) g al (hs.set i x) := by
  have og := h.og
  have h2 := h.H.set (i := i) (by rw [n64_length]; exact hi) (.int .u64 (x : Int))
  rw [n64_set] at h2
  exact ⟨h.R.far (by omega) _ _, h.K.far (by omega) _ _, h2, reads_set h.A (by omega) _ _, h.B.setCell (show w.heap.size ≤ w.heap.size + 1 + 1 by omega) _, og⟩
/-- and the words of a chunk -/
structure RefW (w wr : World) (g gw : Nat) (al : List Int) (hs ws : List Nat) : Prop where
  C : RefC w wr g al hs
  W : Arr wr gw (n64 ws)
  o : g < gw
theorem RefW.below {w wr w' : World} {g gw : Nat} {al : List Int} {hs ws : List Nat} (h : RefW w wr g gw al hs ws) (hb : Below wr.heap.size wr w') : RefW w w' g gw al hs ws := ⟨h.C.below hb, h.W.below hb, h.o⟩
theorem RefW.set {w wr : World} {g gw : Nat} {al : List Int} {hs ws : List Nat} (h : RefW w wr g gw al hs ws) {i x : Nat} (hi : i < ws.length) : RefW w (wr.setCell ⟨gw, i, none⟩ (.int .u64 (x : Int))) g gw al hs (ws.set i x) := by
  have h2 := h.W.set (i := i) (by rw [n64_length]; exact hi) (.int .u64 (x : Int))
  rw [n64_set] at h2
  exact ⟨h.C.far h.o _ _, h2, h.o⟩
theorem RefW.cell {w wr : World} {g gw : Nat} {al : List Int} {hs : List Nat} {b : List Int} {i : Nat} (h : RefW w wr g gw al hs (wL b i)) (hi : i ≤ 64) (j : Nat) (hj : j < i) : wr.cell? ⟨gw, j, none⟩ = some (.int .u64 ((wAt b j : Nat) : Int)) := by
  have := h.W.cell (n64_at (l := wL b i) (i := j) (by rw [wL_length _ _ hi]; omega))
  rw [wL_at _ _ _ hj] at this
  exact this
theorem RefW.there {w wr : World} {g gw : Nat} {al : List Int} {hs ws : List Nat} (h : RefW w wr g gw al hs ws) {i : Nat} (hi : i < ws.length) : (∃ v, wr.cell? ⟨gw, i, none⟩ = some v) ∧ wr.frozen? ⟨gw, i, none⟩ = false :=
  ⟨⟨_, h.W.cell (n64_at hi)⟩, h.W.fr i⟩
theorem RefW.step {w wr : World} {g gw : Nat} {al : List Int} {hs : List Nat} {b : List Int} {i : Nat} (h : RefW w wr g gw al hs (wL b i)) (hi : i < 64) : RefW w (wr.setCell ⟨gw, i, none⟩ (.int .u64 ((wAt b i : Nat) : Int))) g gw al hs (wL b (i + 1)) := by
  have h2 := h.set (i := i) (x := wAt b i) (by rw [wL_length _ _ (by omega)]; omega)
  rw [wL_set b i hi] at h2
  exact h2
/-- and what is mixed -/
structure RefX (w wr : World) (g gw gx : Nat) (al : List Int) (hs ws xv : List Nat) : Prop where
  W : RefW w wr g gw al hs ws
  X : Arr wr gx (n64 xv)
  o : gw < gx
theorem RefX.below {w wr w' : World} {g gw gx : Nat} {al : List Int} {hs ws xv : List Nat} (h : RefX w wr g gw gx al hs ws xv) (hb : Below wr.heap.size wr w') : RefX w w' g gw gx al hs ws xv := ⟨h.W.below hb, h.X.below hb, h.o⟩
theorem RefX.set {w wr : World} {g gw gx : Nat} {al : List Int} {hs ws xv : List Nat} (h : RefX w wr g gw gx al hs ws xv) {i x : Nat} (hi : i < xv.length) : RefX w (wr.setCell ⟨gx, i, none⟩ (.int .u64 (x : Int))) g gw gx al hs ws (xv.set i x) := by
  have o1 := h.o
  have o2 := h.W.o
  have h2 := h.X.set (i := i) (by rw [n64_length]; exact hi) (.int .u64 (x : Int))
  rw [n64_set] at h2
  exact ⟨⟨h.W.C.far (by omega) _ _, h.W.W.far (by omega) _ _, o2⟩, h2, o1⟩
theorem RefX.setH {w wr : World} {g gw gx : Nat} {al : List Int} {hs ws xv : List Nat} (h : RefX w wr g gw gx al hs ws xv) {i x : Nat} (hi : i < hs.length) : RefX w (wr.setCell ⟨w.heap.size + 1 + 1, i, none⟩ (.int .u64 (x : Int))) g gw gx al (hs.set i x) ws xv := by
  have o1 := h.o
  have o2 := h.W.o
  have o3 := h.W.C.og
  exact ⟨⟨h.W.C.setH hi, h.W.W.far (by omega) _ _, o2⟩, h.X.far (by omega) _ _, o1⟩
theorem RefX.cell {w wr : World} {g gw gx : Nat} {al : List Int} {hs ws xv : List Nat} (h : RefX w wr g gw gx al hs ws xv) {i x : Nat} (hi : xv[i]? = some x) : wr.cell? ⟨gx, i, none⟩ = some (.int .u64 (x : Int)) := by
  refine h.X.cell ?_
  unfold n64
  rw [List.getElem?_map, hi]
  rfl
/-- a row moved up, down to a place -/
def shf (l : List Nat) (j : Nat) : List Nat := l.take (j + 1) ++ (l.take 7).drop j
theorem shf_start (s : St) : shf s.nats 7 = s.nats := rfl
theorem shf_end (s : St) : shf s.nats 0 = [s.a, s.a, s.b, s.c, s.d, s.e, s.f, s.g] := rfl
theorem shf_length (s : St) : ∀ j, j ≤ 7 → (shf s.nats j).length = 8
  | 0, _ => rfl
  | 1, _ => rfl
  | 2, _ => rfl
  | 3, _ => rfl
  | 4, _ => rfl
  | 5, _ => rfl
  | 6, _ => rfl
  | 7, _ => rfl
  | _ + 8, h => by omega
theorem shf_set (s : St) : ∀ j, j < 7 → (shf s.nats (j + 1)).set (j + 1) (s.nats.getD j 0) = shf s.nats j
  | 0, _ => rfl
  | 1, _ => rfl
  | 2, _ => rfl
  | 3, _ => rfl
  | 4, _ => rfl
  | 5, _ => rfl
  | 6, _ => rfl
  | _ + 7, h => by omega
theorem shf_at (s : St) : ∀ j, j < 7 → (shf s.nats (j + 1))[j]? = some (s.nats.getD j 0)
  | 0, _ => rfl
  | 1, _ => rfl
  | 2, _ => rfl
  | 3, _ => rfl
  | 4, _ => rfl
  | 5, _ => rfl
  | 6, _ => rfl
  | _ + 7, h => by omega
/-- so many of the sums are there -/
def addP (s t : St) (i : Nat) : List Nat := (s.plus t).nats.take i ++ s.nats.drop i
theorem addP_start (s t : St) : addP s t 0 = s.nats := rfl
theorem addP_end (s t : St) : addP s t 8 = (s.plus t).nats := rfl
theorem addP_length (s t : St) : ∀ j, j ≤ 8 → (addP s t j).length = 8
  | 0, _ => rfl
  | 1, _ => rfl
  | 2, _ => rfl
  | 3, _ => rfl
  | 4, _ => rfl
  | 5, _ => rfl
  | 6, _ => rfl
  | 7, _ => rfl
  | 8, _ => rfl
  | _ + 9, h => by omega
theorem addP_set (s t : St) : ∀ j, j < 8 → (addP s t j).set j ((s.nats.getD j 0 + t.nats.getD j 0) % 4294967296) = addP s t (j + 1)
  | 0, _ => rfl
  | 1, _ => rfl
  | 2, _ => rfl
  | 3, _ => rfl
  | 4, _ => rfl
  | 5, _ => rfl
  | 6, _ => rfl
  | 7, _ => rfl
  | _ + 8, h => by omega
theorem addP_at (s t : St) : ∀ j, j < 8 → (addP s t j)[j]? = some (s.nats.getD j 0)
  | 0, _ => rfl
  | 1, _ => rfl
  | 2, _ => rfl
  | 3, _ => rfl
  | 4, _ => rfl
  | 5, _ => rfl
  | 6, _ => rfl
  | 7, _ => rfl
  | _ + 8, h => by omega
theorem nats_at (s : St) {j : Nat} (h : j < 8) : s.nats[j]? = some (s.nats.getD j 0) := by
  rw [List.getD_eq_getElem?_getD, List.getElem?_eq_getElem (show j < s.nats.length from h)]
  rfl
theorem nats_lt {s : St} (h : s.ok) : ∀ j, j < 8 → s.nats.getD j 0 < 4294967296
  | 0, _ => h.a
  | 1, _ => h.b
  | 2, _ => h.c
  | 3, _ => h.d
  | 4, _ => h.e
  | 5, _ => h.f
  | 6, _ => h.g
  | 7, _ => h.h
  | _ + 8, h => by omega
/-- one round's sums, as the reference has them -/
def one0 (s : St) (k x : Nat) : Nat := s.h + bs1 s.e + chs s.e s.f s.g + k + x
def two0 (s : St) : Nat := bs0 s.a + mjs s.a s.b s.c
theorem round_ref (s : St) (k x : Nat) : (([s.a, s.a, s.b, s.c, s.d, s.e, s.f, s.g] : List Nat).set 4 ((s.d + one0 s k x) % 4294967296)).set 0 ((one0 s k x + two0 s) % 4294967296) = (rnd s ((k + x) % 4294967296)).nats := by
  have e : one s ((k + x) % 4294967296) = one0 s k x % 4294967296 := by unfold one one0; omega
  unfold rnd St.nats two
  rw [e]
  show [_, _, _, _, _, _, _, _] = [_, _, _, _, _, _, _, _]
  congr 1
  · show (one0 s k x + two0 s) % 4294967296 = (one0 s k x % 4294967296 + two0 s % 4294967296) % 4294967296
    omega
  · congr 4
    show (s.d + one0 s k x) % 4294967296 = (s.d + one0 s k x % 4294967296) % 4294967296
    omega
theorem chunk_wl (al : List Int) (b : Nat) : wL (al.drop b) 0 = List.replicate 64 0 := rfl
theorem pad_more (n m : Nat) (h : n + 1 + m ≤ padN n - 8) : ((n + 1 + m) % 64 = 56 → n + 1 + m = padN n - 8) ∧ ((n + 1 + m) % 64 ≠ 56 → n + 1 + m < padN n - 8) := by
  have h1 := padN_le n
  have h2 : padN n % 64 = 0 := by unfold padN; omega
  have h3 : padN n ≤ n + 72 := by unfold padN; omega
  constructor <;> intro h4 <;> omega
end Go.Proofs.YtlmgikhgmbjfdaaDoor.Dig
/- The walk over the reference's digest in pieces: the loops' bodies, frames. -/
namespace Go.Proofs.YtlmgikhgmbjfdaaDoor.Dig
open Go Go.RowKit Go.Proofs.YtlmgikhgmbjfdaaDoor.QDig Go.Proofs.YtlmgikhgmbjfdaaDoorW.PrintWords Go.Proofs.YtlmgikhgmbjfdaaDoorW.PrintLast Go.Proofs.YtlmgikhgmbjfdaaDoorW.PrintMore Gy

/-- the loops of a text, each ahead of those within it -/
def loopsOf : Code → List Code
  | .loop c => c :: loopsOf c
  | .seq a b => loopsOf a ++ loopsOf b
  | .block _ c => loopsOf c
  | .scope c => loopsOf c
  | .cond _ a b => loopsOf a ++ loopsOf b
  | _ => []
noncomputable def bodyOf (k : Nat) : Code := ((Tryd.f12.body.map loopsOf).getD []).getD k .skip
set_option maxRecDepth 100000 in
theorem frame_out (a : Act) (h : a.tmps.size = 242) (hd : a.defers = []) : a = ⟨#[a.tmps.getD 0 undef, a.tmps.getD 1 undef, a.tmps.getD 2 undef, a.tmps.getD 3 undef, a.tmps.getD 4 undef, a.tmps.getD 5 undef, a.tmps.getD 6 undef, a.tmps.getD 7 undef, a.tmps.getD 8 undef, a.tmps.getD 9 undef, a.tmps.getD 10 undef, a.tmps.getD 11 undef, a.tmps.getD 12 undef, a.tmps.getD 13 undef, a.tmps.getD 14 undef, a.tmps.getD 15 undef, a.tmps.getD 16 undef, a.tmps.getD 17 undef, a.tmps.getD 18 undef, a.tmps.getD 19 undef, a.tmps.getD 20 undef, a.tmps.getD 21 undef, a.tmps.getD 22 undef, a.tmps.getD 23 undef, a.tmps.getD 24 undef, a.tmps.getD 25 undef, a.tmps.getD 26 undef, a.tmps.getD 27 undef, a.tmps.getD 28 undef, a.tmps.getD 29 undef, a.tmps.getD 30 undef, a.tmps.getD 31 undef, a.tmps.getD 32 undef, a.tmps.getD 33 undef, a.tmps.getD 34 undef, a.tmps.getD 35 undef, a.tmps.getD 36 undef, a.tmps.getD 37 undef, a.tmps.getD 38 undef, a.tmps.getD 39 undef, a.tmps.getD 40 undef, a.tmps.getD 41 undef, a.tmps.getD 42 undef, a.tmps.getD 43 undef, a.tmps.getD 44 undef, a.tmps.getD 45 undef, a.tmps.getD 46 undef, a.tmps.getD 47 undef, a.tmps.getD 48 undef, a.tmps.getD 49 undef, a.tmps.getD 50 undef, a.tmps.getD 51 undef, a.tmps.getD 52 undef, a.tmps.getD 53 undef, a.tmps.getD 54 undef, a.tmps.getD 55 undef, a.tmps.getD 56 undef, a.tmps.getD 57 undef, a.tmps.getD 58 undef, a.tmps.getD 59 undef, a.tmps.getD 60 undef, a.tmps.getD 61 undef, a.tmps.getD 62 undef, a.tmps.getD 63 undef, a.tmps.getD 64 undef, a.tmps.getD 65 undef, a.tmps.getD 66 undef, a.tmps.getD 67 undef, a.tmps.getD 68 undef, a.tmps.getD 69 undef, a.tmps.getD 70 undef, a.tmps.getD 71 undef, a.tmps.getD 72 undef, a.tmps.getD 73 undef, a.tmps.getD 74 undef, a.tmps.getD 75 undef, a.tmps.getD 76 undef, a.tmps.getD 77 undef, a.tmps.getD 78 undef, a.tmps.getD 79 undef, a.tmps.getD 80 undef, a.tmps.getD 81 undef, a.tmps.getD 82 undef, a.tmps.getD 83 undef, a.tmps.getD 84 undef, a.tmps.getD 85 undef, a.tmps.getD 86 undef, a.tmps.getD 87 undef, a.tmps.getD 88 undef, a.tmps.getD 89 undef, a.tmps.getD 90 undef, a.tmps.getD 91 undef, a.tmps.getD 92 undef, a.tmps.getD 93 undef, a.tmps.getD 94 undef, a.tmps.getD 95 undef, a.tmps.getD 96 undef, a.tmps.getD 97 undef, a.tmps.getD 98 undef, a.tmps.getD 99 undef, a.tmps.getD 100 undef, a.tmps.getD 101 undef, a.tmps.getD 102 undef, a.tmps.getD 103 undef, a.tmps.getD 104 undef, a.tmps.getD 105 undef, a.tmps.getD 106 undef, a.tmps.getD 107 undef, a.tmps.getD 108 undef, a.tmps.getD 109 undef, a.tmps.getD 110 undef, a.tmps.getD 111 undef, a.tmps.getD 112 undef, a.tmps.getD 113 undef, a.tmps.getD 114 undef, a.tmps.getD 115 undef, a.tmps.getD 116 undef, a.tmps.getD 117 undef, a.tmps.getD 118 undef, a.tmps.getD 119 undef, a.tmps.getD 120 undef, a.tmps.getD 121 undef, a.tmps.getD 122 undef, a.tmps.getD 123 undef, a.tmps.getD 124 undef, a.tmps.getD 125 undef, a.tmps.getD 126 undef, a.tmps.getD 127 undef, a.tmps.getD 128 undef, a.tmps.getD 129 undef, a.tmps.getD 130 undef, a.tmps.getD 131 undef, a.tmps.getD 132 undef, a.tmps.getD 133 undef, a.tmps.getD 134 undef, a.tmps.getD 135 undef, a.tmps.getD 136 undef, a.tmps.getD 137 undef, a.tmps.getD 138 undef, a.tmps.getD 139 undef, a.tmps.getD 140 undef, a.tmps.getD 141 undef, a.tmps.getD 142 undef, a.tmps.getD 143 undef, a.tmps.getD 144 undef, a.tmps.getD 145 undef, a.tmps.getD 146 undef, a.tmps.getD 147 undef, a.tmps.getD 148 undef, a.tmps.getD 149 undef, a.tmps.getD 150 undef, a.tmps.getD 151 undef, a.tmps.getD 152 undef, a.tmps.getD 153 undef, a.tmps.getD 154 undef, a.tmps.getD 155 undef, a.tmps.getD 156 undef, a.tmps.getD 157 undef, a.tmps.getD 158 undef, a.tmps.getD 159 undef, a.tmps.getD 160 undef, a.tmps.getD 161 undef, a.tmps.getD 162 undef, a.tmps.getD 163 undef, a.tmps.getD 164 undef, a.tmps.getD 165 undef, a.tmps.getD 166 undef, a.tmps.getD 167 undef, a.tmps.getD 168 undef, a.tmps.getD 169 undef, a.tmps.getD 170 undef, a.tmps.getD 171 undef, a.tmps.getD 172 undef, a.tmps.getD 173 undef, a.tmps.getD 174 undef, a.tmps.getD 175 undef, a.tmps.getD 176 undef, a.tmps.getD 177 undef, a.tmps.getD 178 undef, a.tmps.getD 179 undef, a.tmps.getD 180 undef, a.tmps.getD 181 undef, a.tmps.getD 182 undef, a.tmps.getD 183 undef, a.tmps.getD 184 undef, a.tmps.getD 185 undef, a.tmps.getD 186 undef, a.tmps.getD 187 undef, a.tmps.getD 188 undef, a.tmps.getD 189 undef, a.tmps.getD 190 undef, a.tmps.getD 191 undef, a.tmps.getD 192 undef, a.tmps.getD 193 undef, a.tmps.getD 194 undef, a.tmps.getD 195 undef, a.tmps.getD 196 undef, a.tmps.getD 197 undef, a.tmps.getD 198 undef, a.tmps.getD 199 undef, a.tmps.getD 200 undef, a.tmps.getD 201 undef, a.tmps.getD 202 undef, a.tmps.getD 203 undef, a.tmps.getD 204 undef, a.tmps.getD 205 undef, a.tmps.getD 206 undef, a.tmps.getD 207 undef, a.tmps.getD 208 undef, a.tmps.getD 209 undef, a.tmps.getD 210 undef, a.tmps.getD 211 undef, a.tmps.getD 212 undef, a.tmps.getD 213 undef, a.tmps.getD 214 undef, a.tmps.getD 215 undef, a.tmps.getD 216 undef, a.tmps.getD 217 undef, a.tmps.getD 218 undef, a.tmps.getD 219 undef, a.tmps.getD 220 undef, a.tmps.getD 221 undef, a.tmps.getD 222 undef, a.tmps.getD 223 undef, a.tmps.getD 224 undef, a.tmps.getD 225 undef, a.tmps.getD 226 undef, a.tmps.getD 227 undef, a.tmps.getD 228 undef, a.tmps.getD 229 undef, a.tmps.getD 230 undef, a.tmps.getD 231 undef, a.tmps.getD 232 undef, a.tmps.getD 233 undef, a.tmps.getD 234 undef, a.tmps.getD 235 undef, a.tmps.getD 236 undef, a.tmps.getD 237 undef, a.tmps.getD 238 undef, a.tmps.getD 239 undef, a.tmps.getD 240 undef, a.tmps.getD 241 undef], []⟩ := by
  have h1 : a.tmps = ((List.range 242).map fun i => a.tmps.getD i undef).toArray := by
    apply Array.ext
    · simp [h]
    · intro i h1 h2
      simp [h1]
  have h2 : a = ⟨((List.range 242).map fun i => a.tmps.getD i undef).toArray, []⟩ := by
    cases a with
    | mk t d => simp only at h1 hd ⊢; rw [hd, ← h1]
  exact h2
set_option maxRecDepth 100000 in
theorem frame_fn (a : Act) (h : a.tmps.size = 242) (hd : a.defers = []) : ∃ v : Nat → Value, (∀ k, v k = a.tmps.getD k undef) ∧ a = ⟨#[v 0, v 1, v 2, v 3, v 4, v 5, v 6, v 7, v 8, v 9, v 10, v 11, v 12, v 13, v 14, v 15, v 16, v 17, v 18, v 19, v 20, v 21, v 22, v 23, v 24, v 25, v 26, v 27, v 28, v 29, v 30, v 31, v 32, v 33, v 34, v 35, v 36, v 37, v 38, v 39, v 40, v 41, v 42, v 43, v 44, v 45, v 46, v 47, v 48, v 49, v 50, v 51, v 52, v 53, v 54, v 55, v 56, v 57, v 58, v 59, v 60, v 61, v 62, v 63, v 64, v 65, v 66, v 67, v 68, v 69, v 70, v 71, v 72, v 73, v 74, v 75, v 76, v 77, v 78, v 79, v 80, v 81, v 82, v 83, v 84, v 85, v 86, v 87, v 88, v 89, v 90, v 91, v 92, v 93, v 94, v 95, v 96, v 97, v 98, v 99, v 100, v 101, v 102, v 103, v 104, v 105, v 106, v 107, v 108, v 109, v 110, v 111, v 112, v 113, v 114, v 115, v 116, v 117, v 118, v 119, v 120, v 121, v 122, v 123, v 124, v 125, v 126, v 127, v 128, v 129, v 130, v 131, v 132, v 133, v 134, v 135, v 136, v 137, v 138, v 139, v 140, v 141, v 142, v 143, v 144, v 145, v 146, v 147, v 148, v 149, v 150, v 151, v 152, v 153, v 154, v 155, v 156, v 157, v 158, v 159, v 160, v 161, v 162, v 163, v 164, v 165, v 166, v 167, v 168, v 169, v 170, v 171, v 172, v 173, v 174, v 175, v 176, v 177, v 178, v 179, v 180, v 181, v 182, v 183, v 184, v 185, v 186, v 187, v 188, v 189, v 190, v 191, v 192, v 193, v 194, v 195, v 196, v 197, v 198, v 199, v 200, v 201, v 202, v 203, v 204, v 205, v 206, v 207, v 208, v 209, v 210, v 211, v 212, v 213, v 214, v 215, v 216, v 217, v 218, v 219, v 220, v 221, v 222, v 223, v 224, v 225, v 226, v 227, v 228, v 229, v 230, v 231, v 232, v 233, v 234, v 235, v 236, v 237, v 238, v 239, v 240, v 241], []⟩ :=
  ⟨fun k => a.tmps.getD k undef, fun _ => rfl, frame_out a h hd⟩
/-- what the frame holds from the chunks' loop on -/
structure FrA (w : World) (g c5 : Nat) (al : List Int) (j : Nat) (a : Act) : Prop where
  size : a.tmps.size = 242
  defers : a.defers = []
  t2 : a.tmps.getD 2 undef = .pointer (some ⟨w.heap.size, 0, none⟩)
  t3 : a.tmps.getD 3 undef = .pointer (some ⟨w.heap.size + 1, 0, none⟩)
  t4 : a.tmps.getD 4 undef = .pointer (some ⟨w.heap.size + 1 + 1, 0, none⟩)
  t5 : a.tmps.getD 5 undef = .slice (some ⟨g, 0, none⟩) al.length c5
  t6 : a.tmps.getD 6 undef = .int .i64 (64 * (j : Int))
structure FrW (w : World) (g gw c5 : Nat) (al : List Int) (j : Nat) (a : Act) : Prop where
  A : FrA w g c5 al j a
  t7 : a.tmps.getD 7 undef = .pointer (some ⟨gw, 0, none⟩)
structure FrX (w : World) (g gw gx c5 : Nat) (al : List Int) (j : Nat) (a : Act) : Prop where
  W : FrW w g gw c5 al j a
  t12 : a.tmps.getD 12 undef = .pointer (some ⟨gx, 0, none⟩)
end Go.Proofs.YtlmgikhgmbjfdaaDoor.Dig
/- The walk over the reference's digest in pieces: small facts. -/
namespace Go.Proofs.YtlmgikhgmbjfdaaDoor.Dig
open Go Go.RowKit Go.Proofs.YtlmgikhgmbjfdaaDoor.QDig Go.Proofs.YtlmgikhgmbjfdaaDoorW.PrintWords Go.Proofs.YtlmgikhgmbjfdaaDoorW.PrintLast Go.Proofs.YtlmgikhgmbjfdaaDoorW.PrintMore Gy

def sliceLen : Value → Nat
  | .slice _ n _ => n
  | _ => 0
set_option maxRecDepth 100000 in
theorem zero_64w : ∃ zs : Array Value, zs = (n64 (List.replicate 64 0)).toArray ∧ ∀ W : World, (zeroValue 70).run Tryd.prog W = .ok (.agg zs) W := by
  refine ⟨_, rfl, fun W => ?_⟩
  kernel_rfl
set_option maxRecDepth 100000 in
theorem zero_8w : ∃ zs : Array Value, zs = (n64 (List.replicate 8 0)).toArray ∧ ∀ W : World, (zeroValue 71).run Tryd.prog W = .ok (.agg zs) W := by
  refine ⟨_, rfl, fun W => ?_⟩
  kernel_rfl
set_option maxRecDepth 100000 in
theorem info_64w : (Tryd.prog.info? 70).map (·.size) = some (n64 kTab).toArray.size := by kernel_rfl
theorem info_8w : (Tryd.prog.info? 71).map (·.size) = some 8 := by kernel_rfl
theorem info_8a (s : St) : (Tryd.prog.info? 71).map (·.size) = some (n64 s.nats).length := info_8w
theorem info_8b (s : St) : (Tryd.prog.info? 71).map (·.size) = some (n64 s.nats).toArray.size := info_8w
theorem own_slice {w : World} {base : Nat} {e : TypeId} {size n : Nat} {v : Value} {xs : List Value} (h : w.ownsRow base e size v n xs) : ∃ A c, v = .slice A n c := by
  rcases h.2 with ⟨rfl, rfl⟩ | ⟨g, c, _, rfl, _⟩
  · exact ⟨none, 0, rfl⟩
  · exact ⟨_, c, rfl⟩
section
variable {P : Program} {ops : Array Oper} {rest : List Oper} {o : Oper} {a : Act} {W : World} {Q : Exit → Act → World → Prop}
theorem run_value {d : Tmp} {v : Value} (hgd : o.guard = none) (hd : o.dst = some d) (hrun : (execOp a.eval o).run P W = .ok (.value v) W) (h : wpList P ops Q rest (a.put (some d) v) W) : wpList P ops Q (o :: rest) a W := by
  refine Kd.event_run hgd hrun ?_
  rw [hd]; exact h
theorem store_row (hgd : o.guard = none) (ty : TypeId) (x y : Operand) (ho : o.op = .store ty x y) (hd : o.dst = none) (b : Nat) (cells : List Value) (hx : a.eval x = .pointer (some ⟨b, 0, none⟩)) (hy : a.eval y = .agg cells.toArray)
    (ht : W.there b 0 cells.toArray.size) (hi : (P.info? ty).map (·.size) = some cells.toArray.size) (h1 : ∀ v ∈ cells, v.oneCell' = true) (h : wpList P ops Q rest a (W.setCells b 0 cells)) : wpList P ops Q (o :: rest) a W := by
  refine wpList_store_mid hgd ty x y ho b 0 cells.toArray hx hy ht hi (all_oneCell_toArray h1) ?_
  rw [hd]; exact h
end
theorem own_below {w w' : World} {base : Nat} {e : TypeId} {size n : Nat} {v : Value} {xs : List Value} (h : w.ownsRow base e size v n xs) (hb : Below w.heap.size w w') : w'.ownsRow base e size v n xs := by
  refine ⟨h.1, ?_⟩
  rcases h.2 with hn | ⟨g, cap, cur, rfl, hg, hc, rest⟩
  · exact .inl hn
  · refine .inr ⟨g, cap, cur, rfl, hg, ?_, rest⟩
    have hlt : g < w.heap.size := by
      rcases Nat.lt_or_ge g w.heap.size with h' | h'
      · exact h'
      · rw [Array.getElem?_eq_none h'] at hc; cases hc
    rw [hb.block g hlt]; exact hc
/-- the bytes that grow -/
structure Gro (b : Nat) (W2 wr : World) (v : Value) (n : Nat) (L : List Int) : Prop where
  own : wr.ownsRow b 5 1 v n (nums .u8 L)
  bel : Below b W2 wr
  len : n = L.length
  le : b ≤ W2.heap.size
theorem Gro.below {b : Nat} {W2 wr w' : World} {v : Value} {n : Nat} {L : List Int} (h : Gro b W2 wr v n L) (hb : Below wr.heap.size wr w') : Gro b W2 w' v n L :=
  ⟨own_below h.own hb, h.bel.trans (hb.mono (Nat.le_trans h.le h.bel.size)), h.len, h.le⟩
theorem Gro.alloc {b : Nat} {W2 wr : World} {v : Value} {n : Nat} {L : List Int} (h : Gro b W2 wr v n L) (o : Obj) : Gro b W2 (wr.alloc o) v n L := h.below (Gy.alloc_below wr o)
theorem Gro.own' {b : Nat} {W2 wr : World} {v : Value} {n : Nat} {L : List Int} (h : Gro b W2 wr v n L) : wr.ownsRow b 5 1 v L.length (nums .u8 L) := by rw [← h.len]; exact h.own
theorem Gro.base {b : Nat} {W2 wr : World} {v : Value} {n : Nat} {L : List Int} (h : Gro b W2 wr v n L) : b ≤ wr.heap.size := Nat.le_trans h.le h.bel.size
theorem gro_next {b : Nat} {W2 w1 : World} {v1 : Value} {L : List Int} (hle : b ≤ W2.heap.size) (ho : w1.ownsRow b 5 1 v1 L.length (nums .u8 L)) (hb : Below b W2 w1) (n : Nat) (hn : n = L.length) : ∃ A c, v1 = .slice A n c ∧ Gro b W2 w1 v1 n L := by
  subst hn
  obtain ⟨A, c, e⟩ := own_slice ho
  exact ⟨A, c, e, ho, hb, rfl, hle⟩
/-- what lies there when the bytes begin to grow -/
structure RefH (w wr : World) (hs : List Nat) : Prop where
  R : Arr wr w.heap.size (nums .u8 (List.replicate 32 0))
  K : Arr wr (w.heap.size + 1) (n64 kTab)
  H : Arr wr (w.heap.size + 1 + 1) (n64 hs)
  B : Below w.heap.size w wr
  sz : wr.heap.size = w.heap.size + 1 + 1 + 1
structure RefK (w wr : World) : Prop where
  R : Arr wr w.heap.size (nums .u8 (List.replicate 32 0))
  K : Arr wr (w.heap.size + 1) (n64 kTab)
  B : Below w.heap.size w wr
  sz : wr.heap.size = w.heap.size + 1 + 1
theorem ref_k (w : World) (z32 zt : Array Value) (h32 : z32 = (nums .u8 (List.replicate 32 0)).toArray) (ht : zt = (n64 (List.replicate 64 0)).toArray) :
    ((w.alloc (.cells z32 36)).alloc (.cells zt 70)).there (w.heap.size + 1) 0 (n64 kTab).toArray.size ∧ RefK w (((w.alloc (.cells z32 36)).alloc (.cells zt 70)).setCells (w.heap.size + 1) 0 (n64 kTab)) := by
  have e1 : ∀ (w : World) (o : Obj), (w.alloc o).heap.size = w.heap.size + 1 := size_alloc'
  have h1 := Arr.fresh w _ z32 h32 36
  have h2 := Arr.fresh (w.alloc (.cells z32 36)) _ zt ht 70
  simp only [e1] at h1 h2
  have hl : (n64 kTab).length = (n64 (List.replicate 64 0)).length := by rw [n64_length, n64_length]; rfl
  refine ⟨h2.there2 _ hl, (h1.alloc _).far_cells (by omega) _ _, h2.put _ hl, setCells_below (by omega) _ _ (((Below.refl w.heap.size w).alloc (Nat.le_refl _) _).alloc (by rw [e1]; omega) _), ?_⟩
  rw [setCells_size, e1, e1]
theorem ref_h {w wr : World} (h : RefK w wr) (zs : Array Value) (hz : zs = (n64 (List.replicate 8 0)).toArray) (s : St) :
    (wr.alloc (.cells zs 71)).there (w.heap.size + 1 + 1) 0 (n64 s.nats).toArray.size ∧ RefH w ((wr.alloc (.cells zs 71)).setCells (w.heap.size + 1 + 1) 0 (n64 s.nats)) s.nats := by
  have h1 := Arr.fresh wr _ zs hz 71
  rw [h.sz] at h1
  have hl : (n64 s.nats).length = (n64 (List.replicate 8 0)).length := by rw [n64_length, n64_length]; rfl
  refine ⟨h1.there2 _ hl, (h.R.alloc _).far_cells (by omega) _ _, (h.K.alloc _).far_cells (by omega) _ _, h1.put _ hl, setCells_below (by omega) _ _ (h.B.alloc (by rw [h.sz]; omega) _), ?_⟩
  rw [setCells_size, size_alloc', h.sz]
theorem one_read (w : World) (x : Int) : ReadsInt (w.alloc (.cells #[.int .u8 x] 5 (0, 0))) .u8 (some ⟨w.heap.size, 0, none⟩) 1 [x] := by
  refine ⟨rfl, by decide, fun _ => ⟨_, rfl, fun j hj => ?_⟩⟩
  obtain rfl : j = 0 := by omega
  rw [Gy.addr_add]
  exact (Arr.fresh w [.int .u8 x] _ rfl 5).cell rfl
theorem gro_start {w W2 : World} {hs : List Nat} (h : RefH w W2 hs) : Gro (w.heap.size + 1 + 1 + 1) W2 (W2.alloc (.cells #[] 5)) (.slice (some ⟨w.heap.size + 1 + 1 + 1, 0, none⟩) 0 0) 0 [] := by
  have h1 := World.ownsRow_lit (base := W2.heap.size) (e := 5) (size := 1) W2 #[] 0 (Nat.le_refl _) (by decide) rfl
  have hz := h.sz
  rw [hz] at h1
  refine ⟨h1, ?_, rfl, by omega⟩
  exact (Gy.alloc_below W2 _).mono (by omega)
def grown (xs : List Int) (m : Nat) : List Int := xs ++ 128 :: List.replicate m 0
theorem grown_length (xs : List Int) (m : Nat) : (grown xs m).length = xs.length + 1 + m := by
  unfold grown; rw [List.length_append, List.length_cons, List.length_replicate]; omega
theorem grown_zero (xs : List Int) : xs ++ [128] = grown xs 0 := rfl
theorem grown_next (xs : List Int) (m : Nat) : grown xs m ++ [0] = grown xs (m + 1) := by
  unfold grown
  rw [List.append_assoc, List.cons_append, List.replicate_succ', ]
theorem grown_end (xs : List Int) (m : Nat) (h : xs.length + 1 + m = padN xs.length - 8) : grown xs m ++ wideN (xs.length * 8) 8 = padded xs := by
  have h1 := padN_le xs.length
  unfold grown padded
  rw [show m = padN xs.length - xs.length - 9 from by omega, wide8_eq]
theorem pad_tests (q : Nat) : ((q % 64 = 56 → (((q : Int) % 64) == 56) = true ∧ (((q : Int) % 64) != 56) = false ∧ ((q % 64) == 56) = true ∧ ((q % 64) != 56) = false)) ∧ (q % 64 ≠ 56 → (((q : Int) % 64) == 56) = false ∧ (((q : Int) % 64) != 56) = true ∧ ((q % 64) == 56) = false ∧ ((q % 64) != 56) = true) := by
  constructor
  · intro h
    have h2 : (q : Int) % 64 = 56 := by omega
    simp [h, h2]
  · intro h
    have h2 : ¬ (q : Int) % 64 = 56 := by omega
    simp [h, h2]
theorem gro_ref {w W2 w5 : World} {hs : List Nat} {A : Option Addr} {n c : Nat} {L : List Int} (G : RefH w W2 hs) (h : Gro (w.heap.size + 1 + 1 + 1) W2 w5 (.slice A n c) n L) (hp : 0 < n) (hl : n ≤ 9223372036854775807) :
    ∃ g, A = some ⟨g, 0, none⟩ ∧ n ≤ c ∧ RefC w w5 g L hs := by
  have hsz := G.sz
  have hlen := h.len
  obtain ⟨g, c', e⟩ := Gy.own_some h.own hp
  injection e with e1 e2 e3
  subst e1 e3
  have hb := h.own.lt g rfl
  have hcap : n ≤ c := by
    rcases h.own.2 with ⟨e, _⟩ | ⟨g', cap, cur, e, _, _, hnc, _⟩
    · cases e
    · injection e with _ _ e3
      subst e3
      exact hnc
  have hbel : Below W2.heap.size W2 w5 := by rw [hsz]; exact h.bel
  have hr := Gy.own_reads h.own' hlen (by omega)
  rw [hlen] at hr
  exact ⟨g, rfl, hcap, G.R.below hbel, G.K.below hbel, G.H.below hbel, hr, G.B.trans (hbel.mono (by omega)), hb.1⟩
theorem Wide_at (y : Int) (v n : Nat) (z : Int) (w : World) (hy : y = (v : Int)) (hz : z = (n : Int)) (hn : n ≤ 1000) (hv : v < 18446744073709551616) :
    Calls Tryd.prog 31 #[.int .u64 y, .int .i64 z] w fun e w' => ∃ A' c', e = .returned (.slice A' n c') ∧ ReadsInt w' .u8 A' n (wideN v n) ∧ Below w.heap.size w w' := by
  subst hy
  exact Wide_calls v n z w hz hn hv
/-- while zeros are added -/
structure Lp (w W2 wr : World) (xs : List Int) (v : Value) (q m : Nat) : Prop where
  G : Gro (w.heap.size + 1 + 1 + 1) W2 wr v q (grown xs m)
  eq : q = xs.length + 1 + m
  le : q ≤ padN xs.length - 8
theorem end_pad {P q c c' : Nat} {A A' : Option Addr} (h : q < P) : P - sliceLen (.slice A' (q + 1) c') < P - sliceLen (.slice A q c) := by
  show P - (q + 1) < P - q
  omega
theorem ref_w {w wr : World} {g : Nat} {al : List Int} {hs : List Nat} (h : RefC w wr g al hs) (hp : 0 < al.length) (zt : Array Value) (hz : zt = (n64 (List.replicate 64 0)).toArray) (b : List Int) : RefW w (wr.alloc (.cells zt 70)) g wr.heap.size al hs (wL b 0) := by
  refine ⟨h.below (Gy.alloc_below wr _), Arr.fresh wr _ zt hz _, ?_⟩
  obtain ⟨ad, e, hc⟩ := h.A.2.2 hp
  injection e with e
  subst e
  have := hc 0 hp
  rw [Gy.addr_add] at this
  exact Gy.cell_lt this
def rorI (n : Int) (x : Nat) : Nat := ror n.toNat x
theorem turned_lit (x : Nat) (n : Int) (w : World) (h : x < 4294967296) (h1 : 1 ≤ n ∧ n ≤ 31) :
    Calls Tryd.prog 33 #[.int .u64 (x : Int), .int .u64 n] w fun e w' => e = .returned (.int .u64 ((rorI n x : Nat) : Int)) ∧ w' = w :=
  turned_same x n w n.toNat h (by omega) (by omega) (by omega)
theorem xor64 {a b : Nat} (ha : a < 4294967296) (hb : b < 4294967296) : Go.bits .xor .u64 (a : Int) (b : Int) = ((a ^^^ b : Nat) : Int) := Go.bits_xor_u64_nat a b (by omega) (by omega)
theorem sig_forms {x15 x2 : Nat} (h15 : x15 < 4294967296) (h2 : x2 < 4294967296) :
    Go.bits .xor .u64 (Go.bits .xor .u64 ((rorI 7 x15 : Nat) : Int) ((rorI 18 x15 : Nat) : Int)) ((x15 : Int) / 8) = ((ss0 x15 : Nat) : Int) ∧ Go.bits .xor .u64 (Go.bits .xor .u64 ((rorI 17 x2 : Nat) : Int) ((rorI 19 x2 : Nat) : Int)) ((x2 : Int) / 1024) = ((ss1 x2 : Nat) : Int) ∧ ss0 x15 < 4294967296 ∧ ss1 x2 < 4294967296 := by
  have e8 : (x15 : Int) / 8 = ((x15 / 8 : Nat) : Int) := by omega
  have e9 : (x2 : Int) / 1024 = ((x2 / 1024 : Nat) : Int) := by omega
  refine ⟨?_, ?_, ss0_lt h15, ss1_lt h2⟩
  · show Go.bits .xor .u64 (Go.bits .xor .u64 ((ror 7 x15 : Nat) : Int) ((ror 18 x15 : Nat) : Int)) ((x15 : Int) / 8) = _
    rw [e8, xor64 (ror_lt h15) (ror_lt h15), xor64 (xor32 (ror_lt h15) (ror_lt h15)) (Nat.lt_of_le_of_lt (Nat.div_le_self _ _) h15)]
    rfl
  · show Go.bits .xor .u64 (Go.bits .xor .u64 ((ror 17 x2 : Nat) : Int) ((ror 19 x2 : Nat) : Int)) ((x2 : Int) / 1024) = _
    rw [e9, xor64 (ror_lt h2) (ror_lt h2), xor64 (xor32 (ror_lt h2) (ror_lt h2)) (Nat.lt_of_le_of_lt (Nat.div_le_self _ _) h2)]
    rfl
theorem sum_forms {a b c d : Nat} (ha : a < 4294967296) (hb : b < 4294967296) (hc : c < 4294967296) (hd : d < 4294967296) :
    IntKind.u64.wrap ((a : Int) + (b : Int)) = (a : Int) + (b : Int) ∧ IntKind.u64.wrap ((a : Int) + (b : Int) + (c : Int)) = (a : Int) + (b : Int) + (c : Int) ∧ IntKind.u64.wrap ((a : Int) + (b : Int) + (c : Int) + (d : Int)) = (a : Int) + (b : Int) + (c : Int) + (d : Int) ∧
      Go.bits .and .u64 ((a : Int) + (b : Int) + (c : Int) + (d : Int)) 4294967295 = (((a + b + c + d) % 4294967296 : Nat) : Int) := by
  refine ⟨u64id (by omega) (by omega), u64id (by omega) (by omega), u64id (by omega) (by omega), ?_⟩
  have h := Go.bits_and_u64_nat (a + b + c + d) 4294967295 (by omega) (by omega)
  rw [mask32] at h
  exact h
structure Sched (wr : World) (gw i x2 x16 x7 : Nat) (u : Value) : Prop where
  c2 : wr.cell? ⟨gw, i - 2, none⟩ = some (.int .u64 (x2 : Int))
  c16 : wr.cell? ⟨gw, i - 16, none⟩ = some (.int .u64 (x16 : Int))
  c7 : wr.cell? ⟨gw, i - 7, none⟩ = some (.int .u64 (x7 : Int))
  cw : wr.cell? ⟨gw, i, none⟩ = some u
  fw : wr.frozen? ⟨gw, i, none⟩ = false
theorem Sched.drewN {wr : World} {gw i x2 x16 x7 : Nat} {u : Value} (n : Nat) (h : Sched wr gw i x2 x16 x7 u) : Sched (wr.drewN n) gw i x2 x16 x7 u := by
  have e : (wr.drewN n).heap = wr.heap := by
    have := fun b => (pw_below_drewN (Below.refl wr.heap.size wr) n).block b
    apply Array.ext_getElem?
    intro b
    by_cases hb : b < wr.heap.size
    · exact this b hb
    · have hs : (wr.drewN n).heap.size = wr.heap.size := by simp
      rw [Array.getElem?_eq_none (by omega), Array.getElem?_eq_none (by omega)]
  obtain ⟨h1, h2, h3, h4, h5⟩ := h
  unfold World.cell? at h1 h2 h3 h4
  unfold World.frozen? at h5
  exact ⟨by unfold World.cell?; rw [e]; exact h1, by unfold World.cell?; rw [e]; exact h2, by unfold World.cell?; rw [e]; exact h3, by unfold World.cell?; rw [e]; exact h4, by unfold World.frozen?; rw [e]; exact h5⟩
theorem Sched.drew {wr : World} {gw i x2 x16 x7 : Nat} {u : Value} (h : Sched wr gw i x2 x16 x7 u) : Sched wr.drew gw i x2 x16 x7 u := ⟨h.c2, h.c16, h.c7, h.cw, h.fw⟩
theorem up_64 {i : Nat} (h : i < 64) : wrap64 ((i : Int) + 1) = (i : Int) + 1 := by unfold wrap64; omega
theorem end_16 {i : Nat} (h : i < 16) : 16 - (intOf (Value.int .i64 ((i : Int) + 1))).toNat < 16 - (intOf (Value.int .i64 (i : Int))).toNat := by
  show 16 - ((i : Int) + 1).toNat < 16 - ((i : Int)).toNat
  omega
theorem wAt_take (b : List Int) {i : Nat} (h : i < 16) : num4 ((b.drop (4 * i)).take 4) = wAt b i := by rw [num4_take, wAt_low b h]
/-- all[64j+4i : 64j+4i+4] -/
theorem mid_ref (A : Option Addr) (c : Nat) (b : List Int) (j i : Nat) (hi : i < 16) (h : 64 * j + 64 ≤ b.length) (hc : b.length ≤ c) :
    ∃ A' c', (∀ W : World, (Instr.slice 39 (.slice A b.length c) (some (.int .i64 (64 * (j : Int) + 4 * (i : Int)))) (some (.int .i64 (64 * (j : Int) + 4 * (i : Int) + 4))) none).run Tryd.prog W = .ok (.slice A' 4 c') W) ∧ (∀ w : World, ReadsInt w .u8 A b.length b → ReadsInt w .u8 A' 4 (((b.drop (64 * j)).drop (4 * i)).take 4)) ∧ 4 ≤ c' := by
  obtain ⟨A', h1, h2⟩ := Gy.mid_at (P := Tryd.prog) 39 5 Tryd.underlying39 info_u8 A c b (64 * j + 4 * i) 4 (by omega) hc
  have e : ((64 * j + 4 * i : Nat) : Int) = 64 * (j : Int) + 4 * (i : Int) := by omega
  rw [e] at h1
  refine ⟨A', c - (64 * j + 4 * i), h1, fun w hr => ?_, by omega⟩
  rw [List.drop_drop]
  exact h2 w hr
end Go.Proofs.YtlmgikhgmbjfdaaDoor.Dig
