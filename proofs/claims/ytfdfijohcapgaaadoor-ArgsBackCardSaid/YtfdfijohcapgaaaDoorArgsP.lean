/- The plain law under the statements of package args: words and lines, numbers and their texts. -/
import Derived.Lib.SplitLaws
import Derived.Lib.Join
import Derived.Lib.ItoaNum
import Derived.Lib.ParseIntBCases
import Derived.Lib.SlicesS
import Derived.Lib.ItoaLen
namespace Go.Proofs.YtfdfijohcapgaaaDoor.Args
open Go

/-- what lies between the blanks -/
def spl : List UInt8 → List (List UInt8)
  | [] => [[]]
  | c :: r => if c = 32 then [] :: spl r else match spl r with
    | h :: t => (c :: h) :: t
    | [] => [[c]]
theorem spl_ne : ∀ l, ∃ h t, spl l = h :: t
  | [] => ⟨_, _, rfl⟩
  | c :: r => by
    obtain ⟨h, t, e⟩ := spl_ne r
    by_cases hc : c = 32
    · exact ⟨[], spl r, by rw [spl, if_pos hc]⟩
    · exact ⟨c :: h, t, by rw [spl, if_neg hc, e]⟩
theorem spl_at : ∀ (l : List UInt8), (Lib.index l [32] = -1 ∧ spl l = [l]) ∨ ∃ i : Nat, Lib.index l [32] = i ∧ i < l.length ∧ spl l = l.take i :: spl (l.drop (i + 1))
  | [] => .inl ⟨rfl, rfl⟩
  | c :: r => by
    have hI := Lib.index_one (c :: r) 32
    rw [Lib.indexByte, ← Lib.index_one r 32] at hI
    by_cases hc : c = 32
    · refine .inr ⟨0, ?_, by simp, ?_⟩
      · rw [hI, if_pos (beq_iff_eq.2 hc)]; try rfl
      · rw [spl, if_pos hc]; rfl
    · rw [if_neg (fun h => hc (beq_iff_eq.1 h))] at hI
      rcases spl_at r with ⟨h1, h2⟩ | ⟨i, h1, h2, h3⟩
      · refine .inl ⟨?_, ?_⟩
        · rw [hI, h1]; rfl
        · rw [spl, if_neg hc, h2]
      · refine .inr ⟨i + 1, ?_, by simp; omega, ?_⟩
        · rw [hI, h1, if_neg (by simp only [beq_iff_eq]; omega)]; omega
        · rw [spl, if_neg hc, h3]; rfl
theorem splitK_spl : ∀ (n : Nat) (l : List UInt8), l.length ≤ n → Lib.splitK [32] 0 (Lib.count l [32]) l = spl l
  | 0, l, h => by
    obtain rfl : l = [] := List.eq_nil_of_length_eq_zero (by omega)
    rfl
  | n + 1, l, h => by
    rcases spl_at l with ⟨h1, h2⟩ | ⟨i, h1, h2, h3⟩
    · rw [Lib.count_miss h1, h2]; rfl
    · rw [Lib.count_hit (by decide) h1, Nat.add_comm, Lib.splitK, h1, if_neg (by simp only [beq_iff_eq]; omega), h3]
      have e : ((i : Int)).toNat = i := by omega
      rw [e]
      have := splitK_spl n (l.drop (i + 1)) (by rw [List.length_drop]; omega)
      simp only [Nat.add_zero, List.length_cons, List.length_nil, Nat.zero_add]
      rw [this]
theorem tail_cons (y : List UInt8) (r : List (List UInt8)) : Lib.joinTail [32] (y :: r) = 32 :: (y ++ Lib.joinTail [32] r) := by simp [Lib.joinTail]
theorem join_spl : ∀ l, Lib.join (spl l) [32] = l
  | [] => rfl
  | c :: r => by
    have ih := join_spl r
    obtain ⟨h, t, e⟩ := spl_ne r
    rw [e, Lib.join_cons] at ih
    by_cases hc : c = 32
    · rw [spl, if_pos hc, e, Lib.join_cons, tail_cons, ih, hc]; rfl
    · rw [spl, if_neg hc, e]
      simp only
      rw [Lib.join_cons, List.cons_append, ih]
theorem spl_app : ∀ (w l : List UInt8), (∀ b ∈ w, b ≠ 32) → ∀ h t, spl l = h :: t → spl (w ++ l) = (w ++ h) :: t
  | [], l, _, h, t, e => by simpa using e
  | c :: w, l, hw, h, t, e => by
    have hc : c ≠ 32 := hw c (by simp)
    rw [List.cons_append, spl, if_neg hc, spl_app w l (fun b hb => hw b (by simp [hb])) h t e]
    rfl
theorem spl_tail : ∀ (r : List (List UInt8)), (∀ w ∈ r, ∀ b ∈ w, b ≠ 32) → spl (Lib.joinTail [32] r) = [] :: r
  | [], _ => rfl
  | y :: r, h => by
    rw [tail_cons, spl, if_pos rfl, spl_app y _ (h y (by simp)) [] r (spl_tail r fun w hw => h w (by simp [hw]))]
    simp
theorem spl_join (x : List UInt8) (r : List (List UInt8)) (h : ∀ w ∈ x :: r, ∀ b ∈ w, b ≠ 32) : spl (Lib.join (x :: r) [32]) = x :: r := by
  rw [Lib.join_cons, spl_app x _ (h x (by simp)) [] r (spl_tail r fun w hw => h w (by simp [hw]))]
  simp

/-- a number's text, read -/
def numL (l : List UInt8) : Int :=
  match Lib.parseUintB 32 l with
  | .ok u => if Lib.decDigits u = l then (u : Int) else -1
  | _ => -1
theorem reads_on (M : Nat) : ∀ (l r : List UInt8) (a v : Nat), Lib.parseUintM M a l = .ok v → Lib.parseUintM M a (l ++ r) = Lib.parseUintM M v r
  | [], r, a, v, h => by simp only [Lib.parseUintM] at h; cases h; rfl
  | c :: l, r, a, v, h => by
    rw [List.cons_append]
    conv => lhs; unfold Lib.parseUintM
    unfold Lib.parseUintM at h
    by_cases h1 : 48 ≤ c.toNat ∧ c.toNat ≤ 57
    · rw [if_pos h1] at h ⊢
      by_cases h2 : 1844674407370955162 ≤ a
      · rw [if_pos h2] at h; cases h
      · rw [if_neg h2] at h ⊢
        by_cases h3 : M < a * 10 + (c.toNat - 48)
        · rw [if_pos h3] at h; cases h
        · rw [if_neg h3] at h ⊢
          exact reads_on M l r _ v h
    · rw [if_neg h1] at h; cases h
theorem dec_reads (M : Nat) : ∀ (n u : Nat), u ≤ n → u ≤ M → u < 18446744073709551616 → Lib.parseUintM M 0 (Lib.decDigits u) = .ok u := by
  intro n
  induction n with
  | zero =>
    intro u h1 h2 h3
    obtain rfl : u = 0 := by omega
    rw [Lib.decDigits_one (by decide)]
    unfold Lib.parseUintM
    rw [if_pos (by decide), if_neg (by decide), if_neg (by simp)]
    rfl
  | succ n ih =>
    intro u h1 h2 h3
    have hd : ∀ d, d < 10 → (UInt8.ofNat (48 + d)).toNat = 48 + d := fun d hd => by rw [UInt8.toNat_ofNat']; omega
    by_cases hu : u < 10
    · rw [Lib.decDigits_one hu]
      unfold Lib.parseUintM
      rw [hd u hu, if_pos (by omega), if_neg (by omega), if_neg (by omega)]
      unfold Lib.parseUintM
      congr 1; omega
    · rw [Lib.decDigits, dif_neg hu, reads_on M _ _ _ _ (ih (u / 10) (by omega) (by omega) (by omega))]
      unfold Lib.parseUintM
      rw [hd (u % 10) (by omega), if_pos (by omega), if_neg (by omega), if_neg (by omega)]
      unfold Lib.parseUintM
      congr 1; omega
theorem dec_ne (u : Nat) : Lib.decDigits u ≠ [] := by
  rw [Lib.decDigits]
  split <;> simp
theorem dec_digit : ∀ (n u : Nat), u ≤ n → ∀ b ∈ Lib.decDigits u, 48 ≤ b.toNat ∧ b.toNat ≤ 57 := by
  have hd : ∀ d, d < 10 → (UInt8.ofNat (48 + d)).toNat = 48 + d := fun d hd => by rw [UInt8.toNat_ofNat']; omega
  intro n
  induction n with
  | zero =>
    intro u h b hb
    obtain rfl : u = 0 := by omega
    rw [Lib.decDigits_one (by decide)] at hb
    simp only [List.mem_singleton] at hb
    subst hb
    rw [hd 0 (by decide)]; omega
  | succ n ih =>
    intro u h b hb
    by_cases hu : u < 10
    · rw [Lib.decDigits_one hu] at hb
      simp only [List.mem_singleton] at hb
      subst hb
      rw [hd u hu]; omega
    · rw [Lib.decDigits, dif_neg hu] at hb
      rcases List.mem_append.1 hb with hb | hb
      · exact ih (u / 10) (by omega) b hb
      · simp only [List.mem_singleton] at hb
        subst hb
        rw [hd (u % 10) (by omega)]; omega
theorem num_dec (u : Nat) (h : u ≤ 4294967295) : numL (Lib.decDigits u) = (u : Int) := by
  have e : Lib.parseUintB 32 (Lib.decDigits u) = .ok u := by
    unfold Lib.parseUintB
    rw [if_neg (dec_ne u)]
    exact dec_reads _ u u (Nat.le_refl _) (by omega) (by omega)
  unfold numL
  rw [e]
  simp
theorem num_back (l : List UInt8) (h : 0 ≤ numL l) : ∃ u : Nat, l = Lib.decDigits u ∧ numL l = (u : Int) := by
  unfold numL at h ⊢
  rcases hc : Lib.parseUintB 32 l with u | _ | _ <;> rw [hc] at h <;> simp only at h
  · by_cases hd : Lib.decDigits u = l
    · exact ⟨u, hd.symm, by simp only; rw [if_pos hd]⟩
    · rw [if_neg hd] at h; omega
  · omega
  · omega
theorem num_top (l : List UInt8) : numL l ≤ 4294967295 ∧ -1 ≤ numL l := by
  unfold numL
  rcases hc : Lib.parseUintB 32 l with u | _ | _ <;> simp only
  · have := Lib.parseUintB_le hc
    split <;> omega
  · omega
  · omega
theorem itoa_num (n : Int) (h0 : 0 ≤ n) (h1 : n ≤ 4294967295) : numL (Lib.itoa n) = n := by
  unfold Lib.itoa
  rw [if_neg (by omega), num_dec _ (by omega)]
  omega
theorem itoa_back (l : List UInt8) (h : 0 ≤ numL l) : Lib.itoa (numL l) = l := by
  obtain ⟨u, h1, h2⟩ := num_back l h
  rw [h2, h1]
  unfold Lib.itoa
  rw [if_neg (by omega)]
  congr 1

/-- what is said -/
structure Ar where
  verb : ByteArray
  slice : Int
  count : Int
  frm : Int
  names : List ByteArray
def none : Ar := ⟨⟨#[]⟩, 0, 0, 0, []⟩
def crB : ByteArray := ⟨#[99, 114, 101, 97, 116, 101]⟩
def exB : ByteArray := ⟨#[101, 120, 116, 101, 110, 100]⟩
def veB : ByteArray := ⟨#[118, 101, 114, 105, 102, 121]⟩
def reB : ByteArray := ⟨#[114, 101, 112, 97, 105, 114]⟩
def liB : ByteArray := ⟨#[108, 105, 115, 116]⟩
def bl : ByteArray := ⟨#[32]⟩
def num (s : ByteArray) : Int := numL s.data.toList
def wd (s : ByteArray) : List ByteArray := Lib.splitB bl 0 (Lib.countB s bl) s
section
variable (right : ByteArray → Bool)
def pcr : List ByteArray → Ar × Int
  | a :: b :: n :: ns =>
    if num a < 0 ∨ num b < 0 then (none, 2)
    else if ¬ (1 ≤ num a ∧ num a ≤ 256 ∧ 0 ≤ num b ∧ num b ≤ 64) then (none, 1)
    else if ¬ ((n :: ns).all right = true) then (none, 12)
    else if (n :: ns).length > 8 then (none, 5)
    else (⟨crB, num a, num b, 0, n :: ns⟩, 0)
  | _ => (none, 2)
def pex : List ByteArray → Ar × Int
  | [a, b] =>
    if num a < 0 ∨ num b < 0 then (none, 2)
    else if ¬ (1 ≤ num b ∧ num b ≤ 64) then (none, 1)
    else (⟨exB, 0, num b, num a, []⟩, 0)
  | _ => (none, 2)
def prw : List ByteArray → Ar × Int
  | [] => (none, 2)
  | v :: r =>
    if v = crB then pcr right r
    else if v = exB then pex r
    else if (v = veB ∨ v = reB ∨ v = liB) ∧ r = [] then (⟨v, 0, 0, 0, []⟩, 0)
    else (none, 2)
def prs (s : ByteArray) : Ar × Int :=
  if s.size > 1000 then (none, 3)
  else if Lib.containsS (wd s) ⟨#[]⟩ = true then (none, 2)
  else prw right (wd s)
end
def itB (n : Int) : ByteArray := ⟨(Lib.itoa n).toArray⟩
def txt (a : Ar) : List ByteArray :=
  a.verb :: (if a.verb = crB then itB a.slice :: itB a.count :: a.names else if a.verb = exB then [itB a.frm, itB a.count] else [])
def joinB (l : List ByteArray) : ByteArray := ⟨(Lib.join (l.map (·.data.toList)) [32]).toArray⟩
theorem ba_ext (a b : ByteArray) (h : a.data.toList = b.data.toList) : a = b := by
  obtain ⟨⟨a⟩⟩ := a
  obtain ⟨⟨b⟩⟩ := b
  simp only at h
  rw [h]
theorem wd_list (s : ByteArray) : (wd s).map (·.data.toList) = spl s.data.toList := by
  unfold wd
  rw [Lib.splitB_data]
  exact splitK_spl _ _ (Nat.le_refl _)
theorem wd_len (s : ByteArray) : (wd s).length = Lib.countB s bl + 1 := Lib.splitB_all bl (by decide) 0 _ s rfl
theorem join_wd (s : ByteArray) : joinB (wd s) = s := by
  apply ba_ext
  unfold joinB
  rw [wd_list, join_spl]
theorem wd_join (x : ByteArray) (r : List ByteArray) (h : ∀ w ∈ x :: r, ∀ b ∈ w.data.toList, b ≠ 32) : wd (joinB (x :: r)) = x :: r := by
  have inj : ∀ (a b : List ByteArray), a.map (·.data.toList) = b.map (·.data.toList) → a = b := by
    intro a
    induction a with
    | nil => intro b h; cases b with
      | nil => rfl
      | cons _ _ => simp at h
    | cons x a ih => intro b h; cases b with
      | nil => simp at h
      | cons y b =>
        simp only [List.map_cons, List.cons.injEq] at h
        rw [ba_ext x y h.1, ih b h.2]
  apply inj
  rw [wd_list]
  unfold joinB
  simp only [List.map_cons]
  exact spl_join _ _ fun w hw => by
    simp only [← List.map_cons (f := fun b : ByteArray => b.data.toList), List.mem_map] at hw
    obtain ⟨v, hv, rfl⟩ := hw
    exact h v hv
theorem itB_num (w : ByteArray) (h : 0 ≤ num w) : itB (num w) = w := by
  apply ba_ext
  unfold itB num
  rw [itoa_back _ h]
theorem num_itB (n : Int) (h0 : 0 ≤ n) (h1 : n ≤ 4294967295) : num (itB n) = n := by
  unfold itB num
  exact itoa_num n h0 h1

/-- what is read has just that text -/
theorem prw_txt (right : ByteArray → Bool) (l : List ByteArray) (a : Ar) (h : prw right l = (a, 0)) : txt a = l := by
  cases l with
  | nil => simp [prw] at h
  | cons v r =>
    simp only [prw] at h
    by_cases hv : v = crB
    · rw [if_pos hv] at h
      match r, h with
      | x :: y :: n :: ns, h =>
        simp only [pcr] at h
        split at h
        · simp at h
        · next h1 =>
          split at h
          · simp at h
          · split at h
            · simp at h
            · split at h
              · simp at h
              · simp only [Prod.mk.injEq, and_true] at h
                subst h
                simp only [txt, if_true]
                rw [itB_num x (by omega), itB_num y (by omega), hv]
      | [], h => simp [pcr] at h
      | [_], h => simp [pcr] at h
      | [_, _], h => simp [pcr] at h
    · rw [if_neg hv] at h
      by_cases hx : v = exB
      · rw [if_pos hx] at h
        match r, h with
        | [x, y], h =>
          simp only [pex] at h
          split at h
          · simp at h
          · next h1 =>
            split at h
            · simp at h
            · simp only [Prod.mk.injEq, and_true] at h
              subst h
              have hne : ¬ (exB = crB) := by decide
              simp only [txt, if_neg hne, if_true]
              rw [itB_num x (by omega), itB_num y (by omega), hx]
        | [], h => simp [pex] at h
        | [_], h => simp [pex] at h
        | _ :: _ :: _ :: _, h => simp [pex] at h
      · rw [if_neg hx] at h
        split at h
        · next h1 =>
          simp only [Prod.mk.injEq, and_true] at h
          subst h
          simp only [txt, if_neg hv, if_neg hx]
          rw [h1.2]
        · simp at h
theorem prs_txt (right : ByteArray → Bool) (s : ByteArray) (a : Ar) (h : prs right s = (a, 0)) : joinB (txt a) = s ∧ s.size ≤ 1000 := by
  unfold prs at h
  split at h
  · simp at h
  · next h1 =>
    split at h
    · simp at h
    · exact ⟨by rw [prw_txt right _ a h, join_wd], by omega⟩
/-- what is refused -/
theorem prs_no (right : ByteArray → Bool) (s : ByteArray) (h : (prs right s).2 ≠ 0) : (prs right s).1 = none ∧ ((s.size > 1000 ∧ (prs right s).2 = 3) ∨ (¬ s.size > 1000 ∧ ((prs right s).2 = 2 ∨ (prs right s).2 = 1 ∨ (prs right s).2 = 12 ∨ (prs right s).2 = 5))) := by
  unfold prs at h ⊢
  split
  · next h1 => exact ⟨rfl, .inl ⟨h1, rfl⟩⟩
  · next h1 =>
    rw [if_neg h1] at h
    split
    · exact ⟨rfl, .inr ⟨h1, .inl rfl⟩⟩
    · next h2 =>
      rw [if_neg h2] at h
      suffices hs : (prw right (wd s)).1 = none ∧ ((prw right (wd s)).2 = 2 ∨ (prw right (wd s)).2 = 1 ∨ (prw right (wd s)).2 = 12 ∨ (prw right (wd s)).2 = 5) from ⟨hs.1, .inr ⟨h1, hs.2⟩⟩
      generalize wd s = l at *
      cases l with
      | nil => exact ⟨rfl, .inl rfl⟩
      | cons v r =>
        simp only [prw] at h ⊢
        by_cases hv : v = crB
        · rw [if_pos hv] at h ⊢
          match r, h with
          | x :: y :: n :: ns, h =>
            simp only [pcr] at h ⊢
            split
            · exact ⟨rfl, .inl rfl⟩
            · next q1 =>
              rw [if_neg q1] at h
              split
              · exact ⟨rfl, .inr (.inl rfl)⟩
              · next q2 =>
                rw [if_neg q2] at h
                split
                · exact ⟨rfl, .inr (.inr (.inl rfl))⟩
                · next q3 =>
                  rw [if_neg q3] at h
                  split
                  · exact ⟨rfl, .inr (.inr (.inr rfl))⟩
                  · next q4 => rw [if_neg q4] at h; exact absurd rfl h
          | [], _ => exact ⟨rfl, .inl rfl⟩
          | [_], _ => exact ⟨rfl, .inl rfl⟩
          | [_, _], _ => exact ⟨rfl, .inl rfl⟩
        · rw [if_neg hv] at h ⊢
          by_cases hx : v = exB
          · rw [if_pos hx] at h ⊢
            match r, h with
            | [x, y], h =>
              simp only [pex] at h ⊢
              split
              · exact ⟨rfl, .inl rfl⟩
              · next q1 =>
                rw [if_neg q1] at h
                split
                · exact ⟨rfl, .inr (.inl rfl)⟩
                · next q2 => rw [if_neg q2] at h; exact absurd rfl h
            | [], _ => exact ⟨rfl, .inl rfl⟩
            | [_], _ => exact ⟨rfl, .inl rfl⟩
            | _ :: _ :: _ :: _, _ => exact ⟨rfl, .inl rfl⟩
          · rw [if_neg hx] at h ⊢
            split
            · next q1 => rw [if_pos q1] at h; exact absurd rfl h
            · exact ⟨rfl, .inl rfl⟩

/-- what may be said -/
def okA (right : ByteArray → Bool) (a : Ar) : Prop :=
  (a.verb = crB ∧ (1 ≤ a.slice ∧ a.slice ≤ 256 ∧ 0 ≤ a.count ∧ a.count ≤ 64 ∧ a.frm = 0 ∧ 1 ≤ a.names.length ∧ a.names.length ≤ 8 ∧ a.names.all right = true)) ∨
  (a.verb = exB ∧ (a.slice = 0 ∧ 1 ≤ a.count ∧ a.count ≤ 64 ∧ a.names = [])) ∨
  ((a.verb = veB ∨ a.verb = reB ∨ a.verb = liB) ∧ (a.slice = 0 ∧ a.count = 0 ∧ a.frm = 0 ∧ a.names = []))
theorem prs_ok (right : ByteArray → Bool) (s : ByteArray) (a : Ar) (h : prs right s = (a, 0)) : okA right a := by
  unfold prs at h
  split at h
  · simp at h
  · split at h
    · simp at h
    · generalize wd s = l at h
      cases l with
      | nil => simp [prw] at h
      | cons v r =>
        simp only [prw] at h
        by_cases hv : v = crB
        · rw [if_pos hv] at h
          match r, h with
          | x :: y :: n :: ns, h =>
            simp only [pcr] at h
            split at h
            · simp at h
            · split at h
              · simp at h
              · next h2 =>
                split at h
                · simp at h
                · next h3 =>
                  split at h
                  · simp at h
                  · next h4 =>
                    simp only [Prod.mk.injEq, and_true] at h
                    subst h
                    simp only [Decidable.not_not] at h2 h3
                    exact .inl ⟨rfl, h2.1, h2.2.1, h2.2.2.1, h2.2.2.2, rfl, by simp, by simp only; omega, h3⟩
          | [], h => simp [pcr] at h
          | [_], h => simp [pcr] at h
          | [_, _], h => simp [pcr] at h
        · rw [if_neg hv] at h
          by_cases hx : v = exB
          · rw [if_pos hx] at h
            match r, h with
            | [x, y], h =>
              simp only [pex] at h
              split at h
              · simp at h
              · split at h
                · simp at h
                · next h2 =>
                  simp only [Prod.mk.injEq, and_true] at h
                  subst h
                  simp only [Decidable.not_not] at h2
                  exact .inr (.inl ⟨rfl, rfl, h2.1, h2.2, rfl⟩)
            | [], h => simp [pex] at h
            | [_], h => simp [pex] at h
            | _ :: _ :: _ :: _, h => simp [pex] at h
          · rw [if_neg hx] at h
            split at h
            · next h1 =>
              simp only [Prod.mk.injEq, and_true] at h
              subst h
              exact .inr (.inr ⟨h1.1, rfl, rfl, rfl, rfl⟩)
            · simp at h
theorem itB_digit (n : Int) (h : 0 ≤ n) : ∀ b ∈ (itB n).data.toList, 48 ≤ b.toNat ∧ b.toNat ≤ 57 := by
  unfold itB Lib.itoa
  rw [if_neg (by omega)]
  exact dec_digit _ _ (Nat.le_refl _)
theorem itB_ne (n : Int) (h : 0 ≤ n) : itB n ≠ ⟨#[]⟩ := by
  intro e
  have : (itB n).data.toList = [] := by rw [e]
  unfold itB Lib.itoa at this
  rw [if_neg (by omega)] at this
  exact dec_ne _ this
end Go.Proofs.YtfdfijohcapgaaaDoor.Args
