/- ReplayPlays: the printed walk, and the plain law. -/
import Derived.Test.YtcmigmldecacpaaPureReplayPlays
import Derived.Test.YtcmigmldecacpaaQReplayPlaysx
import Derived.Test.YtcmigmldecacpaaOpenV
import Derived.Test.YtcmigmldecacpaaOpenA
namespace Go.Proofs.Ytcmigmldecacpaa.OwnPlays
open Go Go.RowKit Go.Proofs.YtcmigmldecacpaaW.PrintWords Go.Proofs.YtcmigmldecacpaaW.PrintMore Go.Proofs.Ytcmigmldecacpaa.QReplayPlays

set_option maxRecDepth 100000 in
theorem opens_deed : Gy.Opens Try.prog 42 k42 (fun d => (Lit.int .i64 d.f0).wf = true ∧ (Lit.int .i64 d.f1).wf = true ∧ (Lit.int .u8 d.f2).wf = true) := by
  have u8 := Gy.Opens.int (P := Try.prog) Try.underlying5 (by kernel_rfl)
  have i := Gy.Opens.int (P := Try.prog) Try.underlying3 (by kernel_rfl)
  have h2 := Gy.OpensAt.one (f := { name := "C", type := 5, offset := 2, embedded := false, tag := "", pkgPath := "", byteOffset := 16 }) (off := 2) rfl u8
  have h1 := Gy.OpensAt.cons (f := { name := "From", type := 3, offset := 1, embedded := false, tag := "", pkgPath := "", byteOffset := 8 }) (off := 1) rfl i h2
  have h0 := Gy.OpensAt.cons (f := { name := "To", type := 3, offset := 0, embedded := false, tag := "", pkgPath := "", byteOffset := 0 }) (off := 0) rfl i h1
  exact Gy.Opens.iso (Gy.Opens.struct Try.underlying42 (by kernel_rfl) h0) (fun x : S42 => (x.f0, x.f1, x.f2)) (fun p => ⟨p.1, p.2.1, p.2.2⟩) (fun _ => rfl)
set_option maxRecDepth 100000 in
theorem opens_plan : Gy.Opens Try.prog 38 k38 (fun s => (s.f0.length ≤ 9223372036854775807 ∧ ∀ d ∈ s.f0, (Lit.int .i64 d.f0).wf = true ∧ (Lit.int .i64 d.f1).wf = true ∧ (Lit.int .u8 d.f2).wf = true) ∧ (s.f1.length ≤ 9223372036854775807 ∧ ∀ z ∈ s.f1, (Lit.int .i64 z).wf = true)) := by
  have i := Gy.Opens.int (P := Try.prog) Try.underlying3 (by kernel_rfl)
  have sd := Gy.Opens.slice (P := Try.prog) (t := 35) Try.underlying35 (by kernel_rfl) opens_deed
  have si := Gy.Opens.slice (P := Try.prog) (t := 36) Try.underlying36 (by kernel_rfl) i
  have h1 := Gy.OpensAt.one (f := { name := "Where", type := 36, offset := 1, embedded := false, tag := "", pkgPath := "", byteOffset := 24 }) (off := 1) rfl si
  have h0 := Gy.OpensAt.cons (f := { name := "Deeds", type := 35, offset := 0, embedded := false, tag := "", pkgPath := "", byteOffset := 0 }) (off := 0) rfl sd h1
  exact Gy.Opens.iso (Gy.Opens.struct Try.underlying38 (by kernel_rfl) h0) (fun x : S38 => (x.f0, x.f1)) (fun p => ⟨p.1, p.2⟩) (fun _ => rfl)
theorem plays (cs : Array Value) (s : S38) (A1 : Option Addr) (c1 : Nat) (l : List (List Int)) (W : World) (hK : (k38).K W s cs.toList)
    (hg0 : (s.f0.length ≤ 9223372036854775807 ∧ ∀ d ∈ s.f0, (Lit.int .i64 d.f0).wf = true ∧ (Lit.int .i64 d.f1).wf = true ∧ (Lit.int .u8 d.f2).wf = true) ∧ (s.f1.length ≤ 9223372036854775807 ∧ ∀ z ∈ s.f1, (Lit.int .i64 z).wf = true))
    (hC : (Kd.slice 5 (Kd.int .u8)).C W A1 l.length l) (hl : l.length ≤ c1) (hg : l.length ≤ 9223372036854775807 ∧ ∀ p ∈ l, (p.length ≤ 9223372036854775807 ∧ ∀ x ∈ p, (Lit.int .u8 x).wf = true)) :
    Calls Try.prog 4 #[.agg cs, .slice A1 l.length c1] W fun e w' => e = .returned (.bool true) ∧ Below W.heap.size W w' := by
  obtain ⟨B0, d0, B1, d1, he, h0, h1, h2, h3⟩ := k38_open hK
  obtain rfl : cs = #[.slice B0 s.f0.length d0, .slice B1 s.f1.length d1] := Array.ext' he
  obtain ⟨k, hk⟩ := Pure.ReplayPlays s.f0 s.f1 l hg.1 (fun r hr x hx => OpenB.u8_wf ((hg.2 r hr).2 x hx)) (fun d hd => OpenB.u8_wf (hg0.1.2 d hd).2.2)
  exact geyserlaw12_ReplayPlays.calls k B0 d0 s.f0 B1 d1 s.f1 (fun _ => True) A1 c1 l true W h1 h0 h3 h2 (Kd.V_mk hl (Kd.F_mono (Kd.C_F (Kd.heap_slice _ (Kd.heap_int .u8)) hC) (fun _ _ => trivial))) hk
end Go.Proofs.Ytcmigmldecacpaa.OwnPlays
