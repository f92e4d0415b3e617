/-
  Helpers of layer 5's rows: how the argument reads; proved of every input, with no condition.
-/
import Derived.Test.YthbojmoiimknhaaOrP
import Derived.Test.YthbojmoiimknhaaAxRow
import Derived.Test.YthbojmoiimknhaaRows
set_option linter.unusedSimpArgs false
set_option linter.unusedVariables false
namespace Go.Proofs.Ythbojmoiimknhaa
open Go.ChangeShapes Go.WideShapes Go.ChangeAt Go.RowKit Go.Ax

theorem Try.own : ownKnob Try.prog.godebug = none := by kernel_rfl
theorem Try.laidOut : laidOutB Try.prog = true := by kernel_rfl

abbrev toSh : Sh := .sl (.sl (.int .i64) false) false

theorem of48 : Sh.ofAll Try.prog [toSh] [48] := by
  have h3 : Try.prog.underlying 3 = some (.int .i64) := by kernel_rfl
  have h48 : Try.prog.underlying 48 = some (.slice 29) := by kernel_rfl
  have h29 : Try.prog.underlying 29 = some (.slice 3) := by kernel_rfl
  have hc3 : Try.prog.cellsOf 3 = 1 := by kernel_rfl
  have hc29 : Try.prog.cellsOf 29 = 1 := by kernel_rfl
  have hb29 : Try.prog.bytesOf 29 = 24 := by kernel_rfl
  have hb3 : Try.prog.bytesOf 3 = 8 := by kernel_rfl
  exact ⟨⟨29, h48, hc29, by decide, fun _ => rfl, ⟨3, h29, hc3, by decide, fun _ => rfl, h3, by rw [hb3]; decide⟩, by rw [hb29]; decide⟩, trivial⟩

theorem of48_3 : Sh.ofAll Try.prog [toSh, .int .i64] [48, 3] := by
  have h3 : Try.prog.underlying 3 = some (.int .i64) := by kernel_rfl
  exact ⟨of48.1, h3, trivial⟩

theorem row_has {x : V} (h : (Sh.sl (.int .i64) false).Val x) : ∃ ns : List Int, x = .list .dull (ns.map V.int) ∧ ns.length ≤ 140737488351232 := by
  obtain ⟨xs, h1, h2, _⟩ := val_sl h
  obtain ⟨ns, h3, _⟩ := val_ints h
  refine ⟨ns, h3, ?_⟩
  rw [h1] at h3
  injection h3 with _ h3
  have : ns.length = xs.length := by rw [h3]; simp
  rw [this]; exact h2

theorem to_has {x : V} (h : toSh.Val x) : ∃ to : List (List Int), x = .list .dull (rowsV to) ∧ to.length ≤ 140737488351232 ∧ ∀ l ∈ to, l.length ≤ 140737488351232 := by
  obtain ⟨xs, rfl, h0, h2⟩ := val_sl h
  have key : ∀ ys : List V, (∀ y ∈ ys, ∃ l : List Int, y = .list .dull (l.map V.int) ∧ l.length ≤ 140737488351232) → ∃ to : List (List Int), ys = rowsV to ∧ ∀ l ∈ to, l.length ≤ 140737488351232 := by
    intro ys
    induction ys with
    | nil => exact fun _ => ⟨[], rfl, fun n hn => by cases hn⟩
    | cons y ys ih =>
      intro h
      obtain ⟨n, hn, hw⟩ := h y (by simp)
      obtain ⟨ns, h1, h3⟩ := ih fun z hz => h z (by simp [hz])
      refine ⟨n :: ns, by rw [h1, hn]; rfl, fun m hm => ?_⟩
      rcases List.mem_cons.1 hm with rfl | hm
      · exact hw
      · exact h3 m hm
  obtain ⟨to, h1, h3⟩ := key xs fun y hy => by
    obtain ⟨cs, h4, h5, h6⟩ := h2 y hy
    exact row_has ⟨cs, h6, h4⟩
  refine ⟨to, by rw [h1], ?_, h3⟩
  have : to.length = xs.length := by rw [h1, rowsV_len]
  rw [this]; exact h0
end Go.Proofs.Ythbojmoiimknhaa
