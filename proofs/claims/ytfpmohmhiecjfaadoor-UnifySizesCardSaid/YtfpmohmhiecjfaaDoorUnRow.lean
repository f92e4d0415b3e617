/-
  Helpers of layer 6's rows: how the arguments read; what the library's table holds; proved of every input, with no condition.
-/
import Derived.Test.YtfpmohmhiecjfaaDoorUnW
import Derived.Test.YtfpmohmhiecjfaaDoorAxRow
import Derived.LaidMore
import Derived.OpenShut
import Derived.Stop.Joined
import Derived.Lib.LaidTab
import Derived.Stop.LaidErr
import Derived.Test.YtfpmohmhiecjfaaDoorRows
set_option linter.unusedSimpArgs false
set_option linter.unusedVariables false
namespace Go.Proofs.YtfpmohmhiecjfaaDoor
open Go.ChangeShapes Go.WideShapes Go.ChangeAt Go.RowKit Go.Ax

theorem Tryd.own : ownKnob Tryd.prog.godebug = none := by kernel_rfl
theorem Tryd.laidOut : laidOutB Tryd.prog = true := by kernel_rfl

abbrev ndSh : Sh := .st [.int .i8, .int .u8, .int .u8]
abbrev nlSh : Sh := .sl ndSh true
abbrev nllSh : Sh := .sl nlSh false

theorem u8_in {n : Int} (h : (Lit.int .u8 n).wf = true) : 0 ≤ n ∧ n < 256 := by
  simp only [Lit.wf, Bool.and_eq_true, decide_eq_true_eq] at h
  have h1 : 0 ≤ n := h.1
  have h2 : n ≤ 255 := h.2
  exact ⟨h1, by omega⟩
theorem i8_in {n : Int} (h : (Lit.int .i8 n).wf = true) : -128 ≤ n ∧ n < 128 := by
  simp only [Lit.wf, Bool.and_eq_true, decide_eq_true_eq] at h
  have h1 : -128 ≤ n := h.1
  have h2 : n ≤ 127 := h.2
  exact ⟨h1, by omega⟩

theorem nd_has {cs : List V} (h : ndSh.Has cs) : ∃ a : Nd, V.agg cs = encN a ∧ a.ok := by
  obtain ⟨_, _, rfl, ⟨v, rfl, hv⟩, _, _, rfl, ⟨n, rfl, hn⟩, _, _, rfl, ⟨a, rfl, ha⟩, rfl⟩ := h
  obtain ⟨n1, n2⟩ := u8_in hn
  obtain ⟨a1, a2⟩ := u8_in ha
  obtain ⟨v1, v2⟩ := i8_in hv
  refine ⟨⟨v, n.toNat, a.toNat⟩, ?_, v1, v2, by simp only; omega, by simp only; omega⟩
  simp only [encN, Int.toNat_of_nonneg n1, Int.toNat_of_nonneg a1]
  rfl

theorem nl_has {x : V} (h : nlSh.Val x) : ∃ l : List Nd, x = .list .dull (l.map encN) ∧ l.length ≤ 140737488355328 ∧ ∀ a ∈ l, a.ok := by
  obtain ⟨xs, rfl, h0, h2⟩ := val_sl h
  have key : ∀ ys : List V, (∀ y ∈ ys, ∃ a : Nd, y = encN a ∧ a.ok) → ∃ l : List Nd, ys = l.map encN ∧ ∀ a ∈ l, a.ok := by
    intro ys
    induction ys with
    | nil => exact fun _ => ⟨[], rfl, fun n hn => by cases hn⟩
    | cons y ys ih =>
      intro h
      obtain ⟨n, hn, hw⟩ := h y (by simp)
      obtain ⟨ns, h1, h3⟩ := ih fun z hz => h z (by simp [hz])
      refine ⟨n :: ns, by rw [h1, hn]; rfl, fun m hm => ?_⟩
      rcases List.mem_cons.1 hm with rfl | hm
      · exact hw
      · exact h3 m hm
  obtain ⟨l, h1, h3⟩ := key xs fun y hy => by
    obtain ⟨cs, h4, _, h6⟩ := h2 y hy
    obtain ⟨a, h7, h8⟩ := nd_has h6
    exact ⟨a, by rw [h4]; exact h7, h8⟩
  refine ⟨l, by rw [h1], ?_, h3⟩
  rw [h1, List.length_map] at h0
  exact Nat.le_trans h0 (by decide)

theorem nll_has {x : V} (h : nllSh.Val x) : ∃ ls : List (List Nd), x = .list .dull (ls.map encNL) ∧ ls.length ≤ 140737488355328 ∧ (∀ l ∈ ls, l.length ≤ 140737488355328) ∧ ∀ l ∈ ls, ∀ a ∈ l, a.ok := by
  obtain ⟨xs, rfl, h0, h2⟩ := val_sl h
  have key : ∀ ys : List V, (∀ y ∈ ys, ∃ l : List Nd, y = encNL l ∧ l.length ≤ 140737488355328 ∧ ∀ a ∈ l, a.ok) → ∃ ls : List (List Nd), ys = ls.map encNL ∧ (∀ l ∈ ls, l.length ≤ 140737488355328) ∧ ∀ l ∈ ls, ∀ a ∈ l, a.ok := by
    intro ys
    induction ys with
    | nil => exact fun _ => ⟨[], rfl, fun n hn => (by cases hn), fun n hn => (by cases hn)⟩
    | cons y ys ih =>
      intro h
      obtain ⟨n, hn, hw, hw2⟩ := h y (by simp)
      obtain ⟨ns, h1, h3, h4⟩ := ih fun z hz => h z (by simp [hz])
      refine ⟨n :: ns, by rw [h1, hn]; rfl, fun m hm => ?_, fun m hm => ?_⟩
      · rcases List.mem_cons.1 hm with rfl | hm
        · exact hw
        · exact h3 m hm
      · rcases List.mem_cons.1 hm with rfl | hm
        · exact hw2
        · exact h4 m hm
  obtain ⟨ls, h1, h3, h4⟩ := key xs fun y hy => by
    obtain ⟨cs, h4, h5, h6⟩ := h2 y hy
    exact nl_has ⟨cs, h6, by rw [h4]; rfl⟩
  refine ⟨ls, by rw [h1], ?_, h3, h4⟩
  rw [h1, List.length_map] at h0
  exact Nat.le_trans h0 (by decide)

def structIs (P : Program) (t : TypeId) (l : List (Nat × Nat)) : Bool :=
  match P.underlying t with
  | some (.struct fs) => decide (fs.toList.map (fun f => (f.offset, f.type)) = l)
  | _ => false
theorem structIs_spec {P : Program} {t : TypeId} {l : List (Nat × Nat)} (h : structIs P t l = true) : ∃ fs, P.underlying t = some (.struct fs) ∧ fs.toList.map (fun f => (f.offset, f.type)) = l := by
  unfold structIs at h
  split at h
  · rename_i fs e
    exact ⟨fs, e, by simpa using h⟩
  · cases h
theorem three_fields {l : List Field} {a b c a' b' c' : Nat} (h : l.map (fun f => (f.offset, f.type)) = [(a, a'), (b, b'), (c, c')]) :
    ∃ n0 n1 n2 : Field, l = [n0, n1, n2] ∧ n0.offset = a ∧ n0.type = a' ∧ n1.offset = b ∧ n1.type = b' ∧ n2.offset = c ∧ n2.type = c' := by
  match l, h with
  | [n0, n1, n2], h =>
    simp only [List.map_cons, List.map_nil, List.cons.injEq, Prod.mk.injEq, and_true] at h
    obtain ⟨⟨h1, h2⟩, ⟨h3, h4⟩, h5, h6⟩ := h
    exact ⟨n0, n1, n2, rfl, h1, h2, h3, h4, h5, h6⟩

theorem of61 : ndSh.of Tryd.prog 61 := by
  have h : structIs Tryd.prog 61 [(0, 59), (1, 5), (2, 5)] = true := by kernel_rfl
  obtain ⟨fs, h1, h2⟩ := structIs_spec h
  obtain ⟨n0, n1, n2, e, o0, t0, o1, t1, o2, t2⟩ := three_fields h2
  have c59 : Tryd.prog.cellsOf 59 = 1 := by kernel_rfl
  have c5 : Tryd.prog.cellsOf 5 = 1 := by kernel_rfl
  have u59 : Tryd.prog.underlying 59 = some (.int .i8) := by kernel_rfl
  have u5 : Tryd.prog.underlying 5 = some (.int .u8) := by kernel_rfl
  refine ⟨fs, h1, by kernel_rfl, ?_⟩
  rw [e]
  refine ⟨o0, by rw [t0]; exact c59, by rw [t0]; exact u59, o1, by rw [t1]; exact c5, by rw [t1]; exact u5, o2, by rw [t2]; exact c5, by rw [t2]; exact u5, trivial⟩
theorem of33 : nlSh.of Tryd.prog 33 := by
  have h33 : Tryd.prog.underlying 33 = some (.slice 61) := by kernel_rfl
  have hc : Tryd.prog.cellsOf 61 = 3 := by kernel_rfl
  have hb : 1 ≤ Tryd.prog.bytesOf 61 := by decide +kernel
  exact ⟨61, h33, hc, by decide, fun h => (by cases h), of61, hb⟩
theorem of22 : nllSh.of Tryd.prog 22 := by
  have h22 : Tryd.prog.underlying 22 = some (.slice 33) := by kernel_rfl
  have hc : Tryd.prog.cellsOf 33 = 1 := by kernel_rfl
  have hb : 1 ≤ Tryd.prog.bytesOf 33 := by decide +kernel
  exact ⟨33, h22, hc, by decide, fun _ => rfl, of33, hb⟩
theorem of3 : (Sh.int .i64).of Tryd.prog 3 := by
  have h3 : Tryd.prog.underlying 3 = some (.int .i64) := by kernel_rfl
  exact h3

abbrev laid3 : List (String × DataW Unit) := [("math/bits.deBruijn32tab", Rows.laid_math_bits_deBruijn32tab), ("math/bits.deBruijn64tab", Rows.laid_math_bits_deBruijn64tab), ("internal/strconv.uint64pow10", Rows.laid_internal_strconv_uint64pow10)]
/-- The door's own heap meets the condition: three closed facts. -/
theorem door_met (os : Os) (args : Array Value) : laidMetH Tryd.prog laid3 ((World.doorLaid Tryd.prog 400 os).forCall (fun _ _ => 0) ⟨#[], args, []⟩).memory :=
  laidMetH_of_parts3 (fuel := 8) (laidMet_of_run' 8 (by kernel_rfl) (by kernel_rfl)) (by kernel_rfl) (by kernel_rfl)

theorem len_two {α : Type} {l : List α} (h : l.length = 2) : ∃ a b, l = [a, b] := by
  match l, h with
  | [a, b], _ => exact ⟨a, b, rfl⟩
theorem len_three {α : Type} {l : List α} (h : l.length = 3) : ∃ a b c, l = [a, b, c] := by
  match l, h with
  | [a, b, c], _ => exact ⟨a, b, c, rfl⟩
/-- The library's table lies where the abstract memory has it. -/
theorem tab_of_laid {W : World} (h : laidMetH Tryd.prog laid3 W) : ∃ g T z, Tryd.prog.globalNamed "internal/strconv.uint64pow10" = some g ∧ W.heap[g]? = some (.cells pow10Cells T z) := by
  rw [MakeChecks.laidMetH_plain _ _ _ (by kernel_rfl)] at h
  have h2 := h.tail.tail
  have hg : Tryd.prog.globalNamed "internal/strconv.uint64pow10" = some 0 := by kernel_rfl
  have hty : (Tryd.prog.globals[0]?).map (·.type) = some 100 := by kernel_rfl
  have ht : Tryd.prog.underlying 100 = some (.array 20 90) := by kernel_rfl
  have he : Tryd.prog.underlying 90 = some (.int .u64) := by kernel_rfl
  have htab : Lib.TabIs Tryd.prog W "internal/strconv.uint64pow10" .u64 Lib.pow10Tab := Lib.tabIs_of_head hg hty ht he (by kernel_rfl) (by kernel_rfl) h2
  unfold Lib.TabIs World.var? at htab
  rw [hg, Option.bind_some] at htab
  refine ⟨0, ?_⟩
  split at htab
  · rename_i cs T z e
    injection htab with htab
    exact ⟨T, z, hg, by rw [e, htab]; rfl⟩
  · cases htab
def gh1 (w : World) : Gh := { gh0 w with n := 1 }
theorem gh1_le (w : World) : (gh0 w).le (gh1 w) := ⟨Nat.zero_le _, fun i hi => absurd hi (Nat.not_lt_zero _), fun i hi => absurd hi (Nat.not_lt_zero _), fun i hi => absurd hi (Nat.not_lt_zero _), fun _ _ _ h => h, rfl⟩
theorem rel1 {w : World} {g : Nat} {ob : Obj} (h : w.heap[g]? = some ob) : Rel (gh1 w) [.fix g ob] w := by
  refine ⟨rfl, Below.refl _ _, fun _ _ _ h => h, fun i o ho hal => ?_, fun i j o o' ho ho' hal hal' e => ?_, fun i o ho => ?_⟩
  · have : i = 0 := by have := (List.getElem?_eq_some_iff.1 ho).1; simp at this; exact this
    subst this
    simp at ho; subst ho
    exact hal.elim
  · have h1 : i = 0 := by have := (List.getElem?_eq_some_iff.1 ho).1; simp at this; exact this
    have h2 : j = 0 := by have := (List.getElem?_eq_some_iff.1 ho').1; simp at this; exact this
    rw [h1, h2]
  · have : i = 0 := by have := (List.getElem?_eq_some_iff.1 ho).1; simp at this; exact this
    subst this
    simp at ho; subst ho
    exact ⟨(Array.getElem?_eq_some_iff.1 h).1, h⟩
end Go.Proofs.YtfpmohmhiecjfaaDoor
