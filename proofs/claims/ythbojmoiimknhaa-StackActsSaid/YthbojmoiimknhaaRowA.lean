/-
  StackActs of layer 18 answers true for every number and every slice of acts, and leaves all memory as it was: proved of every input, with no condition.
-/
import Derived.Test.YthbojmoiimknhaaStQ
import Derived.Test.YthbojmoiimknhaaAxRow
import Derived.Test.YthbojmoiimknhaaRows
set_option linter.unusedSimpArgs false
set_option linter.unusedVariables false
namespace Go.Proofs.Ythbojmoiimknhaa
open Go.ChangeShapes Go.WideShapes Go.ChangeAt Go.RowKit Go.Ax

theorem Try.own : ownKnob Try.prog.godebug = none := by kernel_rfl
theorem Try.laidOut : laidOutB Try.prog = true := by kernel_rfl

abbrev frmSh : Sh := .st [.int .i64, .int .i64, .int .i64, .sl (.int .i64) false]
abbrev actSh : Sh := .st [.int .u8, frmSh, .int .i64]

theorem u8_in {n : Int} (h : (Lit.int .u8 n).wf = true) : 0 ≤ n ∧ n < 256 := by
  simp only [Lit.wf, Bool.and_eq_true, decide_eq_true_eq] at h
  have h1 : 0 ≤ n := h.1
  have h2 : n ≤ 255 := h.2
  exact ⟨h1, by omega⟩

theorem act_has {cs : List V} (h : actSh.Has cs) : ∃ a : ActIn, V.agg cs = .agg a.cells ∧ 0 ≤ a.kd ∧ a.kd < 256 := by
  obtain ⟨_, _, rfl, ⟨kd, rfl, hkd⟩, _, _, rfl, ⟨_, _, rfl, ⟨fk, rfl, _⟩, _, _, rfl, ⟨fa, rfl, _⟩, _, _, rfl, ⟨fb, rfl, _⟩, c, _, rfl, hc, rfl⟩, _, _, rfl, ⟨n, rfl, _⟩, rfl⟩ := h
  obtain ⟨ns, h1, h2⟩ := val_ints (k := .i64) (x := c.getD 0 .junk) ⟨c, hc, rfl⟩
  obtain ⟨xs, hx, _⟩ := hc
  subst hx
  refine ⟨⟨kd, ⟨fk, fa, fb, ns⟩, n⟩, ?_, u8_in hkd⟩
  rw [show [V.list Tag.dull xs].getD 0 .junk = V.list Tag.dull xs from rfl] at h1
  rw [h1]
  rfl

theorem acts_has {x : V} (h : (Sh.sl actSh true).Val x) : ∃ acts : List ActIn, x = .list .dull (actsV acts) ∧ ∀ a ∈ acts, 0 ≤ a.kd ∧ a.kd < 256 := by
  obtain ⟨xs, rfl, _, h2⟩ := val_sl h
  have key : ∀ ys : List V, (∀ y ∈ ys, ∃ a : ActIn, y = .agg a.cells ∧ 0 ≤ a.kd ∧ a.kd < 256) → ∃ acts : List ActIn, ys = actsV acts ∧ ∀ a ∈ acts, 0 ≤ a.kd ∧ a.kd < 256 := by
    intro ys
    induction ys with
    | nil => exact fun _ => ⟨[], rfl, fun n hn => by cases hn⟩
    | cons y ys ih =>
      intro h
      obtain ⟨n, hn, hw⟩ := h y (by simp)
      obtain ⟨ns, h1, h3⟩ := ih fun z hz => h z (by simp [hz])
      refine ⟨n :: ns, by rw [h1, hn]; rfl, fun m hm => ?_⟩
      rcases List.mem_cons.1 hm with rfl | hm
      · exact hw
      · exact h3 m hm
  obtain ⟨acts, h1, h3⟩ := key xs fun y hy => by
    obtain ⟨cs, h4, _, h6⟩ := h2 y hy
    obtain ⟨a, h7, h8⟩ := act_has h6
    exact ⟨a, by rw [h4]; exact h7, h8⟩
  exact ⟨acts, by rw [h1], h3⟩

def structIs (P : Program) (t : TypeId) (l : List (Nat × Nat)) : Bool :=
  match P.underlying t with
  | some (.struct fs) => decide (fs.toList.map (fun f => (f.offset, f.type)) = l)
  | _ => false

theorem structIs_spec {P : Program} {t : TypeId} {l : List (Nat × Nat)} (h : structIs P t l = true) : ∃ fs, P.underlying t = some (.struct fs) ∧ fs.toList.map (fun f => (f.offset, f.type)) = l := by
  unfold structIs at h
  split at h
  · rename_i fs e
    exact ⟨fs, e, by simpa using h⟩
  · cases h

theorem four_fields {l : List Field} {a b c d a' b' c' d' : Nat} (h : l.map (fun f => (f.offset, f.type)) = [(a, a'), (b, b'), (c, c'), (d, d')]) :
    ∃ n0 n1 n2 n3 : Field, l = [n0, n1, n2, n3] ∧ n0.offset = a ∧ n0.type = a' ∧ n1.offset = b ∧ n1.type = b' ∧ n2.offset = c ∧ n2.type = c' ∧ n3.offset = d ∧ n3.type = d' := by
  match l, h with
  | [n0, n1, n2, n3], h =>
    simp only [List.map_cons, List.map_nil, List.cons.injEq, Prod.mk.injEq, and_true] at h
    obtain ⟨⟨h1, h2⟩, ⟨h3, h4⟩, ⟨h5, h6⟩, h7, h8⟩ := h
    exact ⟨n0, n1, n2, n3, rfl, h1, h2, h3, h4, h5, h6, h7, h8⟩

theorem three_fields {l : List Field} {a b c a' b' c' : Nat} (h : l.map (fun f => (f.offset, f.type)) = [(a, a'), (b, b'), (c, c')]) :
    ∃ n0 n1 n2 : Field, l = [n0, n1, n2] ∧ n0.offset = a ∧ n0.type = a' ∧ n1.offset = b ∧ n1.type = b' ∧ n2.offset = c ∧ n2.type = c' := by
  match l, h with
  | [n0, n1, n2], h =>
    simp only [List.map_cons, List.map_nil, List.cons.injEq, Prod.mk.injEq, and_true] at h
    obtain ⟨⟨h1, h2⟩, ⟨h3, h4⟩, h5, h6⟩ := h
    exact ⟨n0, n1, n2, rfl, h1, h2, h3, h4, h5, h6⟩

theorem len2 {α : Type} {l : List α} (h : l.length = 2) : ∃ d e, l = [d, e] := by
  match l, h with
  | [d, e], _ => exact ⟨d, e, rfl⟩

theorem frm_of : frmSh.of Try.prog 31 := by
  have h3 : Try.prog.underlying 3 = some (.int .i64) := by kernel_rfl
  have h29 : Try.prog.underlying 29 = some (.slice 3) := by kernel_rfl
  have hc : Try.prog.cellsOf 31 = 4 := by kernel_rfl
  have hc3 : Try.prog.cellsOf 3 = 1 := by kernel_rfl
  have hc29 : Try.prog.cellsOf 29 = 1 := by kernel_rfl
  have hb3 : Try.prog.bytesOf 3 = 8 := by kernel_rfl
  have h31 : structIs Try.prog 31 [(0, 3), (1, 3), (2, 3), (3, 29)] = true := by kernel_rfl
  obtain ⟨fs, e, hm⟩ := structIs_spec h31
  obtain ⟨n0, n1, n2, n3, hfs, o0, t0, o1, t1, o2, t2, o3, t3⟩ := four_fields hm
  refine ⟨fs, e, hc, ?_⟩
  rw [hfs]
  refine ⟨o0, by rw [t0]; exact hc3, by rw [t0]; exact h3, o1, by rw [t1]; exact hc3, by rw [t1]; exact h3, o2, by rw [t2]; exact hc3, by rw [t2]; exact h3, o3, by rw [t3]; exact hc29, ?_, trivial⟩
  rw [t3]
  exact ⟨3, h29, hc3, by decide, fun _ => rfl, h3, by rw [hb3]; decide⟩

theorem of3_22 : Sh.ofAll Try.prog [.int .i64, .sl actSh true] [3, 22] := by
  have h5 : Try.prog.underlying 5 = some (.int .u8) := by kernel_rfl
  have h3 : Try.prog.underlying 3 = some (.int .i64) := by kernel_rfl
  have h22 : Try.prog.underlying 22 = some (.slice 33) := by kernel_rfl
  have hc33 : Try.prog.cellsOf 33 = 6 := by kernel_rfl
  have hb33 : Try.prog.bytesOf 33 = 64 := by kernel_rfl
  have hc31 : Try.prog.cellsOf 31 = 4 := by kernel_rfl
  have hc3 : Try.prog.cellsOf 3 = 1 := by kernel_rfl
  have hc5 : Try.prog.cellsOf 5 = 1 := by kernel_rfl
  have h33 : structIs Try.prog 33 [(0, 5), (1, 31), (5, 3)] = true := by kernel_rfl
  obtain ⟨fs, e, hm⟩ := structIs_spec h33
  obtain ⟨n0, n1, n2, hfs, o0, t0, o1, t1, o2, t2⟩ := three_fields hm
  refine ⟨h3, ⟨33, h22, hc33, by decide, (fun h => by cases h), ⟨fs, e, hc33, ?_⟩, by rw [hb33]; decide⟩, trivial⟩
  rw [hfs]
  refine ⟨o0, by rw [t0]; exact hc5, by rw [t0]; exact h5, o1, by rw [t1]; exact hc31, by rw [t1]; exact frm_of, o2, by rw [t2]; exact hc3, by rw [t2]; exact h3, trivial⟩

theorem spec_fn (H : Type) (d e : DataW H) : Rows.stackActsSpec.fn H [d, e] = { results := [.lit (.bool true)], args := [d, e] } := rfl

set_option maxRecDepth 100000 in
theorem acts_lifted (os : Os) (started : os.Started) (H : Type) (enc : TypeId × Value → H) :
    ReturnsInHanded {} Try.checked os 3 .any (Rows.stackActsSpec.pre6 enc Try.prog Try.f3 Rows.stackActsRow.domain false) (Rows.stackActsSpec.post enc Try.prog Try.f3 false true false false) := by
  refine returnsInHanded_of_change_sized (C := Try.checked) Try.own started (by kernel_rfl) Try.func3
    (ChangeSpec.witness6 (enc := enc) (C := Try.checked) false ⟨#[], #[.int .i64 0, .slice none 0 0], []⟩ 8 (by kernel_rfl) (by kernel_rfl) (by kernel_rfl) (by kernel_rfl)) ?_
  intro W base args ds gs before hval hW _ hreach _
  refine law_calls (P := Try.prog) (f := Try.f3) (k := 3) (s := Rows.stackActsSpec) (tb := 4) [.int .i64, .sl actSh true] [3, 22] (by kernel_rfl) Try.laidOut (by kernel_rfl) rfl ?_ (by kernel_rfl) (by kernel_rfl) rfl ?_ ?_ hval hW hreach
  · exact of3_22
  · intro ds hd
    obtain ⟨d, e, rfl⟩ := len2 (hd.trans rfl)
    exact spec_fn H d e
  · intro xs hx
    obtain ⟨x, y, rfl, hv1, hv2⟩ := valAll_two hx
    obtain ⟨n, rfl, _⟩ := val_int hv1
    obtain ⟨acts, rfl, hk⟩ := acts_has hv2
    exact acts_ok n acts hk []

theorem acts_holds : Rows.StackActsSaid :=
  OpenClaim.holds_of_wide 3 Try.f3 rfl rfl rfl rfl rfl rfl rfl ⟨rfl, rfl, rfl, rfl, rfl⟩ rfl rfl rfl rfl rfl (by kernel_rfl) Try.func3 (by kernel_rfl)
    (of_decide_eq_true (by kernel_rfl)) (by unfold Func.isWrapper; first | (rw [if_pos (by decide +kernel)]; kernel_rfl) | (rw [if_neg (by decide +kernel)]; exact ⟨rfl, rfl⟩))
    (fun os started H enc _ => acts_lifted os started H enc)
#print axioms acts_holds
end Go.Proofs.Ythbojmoiimknhaa
