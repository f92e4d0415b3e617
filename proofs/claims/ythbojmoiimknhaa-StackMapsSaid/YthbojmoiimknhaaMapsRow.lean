/-
  StackMaps of layer 18 answers true for every slice of frames and every number, and leaves all memory as it was: proved of every input, with no condition.
-/
import Derived.Test.YthbojmoiimknhaaStC
import Derived.Test.YthbojmoiimknhaaAxRow
import Derived.Test.YthbojmoiimknhaaRows
set_option linter.unusedSimpArgs false
set_option linter.unusedVariables false
namespace Go.Proofs.Ythbojmoiimknhaa
open Go.ChangeShapes Go.WideShapes Go.ChangeAt Go.RowKit Go.Ax

theorem Try.own : ownKnob Try.prog.godebug = none := by kernel_rfl
theorem Try.laidOut : laidOutB Try.prog = true := by kernel_rfl

abbrev frmSh : Sh := .st [.int .i64, .int .i64, .int .i64, .sl (.int .i64) false]

theorem wf_in {n : Int} (h : (Lit.int .i64 n).wf = true) : inI n := by
  simp only [Lit.wf, Bool.and_eq_true, decide_eq_true_eq] at h
  have h1 : -9223372036854775808 ≤ n := h.1
  have h2 : n ≤ 9223372036854775807 := h.2
  exact ⟨h1, by omega⟩

theorem u8_in {n : Int} (h : (Lit.int .u8 n).wf = true) : 0 ≤ n ∧ n < 256 := by
  simp only [Lit.wf, Bool.and_eq_true, decide_eq_true_eq] at h
  have h1 : 0 ≤ n := h.1
  have h2 : n ≤ 255 := h.2
  exact ⟨h1, by omega⟩

theorem frm_has {cs : List V} (h : frmSh.Has cs) : ∃ f : Frm, V.agg cs = f.V .dull ∧ inI f.a ∧ ∀ p ∈ f.l, inI p := by
  obtain ⟨_, _, rfl, ⟨kd, rfl, _⟩, _, _, rfl, ⟨a, rfl, ha⟩, _, _, rfl, ⟨b, rfl, _⟩, c, _, rfl, hc, rfl⟩ := h
  obtain ⟨ns, h1, h2⟩ := val_ints (k := .i64) (x := c.getD 0 .junk) ⟨c, hc, rfl⟩
  obtain ⟨xs, hx, _⟩ := hc
  subst hx
  exact ⟨⟨kd, a, b, ns⟩, by simp only [Frm.V]; rw [show [V.list Tag.dull xs].getD 0 .junk = V.list Tag.dull xs from rfl] at h1; rw [h1]; rfl, wf_in ha, fun p hp => wf_in (h2 p hp)⟩

theorem frms_has {x : V} (h : (Sh.sl frmSh true).Val x) : ∃ fs : List Frm, x = .list .dull (fs.map fun f => f.V .dull) ∧ ∀ f ∈ fs, inI f.a ∧ ∀ p ∈ f.l, inI p := by
  obtain ⟨xs, rfl, _, h2⟩ := val_sl h
  have key : ∀ ys : List V, (∀ y ∈ ys, ∃ f : Frm, y = f.V .dull ∧ inI f.a ∧ ∀ p ∈ f.l, inI p) → ∃ fs : List Frm, ys = (fs.map fun f => f.V .dull) ∧ ∀ f ∈ fs, inI f.a ∧ ∀ p ∈ f.l, inI p := by
    intro ys
    induction ys with
    | nil => exact fun _ => ⟨[], rfl, fun n hn => by cases hn⟩
    | cons y ys ih =>
      intro h
      obtain ⟨n, hn, hw⟩ := h y (by simp)
      obtain ⟨ns, h1, h3⟩ := ih fun z hz => h z (by simp [hz])
      refine ⟨n :: ns, by rw [h1, hn]; rfl, fun m hm => ?_⟩
      rcases List.mem_cons.1 hm with rfl | hm
      · exact hw
      · exact h3 m hm
  obtain ⟨fs, h1, h3⟩ := key xs fun y hy => by
    obtain ⟨cs, h4, _, h6⟩ := h2 y hy
    obtain ⟨f, h7, h8⟩ := frm_has h6
    exact ⟨f, by rw [h4]; exact h7, h8⟩
  exact ⟨fs, by rw [h1], h3⟩

def structIs (P : Program) (t : TypeId) (l : List (Nat × Nat)) : Bool :=
  match P.underlying t with
  | some (.struct fs) => decide (fs.toList.map (fun f => (f.offset, f.type)) = l)
  | _ => false

theorem structIs_spec {P : Program} {t : TypeId} {l : List (Nat × Nat)} (h : structIs P t l = true) : ∃ fs, P.underlying t = some (.struct fs) ∧ fs.toList.map (fun f => (f.offset, f.type)) = l := by
  unfold structIs at h
  split at h
  · rename_i fs e
    exact ⟨fs, e, by simpa using h⟩
  · cases h

theorem four_fields {l : List Field} {a b c d a' b' c' d' : Nat} (h : l.map (fun f => (f.offset, f.type)) = [(a, a'), (b, b'), (c, c'), (d, d')]) :
    ∃ n0 n1 n2 n3 : Field, l = [n0, n1, n2, n3] ∧ n0.offset = a ∧ n0.type = a' ∧ n1.offset = b ∧ n1.type = b' ∧ n2.offset = c ∧ n2.type = c' ∧ n3.offset = d ∧ n3.type = d' := by
  match l, h with
  | [n0, n1, n2, n3], h =>
    simp only [List.map_cons, List.map_nil, List.cons.injEq, Prod.mk.injEq, and_true] at h
    obtain ⟨⟨h1, h2⟩, ⟨h3, h4⟩, ⟨h5, h6⟩, h7, h8⟩ := h
    exact ⟨n0, n1, n2, n3, rfl, h1, h2, h3, h4, h5, h6, h7, h8⟩

theorem len2 {α : Type} {l : List α} (h : l.length = 2) : ∃ d e, l = [d, e] := by
  match l, h with
  | [d, e], _ => exact ⟨d, e, rfl⟩

theorem of28 : Sh.ofAll Try.prog [.sl frmSh true, .int .u8] [28, 5] := by
  have h5 : Try.prog.underlying 5 = some (.int .u8) := by kernel_rfl
  have h3 : Try.prog.underlying 3 = some (.int .i64) := by kernel_rfl
  have h28 : Try.prog.underlying 28 = some (.slice 31) := by kernel_rfl
  have h29 : Try.prog.underlying 29 = some (.slice 3) := by kernel_rfl
  have hc : Try.prog.cellsOf 31 = 4 := by kernel_rfl
  have hc3 : Try.prog.cellsOf 3 = 1 := by kernel_rfl
  have hc29 : Try.prog.cellsOf 29 = 1 := by kernel_rfl
  have h31 : structIs Try.prog 31 [(0, 3), (1, 3), (2, 3), (3, 29)] = true := by kernel_rfl
  obtain ⟨fs, e, hm⟩ := structIs_spec h31
  obtain ⟨n0, n1, n2, n3, hfs, o0, t0, o1, t1, o2, t2, o3, t3⟩ := four_fields hm
  refine ⟨⟨31, h28, hc, by decide, (fun h => by cases h), ⟨fs, e, hc, ?_⟩⟩, h5, trivial⟩
  rw [hfs]
  refine ⟨o0, by rw [t0]; exact hc3, by rw [t0]; exact h3, o1, by rw [t1]; exact hc3, by rw [t1]; exact h3, o2, by rw [t2]; exact hc3, by rw [t2]; exact h3, o3, by rw [t3]; exact hc29, ?_, trivial⟩
  rw [t3]
  exact ⟨3, h29, hc3, by decide, fun _ => rfl, h3⟩

theorem spec_fn (H : Type) (d e : DataW H) : Rows.stackMapsSpec.fn H [d, e] = { results := [.lit (.bool true)], args := [d, e] } := rfl

set_option maxRecDepth 100000 in
theorem maps_lifted (os : Os) (started : os.Started) (H : Type) (enc : TypeId × Value → H) :
    ReturnsInHanded {} Try.checked os 5 .any (Rows.stackMapsSpec.pre6 enc Try.prog Try.f5 Rows.stackMapsRow.domain false) (Rows.stackMapsSpec.post enc Try.prog Try.f5 false true false false) := by
  refine returnsInHanded_of_change (C := Try.checked) Try.own started (by kernel_rfl) Try.func5
    (ChangeSpec.witness6 (enc := enc) (C := Try.checked) false ⟨#[], #[.slice none 0 0, .int .u8 0], []⟩ 8 (by kernel_rfl) (by kernel_rfl) (by kernel_rfl) (by kernel_rfl)) ?_
  intro W base args ds gs before hval hW _ _
  refine law_calls (P := Try.prog) (f := Try.f5) (k := 5) (s := Rows.stackMapsSpec) (tb := 4) [.sl frmSh true, .int .u8] [28, 5] (by kernel_rfl) Try.laidOut (by kernel_rfl) rfl ?_ (by kernel_rfl) (by kernel_rfl) rfl ?_ ?_ hval hW
  · exact of28
  · intro ds hd
    obtain ⟨d, e, rfl⟩ := len2 (hd.trans rfl)
    exact spec_fn H d e
  · intro xs hx
    obtain ⟨x, y, rfl, hv1, hv2⟩ := valAll_two hx
    obtain ⟨fs, rfl, hf⟩ := frms_has hv1
    obtain ⟨n, rfl, hn⟩ := val_int hv2
    exact maps_ok fs n (u8_in hn) hf []

theorem maps_holds : Rows.StackMapsSaid :=
  OpenClaim.holds_of_wide 5 Try.f5 rfl rfl rfl rfl rfl rfl rfl ⟨rfl, rfl, rfl, rfl, rfl⟩ rfl rfl rfl rfl rfl (by kernel_rfl) Try.func5 (by kernel_rfl)
    (of_decide_eq_true (by kernel_rfl)) (by unfold Func.isWrapper; first | (rw [if_pos (by decide +kernel)]; kernel_rfl) | (rw [if_neg (by decide +kernel)]; exact ⟨rfl, rfl⟩))
    (fun os started H enc _ => maps_lifted os started H enc)
#print axioms maps_holds
end Go.Proofs.Ythbojmoiimknhaa
