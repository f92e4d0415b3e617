import Derived.Test.YthbojmoiimknhaaOrU
set_option linter.unusedSimpArgs false
set_option linter.unusedVariables false
namespace Go.Ord
variable {to : List (List Nat)}

theorem Cl.none : Cl to (fun _ => false) := fun x hx => by cases hx

/-- Of the groups in order: each thing that is left is in one alone; what it hangs on is done, or no later. -/
theorem Seq.each (hg : Good to) {d : Nat → Bool} {l : List (List Nat)} (h : Seq to d l) : Cl to d →
    (∀ g ∈ l, ∀ k ∈ g, d k = false ∧ k < to.length) ∧ l.flatten.Nodup ∧ (∀ k, k < to.length → d k = false → k ∈ l.flatten) ∧
    (∀ (a : Nat) (g : List Nat), l[a]? = some g → ∀ x ∈ g, ∀ w ∈ adj to x, d w = true ∨ ∃ (b : Nat) (g' : List Nat), b ≤ a ∧ l[b]? = some g' ∧ w ∈ g') := by
  induction h with
  | nil d h => exact fun _ => ⟨fun g hg => (by cases hg), (by simp), fun k hk hd => (by rw [h k hk] at hd; cases hd), fun a g hl => (by simp at hl)⟩
  | cons d i l hn _ ih =>
    intro hc
    obtain ⟨h1, h2, h3, h4⟩ := ih (hc.mark hn.1)
    refine ⟨?_, ?_, ?_, ?_⟩
    · intro g hgm k hk
      rcases List.mem_cons.1 hgm with rfl | hgm
      · obtain ⟨a1, a2⟩ := mem_cls.1 hk
        exact ⟨by rw [← hc.mut a2]; exact hn.1.2.1, a1⟩
      · have := h1 g hgm k hk
        refine ⟨?_, this.2⟩
        have := this.1
        simp [mark] at this
        exact this.1
    · rw [List.flatten_cons, List.nodup_append]
      refine ⟨List.Pairwise.filter _ List.nodup_range, h2, ?_⟩
      intro a ha b hb e
      subst e
      obtain ⟨g, hgm, hk⟩ := List.mem_flatten.1 hb
      have := (h1 g hgm a hk).1
      simp [mark] at this
      exact this.2 (mem_cls.1 ha).2
    · intro k hk hd
      rw [List.flatten_cons, List.mem_append]
      by_cases hm : Mut to i k
      · exact .inl (mem_cls.2 ⟨hk, hm⟩)
      · exact .inr (h3 k hk (by simp [mark, hd, hm]))
    · intro a g hl x hx w hw
      cases a with
      | zero =>
        simp at hl
        subst hl
        obtain ⟨a1, a2⟩ := mem_cls.1 hx
        by_cases hm : Mut to i w
        · exact .inr ⟨0, cls to i, Nat.le_refl _, rfl, mem_cls.2 ⟨hg x w hw, hm⟩⟩
        · exact .inl (hn.1.2.2 w (a2.1.trans (.one hw)) hm)
      | succ a =>
        simp at hl
        rcases h4 a g hl x hx w hw with h | ⟨b, g', b1, b2, b3⟩
        · simp only [mark, Bool.or_eq_true, decide_eq_true_eq] at h
          rcases h with h | h
          · exact .inl h
          · exact .inr ⟨0, cls to i, Nat.zero_le _, rfl, mem_cls.2 ⟨hg x w hw, h⟩⟩
        · exact .inr ⟨b + 1, g', by omega, by simpa using b2, b3⟩

/-- Which group each thing is in. -/
def prl : Nat → List (List Nat) → List (Nat × Nat)
  | _, [] => []
  | s, g :: r => (g.map fun k => (k, s)) ++ prl (s + 1) r
theorem prl_append : ∀ (s : Nat) (a b : List (List Nat)), prl s (a ++ b) = prl s a ++ prl (s + a.length) b
  | s, [], b => by simp [prl]
  | s, g :: a, b => by simp [prl, prl_append (s + 1) a b, Nat.add_assoc, Nat.add_comm 1]
theorem prl_keys : ∀ (s : Nat) (l : List (List Nat)), (prl s l).map Prod.fst = l.flatten
  | s, [] => rfl
  | s, g :: r => by
    simp [prl, prl_keys (s + 1) r, Function.comp_def]
theorem prl_mem : ∀ (s : Nat) (l : List (List Nat)) (k i : Nat), (k, i) ∈ prl s l ↔ ∃ a g, i = s + a ∧ l[a]? = some g ∧ k ∈ g
  | s, [], k, i => by simp [prl]
  | s, g :: r, k, i => by
    rw [prl, List.mem_append, prl_mem (s + 1) r k i]
    constructor
    · rintro (h | ⟨a, g', h1, h2, h3⟩)
      · obtain ⟨k', hk, e⟩ := List.mem_map.1 h
        injection e with e1 e2
        subst e1; subst e2
        exact ⟨0, g, rfl, rfl, hk⟩
      · exact ⟨a + 1, g', by omega, by simpa using h2, h3⟩
    · rintro ⟨a, g', h1, h2, h3⟩
      cases a with
      | zero =>
        simp at h2; subst h2
        exact .inl (List.mem_map.2 ⟨k, h3, by simp at h1; simp [h1]⟩)
      | succ a => exact .inr ⟨a, g', by omega, by simpa using h2, h3⟩
end Go.Ord
namespace Go.Ax
open Go.Proofs Go.Ord

def esOf (pl : List (Nat × Nat)) : List (Value × V) := pl.map fun p => (Value.int .i64 (p.1 : Int), V.int (p.2 : Int))
theorem aget_none : ∀ {pl : List (Nat × Nat)} {k : Nat}, k ∉ pl.map Prod.fst → aget (esOf pl) (.int .i64 (k : Int)) = some none
  | [], k, _ => rfl
  | p :: pl, k, h => by
    have h1 : ¬ ((k : Int) = (p.1 : Int)) := by
      intro e; apply h; simp; left; omega
    have h2 := aget_none (pl := pl) (k := k) (fun hc => h (by simp at hc ⊢; right; exact hc))
    show (match keyEq (.int .i64 (k : Int)) (.int .i64 (p.1 : Int)) with | some true => _ | some false => _ | none => _) = _
    simp only [keyEq, if_true, h1, decide_false]
    exact h2
theorem aget_some : ∀ {pl : List (Nat × Nat)} {k i : Nat}, (pl.map Prod.fst).Nodup → (k, i) ∈ pl → aget (esOf pl) (.int .i64 (k : Int)) = some (some (V.int (i : Int)))
  | [], k, i, _, h => by cases h
  | p :: pl, k, i, hn, h => by
    show (match keyEq (.int .i64 (k : Int)) (.int .i64 (p.1 : Int)) with | some true => _ | some false => _ | none => _) = _
    simp only [keyEq, if_true]
    rw [List.map_cons, List.nodup_cons] at hn
    rcases List.mem_cons.1 h with h | h
    · subst h; simp
    · have h1 : ¬ ((k : Int) = (p.1 : Int)) := by
        intro e
        apply hn.1
        have : k = p.1 := by omega
        rw [← this]
        exact List.mem_map.2 ⟨(k, i), h, rfl⟩
      simp only [h1, decide_false]
      exact aget_some hn.2 h
theorem aput_new : ∀ {pl : List (Nat × Nat)} {k i : Nat}, k ∉ pl.map Prod.fst → aput (esOf pl) (.int .i64 (k : Int)) (V.int (i : Int)) = some (esOf (pl ++ [(k, i)]))
  | [], k, i, _ => rfl
  | p :: pl, k, i, h => by
    have h1 : ¬ ((k : Int) = (p.1 : Int)) := by
      intro e; apply h; simp; left; omega
    have h2 := aput_new (pl := pl) (k := k) (i := i) (fun hc => h (by simp at hc ⊢; right; exact hc))
    show (match keyEq (.int .i64 (k : Int)) (.int .i64 (p.1 : Int)) with | some true => _ | some false => (match aput (esOf pl) _ _ with | some r' => _ | none => _) | none => _) = _
    simp only [keyEq, if_true, h1, decide_false, h2]
    rfl
theorem esOf_len (pl : List (Nat × Nat)) : (esOf pl).length = pl.length := by simp [esOf]
end Go.Ax
