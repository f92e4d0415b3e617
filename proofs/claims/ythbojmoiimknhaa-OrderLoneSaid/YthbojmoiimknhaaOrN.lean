/- Groups in order, as plain law: which comes next; that this fixes the answer. Conditions: none. -/
import Derived.Test.YthbojmoiimknhaaOrM
set_option linter.unusedVariables false
set_option linter.unusedSimpArgs false
namespace Go.Ord
variable {to : List (List Nat)}
open Classical

def Good (to : List (List Nat)) : Prop := ∀ i, ∀ k ∈ adj to i, k < to.length

theorem Rch.lt (hg : Good to) {i k : Nat} (h : Rch to i k) (hi : i < to.length) : k < to.length :=
  h.closed (p := fun x => x < to.length) (fun x _ w hw => hg x w hw) hi

noncomputable def cls (to : List (List Nat)) (i : Nat) : List Nat := (List.range to.length).filter fun k => decide (Mut to i k)
noncomputable def mark (to : List (List Nat)) (d : Nat → Bool) (i : Nat) : Nat → Bool := fun k => d k || decide (Mut to i k)
def Rdy (to : List (List Nat)) (d : Nat → Bool) (i : Nat) : Prop := i < to.length ∧ d i = false ∧ ∀ k, Rch to i k → ¬ Mut to i k → d k = true
def Nxt (to : List (List Nat)) (d : Nat → Bool) (i : Nat) : Prop := Rdy to d i ∧ ∀ j, Rdy to d j → i ≤ j

/-- The groups that are left, in their order. -/
inductive Seq (to : List (List Nat)) : (Nat → Bool) → List (List Nat) → Prop where
  | nil (d : Nat → Bool) (h : ∀ i, i < to.length → d i = true) : Seq to d []
  | cons (d : Nat → Bool) (i : Nat) (l : List (List Nat)) (h : Nxt to d i) (ht : Seq to (mark to d i) l) : Seq to d (cls to i :: l)

theorem mem_cls {i k : Nat} : k ∈ cls to i ↔ k < to.length ∧ Mut to i k := by simp [cls]

theorem Rdy.congr (hg : Good to) {d d' : Nat → Bool} (he : ∀ k, k < to.length → d k = d' k) {i : Nat} (h : Rdy to d i) : Rdy to d' i :=
  ⟨h.1, by rw [← he i h.1]; exact h.2.1, fun k hr hm => by rw [← he k (hr.lt hg h.1)]; exact h.2.2 k hr hm⟩

theorem Seq.det (hg : Good to) {d : Nat → Bool} {l : List (List Nat)} (h : Seq to d l) : ∀ {d' : Nat → Bool} {l' : List (List Nat)}, Seq to d' l' → (∀ k, k < to.length → d k = d' k) → l = l' := by
  induction h with
  | nil d h =>
    intro d' l' h' he
    cases h' with
    | nil => rfl
    | cons _ i l hn ht =>
      have := hn.1.2.1
      rw [← he i hn.1.1, h i hn.1.1] at this
      cases this
  | cons d i l hn ht ih =>
    intro d' l' h' he
    cases h' with
    | nil _ h =>
      have := hn.1.2.1
      rw [he i hn.1.1, h i hn.1.1] at this
      cases this
    | cons _ j l2 hn2 ht2 =>
      have e : i = j := Nat.le_antisymm (hn.2 j (hn2.1.congr hg fun k hk => (he k hk).symm)) (hn2.2 i (hn.1.congr hg he))
      subst e
      rw [ih ht2 fun k hk => by simp [mark, he k hk]]

/-- What is done, all it hangs on is. -/
def Cl (to : List (List Nat)) (d : Nat → Bool) : Prop := ∀ x, d x = true → ∀ w ∈ adj to x, d w = true
theorem Cl.rch {d : Nat → Bool} (h : Cl to d) {x y : Nat} (hr : Rch to x y) (hx : d x = true) : d y = true := hr.closed (p := fun x => d x = true) h hx
theorem Cl.mut {d : Nat → Bool} (h : Cl to d) {x y : Nat} (hm : Mut to x y) : d x = d y := by
  cases hx : d x with
  | true => exact (h.rch hm.1 hx).symm
  | false =>
    cases hy : d y with
    | false => rfl
    | true => rw [h.rch hm.2 hy] at hx; cases hx
theorem Cl.mark {d : Nat → Bool} (h : Cl to d) {i : Nat} (hr : Rdy to d i) : Cl to (mark to d i) := by
  intro x hx w hw
  simp only [Ord.mark, Bool.or_eq_true, decide_eq_true_eq] at hx ⊢
  rcases hx with hx | hx
  · exact .inl (h x hx w hw)
  · by_cases hm : Mut to i w
    · exact .inr hm
    · exact .inl (hr.2.2 w (hx.1.trans (.one hw)) hm)

theorem Rdy.mut {d : Nat → Bool} (h : Cl to d) {i j : Nat} (hr : Rdy to d i) (hm : Mut to i j) (hj : j < to.length) : Rdy to d j :=
  ⟨hj, by rw [← h.mut hm]; exact hr.2.1, fun k hk hkm => hr.2.2 k (hm.1.trans hk) fun hc => hkm (hm.symm.trans hc)⟩

theorem count_lt {p q : Nat → Bool} {i : Nat} : ∀ {l : List Nat}, i ∈ l → (∀ x, p x = true → q x = true) → p i = false → q i = true → l.countP p < l.countP q
  | [], h, _, _, _ => by cases h
  | a :: l, hi, hm, hp, hq => by
    have mono : l.countP p ≤ l.countP q := List.countP_mono_left fun x _ hx => hm x hx
    rw [List.countP_cons, List.countP_cons]
    by_cases ha : a = i
    · subst ha
      rw [hp, hq]; simp; omega
    · have := count_lt (by rcases List.mem_cons.1 hi with h | h; exact absurd h.symm ha; exact h) hm hp hq
      cases hpa : p a with
      | true => rw [hm a hpa]; simp; omega
      | false => cases q a <;> simp <;> omega

/-- Some group can come. -/
theorem exists_rdy (hg : Good to) {d : Nat → Bool} : ∀ (m i : Nat), ((List.range to.length).countP fun k => decide (d k = false ∧ Rch to i k)) ≤ m → i < to.length → d i = false → ∃ j, Rdy to d j
  | 0, i, hm, hi, hd => by
    have : 0 < (List.range to.length).countP fun k => decide (d k = false ∧ Rch to i k) := by
      rw [List.countP_pos_iff]
      exact ⟨i, List.mem_range.2 hi, by simp [hd, Rch.refl]⟩
    omega
  | m + 1, i, hm, hi, hd => by
    by_cases hr : ∀ k, Rch to i k → ¬ Mut to i k → d k = true
    · exact ⟨i, hi, hd, hr⟩
    · obtain ⟨k, hk⟩ := Classical.not_forall.1 hr
      obtain ⟨h1, hk⟩ := Classical.not_imp.1 hk
      obtain ⟨h2, h3⟩ := Classical.not_imp.1 hk
      have h3 : d k = false := by simpa using h3
      refine exists_rdy hg m k ?_ (h1.lt hg hi) h3
      have := count_lt (p := fun j => decide (d j = false ∧ Rch to k j)) (q := fun j => decide (d j = false ∧ Rch to i j)) (List.mem_range.2 hi) (fun x hx => by simp at hx ⊢; exact ⟨hx.1, h1.trans hx.2⟩)
        (by simp; exact fun _ hc => h2 ⟨h1, hc⟩) (by simp [hd, Rch.refl])
      omega

theorem least_cls {i : Nat} (hi : i < to.length) : ∃ a r, cls to i = a :: r ∧ a ≤ i ∧ Mut to i a ∧ a < to.length ∧ ∀ j, j < to.length → Mut to i j → a ≤ j := by
  have him : i ∈ cls to i := mem_cls.2 ⟨hi, .refl i⟩
  have hs : (cls to i).Pairwise (· < ·) := List.Pairwise.filter _ List.pairwise_lt_range
  cases hc : cls to i with
  | nil => rw [hc] at him; cases him
  | cons a r =>
    have hle : ∀ j, j < to.length → Mut to i j → a ≤ j := by
      intro j hj hm
      have : j ∈ cls to i := mem_cls.2 ⟨hj, hm⟩
      rw [hc] at this hs
      rcases List.mem_cons.1 this with rfl | h
      · exact Nat.le_refl _
      · exact Nat.le_of_lt ((List.pairwise_cons.1 hs).1 j h)
    have ha : a ∈ cls to i := by rw [hc]; simp
    obtain ⟨h1, h2⟩ := mem_cls.1 ha
    exact ⟨a, r, rfl, hle i hi (.refl i), h2, h1, hle⟩

theorem cls_mut {i j : Nat} (h : Mut to i j) : cls to i = cls to j := by
  unfold cls
  congr 1
  funext k
  have : Mut to i k ↔ Mut to j k := ⟨fun h2 => h.symm.trans h2, fun h2 => h.trans h2⟩
  simp [this]

/-- What the program asks of a thing: its group isn't done, it is the first of it, and all that the group hangs on is done. -/
def Tst (to : List (List Nat)) (d : Nat → Bool) (i : Nat) : Prop := d i = false ∧ (cls to i)[0]? = some i ∧ ∀ a ∈ cls to i, ∀ k ∈ adj to a, Mut to k a ∨ d k = true

theorem tst_rdy {d : Nat → Bool} (h : Cl to d) {i : Nat} (hi : i < to.length) (hd : d i = false) (ht : ∀ a ∈ cls to i, ∀ k ∈ adj to a, Mut to k a ∨ d k = true) (hg : Good to) : Rdy to d i := by
  refine ⟨hi, hd, fun k hr hm => ?_⟩
  obtain ⟨u, w, hu, hw, hn, hr2⟩ := hr.leave (p := fun x => Mut to i x) (.refl i) hm
  have hul : u < to.length := hu.1.lt hg hi
  rcases ht u (mem_cls.2 ⟨hul, hu⟩) w hw with h1 | h1
  · exact absurd (hu.trans h1.symm) hn
  · exact h.rch hr2 h1

theorem rdy_tst {d : Nat → Bool} {i : Nat} (hr : Rdy to d i) : ∀ a ∈ cls to i, ∀ k ∈ adj to a, Mut to k a ∨ d k = true := by
  intro a ha k hk
  obtain ⟨_, hm⟩ := mem_cls.1 ha
  by_cases hc : Mut to k a
  · exact .inl hc
  · exact .inr (hr.2.2 k (hm.1.trans (.one hk)) fun h => hc (h.symm.trans hm))

theorem tst_of_rdy {d : Nat → Bool} (h : Cl to d) {j : Nat} (hr : Rdy to d j) : ∃ i, i ≤ j ∧ i < to.length ∧ Tst to d i := by
  obtain ⟨a, r, hc, hle, hm, hl, _⟩ := least_cls hr.1
  have hra := hr.mut h hm hl
  exact ⟨a, hle, hl, hra.2.1, by rw [← cls_mut hm, hc]; rfl, rdy_tst hra⟩

theorem nxt_of_tst (hg : Good to) {d : Nat → Bool} (h : Cl to d) {i : Nat} (hi : i < to.length) (ht : Tst to d i) (hf : ∀ j, j < i → ¬ Tst to d j) : Nxt to d i := by
  refine ⟨tst_rdy h hi ht.1 ht.2.2 hg, fun j hj => ?_⟩
  obtain ⟨a, h1, h2, h3⟩ := tst_of_rdy h hj
  have : ¬ a < i := fun hc => hf a hc h3
  omega

/-- The groups so far. -/
def Pre (to : List (List Nat)) (d : Nat → Bool) (out : List (List Nat)) : Prop := ∀ l, Seq to d l → Seq to (fun _ => false) (out ++ l)
theorem Pre.start : Pre to (fun _ => false) [] := fun l h => h
theorem Pre.next {d : Nat → Bool} {out : List (List Nat)} (h : Pre to d out) {i : Nat} (hn : Nxt to d i) : Pre to (mark to d i) (out ++ [cls to i]) := by
  intro l hl
  have := h _ (.cons d i l hn hl)
  simpa using this
theorem Pre.done {d : Nat → Bool} {out : List (List Nat)} (h : Pre to d out) (hd : ∀ i, i < to.length → d i = true) : Seq to (fun _ => false) out := by
  have := h [] (.nil d hd)
  simpa using this

/-- How many are left. -/
noncomputable def left (to : List (List Nat)) (d : Nat → Bool) : Nat := (List.range to.length).countP fun k => decide (d k = false)
theorem left_mark {d : Nat → Bool} {i : Nat} (hn : Rdy to d i) : left to (mark to d i) < left to d := by
  unfold left
  exact count_lt (p := fun j => decide (mark to d i j = false)) (q := fun j => decide (d j = false)) (List.mem_range.2 hn.1) (fun x hx => by simp [mark] at hx ⊢; exact hx.1)
    (by simp [mark, Mut.refl]) (by simp [hn.2.1])

theorem Seq.len {d : Nat → Bool} {l : List (List Nat)} (h : Seq to d l) : l.length ≤ left to d := by
  induction h with
  | nil => simp
  | cons d i l hn _ ih => have := left_mark hn.1; simp; omega
theorem left_le (d : Nat → Bool) : left to d ≤ to.length := by
  have := List.countP_le_length (p := fun k => decide (d k = false)) (l := List.range to.length)
  simpa [left] using this
theorem cls_len (i : Nat) : (cls to i).length ≤ to.length := by
  have := List.length_filter_le (fun k => decide (Mut to i k)) (List.range to.length)
  simpa [cls] using this
theorem Seq.mem {d : Nat → Bool} {l : List (List Nat)} (h : Seq to d l) : ∀ g ∈ l, ∃ i, i < to.length ∧ d i = false ∧ g = cls to i := by
  induction h with
  | nil => intro g hg; cases hg
  | cons d i l hn _ ih =>
    intro g hg
    rcases List.mem_cons.1 hg with rfl | hg
    · exact ⟨i, hn.1.1, hn.1.2.1, rfl⟩
    · obtain ⟨j, h1, h2, h3⟩ := ih g hg
      exact ⟨j, h1, by simp [mark] at h2; exact h2.1, h3⟩
end Go.Ord
