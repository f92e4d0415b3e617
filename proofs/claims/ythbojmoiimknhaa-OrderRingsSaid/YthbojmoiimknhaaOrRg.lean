/- Rings, as plain law. Conditions: none. -/
import Derived.Test.YthbojmoiimknhaaOrN
set_option linter.unusedVariables false
set_option linter.unusedSimpArgs false
namespace Go.Ord
open Classical

/-- Each hangs on the next one, the last one on the first. -/
def ring (n : Nat) : List (List Nat) := (List.range n).map fun i => [(i + 1) % n]
/-- Without the last step. -/
def chain (n : Nat) : List (List Nat) := (List.range n).map fun i => if i + 1 = n then [] else [i + 1]

theorem ring_len (n : Nat) : (ring n).length = n := by simp [ring]
theorem chain_len (n : Nat) : (chain n).length = n := by simp [chain]
theorem ring_adj {n i : Nat} (hi : i < n) : adj (ring n) i = [(i + 1) % n] := by simp [adj, ring, hi]
theorem chain_adj {n i : Nat} (hi : i < n) : adj (chain n) i = if i + 1 = n then [] else [i + 1] := by simp [adj, chain, hi]
theorem ring_good (n : Nat) : Good (ring n) := by
  intro i k hk
  rw [ring_len]
  by_cases hi : i < n
  · rw [ring_adj hi] at hk
    have hk : k = (i + 1) % n := by simpa using hk
    rw [hk]; exact Nat.mod_lt _ (by omega)
  · simp [adj, ring, hi] at hk
theorem chain_good (n : Nat) : Good (chain n) := by
  intro i k hk
  rw [chain_len]
  by_cases hi : i < n
  · rw [chain_adj hi] at hk
    split at hk
    · cases hk
    · have hk : k = i + 1 := by simpa using hk
      omega
  · simp [adj, chain, hi] at hk

theorem ring_up {n : Nat} : ∀ (m i : Nat), i + m < n → Rch (ring n) i (i + m)
  | 0, i, _ => .refl i
  | m + 1, i, h => by
    have h1 : Rch (ring n) i (i + 1) := .one (by rw [ring_adj (by omega), Nat.mod_eq_of_lt (by omega)]; simp)
    have := ring_up (n := n) m (i + 1) (by omega)
    rw [show i + (m + 1) = i + 1 + m by omega]
    exact h1.trans this
theorem ring_all {n i k : Nat} (hi : i < n) (hk : k < n) : Rch (ring n) i k := by
  have h1 : Rch (ring n) i (n - 1) := by
    have := ring_up (n := n) (n - 1 - i) i (by omega)
    rwa [show i + (n - 1 - i) = n - 1 by omega] at this
  have h2 : Rch (ring n) (n - 1) 0 := .one (by rw [ring_adj (by omega)]; simp [show n - 1 + 1 = n by omega])
  have h3 : Rch (ring n) 0 k := by
    have := ring_up (n := n) k 0 (by omega)
    rwa [Nat.zero_add] at this
  exact h1.trans (h2.trans h3)
theorem ring_cls {n : Nat} (hn : 0 < n) : cls (ring n) 0 = List.range n := by
  unfold cls
  rw [ring_len]
  apply List.filter_eq_self.2
  intro k hk
  have hk := List.mem_range.1 hk
  simp only [decide_eq_true_eq]
  exact ⟨ring_all hn hk, ring_all hk hn⟩
theorem ring_seq {n : Nat} (hn : 0 < n) : Seq (ring n) (fun _ => false) [List.range n] := by
  rw [← ring_cls hn]
  refine .cons _ 0 _ ⟨⟨by rw [ring_len]; exact hn, rfl, fun k hk hm => ?_⟩, fun j _ => Nat.zero_le j⟩ (.nil _ fun i hi => ?_)
  · have hkn := hk.lt (ring_good n) (by rw [ring_len]; exact hn)
    rw [ring_len] at hkn
    exact absurd ⟨hk, ring_all hkn hn⟩ hm
  · rw [ring_len] at hi
    have : Mut (ring n) 0 i := ⟨ring_all hn hi, ring_all hi hn⟩
    simp [mark, this]

theorem chain_le {n i k : Nat} (h : Rch (chain n) i k) : i ≤ k := by
  refine h.closed (p := fun x => i ≤ x) (fun x hx w hw => ?_) (Nat.le_refl _)
  by_cases hxn : x < n
  · rw [chain_adj hxn] at hw
    split at hw
    · cases hw
    · have hw : w = x + 1 := by simpa using hw
      have : i ≤ x := hx
      show i ≤ w
      omega
  · simp [adj, chain, hxn] at hw
theorem chain_mut {n i k : Nat} : Mut (chain n) i k ↔ i = k := by
  constructor
  · rintro ⟨h1, h2⟩
    have := chain_le h1; have := chain_le h2; omega
  · rintro rfl; exact .refl _
theorem chain_cls {n i : Nat} (hi : i < n) : cls (chain n) i = [i] := by
  unfold cls
  rw [chain_len]
  have e : ((List.range n).filter fun k => decide (Mut (chain n) i k)) = (List.range n).filter fun k => decide (k = i) := by
    apply List.filter_congr
    intro k _
    have : (i = k) ↔ (k = i) := eq_comm
    simp [chain_mut, this]
  have e2 : ∀ m, i < m → ((List.range m).filter fun k => decide (k = i)) = [i] := by
    intro m
    induction m with
    | zero => intro h; omega
    | succ m ih =>
      intro h
      rw [List.range_succ, List.filter_append]
      by_cases hm : i = m
      · subst hm
        have : ((List.range i).filter fun k => decide (k = i)) = [] := by
          apply List.filter_eq_nil_iff.2
          intro k hk; have := List.mem_range.1 hk; simp; omega
        rw [this]; simp
      · rw [ih (by omega)]
        have : ¬ m = i := fun h => hm h.symm
        simp [this]
  rw [← e2 n hi]
  exact e
theorem chain_seq_from {n : Nat} : ∀ m, m ≤ n → Seq (chain n) (fun k => decide (m ≤ k)) ((List.range m).reverse.map fun k => [k])
  | 0, _ => .nil _ fun i _ => by simp
  | m + 1, hm => by
    have e : (List.range (m + 1)).reverse.map (fun k => [k]) = cls (chain n) m :: (List.range m).reverse.map fun k => [k] := by
      rw [chain_cls (by omega), List.range_succ]; simp
    rw [e]
    refine .cons _ m _ ⟨⟨by rw [chain_len]; omega, by simp, fun k hk hm2 => ?_⟩, fun j hj => ?_⟩ ?_
    · have h1 := chain_le hk
      have h2 : ¬ m = k := fun e => hm2 (chain_mut.2 e)
      simp; omega
    · apply Classical.byContradiction
      intro hc
      have hj1 := hj.1
      rw [chain_len] at hj1
      have h1 : Rch (chain n) j (j + 1) := .one (by rw [chain_adj hj1, if_neg (by omega)]; simp)
      have h2 := hj.2.2 (j + 1) h1 (fun h => by have := chain_mut.1 h; omega)
      simp at h2; omega
    · have := chain_seq_from (n := n) m (by omega)
      have e2 : mark (chain n) (fun k => decide (m + 1 ≤ k)) m = fun k => decide (m ≤ k) := by
        funext k
        simp only [mark, chain_mut]
        by_cases h1 : m = k
        · subst h1; simp
        · by_cases h2 : m ≤ k
          · have : m + 1 ≤ k := by omega
            simp [h1, h2, this]
          · have : ¬ m + 1 ≤ k := by omega
            simp [h1, h2, this]
      rw [e2]; exact this
theorem chain_seq (n : Nat) : Seq (chain n) (fun _ => false) ((List.range n).reverse.map fun k => [k]) := by
  have h := chain_seq_from (n := n) n (Nat.le_refl _)
  -- what is done of things that are none does not matter
  have key : ∀ {d : Nat → Bool} {l : List (List Nat)}, Seq (chain n) d l → ∀ d', (∀ k, k < n → d k = d' k) → Seq (chain n) d' l := by
    intro d l h
    induction h with
    | nil d h => exact fun d' he => .nil d' fun i hi => by rw [← he i (by rwa [chain_len] at hi)]; exact h i hi
    | cons d i l hn _ ih =>
      intro d' he
      have he' : ∀ k, k < (chain n).length → d k = d' k := fun k hk => he k (by rwa [chain_len] at hk)
      refine .cons d' i l ⟨hn.1.congr (chain_good n) he', fun j hj => hn.2 j (hj.congr (chain_good n) fun k hk => (he' k hk).symm)⟩ (ih _ fun k hk => by simp [mark, he k hk])
  exact key h _ fun k hk => by simp; omega
end Go.Ord
