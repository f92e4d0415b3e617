/- strconv.Itoa and strings.Join in the abstract machine. Conditions: none. -/
import Derived.Test.YtfpmohmhiecjfaaDoorUnC
import Derived.Test.YtfpmohmhiecjfaaDoorUnPlain
set_option linter.unusedSimpArgs false
set_option linter.unusedVariables false
namespace Go.Ax
open Go.Proofs Go.Uni Go.RowKit

theorem Rel.grown {G : Gh} {M : AMem} {w w' : World} (hR : Rel G M w) (h : Below w.heap.size w w') : Rel G M w' := by
  refine ⟨hR.n, hR.below.trans (h.mono hR.below.size), fun b o v hv => ?_, fun i o hi hal => ?_, hR.sep, fun i o hi => ?_⟩
  · rw [World.cell?_of_block (w := w) (a := ⟨b, o, none⟩) (h.block b (hR.I_lt hv))]
    exact hR.imm b o v hv
  · obtain ⟨h1, h2⟩ := hR.new i o hi hal
    exact ⟨h1, Nat.lt_of_lt_of_le h2 h.size⟩
  · exact (hR.obj i o hi).mono (.refl G) (hR.lt hi) (fun hal => h.block _ (hR.new i o hi hal).2) (fun hal q hq => hq)

/-- A number's text. -/
def num (n : Nat) : ByteArray := ⟨(Lib.decDigits n).toArray⟩
theorem itoa_nat (n : Nat) : Lib.itoa (n : Int) = Lib.decDigits n := by
  rw [Lib.itoa, if_neg (by omega)]; rfl

def pow10Cells : Array Value := (Lib.pow10Tab.map fun z => Value.int .u64 z).toArray
/-- The first object is the library's table. -/
def Tab (M : AMem) : Prop := ∃ g T z, Tryd.prog.globalNamed "internal/strconv.uint64pow10" = some g ∧ M[0]? = some (.fix g (.cells pow10Cells T z))
theorem Tab.app {M : AMem} (h : Tab M) (L : AMem) : Tab (M ++ L) := by
  obtain ⟨g, T, z, h1, h2⟩ := h
  exact ⟨g, T, z, h1, by rw [List.getElem?_append_left (List.getElem?_eq_some_iff.1 h2).1]; exact h2⟩
theorem Tab.is {G : Gh} {M : AMem} {w : World} (hR : Rel G M w) (h : Tab M) : Lib.TabIs Tryd.prog w "internal/strconv.uint64pow10" .u64 Lib.pow10Tab := by
  obtain ⟨g, T, z, h1, h2⟩ := h
  obtain ⟨h3, h4⟩ := hR.obj 0 _ h2
  have h5 := hR.below.block g h3
  rw [h4] at h5
  unfold Lib.TabIs World.var?
  rw [h1, Option.bind_some, h5]
  rfl

theorem vals_one {vals : Array Value} {x : Value} (hs : vals.size = 1) (h : ∀ v, vals[0]? = some v → v = x) : vals = #[x] := by
  apply Array.ext
  · simpa using hs
  · intro i h1 h2
    have : i = 0 := by omega
    subst this
    exact h _ (Array.getElem?_eq_getElem h1)
theorem vals_two {vals : Array Value} {x y : Value} (hs : vals.size = 2) (h : ∀ v, vals[0]? = some v → v = x) (h' : ∀ v, vals[1]? = some v → v = y) : vals = #[x, y] := by
  apply Array.ext
  · simpa using hs
  · intro i h1 h2
    have : i = 0 ∨ i = 1 := by omega
    rcases this with rfl | rfl
    · exact h _ (Array.getElem?_eq_getElem h1)
    · exact h' _ (Array.getElem?_eq_getElem h1)

theorem itoa_ok (n : Nat) (hn : n ≤ 9223372036854775807) (M : AMem) (h : n < 100 ∨ Tab M) : ACalls Tryd.prog 30 [V.int (n : Int)] M (fun v M' => v = V.str (num n) ∧ M' = M) := by
  intro G w vals hR hs hv
  obtain rfl : vals = #[.int .i64 (n : Int)] := vals_one hs fun v h => by
    have := hv 0 _ v rfl h
    cases this; rfl
  by_cases hlt : n < 100
  · refine (Tryd.strconv_Itoa_small n hlt w).mono ?_
    rintro e w' ⟨rfl, rfl⟩
    exact ⟨_, G, V.str (num n), M, rfl, .refl G, hR, .prim _, rfl, rfl⟩
  · have hT := h.resolve_left hlt
    refine (Tryd.strconv_Itoa (n : Int) (by omega) (by omega) w (hT.is hR)).mono ?_
    rintro e w' ⟨rfl, k, os, rfl⟩
    refine ⟨_, G, V.str (num n), M, rfl, .refl G, hR.grown ?_, ?_, rfl, rfl⟩
    · exact ⟨rfl, rfl, rfl, by simp [Sort.grow, World.drewN], fun j hj => by simp only [Sort.grow, World.drewN]; rw [Array.getElem?_append_left hj]⟩
    · rw [itoa_nat]; exact .prim _

def joined (xs : List ByteArray) (sep : ByteArray) : ByteArray := ⟨(Lib.join (xs.map (·.data.toList)) sep.data.toList).toArray⟩

theorem join_ok (xs : List ByteArray) (sep : ByteArray) (h1 : xs.length ≤ 1073741824) (h2 : (Lib.join (xs.map (·.data.toList)) sep.data.toList).length ≤ 140737488355328) : PCalls Tryd.prog 35 [.list .dull (xs.map V.str), V.str sep] (V.str (joined xs sep)) := by
  intro M G w vals hR hs hv
  have hl0 : 0 < vals.size := by rw [hs]; simp
  have hx := hv 0 _ _ rfl (Array.getElem?_eq_getElem hl0)
  obtain ⟨a, ha⟩ : ∃ a, a = vals[0] := ⟨_, rfl⟩
  rw [← ha] at hx
  obtain rfl : vals = #[a, .string sep] := vals_two hs (fun v h => by rw [Array.getElem?_eq_getElem hl0] at h; injection h with h; rw [← h, ha]) fun v h => by
    have := hv 1 _ v rfl h
    cases this; rfl
  generalize hxs : xs.map V.str = ys at hx
  cases hx with
  | nil _ a cap ht hi =>
    obtain rfl : xs = [] := List.map_eq_nil_iff.1 hxs
    refine (Tryd.strings_Join_none a cap sep w).mono ?_
    rintro e w' ⟨rfl, rfl⟩
    exact ⟨_, G, V.str (joined [] sep), M, rfl, .refl G, hR, .prim _, rfl, rfl⟩
  | list _ _ b o cap sz val hx0 hz hsz hI hc hcap ht =>
    subst hxs
    have hsz1 : sz = 1 := by
      obtain ⟨y, hy⟩ := List.exists_mem_of_length_pos hx0
      have h3 := hsz y hy
      obtain ⟨s, _, rfl⟩ := List.mem_map.1 hy
      simpa [V.cells] using h3.symm
    subst hsz1
    have hcl : cellsL (xs.map V.str) = xs.map V.str := by
      clear hI hc hsz hcap ht hx0 hv hs hl0 ha h1 h2
      induction xs with
      | nil => rfl
      | cons x xs ih => rw [List.map_cons, cellsL_cons, ih]; rfl
    rw [List.length_map] at hI hcap hx0 ⊢
    refine (Tryd.strings_Join b o cap xs sep w (fun j x hj => ?_) ?_ (by omega) hcap h2).mono ?_
    · have hj' := (List.getElem?_eq_some_iff.1 hj).1
      have h3 := hR.imm _ _ _ (hI j (by omega))
      rw [h3]
      have h4 := hc j (V.str x) (by rw [hcl, List.getElem?_map, hj]; rfl)
      generalize val j = u at h4
      cases h4; rfl
    · exact hR.I_lt (hI 0 (by omega))
    · rintro e w' ⟨rfl, hB⟩
      exact ⟨_, G, V.str (joined xs sep), M, rfl, .refl G, hR.grown hB, .prim _, rfl, rfl⟩
end Go.Ax
