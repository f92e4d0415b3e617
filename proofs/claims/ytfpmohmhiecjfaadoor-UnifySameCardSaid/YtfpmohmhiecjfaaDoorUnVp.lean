/- The type of nodes, as plain law. Conditions: none. -/
import Derived.Test.YtfpmohmhiecjfaaDoorUnT
set_option linter.unusedVariables false
set_option linter.unusedSimpArgs false
namespace Go.Ax
open Go.Uni

structure Nd where
  v : Int
  n : Nat
  a : Nat
def Nd.ok (x : Nd) : Prop := -128 ≤ x.v ∧ x.v < 128 ∧ x.n < 256 ∧ x.a < 256
def encN (x : Nd) : V := .agg [.prim (.int .i8 x.v), .prim (.int .u8 (x.n : Int)), .prim (.int .u8 (x.a : Int))]
def nmF (n : Nat) : ByteArray := if n % 4 = 0 then ⟨#[73, 110, 116]⟩ else if n % 4 = 1 then ⟨#[76, 105, 115, 116]⟩ else if n % 4 = 2 then ⟨#[45, 62]⟩ else ⟨#[80, 97, 105, 114]⟩

def argsG (g : List Nd → Ty × Nat) (l : List Nd) : Nat → List Ty × Nat
  | 0 => ([], 1)
  | i + 1 => ((argsG g l i).1 ++ [(g (l.drop (min (argsG g l i).2 l.length))).1], (argsG g l i).2 + (g (l.drop (min (argsG g l i).2 l.length))).2)
def typF : Nat → List Nd → Ty × Nat
  | 0, _ => (.var 0, 0)
  | d + 1, [] => (.var 0, 0)
  | d + 1, x :: l => if 0 ≤ x.v then (.var (x.v.toNat % 6), 1) else
      (.app (nmF x.n) (argsG (typF d) (x :: l) (x.a % 3)).1, min (argsG (typF d) (x :: l) (x.a % 3)).2 (l.length + 1))

theorem sizeL_app' (l k : List Ty) : Ty.sizeL (l ++ k) = Ty.sizeL l + Ty.sizeL k := by
  induction l with
  | nil => simp [Ty.sizeL]
  | cons x l ih => rw [List.cons_append, Ty.sizeL, Ty.sizeL, ih]; omega

/-- What is so of a type of nodes. -/
structure TypOk (t : Ty) (n len : Nat) : Prop where
  le : n ≤ len
  size : t.size ≤ 2 * n + 1
  ar : Ar t
  sn : SN t
  lt : ∀ v ∈ t.vars, v < 6
theorem nmF_size (n : Nat) : (nmF n).size ≤ 10 := by
  unfold nmF
  split
  · decide
  split
  · decide
  split
  · decide
  · decide
theorem argsG_ok {g : List Nd → Ty × Nat} (hg : ∀ l, TypOk (g l).1 (g l).2 l.length) (l : List Nd) (hl : 0 < l.length) : ∀ k, k ≤ 2 → (argsG g l k).2 ≤ l.length ∧ 1 ≤ (argsG g l k).2 ∧ Ty.sizeL (argsG g l k).1 + 2 ≤ 2 * (argsG g l k).2 + k ∧ (argsG g l k).1.length = k ∧
    (∀ x ∈ (argsG g l k).1, Ar x ∧ SN x ∧ ∀ v ∈ x.vars, v < 6)
  | 0, _ => by simp [argsG, Ty.sizeL]; omega
  | k + 1, hk => by
    obtain ⟨h1, h2, h3, h4, h5⟩ := argsG_ok hg l hl k (by omega)
    have h6 := hg (l.drop (min (argsG g l k).2 l.length))
    have h7 := h6.le
    have h8 := h6.size
    rw [List.length_drop] at h7
    refine ⟨?_, ?_, ?_, ?_, ?_⟩
    · simp only [argsG]; omega
    · simp only [argsG]; omega
    · simp only [argsG]; rw [sizeL_app', Ty.sizeL, Ty.sizeL]; omega
    · simp only [argsG]; simp [h4]
    · intro x hx
      simp only [argsG] at hx
      rcases List.mem_append.1 hx with hx | hx
      · exact h5 x hx
      · simp at hx; subst hx; exact ⟨h6.ar, h6.sn, h6.lt⟩
theorem typF_ok : ∀ (d : Nat) (l : List Nd), TypOk (typF d l).1 (typF d l).2 l.length
  | 0, l => ⟨by simp [typF], by simp [typF, Ty.size], trivial, trivial, fun v hv => by simp [typF, Ty.vars] at hv; omega⟩
  | d + 1, [] => ⟨by simp [typF], by simp [typF, Ty.size], trivial, trivial, fun v hv => by simp [typF, Ty.vars] at hv; omega⟩
  | d + 1, x :: l => by
    rw [typF]
    split
    · exact ⟨by simp, by simp [Ty.size], trivial, trivial, fun v hv => by simp [Ty.vars] at hv; omega⟩
    · obtain ⟨h1, h2, h3, h4, h5⟩ := argsG_ok (typF_ok d) (x :: l) (by simp) (x.a % 3) (by omega)
      have hm : x.a % 3 ≤ 2 := by omega
      rw [List.length_cons] at h1
      refine ⟨?_, ?_, ?_, ?_, ?_⟩
      · simp only [List.length_cons]; omega
      · simp only [Ty.size]; omega
      · rw [Ar_app]; exact ⟨by omega, fun y hy => (h5 y hy).1⟩
      · rw [SN, SNL_iff]; exact ⟨nmF_size _, fun y hy => (h5 y hy).2.1⟩
      · intro v hv
        obtain ⟨y, hy, hv⟩ := Ty.mem_varsL.1 hv
        exact (h5 y hy).2.2 v hv
end Go.Ax
