/- Types, substitutions, what makes two types one: as plain law. Conditions: none. -/
import Derived.Test.YtfpmohmhiecjfaaDoorAx13
set_option linter.unusedVariables false
set_option linter.unusedSimpArgs false
namespace Go.Uni

/-- A type: a variable, or a name and what it is of. -/
inductive Ty where
  | var (n : Nat)
  | app (f : ByteArray) (l : List Ty)

mutual
def Ty.sub (m : Nat → Ty) : Ty → Ty
  | .var n => m n
  | .app f l => .app f (Ty.subL m l)
def Ty.subL (m : Nat → Ty) : List Ty → List Ty
  | [] => []
  | x :: l => x.sub m :: Ty.subL m l
end

mutual
def Ty.vars : Ty → List Nat
  | .var n => [n]
  | .app _ l => Ty.varsL l
def Ty.varsL : List Ty → List Nat
  | [] => []
  | x :: l => x.vars ++ Ty.varsL l
end

mutual
def Ty.size : Ty → Nat
  | .var _ => 1
  | .app _ l => 1 + Ty.sizeL l
def Ty.sizeL : List Ty → Nat
  | [] => 0
  | x :: l => x.size + Ty.sizeL l
end

theorem Ty.subL_eq (m : Nat → Ty) : ∀ l : List Ty, Ty.subL m l = l.map (Ty.sub m)
  | [] => rfl
  | x :: l => by rw [Ty.subL, Ty.subL_eq m l]; rfl
theorem Ty.varsL_eq : ∀ l : List Ty, Ty.varsL l = l.flatMap Ty.vars
  | [] => rfl
  | x :: l => by rw [Ty.varsL, Ty.varsL_eq l]; rfl
theorem Ty.mem_varsL {l : List Ty} {v : Nat} : v ∈ Ty.varsL l ↔ ∃ x ∈ l, v ∈ x.vars := by rw [Ty.varsL_eq]; simp

mutual
theorem Ty.sub_congr {m m' : Nat → Ty} : ∀ {t : Ty}, (∀ v ∈ t.vars, m v = m' v) → t.sub m = t.sub m'
  | .var n, h => h n (by simp [Ty.vars])
  | .app f l, h => by rw [Ty.sub, Ty.sub, Ty.subL_congr (fun v hv => h v hv)]
theorem Ty.subL_congr {m m' : Nat → Ty} : ∀ {l : List Ty}, (∀ v ∈ Ty.varsL l, m v = m' v) → Ty.subL m l = Ty.subL m' l
  | [], _ => rfl
  | x :: l, h => by
    rw [Ty.subL, Ty.subL, Ty.sub_congr (fun v hv => h v (by simp [Ty.varsL, hv])), Ty.subL_congr (fun v hv => h v (by simp [Ty.varsL, hv]))]
end

mutual
theorem Ty.sub_var : ∀ t : Ty, t.sub Ty.var = t
  | .var _ => rfl
  | .app f l => by rw [Ty.sub, Ty.subL_var]
theorem Ty.subL_var : ∀ l : List Ty, Ty.subL Ty.var l = l
  | [] => rfl
  | x :: l => by rw [Ty.subL, Ty.sub_var, Ty.subL_var]
end

mutual
theorem Ty.sub_sub (m m' : Nat → Ty) : ∀ t : Ty, (t.sub m).sub m' = t.sub (fun v => (m v).sub m')
  | .var _ => rfl
  | .app f l => by simp only [Ty.sub]; rw [Ty.subL_subL]
theorem Ty.subL_subL (m m' : Nat → Ty) : ∀ l : List Ty, Ty.subL m' (Ty.subL m l) = Ty.subL (fun v => (m v).sub m') l
  | [] => rfl
  | x :: l => by simp only [Ty.subL]; rw [Ty.sub_sub, Ty.subL_subL]
end

mutual
theorem Ty.mem_vars_sub {m : Nat → Ty} {v : Nat} : ∀ {t : Ty}, v ∈ (t.sub m).vars ↔ ∃ w ∈ t.vars, v ∈ (m w).vars
  | .var n => by simp [Ty.sub, Ty.vars]
  | .app f l => by rw [Ty.sub, Ty.vars, Ty.vars]; exact Ty.mem_varsL_sub
theorem Ty.mem_varsL_sub {m : Nat → Ty} {v : Nat} : ∀ {l : List Ty}, v ∈ Ty.varsL (Ty.subL m l) ↔ ∃ w ∈ Ty.varsL l, v ∈ (m w).vars
  | [] => by simp [Ty.subL, Ty.varsL]
  | x :: l => by
    rw [Ty.subL, Ty.varsL, Ty.varsL, List.mem_append, Ty.mem_vars_sub, Ty.mem_varsL_sub]
    constructor
    · rintro (⟨w, h1, h2⟩ | ⟨w, h1, h2⟩)
      · exact ⟨w, by simp [h1], h2⟩
      · exact ⟨w, by simp [h1], h2⟩
    · rintro ⟨w, h1, h2⟩
      rcases List.mem_append.1 h1 with h1 | h1
      · exact .inl ⟨w, h1, h2⟩
      · exact .inr ⟨w, h1, h2⟩
end

/-- One variable has another type in its place. -/
def one (n : Nat) (u : Ty) : Nat → Ty := fun v => if v = n then u else .var v
def Ty.put (t : Ty) (n : Nat) (u : Ty) : Ty := t.sub (one n u)
theorem Ty.put_none {t u : Ty} {n : Nat} (h : n ∉ t.vars) : t.put n u = t := by
  have : t.put n u = t.sub Ty.var := Ty.sub_congr fun v hv => by
    have : v ≠ n := fun e => h (e ▸ hv)
    simp [one, this]
  rw [this, Ty.sub_var]
/-- A binding more. -/
def bind (m : Nat → Ty) (n : Nat) (u : Ty) : Nat → Ty := fun v => (m v).put n u
theorem sub_bind (m : Nat → Ty) (n : Nat) (u t : Ty) : t.sub (bind m n u) = (t.sub m).put n u := by rw [Ty.put, Ty.sub_sub]; rfl
theorem mem_put {t u : Ty} {n v : Nat} : v ∈ (t.put n u).vars ↔ (v ∈ t.vars ∧ v ≠ n) ∨ (n ∈ t.vars ∧ v ∈ u.vars) := by
  rw [Ty.put, Ty.mem_vars_sub]
  constructor
  · rintro ⟨w, h1, h2⟩
    by_cases h : w = n
    · subst h; simp [one] at h2; exact .inr ⟨h1, h2⟩
    · simp [one, h, Ty.vars] at h2; subst h2; exact .inl ⟨h1, h⟩
  · rintro (⟨h1, h2⟩ | ⟨h1, h2⟩)
    · exact ⟨v, h1, by simp [one, h2, Ty.vars]⟩
    · exact ⟨n, h1, by simp [one, h2]⟩

/-- What the map tells (s), what all variables come to (m), and in which order (r). -/
structure Sbs (s : Nat → Option Ty) (m : Nat → Ty) (r : Nat → Nat) : Prop where
  un : ∀ n, s n = none → m n = .var n
  bd : ∀ n t, s n = some t → m n = t.sub m
  rank : ∀ n t, s n = some t → ∀ v ∈ t.vars, r v < r n
  free : ∀ n, ∀ v ∈ (m n).vars, s v = none

theorem Sbs.start : Sbs (fun _ => none) Ty.var (fun _ => 0) := ⟨fun _ _ => rfl, fun _ _ h => (by cases h), fun _ _ h => (by cases h), fun _ _ _ => rfl⟩

theorem Sbs.idem {s : Nat → Option Ty} {m : Nat → Ty} {r : Nat → Nat} (h : Sbs s m r) (t : Ty) : (t.sub m).sub m = t.sub m := by
  rw [Ty.sub_sub]
  refine Ty.sub_congr fun v _ => ?_
  have : (m v).sub m = (m v).sub Ty.var := Ty.sub_congr fun w hw => h.un w (h.free v w hw)
  rw [this, Ty.sub_var]
theorem Sbs.free_sub {s : Nat → Option Ty} {m : Nat → Ty} {r : Nat → Nat} (h : Sbs s m r) {t : Ty} {v : Nat} (hv : v ∈ (t.sub m).vars) : s v = none := by
  obtain ⟨w, _, h2⟩ := Ty.mem_vars_sub.1 hv
  exact h.free w v h2

theorem max_bound (r : Nat → Nat) : ∀ l : List Nat, ∃ K, ∀ v ∈ l, r v < K
  | [] => ⟨0, fun v hv => by cases hv⟩
  | a :: l => by
    obtain ⟨K, hK⟩ := max_bound r l
    refine ⟨K + r a + 1, fun v hv => ?_⟩
    rcases List.mem_cons.1 hv with rfl | hv
    · omega
    · have := hK v hv; omega

/-- A variable that stands for nothing gets a type that it isn't in. -/
theorem Sbs.bind {s : Nat → Option Ty} {m : Nat → Ty} {r : Nat → Nat} (h : Sbs s m r) {n : Nat} {b : Ty} (hn : s n = none) (hb : n ∉ (b.sub m).vars) :
    ∃ r', Sbs (fun v => if v = n then some b else s v) (bind m n (b.sub m)) r' := by
  obtain ⟨K, hK⟩ := max_bound r b.vars
  refine ⟨fun v => if n ∈ (m v).vars then r v + K else r v, ?_, ?_, ?_, ?_⟩
  · intro v hv
    by_cases hvn : v = n
    · simp [hvn] at hv
    · simp [hvn] at hv
      rw [Uni.bind, h.un v hv, Ty.put, Ty.sub]
      simp [one, hvn]
  · intro v t hv
    by_cases hvn : v = n
    · simp [hvn] at hv
      subst hv
      subst hvn
      rw [sub_bind, Ty.put_none hb, Uni.bind, h.un v hn, Ty.put, Ty.sub]
      simp [one]
    · simp [hvn] at hv
      rw [sub_bind, Uni.bind, h.bd v t hv]
  · intro v t hv w hw
    by_cases hvn : v = n
    · simp [hvn] at hv
      subst hv
      subst hvn
      have h1 : v ∈ (m v).vars := by rw [h.un v hn]; simp [Ty.vars]
      have h2 : v ∉ (m w).vars := fun hc => hb (Ty.mem_vars_sub.2 ⟨w, hw, hc⟩)
      simp only [h1, h2, if_true, if_false]
      have := hK w hw; omega
    · simp [hvn] at hv
      have h1 := h.rank v t hv w hw
      have h2 : n ∈ (m w).vars → n ∈ (m v).vars := fun hc => by rw [h.bd v t hv]; exact Ty.mem_vars_sub.2 ⟨w, hw, hc⟩
      by_cases h3 : n ∈ (m w).vars
      · simp only [h3, h2 h3, if_true]; omega
      · simp only [h3, if_false]
        split <;> omega
  · intro v w hw
    rw [Uni.bind, mem_put] at hw
    have hwn : w ≠ n := by
      rcases hw with ⟨_, h1⟩ | ⟨_, h1⟩
      · exact h1
      · exact fun e => hb (e ▸ h1)
    simp only [hwn, if_false]
    rcases hw with ⟨h1, _⟩ | ⟨_, h1⟩
    · exact h.free v w h1
    · exact h.free_sub h1
end Go.Uni

/- Types as trees of the abstract machine; the small functions that make them. Conditions: none. -/
set_option linter.unusedSimpArgs false
set_option linter.unusedVariables false
namespace Go.Ax
open Go.Proofs Go.Uni
theorem mixed_ : Tryd.prog.follows .mixedOrders = true := by kernel_rfl

theorem wrapI (n : Int) (h : -9223372036854775808 ≤ n) (h' : n < 9223372036854775808) : IntKind.i64.wrap n = n := by rw [IntKind.wrap_i64]; omega

def eStr : ByteArray := ⟨#[]⟩
mutual
def enc : Ty → V
  | .var n => .agg [V.int (n : Int), V.str eStr, .list .dull []]
  | .app f l => .agg [V.int (-1), V.str f, .list .dull (encL l)]
def encL : List Ty → List V
  | [] => []
  | x :: l => enc x :: encL l
end
def hd : Ty → Int
  | .var n => (n : Int)
  | .app _ _ => -1
def nm : Ty → ByteArray
  | .var _ => eStr
  | .app f _ => f
def ar : Ty → List Ty
  | .var _ => []
  | .app _ l => l
@[go_sem] theorem hd_var (n : Nat) : hd (.var n) = (n : Int) := rfl
@[go_sem] theorem hd_app (f : ByteArray) (l : List Ty) : hd (.app f l) = -1 := rfl
@[go_sem] theorem nm_var (n : Nat) : nm (.var n) = eStr := rfl
@[go_sem] theorem nm_app (f : ByteArray) (l : List Ty) : nm (.app f l) = f := rfl
@[go_sem] theorem ar_var (n : Nat) : ar (.var n) = [] := rfl
@[go_sem] theorem ar_app (f : ByteArray) (l : List Ty) : ar (.app f l) = l := rfl
theorem enc_eq (t : Ty) : enc t = .agg [V.int (hd t), V.str (nm t), .list .dull (encL (ar t))] := by cases t <;> rfl
theorem encL_eq : ∀ l : List Ty, encL l = l.map enc
  | [] => rfl
  | x :: l => by rw [encL, encL_eq l]; rfl
@[go_sem] theorem encL_nil : encL [] = [] := rfl
@[go_sem] theorem encL_length (l : List Ty) : (encL l).length = l.length := by rw [encL_eq, List.length_map]
theorem encL_append (l k : List Ty) : encL (l ++ k) = encL l ++ encL k := by simp [encL_eq]
theorem encL_cons (x : Ty) (l : List Ty) : encL (x :: l) = enc x :: encL l := rfl
theorem encL_at {l : List Ty} {i : Nat} {x : Ty} (h : l[i]? = some x) : (encL l)[i]? = some (enc x) := by rw [encL_eq, List.getElem?_map, h]; rfl
@[go_sem] theorem cells_enc (t : Ty) : (enc t).cells = [V.int (hd t), V.str (nm t), .list .dull (encL (ar t))] := by cases t <;> rfl
@[go_sem] theorem okv_enc (t : Ty) : (enc t).okv = true := by cases t <;> rfl
@[go_sem] theorem one_enc (t : Ty) : (enc t).one = false := by cases t <;> rfl
theorem encL_ok (l : List Ty) : ∀ x ∈ encL l, x.cells.length = 3 := by
  intro x hx
  rw [encL_eq] at hx
  obtain ⟨t, _, rfl⟩ := List.mem_map.1 hx
  rw [cells_enc]; rfl
mutual
theorem enc_un : ∀ t : Ty, (enc t).un = enc t
  | .var n => rfl
  | .app f l => by simp only [enc, V.un, V.unL]; rw [encL_un l]
theorem encL_un : ∀ l : List Ty, V.unL (encL l) = encL l
  | [] => rfl
  | x :: l => by simp only [encL, V.unL]; rw [enc_un x, encL_un l]
end
mutual
theorem enc_closed : ∀ t : Ty, (enc t).closed = true
  | .var n => rfl
  | .app f l => by simp only [enc, V.closed, V.closedL]; rw [encL_closed l]; rfl
theorem encL_closed : ∀ l : List Ty, V.closedL (encL l) = true
  | [] => rfl
  | x :: l => by simp only [encL, V.closedL]; rw [enc_closed x, encL_closed l]; rfl
end
theorem un_prim (v : Value) : (V.prim v).un = .prim v := rfl
theorem un_list (t : Tag) (xs : List V) : (V.list t xs).un = .list .dull (V.unL xs) := rfl
theorem un_agg (xs : List V) : (V.agg xs).un = .agg (V.unL xs) := rfl
theorem un_tup (xs : List V) : (V.tup xs).un = .tup (V.unL xs) := rfl
theorem un_map (i : Nat) : (V.map i).un = .map i := rfl
theorem un_ptr (i o : Nat) : (V.ptr i o).un = .ptr i o := rfl
theorem unL_nil : V.unL [] = [] := rfl
theorem unL_cons (x : V) (xs : List V) : V.unL (x :: xs) = x.un :: V.unL xs := rfl
attribute [go_sem] un_prim un_list un_agg un_tup un_map un_ptr unL_nil unL_cons enc_un encL_un
mutual
def Ar : Ty → Prop
  | .var _ => True
  | .app _ l => l.length ≤ 100 ∧ ArL l
def ArL : List Ty → Prop
  | [] => True
  | x :: l => Ar x ∧ ArL l
end
theorem ArL_iff : ∀ {l : List Ty}, ArL l ↔ ∀ x ∈ l, Ar x
  | [] => by simp [ArL]
  | x :: l => by simp [ArL, ArL_iff (l := l)]
theorem Ar_app {f : ByteArray} {l : List Ty} : Ar (.app f l) ↔ l.length ≤ 100 ∧ ∀ x ∈ l, Ar x := by rw [Ar, ArL_iff]
mutual
theorem Ar_sub {m : Nat → Ty} (hm : ∀ v, Ar (m v)) : ∀ {t : Ty}, Ar t → Ar (t.sub m)
  | .var n, _ => hm n
  | .app f l, h => by
    rw [Ty.sub, Ar]
    rw [Ar] at h
    exact ⟨by rw [Ty.subL_eq, List.length_map]; exact h.1, ArL_sub hm h.2⟩
theorem ArL_sub {m : Nat → Ty} (hm : ∀ v, Ar (m v)) : ∀ {l : List Ty}, ArL l → ArL (Ty.subL m l)
  | [], _ => trivial
  | x :: l, h => ⟨Ar_sub hm h.1, ArL_sub hm h.2⟩
end
theorem Ar_put {t u : Ty} {n : Nat} (ht : Ar t) (hu : Ar u) : Ar (t.put n u) := Ar_sub (fun v => by unfold one; split; exact hu; trivial) ht

theorem var_ok (n : Int) (t : Ty) (h : n = hd t) (ht : t = .var n.toNat) : PCalls Tryd.prog 21 [V.int n] (enc t) := by
  refine pcalls_of (enc_closed _) fun M => ?_
  refine acalls_enter [.cell 2 30] 5 Tryd.func21 rfl rfl rfl (by simp) ?_
  (repeat (first | refine W_seq ?_ | refine W_block ?_ | refine W_blk ?_ | refine W_skip ?_ | (refine W_region [] (by rfl) fun K hK => ?_; simp only [go_sem, Nat.reduceEqDiff, Nat.reduceLT, Nat.reduceAdd, Nat.reduceLeDiff, Nat.reduceMul, Nat.reduceSub, Int.reduceLE, Int.reduceLT, Int.reduceToNat, Int.reducePow, Int.reduceEq]; refine WRun.done _ _ (hK _ _ ?_); clear hK)))
  refine W_ret ?_
  simp only [go_sem, Nat.reduceEqDiff, Nat.reduceLT, Nat.reduceAdd, Nat.reduceLeDiff, Nat.reduceMul, Nat.reduceSub, Int.reduceLE, Int.reduceLT, Int.reduceToNat, Int.reducePow, Int.reduceEq]
  refine ⟨?_, _, rfl⟩
  subst ht
  rw [hd_var] at h
  rw [enc, ← h]; rfl

theorem of_ok (f : ByteArray) (l : List Ty) : PCalls Tryd.prog 22 [V.str f, .list .dull (encL l)] (enc (.app f l)) := by
  refine pcalls_of (enc_closed _) fun M => ?_
  refine acalls_enter [.cell 4 30] 8 Tryd.func22 rfl rfl rfl (by simp) ?_
  (repeat (first | refine W_seq ?_ | refine W_block ?_ | refine W_blk ?_ | refine W_skip ?_ | (refine W_region [] (by rfl) fun K hK => ?_; simp only [go_sem, Nat.reduceEqDiff, Nat.reduceLT, Nat.reduceAdd, Nat.reduceLeDiff, Nat.reduceMul, Nat.reduceSub, Int.reduceLE, Int.reduceLT, Int.reduceToNat, Int.reducePow, Int.reduceEq]; refine WRun.done _ _ (hK _ _ ?_); clear hK)))
  refine W_ret ?_
  simp only [go_sem, Nat.reduceEqDiff, Nat.reduceLT, Nat.reduceAdd, Nat.reduceLeDiff, Nat.reduceMul, Nat.reduceSub, Int.reduceLE, Int.reduceLT, Int.reduceToNat, Int.reducePow, Int.reduceEq]
  exact ⟨rfl, _, rfl⟩

theorem fn_ok (a b : Ty) : PCalls Tryd.prog 29 [enc a, enc b] (enc (.app ⟨#[45, 62]⟩ [a, b])) := by
  refine pcalls_of (enc_closed _) fun M => ?_
  refine acalls_enter [.cell 4 30] 9 Tryd.func29 rfl rfl rfl (by simp) ?_
  (repeat (first | refine W_seq ?_ | refine W_block ?_ | refine W_blk ?_ | refine W_skip ?_))
  (refine W_region [2, 3] (by rfl) fun K hK => ?_; simp only [go_sem, Nat.reduceEqDiff, Nat.reduceLT, Nat.reduceAdd, Nat.reduceLeDiff, Nat.reduceMul, Nat.reduceSub, Int.reduceLE, Int.reduceLT, Int.reduceToNat, Int.reducePow, Int.reduceEq])
  (refine WRun.done _ _ (hK _ _ ?_); clear hK)
  (repeat (first | refine W_seq ?_ | refine W_block ?_ | refine W_blk ?_ | refine W_skip ?_))
  (refine W_region [] (by rfl) fun K hK => ?_; simp only [go_sem, Nat.reduceEqDiff, Nat.reduceLT, Nat.reduceAdd, Nat.reduceLeDiff, Nat.reduceMul, Nat.reduceSub, Int.reduceLE, Int.reduceLT, Int.reduceToNat, Int.reducePow, Int.reduceEq])
  refine PCalls.use (of_ok ⟨#[45, 62]⟩ [a, b]) (by simp only [go_sem, Nat.reduceEqDiff, Nat.reduceLT, Nat.reduceAdd, Nat.reduceLeDiff, Nat.reduceMul, Nat.reduceSub, Int.reduceLE, Int.reduceLT, Int.reduceToNat, Int.reducePow, Int.reduceEq, enc_eq, encL_cons]) ?_
  simp only [go_sem, Nat.reduceEqDiff, Nat.reduceLT, Nat.reduceAdd, Nat.reduceLeDiff, Nat.reduceMul, Nat.reduceSub, Int.reduceLE, Int.reduceLT, Int.reduceToNat, Int.reducePow, Int.reduceEq]
  (refine WRun.done _ _ (hK _ _ ?_); clear hK)
  refine W_ret ?_
  simp only [go_sem, Nat.reduceEqDiff, Nat.reduceLT, Nat.reduceAdd, Nat.reduceLeDiff, Nat.reduceMul, Nat.reduceSub, Int.reduceLE, Int.reduceLT, Int.reduceToNat, Int.reducePow, Int.reduceEq]
  refine ⟨?_, _, rfl⟩
  simp only [go_sem, Nat.reduceEqDiff, Nat.reduceLT, Nat.reduceAdd, Nat.reduceLeDiff, Nat.reduceMul, Nat.reduceSub, Int.reduceLE, Int.reduceLT, Int.reduceToNat, Int.reducePow, Int.reduceEq, encL_cons]
  rfl
end Go.Ax
