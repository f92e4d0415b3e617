/- A type's text: what both functions give. Conditions: none. -/
import Derived.Test.YtfpmohmhiecjfaaDoorUnD
set_option linter.unusedSimpArgs false
set_option linter.unusedVariables false
namespace Go.Ax
open Go.Proofs Go.Uni

mutual
def txt : Ty → ByteArray
  | .var n => ⟨#[116]⟩ ++ num n
  | .app f l => match l with
    | [] => f
    | x :: k => txtL k (⟨#[40]⟩ ++ f ++ (⟨#[32]⟩ ++ txt x)) ++ ⟨#[41]⟩
def txtL : List Ty → ByteArray → ByteArray
  | [], s => s
  | x :: l, s => txtL l (s ++ (⟨#[32]⟩ ++ txt x))
end
theorem txt_app (f : ByteArray) (l : List Ty) (h : 0 < l.length) : txt (.app f l) = txtL l (⟨#[40]⟩ ++ f) ++ ⟨#[41]⟩ := by
  cases l with
  | nil => simp at h
  | cons x k => rw [txt, txtL]
theorem txtL_snoc (x : Ty) : ∀ (l : List Ty) (s : ByteArray), txtL (l ++ [x]) s = txtL l s ++ (⟨#[32]⟩ ++ txt x)
  | [], s => rfl
  | y :: l, s => by rw [List.cons_append, txtL, txtL_snoc x l, txtL]

mutual
def Sm : Ty → Prop
  | .var n => n < 1000
  | .app f l => f.size ≤ 10 ∧ SmL l
def SmL : List Ty → Prop
  | [] => True
  | x :: l => Sm x ∧ SmL l
end
theorem SmL_iff : ∀ {l : List Ty}, SmL l ↔ ∀ x ∈ l, Sm x
  | [] => by simp [SmL]
  | x :: l => by simp [SmL, SmL_iff (l := l)]
theorem Sm_app {f : ByteArray} {l : List Ty} : Sm (.app f l) ↔ f.size ≤ 10 ∧ ∀ x ∈ l, Sm x := by rw [Sm, SmL_iff]
theorem dig_len : ∀ (k n : Nat), n < 10 ^ (k + 1) → (Lib.decDigits n).length ≤ k + 1
  | 0, n, h => by rw [Lib.decDigits, dif_pos (by simpa using h)]; simp
  | k + 1, n, h => by
    rw [Lib.decDigits]
    split
    · simp
    · have := dig_len k (n / 10) (by rw [Nat.pow_succ] at h; omega)
      simp; omega
theorem num_size {n : Nat} (h : n < 1000) : (num n).size ≤ 3 := by
  have := dig_len 2 n (by omega)
  simpa [num, ByteArray.size] using this
theorem size_app (a b : ByteArray) : (a ++ b).size = a.size + b.size := ByteArray.size_append
mutual
theorem txt_size : ∀ {t : Ty}, Sm t → (txt t).size + 2 ≤ 15 * t.size
  | .var n, h => by
    rw [txt, size_app, Ty.size]
    have := num_size h
    have : (⟨#[116]⟩ : ByteArray).size = 1 := rfl
    omega
  | .app f [], h => by
    rw [Sm] at h
    rw [txt, Ty.size]; omega
  | .app f (x :: l), h => by
    rw [Sm, SmL] at h
    have h1 := txt_size h.2.1
    have h2 := txtL_size (s := ⟨#[40]⟩ ++ f ++ (⟨#[32]⟩ ++ txt x)) h.2.2
    rw [txt, Ty.size, Ty.sizeL, size_app]
    simp only [size_app] at h2
    have e1 : (⟨#[40]⟩ : ByteArray).size = 1 := rfl
    have e2 : (⟨#[32]⟩ : ByteArray).size = 1 := rfl
    have e3 : (⟨#[41]⟩ : ByteArray).size = 1 := rfl
    omega
theorem txtL_size : ∀ {l : List Ty} {s : ByteArray}, SmL l → (txtL l s).size ≤ s.size + 15 * Ty.sizeL l
  | [], s, _ => by rw [txtL, Ty.sizeL]; omega
  | x :: l, s, h => by
    rw [SmL] at h
    have h1 := txt_size h.1
    have h2 := txtL_size (s := s ++ (⟨#[32]⟩ ++ txt x)) h.2
    rw [txtL, Ty.sizeL]
    simp only [size_app] at h2
    have e2 : (⟨#[32]⟩ : ByteArray).size = 1 := rfl
    omega
end
theorem sizeL_take (l : List Ty) (i : Nat) : Ty.sizeL (l.take i) ≤ Ty.sizeL l := by
  induction l generalizing i with
  | nil => simp
  | cons x l ih =>
    cases i with
    | zero => simp [Ty.sizeL]
    | succ i => rw [List.take_succ_cons, Ty.sizeL, Ty.sizeL]; have := ih i; omega
theorem SmL_take {l : List Ty} (h : ∀ x ∈ l, Sm x) (i : Nat) : SmL (l.take i) := SmL_iff.2 fun x hx => h x (List.mem_of_mem_take hx)

set_option maxHeartbeats 4000000 in
theorem text_ok : ∀ (N : Nat) (t : Ty), t.size ≤ N → Ar t → Sm t → t.size ≤ 1125899906842624 → ∀ M, ((∀ n ∈ t.vars, n < 100) ∨ Tab M) → ACalls Tryd.prog 12 [enc t] M (fun v M' => v = V.str (txt t) ∧ M' = M)
  | 0, t, h, _, _, _, _, _ => by cases t <;> simp [Ty.size] at h
  | N + 1, t, h, hA, hS, hz, M, hT => by
    refine acalls_enter [.tmp 2] 39 Tryd.func12 rfl rfl rfl (by simp) ?_
    have hsz := txt_size hS
    cases t with
    | var v =>
      have h0 : (0 : Int) ≤ (v : Int) := Int.natCast_nonneg v
      (repeat (first | refine W_seq ?_ | refine W_block ?_ | refine W_blk ?_ | refine W_skip ?_ | (refine W_region [1] (by rfl) fun K hK => ?_; simp only [go_sem, Nat.reduceEqDiff, Nat.reduceLT, Nat.reduceAdd, Nat.reduceLeDiff, Nat.reduceMul, Nat.reduceSub, Int.reduceLE, Int.reduceLT, Int.reduceToNat, Int.reducePow, Int.reduceEq]; refine WRun.done _ _ (hK _ _ ?_); clear hK)))
      refine W_cond_true (by simp only [go_sem, Nat.reduceEqDiff, Nat.reduceLT, Nat.reduceAdd, Nat.reduceLeDiff, Nat.reduceMul, Nat.reduceSub, Int.reduceLE, Int.reduceLT, Int.reduceToNat, Int.reducePow, Int.reduceEq, h0]) ?_
      (repeat (first | refine W_seq ?_ | refine W_block ?_ | refine W_blk ?_ | refine W_skip ?_))
      (refine W_region [] (by rfl) fun K hK => ?_; simp only [go_sem, Nat.reduceEqDiff, Nat.reduceLT, Nat.reduceAdd, Nat.reduceLeDiff, Nat.reduceMul, Nat.reduceSub, Int.reduceLE, Int.reduceLT, Int.reduceToNat, Int.reducePow, Int.reduceEq])
      rw [Sm] at hS
      refine ACalls.use (itoa_ok v (by omega) M (hT.imp (fun h => h v (by simp [Ty.vars])) id)) (by simp only [go_sem, Nat.reduceEqDiff, Nat.reduceLT, Nat.reduceAdd, Nat.reduceLeDiff, Nat.reduceMul, Nat.reduceSub, Int.reduceLE, Int.reduceLT, Int.reduceToNat, Int.reducePow, Int.reduceEq]) ?_
      rintro r M' ⟨rfl, rfl⟩
      have h3 := num_size hS
      have h4 : (#[116] : Array UInt8).size + (num v).size ≤ 9223372036854775807 := by have : (#[116] : Array UInt8).size = 1 := rfl; omega
      simp only [go_sem, Nat.reduceEqDiff, Nat.reduceLT, Nat.reduceAdd, Nat.reduceLeDiff, Nat.reduceMul, Nat.reduceSub, Int.reduceLE, Int.reduceLT, Int.reduceToNat, Int.reducePow, Int.reduceEq, h4]
      (refine WRun.done _ _ (hK _ _ ?_); clear hK)
      refine W_ret ?_
      simp only [go_sem, Nat.reduceEqDiff, Nat.reduceLT, Nat.reduceAdd, Nat.reduceLeDiff, Nat.reduceMul, Nat.reduceSub, Int.reduceLE, Int.reduceLT, Int.reduceToNat, Int.reducePow, Int.reduceEq, txt]
    | app f l =>
      rw [Ar_app] at hA
      rw [Sm_app] at hS
      rw [Ty.size] at hz
      (repeat (first | refine W_seq ?_ | refine W_block ?_ | refine W_blk ?_ | refine W_skip ?_ | (refine W_region [1] (by rfl) fun K hK => ?_; simp only [go_sem, Nat.reduceEqDiff, Nat.reduceLT, Nat.reduceAdd, Nat.reduceLeDiff, Nat.reduceMul, Nat.reduceSub, Int.reduceLE, Int.reduceLT, Int.reduceToNat, Int.reducePow, Int.reduceEq]; refine WRun.done _ _ (hK _ _ ?_); clear hK)))
      refine W_cond_false (by simp only [go_sem, Nat.reduceEqDiff, Nat.reduceLT, Nat.reduceAdd, Nat.reduceLeDiff, Nat.reduceMul, Nat.reduceSub, Int.reduceLE, Int.reduceLT, Int.reduceToNat, Int.reducePow, Int.reduceEq]) ?_
      (repeat (first | refine W_seq ?_ | refine W_block ?_ | refine W_blk ?_ | refine W_skip ?_ | (refine W_region [] (by rfl) fun K hK => ?_; simp only [go_sem, Nat.reduceEqDiff, Nat.reduceLT, Nat.reduceAdd, Nat.reduceLeDiff, Nat.reduceMul, Nat.reduceSub, Int.reduceLE, Int.reduceLT, Int.reduceToNat, Int.reducePow, Int.reduceEq]; refine WRun.done _ _ (hK _ _ ?_); clear hK)))
      by_cases hl : l = []
      · subst hl
        refine W_cond_true (by simp only [go_sem, Nat.reduceEqDiff, Nat.reduceLT, Nat.reduceAdd, Nat.reduceLeDiff, Nat.reduceMul, Nat.reduceSub, Int.reduceLE, Int.reduceLT, Int.reduceToNat, Int.reducePow, Int.reduceEq]) ?_
        (repeat (first | refine W_seq ?_ | refine W_block ?_ | refine W_blk ?_ | refine W_skip ?_ | (refine W_region [] (by rfl) fun K hK => ?_; simp only [go_sem, Nat.reduceEqDiff, Nat.reduceLT, Nat.reduceAdd, Nat.reduceLeDiff, Nat.reduceMul, Nat.reduceSub, Int.reduceLE, Int.reduceLT, Int.reduceToNat, Int.reducePow, Int.reduceEq]; refine WRun.done _ _ (hK _ _ ?_); clear hK)))
        refine W_ret ?_
        simp only [go_sem, Nat.reduceEqDiff, Nat.reduceLT, Nat.reduceAdd, Nat.reduceLeDiff, Nat.reduceMul, Nat.reduceSub, Int.reduceLE, Int.reduceLT, Int.reduceToNat, Int.reducePow, Int.reduceEq, txt]
      · have hl0 : 0 < l.length := List.length_pos_iff.2 hl
        have hl1 : ¬ ((l.length : Int) = 0) := by omega
        have h5 : (#[40] : Array UInt8).size + f.size ≤ 9223372036854775807 := by have : (#[40] : Array UInt8).size = 1 := rfl; omega
        refine W_cond_false (by simp only [go_sem, Nat.reduceEqDiff, Nat.reduceLT, Nat.reduceAdd, Nat.reduceLeDiff, Nat.reduceMul, Nat.reduceSub, Int.reduceLE, Int.reduceLT, Int.reduceToNat, Int.reducePow, Int.reduceEq, hl1]) ?_
        (repeat (first | refine W_seq ?_ | refine W_block ?_ | refine W_blk ?_ | refine W_skip ?_ | (refine W_region [] (by rfl) fun K hK => ?_; simp only [go_sem, Nat.reduceEqDiff, Nat.reduceLT, Nat.reduceAdd, Nat.reduceLeDiff, Nat.reduceMul, Nat.reduceSub, Int.reduceLE, Int.reduceLT, Int.reduceToNat, Int.reducePow, Int.reduceEq, h5]; refine WRun.done _ _ (hK _ _ ?_); clear hK)))
        refine W_loop (α := Nat) (fun i F' M' => i ≤ l.length ∧ M' = M ∧ look F' 1 = .pc [V.int (-1), V.str f, .list .dull (encL l)] ∧ look F' 3 = V.str (txtL (l.take i) (⟨#[40]⟩ ++ f)) ∧ look F' 4 = V.int i)
          (fun i => l.length - i) 0 ⟨Nat.zero_le _, rfl, ?_, ?_, ?_⟩ ?_
        · simp only [go_sem, Nat.reduceEqDiff, Nat.reduceLT, Nat.reduceAdd, Nat.reduceLeDiff, Nat.reduceMul, Nat.reduceSub, Int.reduceLE, Int.reduceLT, Int.reduceToNat, Int.reducePow, Int.reduceEq]
        · simp only [go_sem, Nat.reduceEqDiff, Nat.reduceLT, Nat.reduceAdd, Nat.reduceLeDiff, Nat.reduceMul, Nat.reduceSub, Int.reduceLE, Int.reduceLT, Int.reduceToNat, Int.reducePow, Int.reduceEq, txtL]
        · simp only [go_sem, Nat.reduceEqDiff, Nat.reduceLT, Nat.reduceAdd, Nat.reduceLeDiff, Nat.reduceMul, Nat.reduceSub, Int.reduceLE, Int.reduceLT, Int.reduceToNat, Int.reducePow, Int.reduceEq]
        rintro i F' M' ⟨hi, rfl, f1, f3, f4⟩
        have hb := txtL_size (s := ⟨#[40]⟩ ++ f) (SmL_take hS.2 i)
        have hb2 := sizeL_take l i
        rw [size_app] at hb
        have e1 : (⟨#[40]⟩ : ByteArray).size = 1 := rfl
        have e2 : (⟨#[32]⟩ : ByteArray).size = 1 := rfl
        have e3 : (⟨#[41]⟩ : ByteArray).size = 1 := rfl
        by_cases hlt : i < l.length
        · have hlt' : (i : Int) < (l.length : Int) := by omega
          have hw : IntKind.i64.wrap ((i : Int) + 1) = ((i + 1 : Nat) : Int) := by rw [wrapI _ (by omega) (by omega)]; omega
          obtain ⟨x, hxl⟩ : ∃ x, l[i]? = some x := ⟨l[i], by simp [hlt]⟩
          have hxm : x ∈ l := List.mem_of_getElem? hxl
          have hat := encL_at hxl
          have hxs := mem_size hxm
          have hxz := txt_size (hS.2 x hxm)
          have h6 : (#[32] : Array UInt8).size + (txt x).size ≤ 9223372036854775807 := by have : (#[32] : Array UInt8).size = 1 := rfl; omega
          have h7 : (txtL (l.take i) (⟨#[40]⟩ ++ f)).size + ((#[32] : Array UInt8).size + (txt x).size) ≤ 9223372036854775807 := by have : (#[32] : Array UInt8).size = 1 := rfl; omega
          (repeat (first | refine W_seq ?_ | refine W_block ?_ | refine W_blk ?_ | refine W_skip ?_ | (refine W_region [] (by rfl) fun K hK => ?_; simp only [go_sem, Nat.reduceEqDiff, Nat.reduceLT, Nat.reduceAdd, Nat.reduceLeDiff, Nat.reduceMul, Nat.reduceSub, Int.reduceLE, Int.reduceLT, Int.reduceToNat, Int.reducePow, Int.reduceEq, f1, f4, hlt']; refine WRun.done _ _ (hK _ _ ?_); clear hK)))
          refine W_cond_true (by simp only [go_sem, Nat.reduceEqDiff, Nat.reduceLT, Nat.reduceAdd, Nat.reduceLeDiff, Nat.reduceMul, Nat.reduceSub, Int.reduceLE, Int.reduceLT, Int.reduceToNat, Int.reducePow, Int.reduceEq]) ?_
          (repeat (first | refine W_seq ?_ | refine W_block ?_ | refine W_blk ?_ | refine W_skip ?_))
          (refine W_region [] (by rfl) fun K hK => ?_; simp only [go_sem, Nat.reduceEqDiff, Nat.reduceLT, Nat.reduceAdd, Nat.reduceLeDiff, Nat.reduceMul, Nat.reduceSub, Int.reduceLE, Int.reduceLT, Int.reduceToNat, Int.reducePow, Int.reduceEq, f1, f3, f4, hat, Int.natCast_nonneg, Int.toNat_natCast])
          refine ACalls.use (text_ok N x (by have := app_size (f := f) hxm; omega) (hA.2 x hxm) (hS.2 x hxm) (by omega) M' (hT.imp (fun h n hn => h n (Ty.mem_varsL.2 ⟨x, hxm, hn⟩)) id)) (by simp only [go_sem, Nat.reduceEqDiff, Nat.reduceLT, Nat.reduceAdd, Nat.reduceLeDiff, Nat.reduceMul, Nat.reduceSub, Int.reduceLE, Int.reduceLT, Int.reduceToNat, Int.reducePow, Int.reduceEq, enc_eq]) ?_
          rintro r M2 ⟨rfl, rfl⟩
          simp only [go_sem, Nat.reduceEqDiff, Nat.reduceLT, Nat.reduceAdd, Nat.reduceLeDiff, Nat.reduceMul, Nat.reduceSub, Int.reduceLE, Int.reduceLT, Int.reduceToNat, Int.reducePow, Int.reduceEq, h6, h7, f3]
          (refine WRun.done _ _ (hK _ _ ?_); clear hK)
          (repeat (first | refine W_seq ?_ | refine W_block ?_ | refine W_blk ?_ | refine W_skip ?_ | (refine W_region [] (by rfl) fun K hK => ?_; simp only [go_sem, Nat.reduceEqDiff, Nat.reduceLT, Nat.reduceAdd, Nat.reduceLeDiff, Nat.reduceMul, Nat.reduceSub, Int.reduceLE, Int.reduceLT, Int.reduceToNat, Int.reducePow, Int.reduceEq, f4, hw]; refine WRun.done _ _ (hK _ _ ?_); clear hK)))
          refine W_stop ⟨i + 1, ⟨hlt, rfl, ?_, ?_, ?_⟩, by omega⟩
          · simp only [go_sem, Nat.reduceEqDiff, Nat.reduceLT, Nat.reduceAdd, Nat.reduceLeDiff, Nat.reduceMul, Nat.reduceSub, Int.reduceLE, Int.reduceLT, Int.reduceToNat, Int.reducePow, Int.reduceEq, f1]
          · simp only [go_sem, Nat.reduceEqDiff, Nat.reduceLT, Nat.reduceAdd, Nat.reduceLeDiff, Nat.reduceMul, Nat.reduceSub, Int.reduceLE, Int.reduceLT, Int.reduceToNat, Int.reducePow, Int.reduceEq]
            rw [List.take_add_one, hxl, Option.toList_some, txtL_snoc]
          · simp only [go_sem, Nat.reduceEqDiff, Nat.reduceLT, Nat.reduceAdd, Nat.reduceLeDiff, Nat.reduceMul, Nat.reduceSub, Int.reduceLE, Int.reduceLT, Int.reduceToNat, Int.reducePow, Int.reduceEq]
        · have hii : i = l.length := by omega
          subst hii
          rw [List.take_length] at hb f3
          have h8 : (txtL l (⟨#[40]⟩ ++ f)).size + (#[41] : Array UInt8).size ≤ 9223372036854775807 := by have : (#[41] : Array UInt8).size = 1 := rfl; omega
          (repeat (first | refine W_seq ?_ | refine W_block ?_ | refine W_blk ?_ | refine W_skip ?_ | (refine W_region [] (by rfl) fun K hK => ?_; simp only [go_sem, Nat.reduceEqDiff, Nat.reduceLT, Nat.reduceAdd, Nat.reduceLeDiff, Nat.reduceMul, Nat.reduceSub, Int.reduceLE, Int.reduceLT, Int.reduceToNat, Int.reducePow, Int.reduceEq, f1, f4, Int.lt_irrefl]; refine WRun.done _ _ (hK _ _ ?_); clear hK)))
          refine W_cond_false (by simp only [go_sem, Nat.reduceEqDiff, Nat.reduceLT, Nat.reduceAdd, Nat.reduceLeDiff, Nat.reduceMul, Nat.reduceSub, Int.reduceLE, Int.reduceLT, Int.reduceToNat, Int.reducePow, Int.reduceEq]) ?_
          refine W_exit (Qof_code (Qof_stop (Qof_blk_same ?_)))
          (repeat (first | refine W_seq ?_ | refine W_block ?_ | refine W_blk ?_ | refine W_skip ?_ | (refine W_region [] (by rfl) fun K hK => ?_; simp only [go_sem, Nat.reduceEqDiff, Nat.reduceLT, Nat.reduceAdd, Nat.reduceLeDiff, Nat.reduceMul, Nat.reduceSub, Int.reduceLE, Int.reduceLT, Int.reduceToNat, Int.reducePow, Int.reduceEq, f3, h8]; refine WRun.done _ _ (hK _ _ ?_); clear hK)))
          refine W_ret ?_
          simp only [go_sem, Nat.reduceEqDiff, Nat.reduceLT, Nat.reduceAdd, Nat.reduceLeDiff, Nat.reduceMul, Nat.reduceSub, Int.reduceLE, Int.reduceLT, Int.reduceToNat, Int.reducePow, Int.reduceEq]
          rw [txt_app f l hl0]

theorem ACalls.at {P : Program} {f : FuncId} {args args' : List V} {M : AMem} {R Q : V → AMem → Prop} (h : ACalls P f args' M R) (ha : args.map V.un = args') (hk : ∀ v M', R v M' → Q v M') : ∃ R, ACalls P f args M R ∧ ∀ v M', R v M' → Q v M' := by
  subst ha
  exact ⟨_, h.unArgs, hk⟩
theorem like_ok (t u : Ty) (hA : Ar t) (hS : Sm t) (hz : t.size ≤ 1125899906842624) (hA' : Ar u) (hS' : Sm u) (hz' : u.size ≤ 1125899906842624) (M : AMem) (hT : ((∀ n ∈ t.vars, n < 100) ∧ (∀ n ∈ u.vars, n < 100)) ∨ Tab M) :
    ACalls Tryd.prog 15 [enc t, enc u] M (fun v M' => v = V.bool (strEq (txt t) (txt u)) ∧ M' = M) := by
  refine acalls_enter [.tmp 4] 10 Tryd.func15 rfl rfl rfl (by simp) ?_
  (repeat (first | refine W_seq ?_ | refine W_block ?_ | refine W_blk ?_ | refine W_skip ?_ | (refine W_region [2, 3] (by rfl) fun K hK => ?_; simp only [go_sem, Nat.reduceEqDiff, Nat.reduceLT, Nat.reduceAdd, Nat.reduceLeDiff, Nat.reduceMul, Nat.reduceSub, Int.reduceLE, Int.reduceLT, Int.reduceToNat, Int.reducePow, Int.reduceEq]; refine WRun.done _ _ (hK _ _ ?_); clear hK)))
  (refine W_draw [] (fun X => X = M) mixed_ (by rfl) ?_ fun K hK => ?_)
  · rfl
  (refine DR_quiet [0, 2] (by decide +kernel) (fun M_ hS_ => ?_) (fun K2 hK2 => ?_); (focus (simp only [go_sem, Nat.reduceEqDiff, Nat.reduceLT, Nat.reduceAdd, Nat.reduceLeDiff, Nat.reduceMul, Nat.reduceSub, Int.reduceLE, Int.reduceLT, Int.reduceToNat, Int.reducePow, Int.reduceEq, hS_, enc_eq])); simp only [go_sem, Nat.reduceEqDiff, Nat.reduceLT, Nat.reduceAdd, Nat.reduceLeDiff, Nat.reduceMul, Nat.reduceSub, Int.reduceLE, Int.reduceLT, Int.reduceToNat, Int.reducePow, Int.reduceEq, enc_eq]; refine hK2 _ ?_; clear hK2)
  (refine DR_sole' 1 (by decide +kernel) (by simp only [go_sem, Nat.reduceEqDiff, Nat.reduceLT, Nat.reduceAdd, Nat.reduceLeDiff, Nat.reduceMul, Nat.reduceSub, Int.reduceLE, Int.reduceLT, Int.reduceToNat, Int.reducePow, Int.reduceEq]) ?_; simp only [go_sem, Nat.reduceEqDiff, Nat.reduceLT, Nat.reduceAdd, Nat.reduceLeDiff, Nat.reduceMul, Nat.reduceSub, Int.reduceLE, Int.reduceLT, Int.reduceToNat, Int.reducePow, Int.reduceEq])
  refine ACalls.at (text_ok _ t (Nat.le_refl _) hA hS hz M (hT.imp (fun h => h.1) id)) (by simp only [go_sem, Nat.reduceEqDiff, Nat.reduceLT, Nat.reduceAdd, Nat.reduceLeDiff, Nat.reduceMul, Nat.reduceSub, Int.reduceLE, Int.reduceLT, Int.reduceToNat, Int.reducePow, Int.reduceEq, enc_eq]) ?_
  rintro v M' ⟨rfl, rfl⟩
  refine ⟨rfl, ?_⟩
  (refine DR_sole' 3 (by decide +kernel) (by simp only [go_sem, Nat.reduceEqDiff, Nat.reduceLT, Nat.reduceAdd, Nat.reduceLeDiff, Nat.reduceMul, Nat.reduceSub, Int.reduceLE, Int.reduceLT, Int.reduceToNat, Int.reducePow, Int.reduceEq]) ?_; simp only [go_sem, Nat.reduceEqDiff, Nat.reduceLT, Nat.reduceAdd, Nat.reduceLeDiff, Nat.reduceMul, Nat.reduceSub, Int.reduceLE, Int.reduceLT, Int.reduceToNat, Int.reducePow, Int.reduceEq])
  refine ACalls.at (text_ok _ u (Nat.le_refl _) hA' hS' hz' _ (hT.imp (fun h => h.2) id)) (by simp only [go_sem, Nat.reduceEqDiff, Nat.reduceLT, Nat.reduceAdd, Nat.reduceLeDiff, Nat.reduceMul, Nat.reduceSub, Int.reduceLE, Int.reduceLT, Int.reduceToNat, Int.reducePow, Int.reduceEq, enc_eq]) ?_
  rintro v M' ⟨rfl, rfl⟩
  refine ⟨rfl, ?_⟩
  (refine DR_quiet [4, 5] (by decide +kernel) (fun M_ hS_ => ?_) (fun K2 hK2 => ?_); (focus (simp only [go_sem, Nat.reduceEqDiff, Nat.reduceLT, Nat.reduceAdd, Nat.reduceLeDiff, Nat.reduceMul, Nat.reduceSub, Int.reduceLE, Int.reduceLT, Int.reduceToNat, Int.reducePow, Int.reduceEq, hS_])); simp only [go_sem, Nat.reduceEqDiff, Nat.reduceLT, Nat.reduceAdd, Nat.reduceLeDiff, Nat.reduceMul, Nat.reduceSub, Int.reduceLE, Int.reduceLT, Int.reduceToNat, Int.reducePow, Int.reduceEq]; refine hK2 _ ?_; clear hK2)
  (refine DR_end (by decide +kernel) (hK _ _ ?_); clear hK)
  refine W_ret ?_
  simp only [go_sem, Nat.reduceEqDiff, Nat.reduceLT, Nat.reduceAdd, Nat.reduceLeDiff, Nat.reduceMul, Nat.reduceSub, Int.reduceLE, Int.reduceLT, Int.reduceToNat, Int.reducePow, Int.reduceEq]
end Go.Ax
