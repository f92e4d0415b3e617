/- The abstract machine, part 13: is a slice nil? Conditions: none. -/
import Derived.Test.YtfpmohmhiecjfaaDoorAx12
import Derived.Lib.SliceRun
set_option linter.unusedVariables false
set_option linter.unusedSimpArgs false
namespace Go.Ax
variable {P : Program} {pol : List Nat} {N : Nat} {ops : Array Oper}

/-- Is a slice nil? Of an empty one nobody knows: both ways. -/
theorem W_nilcmp {Ret : Fr → AMem → Prop} {k : List It} {F : Fr} {M : AMem} {id : Nat} {o1 o2 : Oper} {t ty te : TypeId} {x : Operand} {v1 : V} {tg : Tag} {xs : List V} (ho2 : o2.op = .binOp .eql t x (.const (.slice none 0 0)) ty) (hg1 : o1.guard = none) (hg2 : o2.guard = none)
    (hd1 : dstOk N o1.dst = true) (hd2 : dstOk N o2.dst = true) (ht : kT P t = .slice te) (h1 : stepA P false o1 (evalA F) M = .val v1 M) (hx : evalA (put o1.dst v1 F) x = .list tg xs)
    (hk : ∀ b, (xs ≠ [] → b = false) → W P N Ret k (put o2.dst (.bool b) (put o1.dst v1 F)) M) : W P N Ret (.code (.region id #[o1, o2] false) :: k) F M := by
  intro G a w hR hF
  refine wp_region_list ?_
  show wpList P _ _ [o1, o2] a w
  refine wpList_step fun K' hK' => ?_
  rw [if_pos (by simp [Region.wanted, hg1])]
  refine oper_sound hR hF h1 fun val G' w' hG' hR' hv => ?_
  refine hK' _ _ (wpList_step fun K2 hK2 => ?_)
  rw [if_pos (by simp [Region.wanted, hg2])]
  have hF1 := (hF.mono hG').put (dstOk_lt hd1) hv
  have hvx := hF1.eval x
  rw [hx] at hvx
  have hu : P.underlying t = some (.slice te) := kT_slice ht
  obtain ⟨b, hb, hrun, ad, n, c, hsl⟩ : ∃ b, (xs ≠ [] → b = false) ∧ (binOp .eql t ((a.put o1.dst val).eval x) (.slice none 0 0)).run P w' = .ok (.bool b) w' ∧ ∃ ad n c, (a.put o1.dst val).eval x = .slice ad n c := by
    generalize (a.put o1.dst val).eval x = z at hvx
    cases hvx with
    | nil _ ad cap => exact ⟨ad.isNone, fun h => absurd rfl h, Lib.run_eql_slice_nil w' t te ad 0 cap 0 0 hu, _, _, _, rfl⟩
    | list _ _ bl o cap sz vv => exact ⟨false, fun _ => rfl, Lib.run_eql_slice_nil w' t te _ _ cap 0 0 hu, _, _, _, rfl⟩
  have hs : Snd P G' w' (do eqGuard .eql t x (.const (.slice none 0 0)) ((a.put o1.dst val).eval x) (.slice none 0 0); binOp .eql t ((a.put o1.dst val).eval x) (.slice none 0 0)) (.bool b) M := by
    rw [hsl] at hrun ⊢
    rw [eqGuard_at_slice]
    exact .pure hR' (v := .bool b) hrun (.prim _)
  have hgv : Gives P G' w' (execOp (a.put o1.dst val).eval o2) (.bool b) M := by
    unfold execOp
    rw [ho2]
    exact hs.gives
  obtain ⟨val2, nx, w2, G2, q1, q2, q3, q4, q5⟩ := hgv
  unfold Oper.wp
  rw [q1]
  rcases q2 with rfl | ⟨rfl, rfl⟩
  · exact hK2 _ _ (wpList_nil ⟨G2, _, M, hG'.trans q3, q4, (hF1.mono q3).put (dstOk_lt hd2) q5, hk b hb⟩)
  · cases q5
end Go.Ax
