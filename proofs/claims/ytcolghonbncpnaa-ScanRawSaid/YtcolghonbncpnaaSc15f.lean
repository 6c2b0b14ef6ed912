/- Walks: known of layer 15, and file. -/
import Derived.Test.YtcolghonbncpnaaSc15c
import Derived.Test.YtcolghonbncpnaaSc15b
import Derived.Test.YtcolghonbncpnaaSc15u
import Derived.Test.YtcolghonbncpnaaSc15e
import Derived.Test.YtcolghonbncpnaaPlB
import Derived.Test.YtcolghonbncpnaaVxI
set_option linter.unusedSimpArgs false
set_option linter.unusedVariables false
namespace Go.Proofs.Ytcolghonbncpnaa
open VX
set_option maxRecDepth 100000
set_option maxHeartbeats 4000000
theorem qSc15f1 {P : Prop} (h : P := by (focus ((repeat' apply And.intro) <;> first | exact qlf0 | exact penA_flat _ _ | exact recA_flat _ _ | exact ⟨rfl, rfl, rfl⟩ | exact ⟨rfl, rfl, rfl, rfl, ⟨rfl, rfl⟩⟩ | ((repeat' apply And.intro) <;> rfl) | exact A.sim.nil0 | exact hl | exact hl.symm | exact hz | exact hz.symm | exact hYs _ | (intro i hi; rw [Nat.zero_add]; exact hYs _ i hi)))) : P := h
theorem kn15_facts : ∃ (r : Rec) (y : List UInt8), y.length = 37 ∧ bseS 3 5 [] = y ∧ recsS (y ++ List.replicate 50 0) = ([r], 37) ∧ wholeS [r] = (3, [], true) ∧ chooseS [] y = (1, true) ∧ chooseS [] [] = (0, false) := by
  have h0 : rightS (baseR 3 5 0) = true := base_right (by decide) (by decide) (by decide)
  have o0 : RecOK (baseR 3 5 0) := base_ok (i64_c (by decide)) (i64_c (by decide)) (by decide)
  have hy : bseS 3 5 [] = bsP 3 5 [] 0 := bse_yes (l := []) h0 fun j hj => absurd hj (Nat.not_lt_zero _)
  have hl : (bsP 3 5 [] 0).length = 37 := by
    show (jputS (baseR 3 5 0)).1.length = 37
    unfold jputS
    rw [if_pos h0, jput_eq h0, frameB_len, show bodyS (baseR 3 5 0) = numS 3 ++ numS 0 from rfl, List.length_append, numS_length, numS_length]
  have hr : VX.Rows [baseR 3 5 0] := rwS_rows (gen := 3) (seq := 5) (l := []) h0 o0 0 fun j hj => absurd hj (Nat.not_lt_zero _)
  have hf : flatJ [baseR 3 5 0] = bsP 3 5 [] 0 := rwS_flat 3 5 [] 0
  have r1 : recsS (bsP 3 5 [] 0 ++ List.replicate 50 0) = ([baseR 3 5 0], 37) := by
    rw [recs_of (rest := List.replicate 50 0) hr (by rw [hf]) (.inl (jread_hole rfl)), hf, hl]
  have r2 : recsS (bsP 3 5 [] 0) = ([baseR 3 5 0], 37) := by
    rw [recs_of (rest := []) hr (by rw [hf, List.append_nil]) (.inl (jread_end (by decide))), hf, hl]
  have r3 : recsS [] = ([], 0) := recs_of (rest := []) .nil rfl (.inl (jread_end (by decide)))
  have w1 : wholeS [baseR 3 5 0] = (3, [], true) := whole_yes (l := [baseR 3 5 0]) ⟨by decide, rfl, by decide⟩ fun j h1 h2 => absurd h2 (by show ¬ j < 1; omega)
  have w2 : wholeS [] = (0, [], false) := whole_noH fun h => absurd h.1 (by decide)
  refine ⟨baseR 3 5 0, bsP 3 5 [] 0, hl, hy, r1, w1, ?_, ?_⟩
  · unfold chooseS; rw [r2, r3, w1, w2]; rfl
  · unfold chooseS; rw [r3, w2]; rfl
theorem known_does : Does Try.prog 8 [] [] [] (Is (.bool true) []) := by
  obtain ⟨r, y, hl, hy, f1, f2, f3, f4⟩ := kn15_facts
  have cb := rbase_does 3 5 [] (i64_c (by decide)) (i64_c (by decide)) (Nat.zero_le _) (fun p hp => absurd hp List.not_mem_nil)
  rw [hy, hl] at cb
  have hz : (y ++ List.replicate 50 (0 : UInt8)).length = 87 := by rw [List.length_append, List.length_replicate, hl]
  have cr := rec_does (y ++ List.replicate 50 0) (by rw [hz]; decide)
  have cw := whole_does [r] (by show 1 ≤ _; decide)
  have c1 := choose_does [] y (Nat.zero_le _) (by rw [hl]; decide)
  have c2 := choose_does [] [] (Nat.zero_le _) (Nat.zero_le _)
  rw [f1] at cr
  rw [f2] at cw
  rw [f3] at c1
  rw [f4] at c2
  clear f1 f2 f3 f4 hy
  obtain ⟨Y, hY⟩ : ∃ Y, Y = y ++ List.replicate 50 (0 : UInt8) := ⟨_, rfl⟩
  rw [← hY] at cr hz
  have hYs : ∀ m, ∀ j, j < m → (catF 37 (byteAt y) (byteAt (List.replicate 50 0)) j).sim (byteAt Y j) := fun m j _ => by
    rw [hY, ← cat_bytes, hl]; exact .refl _
  clear hY
  refine Does.intro (fn := Try.f8) Try.func8 rfl rfl fun Γ hΓ => ?_
  refine W.run TOK 66 hΓ 1000 ?_
  conv => whnf
  refine ⟨?_, ?_⟩
  repeat' first
    | assumption
    | exact Bool.noConfusion hb
    | exact absurd hb (by decide)
    | (exfalso; omega)
    | (exfalso; simp at hb; done)
    | (refine W.appZeros TOK (nt := 66) hΓ rfl rfl rfl rfl rfl rfl rfl rfl rfl rfl (ts := 9) rfl 50 rfl (by decide) (by decide) (nm := 901) rfl ?_)
    | (refine W.retA TOK rfl ?_; (conv => whnf); refine ⟨rfl, rfl, rfl, rfl, rfl, rfl, ?_, ?_, ?_⟩)
    | (refine W.branch rfl (fun hb => ?_) (fun hb => ?_) <;> ((try simp only [qhb, addI, reduceCtorEq, Int.reduceToNat] at hb); (try replace hb := of_decide_eq_true hb); (try replace hb := of_decide_eq_false hb)))
    | (refine W.callA (cb) rfl rfl rfl rfl hΓ rfl ?_; (conv => whnf); refine ⟨rfl, rfl, ?_, ?_, ?_, ?_⟩; iterate 3 exact qSc15f1; (conv => whnf))
    | (refine W.callA (cr) rfl rfl rfl rfl hΓ rfl ?_; (conv => whnf); refine ⟨rfl, rfl, ?_, ?_, ?_, ?_⟩; iterate 3 exact qSc15f1; (conv => whnf))
    | (refine W.callA (cw) rfl rfl rfl rfl hΓ rfl ?_; (conv => whnf); refine ⟨rfl, rfl, ?_, ?_, ?_, ?_⟩; iterate 3 exact qSc15f1; (conv => whnf))
    | (refine W.callA (c1) rfl rfl rfl rfl hΓ rfl ?_; (conv => whnf); refine ⟨rfl, rfl, ?_, ?_, ?_, ?_⟩; iterate 3 exact qSc15f1; (conv => whnf))
    | (refine W.callA (c2) rfl rfl rfl rfl hΓ rfl ?_; (conv => whnf); refine ⟨rfl, rfl, ?_, ?_, ?_, ?_⟩; iterate 3 exact qSc15f1; (conv => whnf))
    | (refine W.go TOK 66 hΓ 1000 rfl ?_; (conv => whnf); refine ⟨?_, ?_⟩)
  all_goals (repeat' apply And.intro)
  all_goals try first | exact qcl0 | exact hl | exact hl.symm | exact qsm0

end Go.Proofs.Ytcolghonbncpnaa
