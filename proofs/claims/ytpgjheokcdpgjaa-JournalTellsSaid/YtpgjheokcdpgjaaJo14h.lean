/- Walks: the statements of layer 14. -/
import Derived.Test.YtpgjheokcdpgjaaJo14S
import Derived.Test.YtpgjheokcdpgjaaJo14B
import Derived.Test.YtpgjheokcdpgjaaPlB
import Derived.Test.YtpgjheokcdpgjaaVxI
set_option linter.unusedSimpArgs false
set_option linter.unusedVariables false
namespace Go.Proofs.Ytpgjheokcdpgjaa
open VX
set_option maxRecDepth 100000
set_option maxHeartbeats 4000000
theorem qJo14h1 {P : Prop} (h : P := by (focus ((repeat' apply And.intro) <;> first | exact qlf0 | exact ⟨rfl, rfl, rfl⟩ | exact ⟨rfl, rfl, rfl, rfl, ⟨rfl, rfl⟩⟩ | ((repeat' apply And.intro) <;> rfl) | exact hl | exact hl.symm | exact A.sim.nil0))) : P := h
def kr9 : Rec := ⟨3, 4, 0, 0, ⟨[], 0, 0, 0, 0, 0⟩, 0, 2⟩
def kr0 : Rec := ⟨3, 0, 0, 0, ⟨[], 0, 0, 0, 0, 0⟩, 0, 0⟩
def krz : Rec := ⟨0, 0, 0, 0, ⟨[], 0, 0, 0, 0, 0⟩, 0, 0⟩
theorem kr9_right : rightS kr9 = true := by decide
theorem kr0_right : rightS kr0 = false := by decide
theorem krz_right : rightS krz = false := by decide
theorem i64_in {n : Int} (h : 0 ≤ n ∧ n ≤ 1000) : inr .i64 n := inr_i64.2 ⟨by omega, by omega⟩
theorem kr9_ok : RecOK kr9 := ⟨i64_in (by decide), i64_in (by decide), i64_in (by decide), i64_in (by decide), upd0_ok, i64_in (by decide), i64_in (by decide)⟩
theorem kr0_ok : RecOK kr0 := ⟨i64_in (by decide), i64_in (by decide), i64_in (by decide), i64_in (by decide), upd0_ok, i64_in (by decide), i64_in (by decide)⟩
theorem jput_len9 {r : Rec} (h : rightS r = true) : (jputS r).1.length = 21 + (bodyS r).length := by
  unfold jputS
  rw [if_pos h, jput_eq h, frameB_len]
theorem known_does : Does Try.prog 6 [] [] [] (Is (.bool true) []) := by
  have cp := jput_does kr9 kr9_ok
  have h2 : (jputS kr9).2 = 0 := by unfold jputS; rw [if_pos kr9_right]; exact jput_zero kr9_right
  have hl : (jputS kr9).1.length = 29 := by rw [jput_len9 kr9_right, show bodyS kr9 = numS 2 from rfl, numS_length]
  have hr := jread_put kr9_right kr9_ok []
  rw [List.append_nil, hl] at hr
  have cr := jread_does (jputS kr9).1 (by omega)
  rw [hr] at cr
  clear hr
  generalize jputS kr9 = p at cp h2 hl cr
  obtain ⟨p, z⟩ := p
  simp only at cp h2 hl cr
  subst h2
  rw [hl] at cp
  have cq := jput_does kr0 kr0_ok
  rw [show jputS kr0 = ([], 23) by unfold jputS; rw [kr0_right]; rfl] at cq
  have cb := base_does 1 0 [] (i64_in (by decide)) (i64_in (by decide)) (Nat.zero_le _) (fun p hp => absurd hp List.not_mem_nil)
  have hb9 : bseS 1 0 [] = (jputS (baseR 1 0 0)).1 := bse_yes (base_right (by decide) (by decide) (by decide)) (fun j hj => absurd hj (Nat.not_lt_zero _))
  have hb8 : (bseS 1 0 []).length = 37 := by
    rw [hb9, jput_len9 (base_right (by decide) (by decide) (by decide)), show bodyS (baseR 1 0 0) = numS 1 ++ numS 0 from rfl, List.length_append, numS_length, numS_length]
  generalize bseS 1 0 [] = y at cb hb8
  rw [hb8] at cb
  have cz := jright_does krz
  rw [krz_right] at cz
  unfold kr9 at cp cr
  unfold kr0 at cq
  unfold krz at cz
  refine Does.intro (fn := Try.f6) Try.func6 rfl rfl fun Γ hΓ => ?_
  refine W.run TOK 61 hΓ 1000 ?_
  conv => whnf
  refine ⟨?_, ?_⟩
  repeat' first
    | assumption
    | exact Bool.noConfusion hb
    | exact absurd hb (by decide)
    | (exfalso; omega)
    | (exfalso; simp at hb; done)
    | (refine W.retA TOK rfl ?_; (conv => whnf); refine ⟨rfl, rfl, rfl, rfl, rfl, rfl, ?_, ?_, ?_⟩)
    | (refine W.branch rfl (fun hb => ?_) (fun hb => ?_) <;> ((try simp only [qhb, addI, reduceCtorEq, Int.reduceToNat] at hb); (try replace hb := of_decide_eq_true hb); (try replace hb := of_decide_eq_false hb)))
    | (refine W.callA (cp) rfl rfl rfl rfl hΓ rfl ?_; (conv => whnf); refine ⟨rfl, rfl, ?_, ?_, ?_, ?_⟩; iterate 3 exact qJo14h1; (conv => whnf))
    | (refine W.callA (cr) rfl rfl rfl rfl hΓ rfl ?_; (conv => whnf); refine ⟨rfl, rfl, ?_, ?_, ?_, ?_⟩; iterate 3 exact qJo14h1; (conv => whnf))
    | (refine W.callA (cq) rfl rfl rfl rfl hΓ rfl ?_; (conv => whnf); refine ⟨rfl, rfl, ?_, ?_, ?_, ?_⟩; iterate 3 exact qJo14h1; (conv => whnf))
    | (refine W.callA (cb) rfl rfl rfl rfl hΓ rfl ?_; (conv => whnf); refine ⟨rfl, rfl, ?_, ?_, ?_, ?_⟩; iterate 3 exact qJo14h1; (conv => whnf))
    | (refine W.callA (cz) rfl rfl rfl rfl hΓ rfl ?_; (conv => whnf); refine ⟨rfl, rfl, ?_, ?_, ?_, ?_⟩; iterate 3 exact qJo14h1; (conv => whnf))
    | (refine W.go TOK 61 hΓ 1000 rfl ?_; (conv => whnf); refine ⟨?_, ?_⟩)
  all_goals (repeat' apply And.intro)
  all_goals try first | exact qcl0 | exact hl | exact hl.symm | exact qsm0

end Go.Proofs.Ytpgjheokcdpgjaa
