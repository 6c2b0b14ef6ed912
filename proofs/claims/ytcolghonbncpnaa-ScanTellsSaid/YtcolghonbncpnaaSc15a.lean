/- Walks: names. -/
import Derived.Test.YtcolghonbncpnaaSc15V
import Derived.Test.YtcolghonbncpnaaVxI
set_option linter.unusedSimpArgs false
set_option linter.unusedVariables false
namespace Go.Proofs.Ytcolghonbncpnaa
open VX
set_option maxRecDepth 100000
set_option maxHeartbeats 4000000

theorem qSc15a1 {P : Prop} (h : P := by (focus ((repeat' apply And.intro) <;> first | exact qlf0 | exact hk))) : P := h
theorem qSc15a2 {P : Prop} (h : P := by first | exact qcl0 | decide | exact qsm0) : P := h
def namesS : List (List UInt8) := [[97], [98], [97, 110, 110], [98, 111, 98], [195, 169], [48, 49, 50, 51, 52, 53, 54, 55, 56, 57, 48, 49, 50, 51, 52, 53, 54, 55, 56, 57, 48, 49, 50, 51, 52, 53, 54, 55, 56, 57, 48, 122]]
def nameS (k : UInt8) : List UInt8 := namesS.getD (k.toNat % 6) []
theorem name_does (k : UInt8) : Does Try.prog 22 [VX.byte k] [] [] (Is (.str (nameS k)) []) := by
  have h : k.toNat % 6 < 6 := Nat.mod_lt _ (by decide)
  obtain ⟨i, hi⟩ : ∃ i, i = k.toNat % 6 := ⟨_, rfl⟩
  rw [← hi] at h
  have hn : nameS k = namesS.getD i [] := by unfold nameS; rw [hi]
  rw [hn]
  match i, h, hi with
  | 0, _, hi =>
    have hk : (k.toNat : Int) % 6 = 0 := by omega
    show Does Try.prog 22 [VX.byte k] [] [] (Is (.str [97]) [])
    refine Does.intro (fn := Try.f22) Try.func22 rfl rfl fun Γ hΓ => ?_
    refine W.run TOK 8 hΓ 9 ?_
    conv => whnf
    refine ⟨?_, ?_⟩
    rotate_left
    refine W.seeA ([(5, .int .u8 0)]) ([]) [] ?_
    (conv => whnf); refine ⟨?_, ?_⟩; focus ((conv => whnf); refine ⟨rfl, rfl, rfl, rfl, rfl, rfl, ?_, ?_⟩; iterate 2 exact qSc15a1)
    repeat' first
      | assumption
      | exact Bool.noConfusion hb
      | exact absurd hb (by decide)
      | (refine W.retA TOK rfl ?_; (conv => whnf); refine ⟨rfl, rfl, rfl, rfl, rfl, rfl, ?_, ?_, ?_⟩)
      | (refine W.branch rfl (fun hb => ?_) (fun hb => ?_) <;> ((try simp only [qhb, addI, reduceCtorEq, Int.reduceToNat] at hb); (try replace hb := of_decide_eq_true hb); (try replace hb := of_decide_eq_false hb)))
      | (refine W.go TOK 8 hΓ 1000 rfl ?_; (conv => whnf); refine ⟨?_, ?_⟩)
    all_goals (repeat' apply And.intro)
    all_goals try exact qSc15a2
  | 1, _, hi =>
    have hk : (k.toNat : Int) % 6 = 1 := by omega
    show Does Try.prog 22 [VX.byte k] [] [] (Is (.str [98]) [])
    refine Does.intro (fn := Try.f22) Try.func22 rfl rfl fun Γ hΓ => ?_
    refine W.run TOK 8 hΓ 9 ?_
    conv => whnf
    refine ⟨?_, ?_⟩
    rotate_left
    refine W.seeA ([(5, .int .u8 1)]) ([]) [] ?_
    (conv => whnf); refine ⟨?_, ?_⟩; focus ((conv => whnf); refine ⟨rfl, rfl, rfl, rfl, rfl, rfl, ?_, ?_⟩; iterate 2 exact qSc15a1)
    repeat' first
      | assumption
      | exact Bool.noConfusion hb
      | exact absurd hb (by decide)
      | (refine W.retA TOK rfl ?_; (conv => whnf); refine ⟨rfl, rfl, rfl, rfl, rfl, rfl, ?_, ?_, ?_⟩)
      | (refine W.branch rfl (fun hb => ?_) (fun hb => ?_) <;> ((try simp only [qhb, addI, reduceCtorEq, Int.reduceToNat] at hb); (try replace hb := of_decide_eq_true hb); (try replace hb := of_decide_eq_false hb)))
      | (refine W.go TOK 8 hΓ 1000 rfl ?_; (conv => whnf); refine ⟨?_, ?_⟩)
    all_goals (repeat' apply And.intro)
    all_goals try exact qSc15a2
  | 2, _, hi =>
    have hk : (k.toNat : Int) % 6 = 2 := by omega
    show Does Try.prog 22 [VX.byte k] [] [] (Is (.str [97, 110, 110]) [])
    refine Does.intro (fn := Try.f22) Try.func22 rfl rfl fun Γ hΓ => ?_
    refine W.run TOK 8 hΓ 9 ?_
    conv => whnf
    refine ⟨?_, ?_⟩
    rotate_left
    refine W.seeA ([(5, .int .u8 2)]) ([]) [] ?_
    (conv => whnf); refine ⟨?_, ?_⟩; focus ((conv => whnf); refine ⟨rfl, rfl, rfl, rfl, rfl, rfl, ?_, ?_⟩; iterate 2 exact qSc15a1)
    repeat' first
      | assumption
      | exact Bool.noConfusion hb
      | exact absurd hb (by decide)
      | (refine W.retA TOK rfl ?_; (conv => whnf); refine ⟨rfl, rfl, rfl, rfl, rfl, rfl, ?_, ?_, ?_⟩)
      | (refine W.branch rfl (fun hb => ?_) (fun hb => ?_) <;> ((try simp only [qhb, addI, reduceCtorEq, Int.reduceToNat] at hb); (try replace hb := of_decide_eq_true hb); (try replace hb := of_decide_eq_false hb)))
      | (refine W.go TOK 8 hΓ 1000 rfl ?_; (conv => whnf); refine ⟨?_, ?_⟩)
    all_goals (repeat' apply And.intro)
    all_goals try exact qSc15a2
  | 3, _, hi =>
    have hk : (k.toNat : Int) % 6 = 3 := by omega
    show Does Try.prog 22 [VX.byte k] [] [] (Is (.str [98, 111, 98]) [])
    refine Does.intro (fn := Try.f22) Try.func22 rfl rfl fun Γ hΓ => ?_
    refine W.run TOK 8 hΓ 9 ?_
    conv => whnf
    refine ⟨?_, ?_⟩
    rotate_left
    refine W.seeA ([(5, .int .u8 3)]) ([]) [] ?_
    (conv => whnf); refine ⟨?_, ?_⟩; focus ((conv => whnf); refine ⟨rfl, rfl, rfl, rfl, rfl, rfl, ?_, ?_⟩; iterate 2 exact qSc15a1)
    repeat' first
      | assumption
      | exact Bool.noConfusion hb
      | exact absurd hb (by decide)
      | (refine W.retA TOK rfl ?_; (conv => whnf); refine ⟨rfl, rfl, rfl, rfl, rfl, rfl, ?_, ?_, ?_⟩)
      | (refine W.branch rfl (fun hb => ?_) (fun hb => ?_) <;> ((try simp only [qhb, addI, reduceCtorEq, Int.reduceToNat] at hb); (try replace hb := of_decide_eq_true hb); (try replace hb := of_decide_eq_false hb)))
      | (refine W.go TOK 8 hΓ 1000 rfl ?_; (conv => whnf); refine ⟨?_, ?_⟩)
    all_goals (repeat' apply And.intro)
    all_goals try exact qSc15a2
  | 4, _, hi =>
    have hk : (k.toNat : Int) % 6 = 4 := by omega
    show Does Try.prog 22 [VX.byte k] [] [] (Is (.str [195, 169]) [])
    refine Does.intro (fn := Try.f22) Try.func22 rfl rfl fun Γ hΓ => ?_
    refine W.run TOK 8 hΓ 9 ?_
    conv => whnf
    refine ⟨?_, ?_⟩
    rotate_left
    refine W.seeA ([(5, .int .u8 4)]) ([]) [] ?_
    (conv => whnf); refine ⟨?_, ?_⟩; focus ((conv => whnf); refine ⟨rfl, rfl, rfl, rfl, rfl, rfl, ?_, ?_⟩; iterate 2 exact qSc15a1)
    repeat' first
      | assumption
      | exact Bool.noConfusion hb
      | exact absurd hb (by decide)
      | (refine W.retA TOK rfl ?_; (conv => whnf); refine ⟨rfl, rfl, rfl, rfl, rfl, rfl, ?_, ?_, ?_⟩)
      | (refine W.branch rfl (fun hb => ?_) (fun hb => ?_) <;> ((try simp only [qhb, addI, reduceCtorEq, Int.reduceToNat] at hb); (try replace hb := of_decide_eq_true hb); (try replace hb := of_decide_eq_false hb)))
      | (refine W.go TOK 8 hΓ 1000 rfl ?_; (conv => whnf); refine ⟨?_, ?_⟩)
    all_goals (repeat' apply And.intro)
    all_goals try exact qSc15a2
  | 5, _, hi =>
    have hk : (k.toNat : Int) % 6 = 5 := by omega
    show Does Try.prog 22 [VX.byte k] [] [] (Is (.str [48, 49, 50, 51, 52, 53, 54, 55, 56, 57, 48, 49, 50, 51, 52, 53, 54, 55, 56, 57, 48, 49, 50, 51, 52, 53, 54, 55, 56, 57, 48, 122]) [])
    refine Does.intro (fn := Try.f22) Try.func22 rfl rfl fun Γ hΓ => ?_
    refine W.run TOK 8 hΓ 9 ?_
    conv => whnf
    refine ⟨?_, ?_⟩
    rotate_left
    refine W.seeA ([(5, .int .u8 5)]) ([]) [] ?_
    (conv => whnf); refine ⟨?_, ?_⟩; focus ((conv => whnf); refine ⟨rfl, rfl, rfl, rfl, rfl, rfl, ?_, ?_⟩; iterate 2 exact qSc15a1)
    repeat' first
      | assumption
      | exact Bool.noConfusion hb
      | exact absurd hb (by decide)
      | (refine W.retA TOK rfl ?_; (conv => whnf); refine ⟨rfl, rfl, rfl, rfl, rfl, rfl, ?_, ?_, ?_⟩)
      | (refine W.branch rfl (fun hb => ?_) (fun hb => ?_) <;> ((try simp only [qhb, addI, reduceCtorEq, Int.reduceToNat] at hb); (try replace hb := of_decide_eq_true hb); (try replace hb := of_decide_eq_false hb)))
      | (refine W.go TOK 8 hΓ 1000 rfl ?_; (conv => whnf); refine ⟨?_, ?_⟩)
    all_goals (repeat' apply And.intro)
    all_goals try exact qSc15a2
end Go.Proofs.Ytcolghonbncpnaa
