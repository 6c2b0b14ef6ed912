/- Walks: the records of a journal. -/
import Derived.Test.YtcolghonbncpnaaSc15w
import Derived.Test.YtcolghonbncpnaaSc15x
import Derived.Test.YtcolghonbncpnaaPlB
import Derived.Test.YtcolghonbncpnaaVxI
set_option linter.unusedSimpArgs false
set_option linter.unusedVariables false
namespace Go.Proofs.Ytcolghonbncpnaa
open VX
set_option maxRecDepth 100000
set_option maxHeartbeats 4000000
theorem qSc15c1 {P : Prop} (h : P := by (focus ((repeat' apply And.intro) <;> first | exact qlf0 | exact penA_flat _ _ | exact recA_flat _ _ | exact ⟨rfl, rfl, rfl⟩ | exact ⟨rfl, rfl, rfl, rfl, ⟨rfl, rfl⟩⟩ | ((repeat' apply And.intro) <;> rfl)))) : P := h
theorem qSc15c2 {P : Prop} (h : P := by
  refine Does.intro (fn := Try.f16) Try.func16 rfl rfl fun Γ hΓ => ?_
  refine W.run TOK 51 hΓ 1000 ?_
  conv => whnf
  refine ⟨?_, ?_⟩
  repeat' first
    | assumption
    | exact Bool.noConfusion hb
    | exact absurd hb (by decide)
    | (exfalso; omega)
    | (exfalso; simp at hb; done)
    | (refine W.retA TOK rfl ?_; (conv => whnf); refine ⟨rfl, rfl, rfl, rfl, rfl, rfl, ?_, ?_, ?_⟩)
    | (refine W.branch rfl (fun hb => ?_) (fun hb => ?_) <;> ((try simp only [qhb, addI, reduceCtorEq, Int.reduceToNat] at hb); (try replace hb := of_decide_eq_true hb); (try replace hb := of_decide_eq_false hb)))
    | (refine W.callA (c1) rfl rfl rfl rfl hΓ rfl ?_; (conv => whnf); refine ⟨rfl, rfl, ?_, ?_, ?_, ?_⟩; iterate 3 exact qSc15c1; (conv => whnf))
    | (refine W.callA (c2) rfl rfl rfl rfl hΓ rfl ?_; (conv => whnf); refine ⟨rfl, rfl, ?_, ?_, ?_, ?_⟩; iterate 3 exact qSc15c1; (conv => whnf))
    | (refine W.callA (c3) rfl rfl rfl rfl hΓ rfl ?_; (conv => whnf); refine ⟨rfl, rfl, ?_, ?_, ?_, ?_⟩; iterate 3 exact qSc15c1; (conv => whnf))
    | (refine W.callA (c4) rfl rfl rfl rfl hΓ rfl ?_; (conv => whnf); refine ⟨rfl, rfl, ?_, ?_, ?_, ?_⟩; iterate 3 exact qSc15c1; (conv => whnf))
    | (refine W.go TOK 51 hΓ 1000 rfl ?_; (conv => whnf); refine ⟨?_, ?_⟩)
  all_goals (repeat' apply And.intro)
  all_goals try exact qcs0) : P := h
theorem qSc15c3 {P : Prop} (h : P := by
  refine Does.intro (fn := Try.f17) Try.func17 rfl rfl fun Γ hΓ => ?_
  refine W.run TOK 49 hΓ 1000 ?_
  conv => whnf
  refine ⟨?_, ?_⟩
  repeat' first
    | assumption
    | exact Bool.noConfusion hb
    | exact absurd hb (by decide)
    | (exfalso; omega)
    | (exfalso; simp at hb; done)
    | (refine W.retA TOK rfl ?_; (conv => whnf); refine ⟨rfl, rfl, rfl, rfl, rfl, rfl, ?_, ?_, ?_⟩)
    | (refine W.branch rfl (fun hb => ?_) (fun hb => ?_) <;> ((try simp only [qhb, addI, reduceCtorEq, Int.reduceToNat] at hb); (try replace hb := of_decide_eq_true hb); (try replace hb := of_decide_eq_false hb)))
    | (refine W.callA (c1) rfl rfl rfl rfl hΓ rfl ?_; (conv => whnf); refine ⟨rfl, rfl, ?_, ?_, ?_, ?_⟩; iterate 3 exact qSc15c1; (conv => whnf))
    | (refine W.callA (c2) rfl rfl rfl rfl hΓ rfl ?_; (conv => whnf); refine ⟨rfl, rfl, ?_, ?_, ?_, ?_⟩; iterate 3 exact qSc15c1; (conv => whnf))
    | (refine W.callA (c3) rfl rfl rfl rfl hΓ rfl ?_; (conv => whnf); refine ⟨rfl, rfl, ?_, ?_, ?_, ?_⟩; iterate 3 exact qSc15c1; (conv => whnf))
    | (refine W.callA (c4) rfl rfl rfl rfl hΓ rfl ?_; (conv => whnf); refine ⟨rfl, rfl, ?_, ?_, ?_, ?_⟩; iterate 3 exact qSc15c1; (conv => whnf))
    | (refine W.go TOK 49 hΓ 1000 rfl ?_; (conv => whnf); refine ⟨?_, ?_⟩)
  all_goals (repeat' apply And.intro)
  all_goals try exact qcs0) : P := h
theorem qSc15c4 {P : Prop} (h : P := by
  refine W.run TOK 26 hΓ 1000 ?_
  conv => whnf
  refine ⟨?_, ?_⟩
  repeat' first
    | assumption
    | exact Bool.noConfusion hb
    | exact absurd hb (by decide)
    | (exfalso; omega)
    | exact absurd rfl hb
    | ((first | refine W.branch rfl (fun hb => ?_) (fun hb => ?_) | refine D.branch rfl (fun hb => ?_) (fun hb => ?_)) <;> ((try simp only [qhb, addI, reduceCtorEq, Int.reduceToNat] at hb); (try replace hb := of_decide_eq_true hb); (try replace hb := of_decide_eq_false hb)))
    | (refine W.go TOK 26 hΓ 1000 rfl ?_; (conv => whnf); refine ⟨?_, ?_⟩)
    | (refine D.go TOK 26 hΓ 1000 rfl ?_; (conv => whnf); refine ⟨?_, ?_⟩)
    | (refine W.drawn rfl rfl ?_; refine D.run TOK 26 hΓ 1000 ?_; (conv => whnf); refine ⟨?_, ?_⟩)
  all_goals (repeat' apply And.intro)
  all_goals try exact qcs0
  refine W.loopA (Nat) (fun i => i ≤ l.length) (fun i => l.length - i) (fun i => [(5, .int .i64 (i : Nat))]) (fun _ => []) [] (0) (Nat.zero_le _) ?_
  (conv => whnf); refine ⟨?_, ?_⟩; focus ((conv => whnf); refine ⟨rfl, rfl, rfl, rfl, rfl, rfl, ?_, ?_⟩; iterate 2 exact qlf1)
  rintro i hi ih
  by_cases hil : i < l.length
  rotate_left
  · clear ih
    repeat' first
      | assumption
      | exact Bool.noConfusion hb
      | exact absurd hb (by decide)
      | (exfalso; omega)
      | (refine W.retA TOK rfl ?_; (conv => whnf); refine ⟨rfl, rfl, rfl, rfl, rfl, rfl, ?_, ?_, ?_⟩)
      | ((first | refine W.branch rfl (fun hb => ?_) (fun hb => ?_) | refine D.branch rfl (fun hb => ?_) (fun hb => ?_)) <;> ((try simp only [qhb, addI, reduceCtorEq, Int.reduceToNat] at hb); (try replace hb := of_decide_eq_true hb); (try replace hb := of_decide_eq_false hb)))
      | (refine W.go TOK 26 hΓ 1000 rfl ?_; (conv => whnf); refine ⟨?_, ?_⟩)
      | (refine D.go TOK 26 hΓ 1000 rfl ?_; (conv => whnf); refine ⟨?_, ?_⟩)
      | (refine W.drawn rfl rfl ?_; refine D.run TOK 26 hΓ 1000 ?_; (conv => whnf); refine ⟨?_, ?_⟩)
    all_goals (repeat' apply And.intro)
    all_goals try exact qcs0
  have ih2 := ih (i + 1) hil (by omega)
  clear ih
  repeat' first
    | assumption
    | exact Bool.noConfusion hb
    | exact absurd hb (by decide)
    | (exfalso; omega)
    | exact absurd rfl hb
    | (exfalso; simp at hb; done)
    | (refine W.toA (ih2) ?_; rotate_left 0; (conv => whnf); refine ⟨rfl, rfl, rfl, rfl, rfl, rfl, ?_, ?_⟩; iterate 2 exact qlf1)
    | ((first | refine W.branch rfl (fun hb => ?_) (fun hb => ?_) | refine D.branch rfl (fun hb => ?_) (fun hb => ?_)) <;> ((try simp only [qhb, addI, reduceCtorEq, Int.reduceToNat] at hb); (try replace hb := of_decide_eq_true hb); (try replace hb := of_decide_eq_false hb)))
    | (refine W.go TOK 26 hΓ 1000 rfl ?_; (conv => whnf); refine ⟨?_, ?_⟩)
    | (refine D.go TOK 26 hΓ 1000 rfl ?_; (conv => whnf); refine ⟨?_, ?_⟩)
    | (refine W.drawn rfl rfl ?_; refine D.run TOK 26 hΓ 1000 ?_; (conv => whnf); refine ⟨?_, ?_⟩)
  all_goals (repeat' apply And.intro)
  all_goals try exact qcs0) : P := h
theorem hrec_does (l : List Rec) (h9 : l.length ≤ 1000000) : Does Try.prog 12 [.ro 12 l.length (lsA recA l), .ro 12 l.length (lsA recA l)] [] [] (Is (.bool true) []) := by
  refine Does.intro (fn := Try.f12) Try.func12 rfl rfl fun Γ hΓ => ?_
  exact qSc15c4

theorem hpen_does (l : List Pen) (h9 : l.length ≤ 1000000) : Does Try.prog 15 [.ro 9 l.length (lsA penA l), .ro 9 l.length (lsA penA l)] [] [] (Is (.bool true) []) := by
  refine Does.intro (fn := Try.f15) Try.func15 rfl rfl fun Γ hΓ => ?_
  exact qSc15c4

theorem choose_does (a b : List UInt8) (ha : a.length ≤ 100000) (hb9 : b.length ≤ 100000) : Does Try.prog 16 [bytesA a, bytesA b] [] [] (Is (.tup [.int .i64 (chooseS a b).1, .bool (chooseS a b).2]) []) := by
  have c1 := rec_does a (by omega)
  have c2 := rec_does b (by omega)
  have l1 := recs_le a
  have l2 := recs_le b
  unfold chooseS
  generalize recsS a = x at *
  generalize recsS b = y at *
  obtain ⟨x, xn⟩ := x
  obtain ⟨y, yn⟩ := y
  simp only at *
  have c3 := whole_does x (by omega)
  have c4 := whole_does y (by omega)
  have l3 := whole_len x
  have l4 := whole_len y
  generalize wholeS x = g at *
  generalize wholeS y = h at *
  obtain ⟨g, P, ok⟩ := g
  obtain ⟨h, Q, is⟩ := h
  simp only at *
  have hg : g < h ∨ ¬ g < h := Decidable.em _
  cases ok <;> cases is <;> rcases hg with hg | hg
  · rw [if_neg (by simp)]
    exact qSc15c2
  · rw [if_neg (by simp)]
    exact qSc15c2
  · rw [if_pos (by simp)]
    exact qSc15c2
  · rw [if_pos (by simp)]
    exact qSc15c2
  · rw [if_neg (by simp)]
    exact qSc15c2
  · rw [if_neg (by simp)]
    exact qSc15c2
  · rw [if_pos (by simp [hg])]
    exact qSc15c2
  · rw [if_neg (by simp [hg])]
    exact qSc15c2
theorem rchoose_does (a b : List UInt8) (ha : a.length ≤ 100000) (hb9 : b.length ≤ 100000) : Does Try.prog 17 [bytesA a, bytesA b] [] [] (Is (.tup [.int .i64 (chooseS a b).1, .bool (chooseS a b).2]) []) := by
  have c1 := rrec_does a (by omega)
  have c2 := rrec_does b (by omega)
  have l1 := recs_le a
  have l2 := recs_le b
  unfold chooseS
  generalize recsS a = x at *
  generalize recsS b = y at *
  obtain ⟨x, xn⟩ := x
  obtain ⟨y, yn⟩ := y
  simp only at *
  have c3 := rwhole_does x (by omega)
  have c4 := rwhole_does y (by omega)
  have l3 := whole_len x
  have l4 := whole_len y
  generalize wholeS x = g at *
  generalize wholeS y = h at *
  obtain ⟨g, P, ok⟩ := g
  obtain ⟨h, Q, is⟩ := h
  simp only at *
  have hg : g < h ∨ ¬ g < h := Decidable.em _
  cases ok <;> cases is <;> rcases hg with hg | hg
  · rw [if_neg (by simp)]
    exact qSc15c3
  · rw [if_neg (by simp)]
    exact qSc15c3
  · rw [if_pos (by simp)]
    exact qSc15c3
  · rw [if_pos (by simp)]
    exact qSc15c3
  · rw [if_neg (by simp)]
    exact qSc15c3
  · rw [if_neg (by simp)]
    exact qSc15c3
  · rw [if_pos (by simp [hg])]
    exact qSc15c3
  · rw [if_neg (by simp [hg])]
    exact qSc15c3
end Go.Proofs.Ytcolghonbncpnaa
