/- Walks: the records of a journal. -/
import Derived.Test.YtcolghonbncpnaaSc15V
import Derived.Test.YtcolghonbncpnaaPlB
import Derived.Test.YtcolghonbncpnaaVxI
set_option linter.unusedSimpArgs false
set_option linter.unusedVariables false
namespace Go.Proofs.Ytcolghonbncpnaa
open VX
set_option maxRecDepth 100000
set_option maxHeartbeats 4000000
theorem qSc15w1 {P : Prop} (h : P := by (focus ((repeat' apply And.intro) <;> first | exact qlf0 | exact ⟨rfl, rfl, rfl⟩ | exact ⟨rfl, rfl, rfl, rfl, ⟨rfl, rfl⟩⟩ | ((repeat' apply And.intro) <;> rfl) | exact hl2 | exact hl2.symm | exact Nat.le_of_eq hl2 | (intro j hj; refine hm _ ?_ _ (Nat.le_refl _) j hj; exact rfl) | (intro j hj; refine hm _ ?_ _ (Nat.le_of_eq hl2) j hj; exact rfl)))) : P := h
theorem qSc15w2 {P : Prop} (h : P := by (focus ((repeat' apply And.intro) <;> first | exact qlf0 | exact ⟨rfl, rfl, rfl⟩ | exact ⟨rfl, rfl, rfl, rfl, ⟨rfl, rfl⟩⟩ | ((repeat' apply And.intro) <;> rfl)))) : P := h
theorem qSc15w3 {P : Prop} (h : P := by first | exact qcl0 | exact qsm0 | (show (p.length + 1) * 80 ≤ _; omega)) : P := h
theorem qSc15w4 {P : Prop} (h : P := by
  refine Does.intro (fn := Try.f14) Try.func14 rfl rfl fun Γ hΓ => ?_
  refine W.run TOK 78 hΓ 1000 ?_
  conv => whnf
  refine ⟨?_, ?_⟩
  repeat' first
    | assumption
    | exact Bool.noConfusion hb
    | exact absurd hb (by decide)
    | (exfalso; omega)
    | exact absurd hb hx
    | exact absurd hx hb
    | (exfalso; simp at hb; done)
    | (refine W.retA TOK rfl ?_; (conv => whnf); refine ⟨rfl, rfl, rfl, rfl, rfl, rfl, ?_, ?_, ?_⟩)
    | ((first | refine W.branch rfl (fun hb => ?_) (fun hb => ?_) | refine D.branch rfl (fun hb => ?_) (fun hb => ?_)) <;> ((try simp only [qhb, addI, reduceCtorEq, Int.reduceToNat] at hb); (try replace hb := of_decide_eq_true hb); (try replace hb := of_decide_eq_false hb)))
    | (refine W.go TOK 78 hΓ 1000 rfl ?_; (conv => whnf); refine ⟨?_, ?_⟩)
    | (refine D.go TOK 78 hΓ 1000 rfl ?_; (conv => whnf); refine ⟨?_, ?_⟩)
    | (refine W.drawn rfl rfl ?_; refine D.run TOK 78 hΓ 1000 ?_; (conv => whnf); refine ⟨?_, ?_⟩)
  all_goals (repeat' apply And.intro)
  all_goals try exact qcs0) : P := h
theorem qSc15w5 {P : Prop} (h : P := by
  refine Does.intro (fn := Try.f13) Try.func13 rfl rfl fun Γ hΓ => ?_
  refine W.run TOK 66 hΓ 1000 ?_
  conv => whnf
  refine ⟨?_, ?_⟩
  repeat' first
    | assumption
    | exact Bool.noConfusion hb
    | exact absurd hb (by decide)
    | (exfalso; omega)
    | exact absurd hb hx
    | exact absurd hx hb
    | (exfalso; simp at hb; done)
    | (refine W.retA TOK rfl ?_; (conv => whnf); refine ⟨rfl, rfl, rfl, rfl, rfl, rfl, ?_, ?_, ?_⟩)
    | (refine W.branch rfl (fun hb => ?_) (fun hb => ?_) <;> ((try simp only [qhb, addI, reduceCtorEq, Int.reduceToNat] at hb); (try replace hb := of_decide_eq_true hb); (try replace hb := of_decide_eq_false hb)))
    | (refine W.go TOK 66 hΓ 1000 rfl ?_; (conv => whnf); refine ⟨?_, ?_⟩)
  all_goals (repeat' apply And.intro)
  all_goals try exact qcs0) : P := h
theorem whole_does (l : List Rec) (h9 : l.length ≤ 100000) : Does Try.prog 13 [.ro 12 l.length (lsA recA l)] [] [1] (Is (.tup [.int .i64 (wholeS l).1, .own 9 1 0 (wholeS l).2.1.length, .bool (wholeS l).2.2]) [(1, some (.arr 9 (wholeS l).2.1.length (lsA penA (wholeS l).2.1)))]) := by
  by_cases hx : l.length = 0
  · rw [whole_noH (fun h => absurd h.1 (by omega))]
    exact qSc15w5
  have h0 := hx
  clear hx
  by_cases hx : (l.getD 0 default).kind = 1
  rotate_left
  · rw [whole_noH (fun h => hx h.2.1)]
    exact qSc15w5
  have h1 := hx
  clear hx
  by_cases hx : (l.getD 0 default).count ≤ (l.length : Int) - 1
  rotate_left
  · rw [whole_noH (fun h => hx h.2.2)]
    exact qSc15w5
  have hh : wholeH l := ⟨by omega, h1, hx⟩
  refine Does.intro (fn := Try.f13) Try.func13 rfl rfl fun Γ hΓ => ?_
  refine W.run TOK 66 hΓ 1000 ?_
  conv => whnf
  refine ⟨?_, ?_⟩
  repeat' first
    | assumption
    | exact Bool.noConfusion hb
    | exact absurd hb (by decide)
    | (exfalso; omega)
    | exact absurd hb h1
    | exact absurd h1 hb
    | (exfalso; simp at hb; done)
    | (refine W.branch rfl (fun hb => ?_) (fun hb => ?_) <;> ((try simp only [qhb, addI, reduceCtorEq, Int.reduceToNat] at hb); (try replace hb := of_decide_eq_true hb); (try replace hb := of_decide_eq_false hb)))
    | (refine W.go TOK 66 hΓ 1000 rfl ?_; (conv => whnf); refine ⟨?_, ?_⟩)
  all_goals (repeat' apply And.intro)
  all_goals try exact qcs0
  refine W.loopA (Nat × List Pen) (WhJ l) (fun x => l.length - x.1) (fun x => [(5, .own 9 700 0 x.2.length), (30, .int .i64 (x.1 : Nat))]) (fun x => [(700, some (.arr 9 x.2.length (lsA penA x.2)))]) [] ((0, [])) (WhJ.start l) ?_
  (conv => whnf); refine ⟨?_, ?_⟩; focus ((conv => whnf); refine ⟨rfl, rfl, rfl, rfl, rfl, rfl, ?_, ?_⟩; iterate 2 exact qlf1)
  rintro ⟨i, p⟩ hJ ih
  have hi : i ≤ l.length := hJ.le
  have hpl : p.length ≤ l.length := by have h7 : p = pens (l.take i) := hJ.pens; rw [h7]; exact Nat.le_trans (pens_len _) (by rw [List.length_take]; omega)
  by_cases hil : i < l.length
  · by_cases hk : (l.getD i default).kind = 2
    · have ih2 := ih (i + 1, p ++ [penOf (l.getD i default)]) (hJ.yes hil hk) (by simp only; omega)
      clear ih
      obtain ⟨p2, hp2⟩ : ∃ o, o = p ++ [penOf (l.getD i default)] := ⟨_, rfl⟩
      have hl2 : p2.length = p.length + 1 := by rw [hp2, List.length_append]; rfl
      have hm : ∀ g : Nat → A, g 0 = penA (penOf (l.getD i default)) → ∀ m, m ≤ p.length + 1 → ∀ j, j < m → (catF p.length (lsA penA p) g j).sim (lsA penA p2 j) := fun g hg m hm => by rw [hp2]; exact ls_snoc _ rfl hg hm
      rw [← hp2] at ih2
      clear hp2
      repeat' first
        | assumption
        | exact Bool.noConfusion hb
        | exact absurd hb (by decide)
        | (exfalso; omega)
        | exact absurd hb hk
        | exact absurd hk hb
        | (exfalso; simp at hb; done)
        | (refine W.toA (ih2) ?_; rotate_left 0; (conv => whnf); refine ⟨rfl, rfl, rfl, rfl, rfl, rfl, ?_, ?_⟩; iterate 2 exact qSc15w1)
        | (refine W.branch rfl (fun hb => ?_) (fun hb => ?_) <;> ((try simp only [qhb, addI, reduceCtorEq, Int.reduceToNat] at hb); (try replace hb := of_decide_eq_true hb); (try replace hb := of_decide_eq_false hb)))
        | (refine W.go TOK 66 hΓ 1000 rfl ?_; (conv => whnf); refine ⟨?_, ?_⟩)
      all_goals (repeat' apply And.intro)
      all_goals try exact qSc15w3
    · by_cases hc : 0 < i ∧ (i : Int) ≤ (l.getD 0 default).count
      · rw [whole_bad hil hk hc.1 hc.2]
        obtain ⟨hc1, hc2⟩ := hc
        clear ih
        repeat' first
          | assumption
          | exact Bool.noConfusion hb
          | exact absurd hb (by decide)
          | (exfalso; omega)
          | exact absurd hb hk
          | exact absurd hk hb
          | (exfalso; simp at hb; done)
          | (refine W.retA TOK rfl ?_; (conv => whnf); refine ⟨rfl, rfl, rfl, rfl, rfl, rfl, ?_, ?_, ?_⟩)
          | (refine W.branch rfl (fun hb => ?_) (fun hb => ?_) <;> ((try simp only [qhb, addI, reduceCtorEq, Int.reduceToNat] at hb); (try replace hb := of_decide_eq_true hb); (try replace hb := of_decide_eq_false hb)))
          | (refine W.go TOK 66 hΓ 1000 rfl ?_; (conv => whnf); refine ⟨?_, ?_⟩)
        all_goals (repeat' apply And.intro)
        all_goals try exact qcs0
      · have ih2 := ih (i + 1, p) (hJ.no hil hk hc) (by simp only; omega)
        clear ih
        by_cases hc0 : 0 < i
        · have hc2 : ¬ (i : Int) ≤ (l.getD 0 default).count := fun h => hc ⟨hc0, h⟩
          repeat' first
            | assumption
            | exact Bool.noConfusion hb
            | exact absurd hb (by decide)
            | (exfalso; omega)
            | exact absurd hb hk
            | exact absurd hk hb
            | (exfalso; simp at hb; done)
            | (refine W.toA (ih2) ?_; rotate_left 0; (conv => whnf); refine ⟨rfl, rfl, rfl, rfl, rfl, rfl, ?_, ?_⟩; iterate 2 exact qSc15w1)
            | (refine W.branch rfl (fun hb => ?_) (fun hb => ?_) <;> ((try simp only [qhb, addI, reduceCtorEq, Int.reduceToNat] at hb); (try replace hb := of_decide_eq_true hb); (try replace hb := of_decide_eq_false hb)))
            | (refine W.go TOK 66 hΓ 1000 rfl ?_; (conv => whnf); refine ⟨?_, ?_⟩)
          all_goals (repeat' apply And.intro)
          all_goals try exact qcs0
        · have hc2 : i = 0 := by omega
          repeat' first
            | assumption
            | exact Bool.noConfusion hb
            | exact absurd hb (by decide)
            | (exfalso; omega)
            | exact absurd hb hk
            | exact absurd hk hb
            | (exfalso; simp at hb; done)
            | (refine W.toA (ih2) ?_; rotate_left 0; (conv => whnf); refine ⟨rfl, rfl, rfl, rfl, rfl, rfl, ?_, ?_⟩; iterate 2 exact qSc15w1)
            | (refine W.branch rfl (fun hb => ?_) (fun hb => ?_) <;> ((try simp only [qhb, addI, reduceCtorEq, Int.reduceToNat] at hb); (try replace hb := of_decide_eq_true hb); (try replace hb := of_decide_eq_false hb)))
            | (refine W.go TOK 66 hΓ 1000 rfl ?_; (conv => whnf); refine ⟨?_, ?_⟩)
          all_goals (repeat' apply And.intro)
          all_goals try exact qcs0
  · rw [hJ.done hil hh]
    clear ih
    repeat' first
      | assumption
      | exact Bool.noConfusion hb
      | exact absurd hb (by decide)
      | (exfalso; omega)
      | (refine W.retA TOK rfl ?_; (conv => whnf); refine ⟨rfl, rfl, rfl, rfl, rfl, rfl, ?_, ?_, ?_⟩)
      | (refine W.branch rfl (fun hb => ?_) (fun hb => ?_) <;> ((try simp only [qhb, addI, reduceCtorEq, Int.reduceToNat] at hb); (try replace hb := of_decide_eq_true hb); (try replace hb := of_decide_eq_false hb)))
      | (refine W.go TOK 66 hΓ 1000 rfl ?_; (conv => whnf); refine ⟨?_, ?_⟩)
    all_goals (repeat' apply And.intro)
    all_goals try exact qcs0

theorem rwhole_does (l : List Rec) (h9 : l.length ≤ 100000) : Does Try.prog 14 [.ro 12 l.length (lsA recA l)] [] [1] (Is (.tup [.int .i64 (wholeS l).1, .own 9 1 0 (wholeS l).2.1.length, .bool (wholeS l).2.2]) [(1, some (.arr 9 (wholeS l).2.1.length (lsA penA (wholeS l).2.1)))]) := by
  by_cases hx : l.length = 0
  · rw [whole_noH (fun h => absurd h.1 (by omega))]
    exact qSc15w4
  have h0 := hx
  clear hx
  by_cases hx : (l.getD 0 default).kind = 1
  rotate_left
  · rw [whole_noH (fun h => hx h.2.1)]
    exact qSc15w4
  have h1 := hx
  clear hx
  by_cases hx : (l.getD 0 default).count ≤ (l.length : Int) - 1
  rotate_left
  · rw [whole_noH (fun h => hx h.2.2)]
    exact qSc15w4
  have hh : wholeH l := ⟨by omega, h1, hx⟩
  refine Does.intro (fn := Try.f14) Try.func14 rfl rfl fun Γ hΓ => ?_
  refine W.run TOK 78 hΓ 1000 ?_
  conv => whnf
  refine ⟨?_, ?_⟩
  repeat' first
    | assumption
    | exact Bool.noConfusion hb
    | exact absurd hb (by decide)
    | (exfalso; omega)
    | exact absurd hb h1
    | exact absurd h1 hb
    | (exfalso; simp at hb; done)
    | ((first | refine W.branch rfl (fun hb => ?_) (fun hb => ?_) | refine D.branch rfl (fun hb => ?_) (fun hb => ?_)) <;> ((try simp only [qhb, addI, reduceCtorEq, Int.reduceToNat] at hb); (try replace hb := of_decide_eq_true hb); (try replace hb := of_decide_eq_false hb)))
    | (refine W.go TOK 78 hΓ 1000 rfl ?_; (conv => whnf); refine ⟨?_, ?_⟩)
    | (refine D.go TOK 78 hΓ 1000 rfl ?_; (conv => whnf); refine ⟨?_, ?_⟩)
    | (refine W.drawn rfl rfl ?_; refine D.run TOK 78 hΓ 1000 ?_; (conv => whnf); refine ⟨?_, ?_⟩)
  all_goals (repeat' apply And.intro)
  all_goals try exact qcs0
  refine W.loopA (Nat) (fun i => 1 ≤ i ∧ WhK l i) (fun i => ((l.getD 0 default).count + 1 - (i : Int)).toNat) (fun i => [(5, .int .i64 (i : Nat))]) (fun _ => []) [] (1) (⟨Nat.le_refl _, fun j h1 h2 => absurd h2 (by omega)⟩) ?_
  (conv => whnf); refine ⟨?_, ?_⟩; focus ((conv => whnf); refine ⟨rfl, rfl, rfl, rfl, rfl, rfl, ?_, ?_⟩; iterate 2 exact qlf1)
  rintro c ⟨hc1, hK⟩ ihc
  by_cases hcc : (c : Int) ≤ (l.getD 0 default).count
  · have hcl : c < l.length := by omega
    by_cases hk : (l.getD c default).kind = 2
    · have ih2 := ihc (c + 1) ⟨by omega, fun j h1 h2 => by
        by_cases hj : j = c
        · subst hj; exact hk
        · exact hK j h1 (by omega)⟩ (by omega)
      clear ihc
      repeat' first
        | assumption
        | exact Bool.noConfusion hb
        | exact absurd hb (by decide)
        | (exfalso; omega)
        | exact absurd hb hk
        | exact absurd hk hb
        | (exfalso; simp at hb; done)
        | (refine W.toA (ih2) ?_; rotate_left 0; (conv => whnf); refine ⟨rfl, rfl, rfl, rfl, rfl, rfl, ?_, ?_⟩; iterate 2 exact qSc15w2)
        | ((first | refine W.branch rfl (fun hb => ?_) (fun hb => ?_) | refine D.branch rfl (fun hb => ?_) (fun hb => ?_)) <;> ((try simp only [qhb, addI, reduceCtorEq, Int.reduceToNat] at hb); (try replace hb := of_decide_eq_true hb); (try replace hb := of_decide_eq_false hb)))
        | (refine W.go TOK 78 hΓ 1000 rfl ?_; (conv => whnf); refine ⟨?_, ?_⟩)
        | (refine D.go TOK 78 hΓ 1000 rfl ?_; (conv => whnf); refine ⟨?_, ?_⟩)
        | (refine W.drawn rfl rfl ?_; refine D.run TOK 78 hΓ 1000 ?_; (conv => whnf); refine ⟨?_, ?_⟩)
      all_goals (repeat' apply And.intro)
      all_goals try exact qcs0
    · rw [whole_bad hcl hk hc1 hcc]
      clear ihc
      repeat' first
        | assumption
        | exact Bool.noConfusion hb
        | exact absurd hb (by decide)
        | (exfalso; omega)
        | exact absurd hb hk
        | exact absurd hk hb
        | (exfalso; simp at hb; done)
        | (refine W.retA TOK rfl ?_; (conv => whnf); refine ⟨rfl, rfl, rfl, rfl, rfl, rfl, ?_, ?_, ?_⟩)
        | ((first | refine W.branch rfl (fun hb => ?_) (fun hb => ?_) | refine D.branch rfl (fun hb => ?_) (fun hb => ?_)) <;> ((try simp only [qhb, addI, reduceCtorEq, Int.reduceToNat] at hb); (try replace hb := of_decide_eq_true hb); (try replace hb := of_decide_eq_false hb)))
        | (refine W.go TOK 78 hΓ 1000 rfl ?_; (conv => whnf); refine ⟨?_, ?_⟩)
        | (refine D.go TOK 78 hΓ 1000 rfl ?_; (conv => whnf); refine ⟨?_, ?_⟩)
        | (refine W.drawn rfl rfl ?_; refine D.run TOK 78 hΓ 1000 ?_; (conv => whnf); refine ⟨?_, ?_⟩)
      all_goals (repeat' apply And.intro)
      all_goals try exact qcs0
  · clear ihc
    repeat' first
      | assumption
      | exact Bool.noConfusion hb
      | exact absurd hb (by decide)
      | (exfalso; omega)
      | exact absurd hb hk
      | exact absurd hk hb
      | (exfalso; simp at hb; done)
      | ((first | refine W.branch rfl (fun hb => ?_) (fun hb => ?_) | refine D.branch rfl (fun hb => ?_) (fun hb => ?_)) <;> ((try simp only [qhb, addI, reduceCtorEq, Int.reduceToNat] at hb); (try replace hb := of_decide_eq_true hb); (try replace hb := of_decide_eq_false hb)))
      | (refine W.go TOK 78 hΓ 1000 rfl ?_; (conv => whnf); refine ⟨?_, ?_⟩)
      | (refine D.go TOK 78 hΓ 1000 rfl ?_; (conv => whnf); refine ⟨?_, ?_⟩)
      | (refine W.drawn rfl rfl ?_; refine D.run TOK 78 hΓ 1000 ?_; (conv => whnf); refine ⟨?_, ?_⟩)
    all_goals (repeat' apply And.intro)
    all_goals try exact qcs0
    refine W.loopA (Nat × List Pen) (WhP l) (fun x => l.length - x.1) (fun x => [(6, .own 9 700 0 x.2.length), (7, .int .i64 (x.1 : Nat))]) (fun x => [(700, some (.arr 9 x.2.length (lsA penA x.2)))]) [] ((1, [])) (WhP.start hh) ?_
    (conv => whnf); refine ⟨?_, ?_⟩; focus ((conv => whnf); refine ⟨rfl, rfl, rfl, rfl, rfl, rfl, ?_, ?_⟩; iterate 2 exact qlf1)
    rintro ⟨i, p⟩ hJ ih
    have hi : i ≤ l.length := hJ.le
    have hpl : p.length ≤ l.length := by have h7 : p = pens (l.take i) := hJ.pens; rw [h7]; exact Nat.le_trans (pens_len _) (by rw [List.length_take]; omega)
    by_cases hil : i < l.length
    · by_cases hk : (l.getD i default).kind = 2
      · have ih2 := ih (i + 1, p ++ [penOf (l.getD i default)]) (hJ.yes hil hk) (by simp only; omega)
        clear ih
        obtain ⟨p2, hp2⟩ : ∃ o, o = p ++ [penOf (l.getD i default)] := ⟨_, rfl⟩
        have hl2 : p2.length = p.length + 1 := by rw [hp2, List.length_append]; rfl
        have hm : ∀ g : Nat → A, g 0 = penA (penOf (l.getD i default)) → ∀ m, m ≤ p.length + 1 → ∀ j, j < m → (catF p.length (lsA penA p) g j).sim (lsA penA p2 j) := fun g hg m hm => by rw [hp2]; exact ls_snoc _ rfl hg hm
        rw [← hp2] at ih2
        clear hp2
        repeat' first
          | assumption
          | exact Bool.noConfusion hb
          | exact absurd hb (by decide)
          | (exfalso; omega)
          | exact absurd hb hk
          | exact absurd hk hb
          | (exfalso; simp at hb; done)
          | (refine W.toA (ih2) ?_; rotate_left 0; (conv => whnf); refine ⟨rfl, rfl, rfl, rfl, rfl, rfl, ?_, ?_⟩; iterate 2 exact qSc15w1)
          | ((first | refine W.branch rfl (fun hb => ?_) (fun hb => ?_) | refine D.branch rfl (fun hb => ?_) (fun hb => ?_)) <;> ((try simp only [qhb, addI, reduceCtorEq, Int.reduceToNat] at hb); (try replace hb := of_decide_eq_true hb); (try replace hb := of_decide_eq_false hb)))
          | (refine W.go TOK 78 hΓ 1000 rfl ?_; (conv => whnf); refine ⟨?_, ?_⟩)
          | (refine D.go TOK 78 hΓ 1000 rfl ?_; (conv => whnf); refine ⟨?_, ?_⟩)
          | (refine W.drawn rfl rfl ?_; refine D.run TOK 78 hΓ 1000 ?_; (conv => whnf); refine ⟨?_, ?_⟩)
        all_goals (repeat' apply And.intro)
        all_goals try exact qSc15w3
      · have ih2 := ih (i + 1, p) (hJ.no hil hk) (by simp only; omega)
        clear ih
        repeat' first
          | assumption
          | exact Bool.noConfusion hb
          | exact absurd hb (by decide)
          | (exfalso; omega)
          | exact absurd hb hk
          | exact absurd hk hb
          | (exfalso; simp at hb; done)
          | (refine W.toA (ih2) ?_; rotate_left 0; (conv => whnf); refine ⟨rfl, rfl, rfl, rfl, rfl, rfl, ?_, ?_⟩; iterate 2 exact qSc15w1)
          | ((first | refine W.branch rfl (fun hb => ?_) (fun hb => ?_) | refine D.branch rfl (fun hb => ?_) (fun hb => ?_)) <;> ((try simp only [qhb, addI, reduceCtorEq, Int.reduceToNat] at hb); (try replace hb := of_decide_eq_true hb); (try replace hb := of_decide_eq_false hb)))
          | (refine W.go TOK 78 hΓ 1000 rfl ?_; (conv => whnf); refine ⟨?_, ?_⟩)
          | (refine D.go TOK 78 hΓ 1000 rfl ?_; (conv => whnf); refine ⟨?_, ?_⟩)
          | (refine W.drawn rfl rfl ?_; refine D.run TOK 78 hΓ 1000 ?_; (conv => whnf); refine ⟨?_, ?_⟩)
        all_goals (repeat' apply And.intro)
        all_goals try exact qcs0
    · rw [hJ.done hil hh hK hcc]
      clear ih
      repeat' first
        | assumption
        | exact Bool.noConfusion hb
        | exact absurd hb (by decide)
        | (exfalso; omega)
        | (refine W.retA TOK rfl ?_; (conv => whnf); refine ⟨rfl, rfl, rfl, rfl, rfl, rfl, ?_, ?_, ?_⟩)
        | ((first | refine W.branch rfl (fun hb => ?_) (fun hb => ?_) | refine D.branch rfl (fun hb => ?_) (fun hb => ?_)) <;> ((try simp only [qhb, addI, reduceCtorEq, Int.reduceToNat] at hb); (try replace hb := of_decide_eq_true hb); (try replace hb := of_decide_eq_false hb)))
        | (refine W.go TOK 78 hΓ 1000 rfl ?_; (conv => whnf); refine ⟨?_, ?_⟩)
        | (refine D.go TOK 78 hΓ 1000 rfl ?_; (conv => whnf); refine ⟨?_, ?_⟩)
        | (refine W.drawn rfl rfl ?_; refine D.run TOK 78 hΓ 1000 ?_; (conv => whnf); refine ⟨?_, ?_⟩)
      all_goals (repeat' apply And.intro)
      all_goals try exact qcs0

end Go.Proofs.Ytcolghonbncpnaa
