/- How numbers, strings, and what is due stand to one another: strict total orders. -/
import Derived.Test.YthnmbpcdcjamoaaLsL
import Derived.Test.YthnmbpcdcjamoaaSrSpec
set_option linter.unusedSimpArgs false
set_option linter.unusedVariables false
namespace VX
open Go
def cmpI (x y : Int) : Int := if x < y then -1 else if y < x then 1 else 0
def cmpS (x y : List UInt8) : Int := if strLt x y = true then -1 else if (strLt x y || decide (x = y)) = true then 0 else 1
def orL : List Int → Int
  | [] => 0
  | x :: l => if x = 0 then orL l else x
theorem cmpI_lt (x y : Int) : cmpI x y < 0 ↔ x < y := by
  unfold cmpI
  split
  · exact ⟨fun _ => by omega, fun _ => by decide⟩
  · split
    · exact ⟨fun h => absurd h (by decide), fun h => by omega⟩
    · exact ⟨fun h => absurd h (by decide), fun h => by omega⟩
theorem cmpI_eq (x y : Int) : cmpI x y = 0 ↔ x = y := by
  unfold cmpI
  split
  · exact ⟨fun h => absurd h (by decide), fun h => by omega⟩
  · split
    · exact ⟨fun h => absurd h (by decide), fun h => by omega⟩
    · exact ⟨fun h => by omega, fun h => rfl⟩
theorem strLt_cons (x y : UInt8) (a b : List UInt8) : strLt (x :: a) (y :: b) = true ↔ x < y ∨ (x = y ∧ strLt a b = true) := by
  show (decide (x < y) || (x == y && Op.bytesLess a b)) = true ↔ _
  rw [Bool.or_eq_true, decide_eq_true_eq, Bool.and_eq_true, beq_iff_eq]
  rfl
theorem strLt_irr : ∀ a : List UInt8, strLt a a = false
  | [] => rfl
  | x :: a => by
    cases h : strLt (x :: a) (x :: a) with
    | false => rfl
    | true =>
      rcases (strLt_cons _ _ _ _).1 h with h | ⟨_, h⟩
      · exact absurd h (UInt8.lt_irrefl x)
      · rw [strLt_irr a] at h; cases h
theorem strLt_tr : ∀ a b c : List UInt8, strLt a b = true → strLt b c = true → strLt a c = true
  | [], [], _, h, _ => by cases h
  | _ :: _, [], _, h, _ => by cases h
  | _, _ :: _, [], _, h => by cases h
  | [], _ :: _, _ :: _, _, _ => rfl
  | x :: a, y :: b, z :: c, h, k => by
    rw [strLt_cons] at h k ⊢
    rcases h with h | ⟨rfl, h⟩
    · rcases k with k | ⟨rfl, k⟩
      · exact .inl (UInt8.lt_trans h k)
      · exact .inl h
    · rcases k with k | ⟨rfl, k⟩
      · exact .inl k
      · exact .inr ⟨rfl, strLt_tr a b c h k⟩
theorem strLt_tot : ∀ a b : List UInt8, strLt a b = false → strLt b a = false → a = b
  | [], [], _, _ => rfl
  | [], _ :: _, h, _ => by cases h
  | _ :: _, [], _, h => by cases h
  | x :: a, y :: b, h, k => by
    have h' : ¬ (x < y ∨ (x = y ∧ strLt a b = true)) := fun e => by rw [(strLt_cons _ _ _ _).2 e] at h; cases h
    have k' : ¬ (y < x ∨ (y = x ∧ strLt b a = true)) := fun e => by rw [(strLt_cons _ _ _ _).2 e] at k; cases k
    have e : x = y := by
      apply UInt8.toNat_inj.1
      have h1 : ¬ x < y := fun e => h' (.inl e)
      have h2 : ¬ y < x := fun e => k' (.inl e)
      rw [UInt8.lt_iff_toNat_lt] at h1 h2
      omega
    subst e
    congr 1
    refine strLt_tot a b ?_ ?_
    · cases e : strLt a b with
      | false => rfl
      | true => exact absurd (.inr ⟨rfl, e⟩) h'
    · cases e : strLt b a with
      | false => rfl
      | true => exact absurd (.inr ⟨rfl, e⟩) k'
theorem cmpS_lt (x y : List UInt8) : cmpS x y < 0 ↔ strLt x y = true := by
  unfold cmpS
  split
  · rename_i h; exact ⟨fun _ => h, fun _ => by decide⟩
  · rename_i h
    split
    · exact ⟨fun e => absurd e (by decide), fun e => absurd e h⟩
    · exact ⟨fun e => absurd e (by decide), fun e => absurd e h⟩
theorem cmpS_eq (x y : List UInt8) : cmpS x y = 0 ↔ x = y := by
  unfold cmpS
  split
  · rename_i h
    exact ⟨fun e => absurd e (by decide), fun e => by subst e; rw [strLt_irr] at h; cases h⟩
  · rename_i h
    have h : strLt x y = false := by simpa using h
    rw [h, Bool.false_or]
    split
    · rename_i e; exact ⟨fun _ => of_decide_eq_true e, fun _ => rfl⟩
    · rename_i e; exact ⟨fun e2 => absurd e2 (by decide), fun e2 => absurd (decide_eq_true e2) e⟩
/-- What is due: when, of which class, how often served, who. -/
structure Due where
  at_ : Int
  cls : Int
  rank : Int
  name : List UInt8
  deriving DecidableEq
instance : Inhabited Due := ⟨⟨0, 0, 0, []⟩⟩
abbrev dueA (d : Due) : A := .agg [.int .i64 d.at_, .int .i64 d.cls, .int .i64 d.rank, .str d.name]
def ordS (a b : Due) : Int := orL [cmpI a.at_ b.at_, cmpI b.cls a.cls, cmpI a.rank b.rank, cmpS a.name b.name]
def lessS (a b : Due) : Bool := decide (ordS a b < 0)
/-- Less, told by the parts. -/
theorem less_iff (a b : Due) : lessS a b = true ↔ a.at_ < b.at_ ∨ (a.at_ = b.at_ ∧ (b.cls < a.cls ∨ (b.cls = a.cls ∧ (a.rank < b.rank ∨ (a.rank = b.rank ∧ strLt a.name b.name = true))))) := by
  unfold lessS ordS
  rw [decide_eq_true_eq]
  have h1 := cmpI_lt a.at_ b.at_; have h2 := cmpI_eq a.at_ b.at_
  have h3 := cmpI_lt b.cls a.cls; have h4 := cmpI_eq b.cls a.cls
  have h5 := cmpI_lt a.rank b.rank; have h6 := cmpI_eq a.rank b.rank
  have h7 := cmpS_lt a.name b.name; have h8 := cmpS_eq a.name b.name
  generalize cmpI a.at_ b.at_ = c1 at *
  generalize cmpI b.cls a.cls = c2 at *
  generalize cmpI a.rank b.rank = c3 at *
  generalize cmpS a.name b.name = c4 at *
  simp only [orL]
  by_cases e1 : c1 = 0
  · rw [if_pos e1]
    have q1 := h2.1 e1
    by_cases e2 : c2 = 0
    · rw [if_pos e2]
      have q2 := h4.1 e2
      by_cases e3 : c3 = 0
      · rw [if_pos e3]
        have q3 := h6.1 e3
        have : (if c4 = 0 then 0 else c4) = c4 := by split <;> omega
        rw [this]
        constructor
        · exact fun h => .inr ⟨q1, .inr ⟨q2, .inr ⟨q3, h7.1 h⟩⟩⟩
        · rintro (h | ⟨_, h | ⟨_, h | ⟨_, h⟩⟩⟩)
          · omega
          · omega
          · omega
          · exact h7.2 h
      · rw [if_neg e3]
        constructor
        · exact fun h => .inr ⟨q1, .inr ⟨q2, .inl (h5.1 h)⟩⟩
        · rintro (h | ⟨_, h | ⟨_, h | ⟨h, _⟩⟩⟩)
          · omega
          · omega
          · exact h5.2 h
          · exact absurd (h6.2 h) e3
    · rw [if_neg e2]
      constructor
      · exact fun h => .inr ⟨q1, .inl (h3.1 h)⟩
      · rintro (h | ⟨_, h | ⟨h, _⟩⟩)
        · omega
        · exact h3.2 h
        · exact absurd (h4.2 h) e2
  · rw [if_neg e1]
    constructor
    · exact fun h => .inl (h1.1 h)
    · rintro (h | ⟨h, _⟩)
      · exact h1.2 h
      · exact absurd (h2.2 h) e1
theorem less_ord : HP.Ord lessS := by
  refine ⟨fun a => ?_, fun a b c h k => ?_, fun a b h k => ?_⟩
  · cases e : lessS a a with
    | false => rfl
    | true =>
      rcases (less_iff a a).1 e with h | ⟨_, h | ⟨_, h | ⟨_, h⟩⟩⟩
      · omega
      · omega
      · omega
      · rw [strLt_irr] at h; cases h
  · rw [less_iff] at h k ⊢
    rcases h with h | ⟨h0, h | ⟨h1, h | ⟨h2, h⟩⟩⟩ <;> rcases k with k | ⟨k0, k | ⟨k1, k | ⟨k2, k⟩⟩⟩
    all_goals first
      | exact .inl (by omega)
      | exact .inr ⟨by omega, .inl (by omega)⟩
      | exact .inr ⟨by omega, .inr ⟨by omega, .inl (by omega)⟩⟩
      | exact .inr ⟨by omega, .inr ⟨by omega, .inr ⟨by omega, strLt_tr _ _ _ h k⟩⟩⟩
  · have h' : ¬ _ := fun e => by rw [(less_iff a b).2 e] at h; cases h
    have k' : ¬ _ := fun e => by rw [(less_iff b a).2 e] at k; cases k
    have e1 : a.at_ = b.at_ := by
      have := fun e => h' (.inl e); have := fun e => k' (.inl e); omega
    have e2 : a.cls = b.cls := by
      have := fun e => h' (.inr ⟨e1, .inl e⟩); have := fun e => k' (.inr ⟨e1.symm, .inl e⟩); omega
    have e3 : a.rank = b.rank := by
      have := fun e => h' (.inr ⟨e1, .inr ⟨e2.symm, .inl e⟩⟩); have := fun e => k' (.inr ⟨e1.symm, .inr ⟨e2, .inl e⟩⟩); omega
    have e4 : a.name = b.name := by
      refine strLt_tot _ _ ?_ ?_
      · cases e : strLt a.name b.name with
        | false => rfl
        | true => exact absurd (.inr ⟨e1, .inr ⟨e2.symm, .inr ⟨e3, e⟩⟩⟩) h'
      · cases e : strLt b.name a.name with
        | false => rfl
        | true => exact absurd (.inr ⟨e1.symm, .inr ⟨e2, .inr ⟨e3.symm, e⟩⟩⟩) k'
    cases a; cases b
    simp only at e1 e2 e3 e4
    subst e1 e2 e3 e4
    rfl
end VX
