/- A journal that is laid anew: plain Lean. -/
import Derived.Test.YtpgjheokcdpgjaaJoSpec4
import Derived.Test.YtpgjheokcdpgjaaPoLaw4
set_option linter.unusedSimpArgs false
set_option linter.unusedVariables false
namespace VX
open Go
def rstJ (seq : Int) (l : List Pen) : Nat → Nat → List UInt8
  | 0, _ => []
  | k + 1, i => (jputS (penR seq i (HP.at_ l i))).1 ++ rstJ seq l k (i + 1)
theorem bsP_rst (gen seq : Int) (l : List Pen) : ∀ (k i : Nat), bsP gen seq l (i + k) = bsP gen seq l i ++ rstJ seq l k i
  | 0, i => by rw [rstJ, List.append_nil]; rfl
  | k + 1, i => by
    rw [rstJ, ← List.append_assoc, show i + (k + 1) = (i + 1) + k by omega, bsP_rst gen seq l k (i + 1)]
    rfl
theorem bsP_all (gen seq : Int) (l : List Pen) (n : Nat) : bsP gen seq l n = (jputS (baseR gen seq l.length)).1 ++ rstJ seq l n 0 := by
  have := bsP_rst gen seq l n 0
  rw [Nat.zero_add] at this
  exact this
theorem rstJ_len (seq : Int) (l : List Pen) : ∀ k i, (rstJ seq l k i).length ≤ 109 * k
  | 0, _ => Nat.zero_le _
  | k + 1, i => by
    have h1 := rstJ_len seq l k (i + 1)
    have h2 := jput_len (penR seq i (HP.at_ l i))
    rw [rstJ, List.length_append]; omega
theorem base_right {gen seq : Int} {n : Nat} (hs : 0 ≤ seq ∧ seq ≤ 65535) (hg : 0 ≤ gen ∧ gen ≤ 65535) (hn : n ≤ 32) : rightS (baseR gen seq n) = true := by
  have h1 : tickR seq = true := decide_eq_true (by omega)
  have h2 : tickR gen = true := decide_eq_true (by omega)
  rw [right1 h1 rfl]
  show (tickR gen && (decide (0 ≤ (n : Int) ∧ (n : Int) ≤ 32) && decide (_ ∧ _ ∧ _))) = true
  rw [h2, decide_eq_true (by omega), decide_eq_true ⟨rfl, rfl, rfl⟩]
  rfl
theorem pen_right {seq : Int} {i : Nat} {p : Pen} (hs : 0 ≤ seq ∧ seq ≤ 65535) (hi : i ≤ 1000) (hu : updRight p.u = true) (ht : 0 ≤ p.tick ∧ p.tick ≤ 65535) : rightS (penR seq i p) = true := by
  have h1 : tickR (seq + 1 + (i : Int)) = true := decide_eq_true (by omega)
  have h2 : tickR p.tick = true := decide_eq_true (by omega)
  rw [right2 h1 rfl]
  show (updRight p.u && (tickR p.tick && decide (_ ∧ _ ∧ _))) = true
  rw [hu, h2, decide_eq_true ⟨rfl, rfl, rfl⟩]
  rfl
end VX
