/- Walks: the statements of layer 14. -/
import Derived.Test.YtpgjheokcdpgjaaJo14h
import Derived.Test.YtpgjheokcdpgjaaJo14e
import Derived.Test.YtpgjheokcdpgjaaPlB
import Derived.Test.YtpgjheokcdpgjaaVxI
set_option linter.unusedSimpArgs false
set_option linter.unusedVariables false
namespace Go.Proofs.Ytpgjheokcdpgjaa
open VX
set_option maxRecDepth 100000
set_option maxHeartbeats 4000000
theorem nameS_len (k : UInt8) : 1 ≤ (nameS k).length ∧ (nameS k).length ≤ 32 := by
  have h : k.toNat % 6 < 6 := Nat.mod_lt _ (by decide)
  unfold nameS
  generalize k.toNat % 6 = i at h
  have : i = 0 ∨ i = 1 ∨ i = 2 ∨ i = 3 ∨ i = 4 ∨ i = 5 := by omega
  rcases this with rfl | rfl | rfl | rfl | rfl | rfl <;> decide
structure SeatOK (p : Pen) : Prop where
  r : updRight p.u = true
  o : UpdOK p.u
  t : 0 ≤ p.tick ∧ p.tick ≤ 1000
theorem seatL_ok (l : List UInt8) : ∀ i, i ≤ 34 → ∀ p ∈ seatL l i, SeatOK p
  | 0, _ => fun p hp => absurd hp List.not_mem_nil
  | i + 1, hi => fun p hp => by
    rw [seatL] at hp
    rcases List.mem_append.1 hp with hp | hp
    · exact seatL_ok l i (by omega) p hp
    · have : p = seatP l i (seatL l i) := by simpa using hp
      subst this
      have hv := nxt_bd (l := seatL l i) (c := i) (fun p hp => (seatL_ver l i p hp).2) (by omega) (nameS (l.getD i 0))
      have hn := nameS_len (l.getD i 0)
      have hk := (l.getD i 0).toNat_lt
      unfold seatP
      refine ⟨decide_eq_true ?_, ⟨inr_i64.2 ⟨?_, ?_⟩, inr_u64.2 ⟨?_, ?_⟩, inr_i64.2 ⟨?_, ?_⟩, u64_0, u64_0⟩, ⟨?_, ?_⟩⟩
      all_goals simp only
      all_goals omega
end Go.Proofs.Ytpgjheokcdpgjaa
