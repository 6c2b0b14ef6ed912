/- Walks: lumps, texts, sums, tags. -/
import Derived.Test.YtcolghonbncpnaaSc15W
set_option linter.unusedSimpArgs false
set_option linter.unusedVariables false
namespace Go.Proofs.Ytcolghonbncpnaa
open VX
set_option maxRecDepth 100000
set_option maxHeartbeats 4000000

theorem lump_does (l : List UInt8) (h : l.length ≤ 1000000000000) : Does Try.prog 91 [bytesA l] [] [1] (Is (.own 1 1 0 (8 + l.length)) [(1, some (.arr 1 (8 + l.length) (byteAt (lumpS l))))]) := by
  have hw : IntKind.u64.wrap ((l.length : Nat) : Int) = ((l.length : Nat) : Int) := wrap_u64_in (by omega) (by omega)
  refine Does.intro (fn := Try.f91) Try.func91 rfl rfl fun Γ hΓ => ?_
  refine W.run TOK 9 hΓ 1000 ?_
  conv => whnf
  refine ⟨?_, ?_⟩
  repeat' first
    | assumption
    | exact Bool.noConfusion hb
    | exact absurd hb (by decide)
    | (apply W.atRet (π := [(1, 8)]) (r' := [(1, some (.arr 1 (8 + l.length) (byteAt (lumpS l))))]) TOK; refine ⟨rfl, rfl, rfl, rfl, ⟨rfl, rfl⟩, ?_, ?_, ?_⟩)
    | ((first | refine W.branch rfl (fun hb => ?_) (fun hb => ?_) | refine D.branch rfl (fun hb => ?_) (fun hb => ?_)) <;> ((try simp only [qhb, addI, reduceCtorEq, Int.reduceToNat] at hb); (try replace hb := of_decide_eq_true hb); (try replace hb := of_decide_eq_false hb)))
    | (refine D.callF (num_does ((l.length : Nat) : Int) ?_) rfl rfl rfl rfl [] [] [6] rfl rfl hΓ rfl ⟨⟨rfl, hw⟩, trivial⟩ trivial (.inl rfl) rfl ?_; (conv => whnf))
    | (refine W.callF (num_does ((l.length : Nat) : Int) ?_) rfl rfl rfl rfl [] [] [6] rfl rfl hΓ rfl ⟨⟨rfl, hw⟩, trivial⟩ trivial (.inl rfl) ?_)
    | (refine W.go TOK 9 hΓ 1000 rfl ?_; (conv => whnf); refine ⟨?_, ?_⟩)
    | (refine D.go TOK 9 hΓ 1000 rfl ?_; (conv => whnf); refine ⟨?_, ?_⟩)
    | (refine W.drawn rfl rfl ?_; refine D.run TOK 9 hΓ 1000 ?_; (conv => whnf); refine ⟨?_, ?_⟩)
  all_goals try (exact inr_u64.2 ⟨by omega, by omega⟩)
  all_goals try exact qco0
  all_goals try (exact ⟨rfl, rfl, rfl, rfl⟩)
  all_goals try (exact ⟨⟨rfl, Nat.le_refl _, fun j hj => cat_sim (l := numS _) (m := l) (by rw [numS_length]) (fun _ _ => rfl) (fun _ _ => rfl) hj⟩, trivial⟩)

theorem rlump_does (l : List UInt8) (h : l.length ≤ 1000000000000) : Does Try.prog 76 [bytesA l] [] [1] (Is (.own 1 1 0 (8 + l.length)) [(1, some (.arr 1 (8 + l.length) (byteAt (lumpS l))))]) := by
  have hw : IntKind.u64.wrap ((l.length : Nat) : Int) = ((l.length : Nat) : Int) := wrap_u64_in (by omega) (by omega)
  refine Does.intro (fn := Try.f76) Try.func76 rfl rfl fun Γ hΓ => ?_
  refine W.run TOK 9 hΓ 1000 ?_
  conv => whnf
  refine ⟨?_, ?_⟩
  repeat' first
    | assumption
    | exact Bool.noConfusion hb
    | exact absurd hb (by decide)
    | (apply W.atRet (π := [(1, 8)]) (r' := [(1, some (.arr 1 (8 + l.length) (byteAt (lumpS l))))]) TOK; refine ⟨rfl, rfl, rfl, rfl, ⟨rfl, rfl⟩, ?_, ?_, ?_⟩)
    | ((first | refine W.branch rfl (fun hb => ?_) (fun hb => ?_) | refine D.branch rfl (fun hb => ?_) (fun hb => ?_)) <;> ((try simp only [qhb, addI, reduceCtorEq, Int.reduceToNat] at hb); (try replace hb := of_decide_eq_true hb); (try replace hb := of_decide_eq_false hb)))
    | (refine D.callF (rnum_does ((l.length : Nat) : Int) ?_) rfl rfl rfl rfl [] [] [6] rfl rfl hΓ rfl ⟨⟨rfl, hw⟩, trivial⟩ trivial (.inl rfl) rfl ?_; (conv => whnf))
    | (refine W.callF (rnum_does ((l.length : Nat) : Int) ?_) rfl rfl rfl rfl [] [] [6] rfl rfl hΓ rfl ⟨⟨rfl, hw⟩, trivial⟩ trivial (.inl rfl) ?_)
    | (refine W.go TOK 9 hΓ 1000 rfl ?_; (conv => whnf); refine ⟨?_, ?_⟩)
    | (refine D.go TOK 9 hΓ 1000 rfl ?_; (conv => whnf); refine ⟨?_, ?_⟩)
    | (refine W.drawn rfl rfl ?_; refine D.run TOK 9 hΓ 1000 ?_; (conv => whnf); refine ⟨?_, ?_⟩)
  all_goals try (exact inr_u64.2 ⟨by omega, by omega⟩)
  all_goals try exact qco0
  all_goals try (exact ⟨rfl, rfl, rfl, rfl⟩)
  all_goals try (exact ⟨⟨rfl, Nat.le_refl _, fun j hj => cat_sim (l := numS _) (m := l) (by rw [numS_length]) (fun _ _ => rfl) (fun _ _ => rfl) hj⟩, trivial⟩)

def S_text (tag : UInt8) (L : List (List UInt8)) (i : Nat) : St := ⟨[(5, .own 1 500 0 (textS tag (L.take i)).length), (10, sl 1 bytesA L), (11, .int .i64 L.length), (12, .int .i64 i)], [(500, some (.arr 1 (textS tag (L.take i)).length (byteAt (textS tag (L.take i)))))], [500]⟩
theorem text_does (tag : UInt8) (L : List (List UInt8)) (h : (textS tag L).length ≤ 1000000000000) : Does Try.prog 89 [VX.byte tag, sl 1 bytesA L] [] [1] (Is (.own 1 1 0 (textS tag L).length) [(1, some (.arr 1 (textS tag L).length (byteAt (textS tag L))))]) := by
  refine Does.intro (fn := Try.f89) Try.func89 rfl rfl fun Γ hΓ => ?_
  refine W.run TOK 22 hΓ 1000 ?_
  conv => whnf
  refine ⟨?_, ?_⟩
  repeat' first
    | assumption
    | exact Bool.noConfusion hb
    | exact absurd hb (by decide)
    | (apply W.atRet (π := []) (r' := []) TOK; refine ⟨rfl, rfl, rfl, rfl, ⟨rfl, rfl⟩, ?_, ?_, ?_⟩)
    | ((first | refine W.branch rfl (fun hb => ?_) (fun hb => ?_) | refine D.branch rfl (fun hb => ?_) (fun hb => ?_)) <;> ((try simp only [qhb, addI, reduceCtorEq, Int.reduceToNat] at hb); (try replace hb := of_decide_eq_true hb); (try replace hb := of_decide_eq_false hb)))
    | (refine W.go TOK 22 hΓ 1000 rfl ?_; (conv => whnf); refine ⟨?_, ?_⟩)
    | (refine D.go TOK 22 hΓ 1000 rfl ?_; (conv => whnf); refine ⟨?_, ?_⟩)
    | (refine W.drawn rfl rfl ?_; refine D.run TOK 22 hΓ 1000 ?_; (conv => whnf); refine ⟨?_, ?_⟩)
  all_goals try exact qco0
  refine W.loop (fun i => i ≤ L.length) (fun i => L.length - i) (S_text tag L) 0 (Nat.zero_le _) (Weak.via [(500, 9)] rfl rfl rfl ⟨⟨rfl, rfl, rfl, rfl⟩, ⟨rfl, rfl, fun _ _ => A.sim.refl _⟩, ⟨rfl, rfl⟩, ⟨rfl, rfl⟩, trivial⟩ ⟨⟨rfl, Nat.le_refl _, fun j hj => ?_⟩, trivial⟩) ?_
  · have e0 : j = 0 := by have : j < 1 := hj; omega
    subst e0; exact .of rfl
  intro i hi ih
  have hstep : i < L.length → textS tag (L.take (i + 1)) = textS tag (L.take i) ++ lumpS (L.getD i []) := fun hlt => by
    unfold textS
    rw [List.take_succ_eq_append_getElem hlt, List.flatMap_append, List.getD_eq_getElem?_getD, List.getElem?_eq_getElem hlt]
    simp
  have hle : i < L.length → (textS tag (L.take i)).length + (lumpS (L.getD i [])).length ≤ (textS tag L).length := fun hlt => by
    rw [← List.length_append, ← hstep hlt]
    unfold textS
    conv => rhs; rw [← List.take_append_drop (i + 1) L, List.flatMap_append]
    simp
  have hll : (lumpS (L.getD i [])).length = 8 + (L.getD i []).length := by rw [lumpS, List.length_append, numS_length]
  have hlen : i < L.length → (textS tag (L.take i)).length + (8 + (L.getD i []).length) = (textS tag (L.take (i + 1))).length := fun hlt => by
    rw [hstep hlt, List.length_append, hll]
  have hL := textS_len tag L
  have hle2 : i < L.length → (textS tag (L.take i)).length + (8 + (L.getD i []).length) ≤ (textS tag L).length := fun hlt => by rw [← hll]; exact hle hlt
  dsimp only [S_text]
  refine W.run TOK 22 hΓ 1000 ?_
  conv => whnf
  refine ⟨?_, ?_⟩
  repeat' first
    | assumption
    | exact Bool.noConfusion hb
    | exact absurd hb (by decide)
    | (refine W.to (ih (i + 1) ?_ ?_) (Weak.via [(500, 19)] rfl rfl rfl ⟨⟨rfl, rfl, rfl, hlen (by omega)⟩, ⟨rfl, rfl, fun _ _ => A.sim.refl _⟩, ⟨rfl, rfl⟩, ⟨rfl, rfl⟩, trivial⟩ ⟨⟨rfl, Nat.le_of_eq (hlen (by omega)).symm, fun j hj => by rw [hstep (by omega)]; exact cat_sim rfl (fun _ _ => rfl) (fun _ _ => rfl) (by rw [hll, hlen (by omega)]; exact hj)⟩, trivial⟩))
    | (apply W.atRet (π := [(1, 500)]) (r' := [(1, some (.arr 1 (textS tag L).length (byteAt (textS tag L))))]) TOK; refine ⟨rfl, rfl, rfl, rfl, ⟨rfl, rfl⟩, ?_, ?_, ?_⟩)
    | ((first | refine W.branch rfl (fun hb => ?_) (fun hb => ?_) | refine D.branch rfl (fun hb => ?_) (fun hb => ?_)) <;> ((try simp only [qhb, addI, reduceCtorEq, Int.reduceToNat] at hb); (try replace hb := of_decide_eq_true hb); (try replace hb := of_decide_eq_false hb)))
    | (refine D.callF (lump_does (L.getD i []) ?_) rfl rfl rfl rfl [] [] [18] rfl rfl hΓ rfl ⟨⟨rfl, rfl, fun _ _ => A.sim.refl _⟩, trivial⟩ trivial (.inl rfl) rfl ?_; (conv => whnf))
    | (refine W.callF (lump_does (L.getD i []) ?_) rfl rfl rfl rfl [] [] [18] rfl rfl hΓ rfl ⟨⟨rfl, rfl, fun _ _ => A.sim.refl _⟩, trivial⟩ trivial (.inl rfl) ?_)
    | (refine W.go TOK 22 hΓ 1000 rfl ?_; (conv => whnf); refine ⟨?_, ?_⟩)
    | (refine D.go TOK 22 hΓ 1000 rfl ?_; (conv => whnf); refine ⟨?_, ?_⟩)
    | (refine W.drawn rfl rfl ?_; refine D.run TOK 22 hΓ 1000 ?_; (conv => whnf); refine ⟨?_, ?_⟩)
  all_goals try exact qco0
  all_goals try (have e : i = L.length := by omega
                 subst e
                 rw [List.take_length]
                 first | exact ⟨rfl, rfl, rfl, rfl⟩ | exact ⟨⟨rfl, Nat.le_refl _, fun _ _ => .refl _⟩, trivial⟩)

def S_rtext (tag : UInt8) (L : List (List UInt8)) (i : Nat) : St := ⟨[(1, sl 1 bytesA L), (5, .own 1 500 0 (textS tag (L.take i)).length), (6, .int .i64 i)], [(500, some (.arr 1 (textS tag (L.take i)).length (byteAt (textS tag (L.take i)))))], [500]⟩
theorem rtext_does (tag : UInt8) (L : List (List UInt8)) (h : (textS tag L).length ≤ 1000000000000) : Does Try.prog 85 [VX.byte tag, sl 1 bytesA L] [] [1] (Is (.own 1 1 0 (textS tag L).length) [(1, some (.arr 1 (textS tag L).length (byteAt (textS tag L))))]) := by
  refine Does.intro (fn := Try.f85) Try.func85 rfl rfl fun Γ hΓ => ?_
  refine W.run TOK 23 hΓ 1000 ?_
  conv => whnf
  refine ⟨?_, ?_⟩
  repeat' first
    | assumption
    | exact Bool.noConfusion hb
    | exact absurd hb (by decide)
    | (apply W.atRet (π := []) (r' := []) TOK; refine ⟨rfl, rfl, rfl, rfl, ⟨rfl, rfl⟩, ?_, ?_, ?_⟩)
    | ((first | refine W.branch rfl (fun hb => ?_) (fun hb => ?_) | refine D.branch rfl (fun hb => ?_) (fun hb => ?_)) <;> ((try simp only [qhb, addI, reduceCtorEq, Int.reduceToNat] at hb); (try replace hb := of_decide_eq_true hb); (try replace hb := of_decide_eq_false hb)))
    | (refine W.go TOK 23 hΓ 1000 rfl ?_; (conv => whnf); refine ⟨?_, ?_⟩)
    | (refine D.go TOK 23 hΓ 1000 rfl ?_; (conv => whnf); refine ⟨?_, ?_⟩)
    | (refine W.drawn rfl rfl ?_; refine D.run TOK 23 hΓ 1000 ?_; (conv => whnf); refine ⟨?_, ?_⟩)
  all_goals try exact qco0
  refine W.loop (fun i => i ≤ L.length) (fun i => L.length - i) (S_rtext tag L) 0 (Nat.zero_le _) (Weak.via [(500, 8)] rfl rfl rfl ⟨⟨rfl, rfl, fun _ _ => A.sim.refl _⟩, ⟨rfl, rfl, rfl, rfl⟩, ⟨rfl, rfl⟩, trivial⟩ ⟨⟨rfl, Nat.le_refl _, fun j hj => ?_⟩, trivial⟩) ?_
  · have e0 : j = 0 := by have : j < 1 := hj; omega
    subst e0; exact .of rfl
  intro i hi ih
  have hstep : i < L.length → textS tag (L.take (i + 1)) = textS tag (L.take i) ++ lumpS (L.getD i []) := fun hlt => by
    unfold textS
    rw [List.take_succ_eq_append_getElem hlt, List.flatMap_append, List.getD_eq_getElem?_getD, List.getElem?_eq_getElem hlt]
    simp
  have hle : i < L.length → (textS tag (L.take i)).length + (lumpS (L.getD i [])).length ≤ (textS tag L).length := fun hlt => by
    rw [← List.length_append, ← hstep hlt]
    unfold textS
    conv => rhs; rw [← List.take_append_drop (i + 1) L, List.flatMap_append]
    simp
  have hll : (lumpS (L.getD i [])).length = 8 + (L.getD i []).length := by rw [lumpS, List.length_append, numS_length]
  have hlen : i < L.length → (textS tag (L.take i)).length + (8 + (L.getD i []).length) = (textS tag (L.take (i + 1))).length := fun hlt => by
    rw [hstep hlt, List.length_append, hll]
  have hL := textS_len tag L
  have hle2 : i < L.length → (textS tag (L.take i)).length + (8 + (L.getD i []).length) ≤ (textS tag L).length := fun hlt => by rw [← hll]; exact hle hlt
  dsimp only [S_rtext]
  refine W.run TOK 23 hΓ 1000 ?_
  conv => whnf
  refine ⟨?_, ?_⟩
  repeat' first
    | assumption
    | exact Bool.noConfusion hb
    | exact absurd hb (by decide)
    | (refine W.to (ih (i + 1) ?_ ?_) (Weak.via [(500, 21)] rfl rfl rfl ⟨⟨rfl, rfl, fun _ _ => A.sim.refl _⟩, ⟨rfl, rfl, rfl, hlen (by omega)⟩, ⟨rfl, rfl⟩, trivial⟩ ⟨⟨rfl, Nat.le_of_eq (hlen (by omega)).symm, fun j hj => by rw [hstep (by omega)]; exact cat_sim rfl (fun _ _ => rfl) (fun _ _ => rfl) (by rw [hll, hlen (by omega)]; exact hj)⟩, trivial⟩))
    | (apply W.atRet (π := [(1, 500)]) (r' := [(1, some (.arr 1 (textS tag L).length (byteAt (textS tag L))))]) TOK; refine ⟨rfl, rfl, rfl, rfl, ⟨rfl, rfl⟩, ?_, ?_, ?_⟩)
    | ((first | refine W.branch rfl (fun hb => ?_) (fun hb => ?_) | refine D.branch rfl (fun hb => ?_) (fun hb => ?_)) <;> ((try simp only [qhb, addI, reduceCtorEq, Int.reduceToNat] at hb); (try replace hb := of_decide_eq_true hb); (try replace hb := of_decide_eq_false hb)))
    | (refine D.callF (rlump_does (L.getD i []) ?_) rfl rfl rfl rfl [] [] [20] rfl rfl hΓ rfl ⟨⟨rfl, rfl, fun _ _ => A.sim.refl _⟩, trivial⟩ trivial (.inl rfl) rfl ?_; (conv => whnf))
    | (refine W.callF (rlump_does (L.getD i []) ?_) rfl rfl rfl rfl [] [] [20] rfl rfl hΓ rfl ⟨⟨rfl, rfl, fun _ _ => A.sim.refl _⟩, trivial⟩ trivial (.inl rfl) ?_)
    | (refine W.go TOK 23 hΓ 1000 rfl ?_; (conv => whnf); refine ⟨?_, ?_⟩)
    | (refine D.go TOK 23 hΓ 1000 rfl ?_; (conv => whnf); refine ⟨?_, ?_⟩)
    | (refine W.drawn rfl rfl ?_; refine D.run TOK 23 hΓ 1000 ?_; (conv => whnf); refine ⟨?_, ?_⟩)
  all_goals try exact qco0
  all_goals try (have e : i = L.length := by omega
                 subst e
                 rw [List.take_length]
                 first | exact ⟨rfl, rfl, rfl, rfl⟩ | exact ⟨⟨rfl, Nat.le_refl _, fun _ _ => .refl _⟩, trivial⟩)

def Pd_sum (l : List UInt8) (k : Nat) : St := ⟨[(0, .own 1 500 0 (l.length + 1 + k)), (2, .ptr 2 []), (3, .ptr 3 [])], [(500, some (.arr 1 (l.length + 1 + k) (byteAt (padN l k)))), (2, some (.var zeroH)), (3, some (.var (st (perm iv))))], [500, 2, 3]⟩
def Ab_sum (l : List UInt8) (j : Nat) : St := ⟨[(0, .own 1 500 0 (padS l).length), (2, .ptr 2 []), (3, .ptr 3 []), (4, .int .i64 (8 * j : Nat))], [(500, some (.arr 1 (padS l).length (byteAt (padS l)))), (2, some (.var zeroH)), (3, some (.var (st (absN (padS l) j (perm iv)))))], [500, 2, 3]⟩
def Sq_sum (s : Nat → Int) (k : Nat) : St := ⟨[(2, .ptr 2 []), (3, .ptr 3 []), (5, .ptr 5 []), (6, .int .i64 (8 * k : Nat))], [(2, some (.var zeroH)), (3, some (.var (st (preN k s)))), (5, some (.var (.vec 1 32 (hashG s (8 * k)))))], [2, 3, 5]⟩

theorem sum_does (l : List UInt8) (h : l.length ≤ 1000000000000) : Does Try.prog 88 [bytesA l] [] [] (Is (hashA (sumS l)) []) := by
  refine Does.intro (fn := Try.f88) Try.func88 rfl rfl fun Γ hΓ => ?_
  refine W.run TOK 53 hΓ 1000 ?_
  conv => whnf
  refine ⟨?_, ?_⟩
  repeat' first
    | assumption
    | exact Bool.noConfusion hb
    | exact absurd hb (by decide)
    | (apply W.atRet (π := []) (r' := []) TOK; refine ⟨rfl, rfl, rfl, rfl, ⟨rfl, rfl⟩, ?_, ?_, ?_⟩)
    | ((first | refine W.branch rfl (fun hb => ?_) (fun hb => ?_) | refine D.branch rfl (fun hb => ?_) (fun hb => ?_)) <;> ((try simp only [qhb, addI, reduceCtorEq, Int.reduceToNat] at hb); (try replace hb := of_decide_eq_true hb); (try replace hb := of_decide_eq_false hb)))
    | (refine D.callF (perm_does iv) rfl rfl rfl rfl [] [] [] rfl rfl hΓ rfl ⟨⟨rfl, rfl, fun i hi => by match i, hi with | 0, _ | 1, _ | 2, _ | 3, _ | 4, _ => exact .of rfl⟩, trivial⟩ trivial (.inl rfl) rfl ?_; (conv => whnf))
    | (refine W.callF (perm_does iv) rfl rfl rfl rfl [] [] [] rfl rfl hΓ rfl ⟨⟨rfl, rfl, fun i hi => by match i, hi with | 0, _ | 1, _ | 2, _ | 3, _ | 4, _ => exact .of rfl⟩, trivial⟩ trivial (.inl rfl) ?_)
    | (refine W.go TOK 53 hΓ 1000 rfl ?_; (conv => whnf); refine ⟨?_, ?_⟩)
    | (refine D.go TOK 53 hΓ 1000 rfl ?_; (conv => whnf); refine ⟨?_, ?_⟩)
    | (refine W.drawn rfl rfl ?_; refine D.run TOK 53 hΓ 1000 ?_; (conv => whnf); refine ⟨?_, ?_⟩)
  all_goals try exact qco0
  rotate_right
  refine W.loop (fun k => k ≤ 7 - l.length % 8) (fun k => 8 - k) (Pd_sum l) 0 (Nat.zero_le _) (Weak.via [(500, 12), (2, 2), (3, 3)] rfl rfl rfl ⟨⟨rfl, rfl, rfl, rfl⟩, ⟨rfl, rfl⟩, ⟨rfl, rfl⟩, trivial⟩ ⟨⟨rfl, Nat.le_refl _, fun j hj => ?_⟩, ⟨rfl, rfl, fun _ _ => A.sim.refl _⟩, ⟨rfl, rfl, fun _ _ => A.sim.refl _⟩, trivial⟩) ?_
  · have e : padN l 0 = l ++ [1] := rfl
    rw [e]
    refine cat_sim rfl (fun _ _ => rfl) (fun i hi => ?_) hj
    have : i = 0 := by have : i < 1 := hi; omega
    subst this; rfl
  intro k hk ih
  have hk8 : l.length + 1 + k ≤ 1000000000008 := by omega
  dsimp only [Pd_sum]
  refine W.run TOK 53 hΓ 1000 ?_
  conv => whnf
  refine ⟨?_, ?_⟩
  repeat' first
    | assumption
    | exact Bool.noConfusion hb
    | exact absurd hb (by decide)
    | (refine W.to (ih (k + 1) ?_ ?_) (Weak.via [(500, 19), (2, 2), (3, 3)] rfl rfl rfl ⟨⟨rfl, rfl, rfl, rfl⟩, ⟨rfl, rfl⟩, ⟨rfl, rfl⟩, trivial⟩ ⟨⟨rfl, Nat.le_refl _, fun j hj => ?_⟩, ⟨rfl, rfl, fun _ _ => A.sim.refl _⟩, ⟨rfl, rfl, fun _ _ => A.sim.refl _⟩, trivial⟩))
    | (apply W.atRet (π := []) (r' := []) TOK; refine ⟨rfl, rfl, rfl, rfl, ⟨rfl, rfl⟩, ?_, ?_, ?_⟩)
    | ((first | refine W.branch rfl (fun hb => ?_) (fun hb => ?_) | refine D.branch rfl (fun hb => ?_) (fun hb => ?_)) <;> ((try simp only [qhb, addI, reduceCtorEq, Int.reduceToNat] at hb); (try replace hb := of_decide_eq_true hb); (try replace hb := of_decide_eq_false hb)))
    | (refine D.callF (perm_does iv) rfl rfl rfl rfl [] [] [] rfl rfl hΓ rfl ⟨⟨rfl, rfl, fun i hi => by match i, hi with | 0, _ | 1, _ | 2, _ | 3, _ | 4, _ => exact .of rfl⟩, trivial⟩ trivial (.inl rfl) rfl ?_; (conv => whnf))
    | (refine W.callF (perm_does iv) rfl rfl rfl rfl [] [] [] rfl rfl hΓ rfl ⟨⟨rfl, rfl, fun i hi => by match i, hi with | 0, _ | 1, _ | 2, _ | 3, _ | 4, _ => exact .of rfl⟩, trivial⟩ trivial (.inl rfl) ?_)
    | (refine W.go TOK 53 hΓ 1000 rfl ?_; (conv => whnf); refine ⟨?_, ?_⟩)
    | (refine D.go TOK 53 hΓ 1000 rfl ?_; (conv => whnf); refine ⟨?_, ?_⟩)
    | (refine W.drawn rfl rfl ?_; refine D.run TOK 53 hΓ 1000 ?_; (conv => whnf); refine ⟨?_, ?_⟩)
  all_goals try exact qco0
  rotate_right
  all_goals try (
    rw [← padN_snoc]
    refine cat_sim (padN_length l k).symm (fun _ _ => rfl) (fun i hi => ?_) hj
    have : i = 0 := by have : i < 1 := hi; omega
    subst this; rfl)
  have ek : k = 7 - l.length % 8 := by omega
  have elen : (padS l).length = l.length + 1 + k := by rw [padS_eq, padN_length, ek]
  have e8 : (padS l).length % 8 = 0 := by omega
  clear ih
  refine W.loop (fun j => 8 * j ≤ (padS l).length) (fun j => (padS l).length - 8 * j) (Ab_sum l) 0 (Nat.zero_le _) (Weak.via [(500, 500), (2, 2), (3, 3)] rfl rfl rfl ⟨⟨rfl, rfl, rfl, elen.symm⟩, ⟨rfl, rfl⟩, ⟨rfl, rfl⟩, ⟨rfl, rfl⟩, trivial⟩ ⟨⟨rfl, Nat.le_of_eq elen, fun j hj => by rw [padS_eq, ← ek]; exact .refl _⟩, ⟨rfl, rfl, fun _ _ => A.sim.refl _⟩, ⟨rfl, rfl, fun _ _ => A.sim.refl _⟩, trivial⟩) ?_
  intro j hj ih
  dsimp only [Ab_sum]
  refine W.run TOK 53 hΓ 1000 ?_
  conv => whnf
  refine ⟨?_, ?_⟩
  repeat' first
    | assumption
    | exact Bool.noConfusion hb
    | exact absurd hb (by decide)
    | (refine W.to (ih (j + 1) ?_ ?_) (Weak.via [(500, 500), (2, 2), (3, 3)] rfl rfl rfl ⟨⟨rfl, rfl, rfl, rfl⟩, ⟨rfl, rfl⟩, ⟨rfl, rfl⟩, ⟨rfl, ?_⟩, trivial⟩ ⟨⟨rfl, Nat.le_refl _, fun _ _ => A.sim.refl _⟩, ⟨rfl, rfl, fun _ _ => A.sim.refl _⟩, ⟨rfl, rfl, fun _ _ => A.sim.refl _⟩, trivial⟩))
    | (apply W.atRet (π := []) (r' := []) TOK; refine ⟨rfl, rfl, rfl, rfl, ⟨rfl, rfl⟩, ?_, ?_, ?_⟩)
    | ((first | refine W.branch rfl (fun hb => ?_) (fun hb => ?_) | refine D.branch rfl (fun hb => ?_) (fun hb => ?_)) <;> ((try simp only [qhb, addI, reduceCtorEq, Int.reduceToNat] at hb); (try replace hb := of_decide_eq_true hb); (try replace hb := of_decide_eq_false hb)))
    | (refine D.callF (word_does (blk (padS l) j) ?_) rfl rfl rfl rfl [] [500] [] rfl rfl hΓ rfl ⟨⟨rfl, rfl, ?_, rfl, ?_, fun i hi => ?_⟩, trivial⟩ trivial (.inr ⟨trivial, trivial⟩) rfl ?_; (conv => whnf))
    | (refine W.callF (word_does (blk (padS l) j) ?_) rfl rfl rfl rfl [] [500] [] rfl rfl hΓ rfl ⟨⟨rfl, rfl, ?_, rfl, ?_, fun i hi => ?_⟩, trivial⟩ trivial (.inr ⟨trivial, trivial⟩) ?_)
    | (refine D.callF (perm_does (put0 (absN (padS l) j (perm iv)) (xr (absN (padS l) j (perm iv) 0) (leN (blk (padS l) j))))) rfl rfl rfl rfl [] [] [] rfl rfl hΓ rfl ⟨⟨rfl, rfl, fun i hi => by match i, hi with | 0, _ | 1, _ | 2, _ | 3, _ | 4, _ => exact .of rfl⟩, trivial⟩ trivial (.inl rfl) rfl ?_; (conv => whnf))
    | (refine W.callF (perm_does (put0 (absN (padS l) j (perm iv)) (xr (absN (padS l) j (perm iv) 0) (leN (blk (padS l) j))))) rfl rfl rfl rfl [] [] [] rfl rfl hΓ rfl ⟨⟨rfl, rfl, fun i hi => by match i, hi with | 0, _ | 1, _ | 2, _ | 3, _ | 4, _ => exact .of rfl⟩, trivial⟩ trivial (.inl rfl) ?_)
    | (refine W.go TOK 53 hΓ 1000 rfl ?_; (conv => whnf); refine ⟨?_, ?_⟩)
    | (refine D.go TOK 53 hΓ 1000 rfl ?_; (conv => whnf); refine ⟨?_, ?_⟩)
    | (refine W.drawn rfl rfl ?_; refine D.run TOK 53 hΓ 1000 ?_; (conv => whnf); refine ⟨?_, ?_⟩)
  all_goals try exact qco0
  all_goals try (show _ = (blk (padS l) j).length; rw [blk_length _ _ (by omega)]; show (((8 * j : Nat) : Int) + 8).toNat - ((8 * j : Nat) : Int).toNat = 8; omega)
  all_goals try (show ((8 * j : Nat) : Int).toNat + ((((8 * j : Nat) : Int) + 8).toNat - ((8 * j : Nat) : Int).toNat) ≤ _; omega)
  all_goals try (have hi : i < (((8 * j : Nat) : Int) + 8).toNat - ((8 * j : Nat) : Int).toNat := hi
                 exact .of (blk_at _ _ _ (by omega)))
  all_goals try (show (blk (padS l) j).length ≤ 8; rw [blk_length _ _ (by omega)]; omega)
  all_goals try (show (blk (padS l) j).length = 8; rw [blk_length _ _ (by omega)])
  have ej : j = (padS l).length / 8 := by omega
  have hsum : sumS l = sumB (absN (padS l) j (perm iv)) := by rw [ej]; rfl
  rw [hsum]
  have hin : ∀ i, inr .u64 (absN (padS l) j (perm iv) i) := inr_absN _ _
  generalize absN (padS l) j (perm iv) = s at hin ⊢
  clear ih hsum
  refine W.loop (fun k => k ≤ 4) (fun k => 4 - k) (Sq_sum s) 0 (Nat.zero_le _) (Weak.via [(2, 2), (3, 3), (5, 5)] rfl rfl rfl ⟨⟨rfl, rfl⟩, ⟨rfl, rfl⟩, ⟨rfl, rfl⟩, ⟨rfl, rfl⟩, trivial⟩ ⟨⟨rfl, rfl, fun _ _ => A.sim.refl _⟩, ⟨rfl, rfl, fun _ _ => A.sim.refl _⟩, ⟨rfl, rfl, fun _ _ => .of rfl⟩, trivial⟩) ?_
  intro k hk ih
  dsimp only [Sq_sum]
  have hpre : preN 0 s = sqN 0 s := rfl
  by_cases hk4 : k < 4
  rotate_left
  · have e4 : k = 4 := by omega
    subst e4
    refine W.run TOK 53 hΓ 1000 ?_
    conv => whnf
    refine ⟨?_, ?_⟩
    repeat' first
      | assumption
      | exact Bool.noConfusion hb
      | exact absurd hb (by decide)
      | (apply W.atRet (π := []) (r' := []) TOK; refine ⟨rfl, rfl, rfl, rfl, ⟨rfl, rfl⟩, ?_, ?_, ?_⟩)
      | ((first | refine W.branch rfl (fun hb => ?_) (fun hb => ?_) | refine D.branch rfl (fun hb => ?_) (fun hb => ?_)) <;> ((try simp only [qhb, addI, reduceCtorEq, Int.reduceToNat] at hb); (try replace hb := of_decide_eq_true hb); (try replace hb := of_decide_eq_false hb)))
      | (refine D.callF (perm_does (preN k s)) rfl rfl rfl rfl [] [] [] rfl rfl hΓ rfl ⟨⟨rfl, rfl, fun _ _ => A.sim.refl _⟩, trivial⟩ trivial (.inl rfl) rfl ?_; (conv => whnf))
      | (refine W.callF (perm_does (preN k s)) rfl rfl rfl rfl [] [] [] rfl rfl hΓ rfl ⟨⟨rfl, rfl, fun _ _ => A.sim.refl _⟩, trivial⟩ trivial (.inl rfl) ?_)
      | (refine W.go TOK 53 hΓ 1000 rfl ?_; (conv => whnf); refine ⟨?_, ?_⟩)
      | (refine D.go TOK 53 hΓ 1000 rfl ?_; (conv => whnf); refine ⟨?_, ?_⟩)
      | (refine W.drawn rfl rfl ?_; refine D.run TOK 53 hΓ 1000 ?_; (conv => whnf); refine ⟨?_, ?_⟩)
    all_goals try exact qco0
    all_goals try (exact ⟨rfl, rfl, hashG_end s⟩)
  by_cases hk0 : k = 0
  · subst hk0
    have hnum : inr .u64 (preN 0 s 0) := hin 0
    refine W.run TOK 53 hΓ 1000 ?_
    conv => whnf
    refine ⟨?_, ?_⟩
    repeat' first
      | assumption
      | exact Bool.noConfusion hb
      | exact absurd hb (by decide)
      | (refine W.to (ih (0 + 1) ?_ ?_) (Weak.via [(2, 2), (3, 3), (5, 5)] rfl rfl rfl ⟨⟨rfl, rfl⟩, ⟨rfl, rfl⟩, ⟨rfl, rfl⟩, ⟨rfl, ?_⟩, trivial⟩ ⟨⟨rfl, rfl, fun _ _ => A.sim.refl _⟩, ⟨rfl, rfl, fun i hi => ?_⟩, ⟨rfl, rfl, fun i hi => ?_⟩, trivial⟩))
      | (apply W.atRet (π := []) (r' := []) TOK; refine ⟨rfl, rfl, rfl, rfl, ⟨rfl, rfl⟩, ?_, ?_, ?_⟩)
      | ((first | refine W.branch rfl (fun hb => ?_) (fun hb => ?_) | refine D.branch rfl (fun hb => ?_) (fun hb => ?_)) <;> ((try simp only [qhb, addI, reduceCtorEq, Int.reduceToNat] at hb); (try replace hb := of_decide_eq_true hb); (try replace hb := of_decide_eq_false hb)))
      | (refine D.callF (num_does (preN 0 s 0) ?_) rfl rfl rfl rfl [] [] [50] rfl rfl hΓ rfl ⟨⟨rfl, rfl⟩, trivial⟩ trivial (.inl rfl) rfl ?_; (conv => whnf))
      | (refine W.callF (num_does (preN 0 s 0) ?_) rfl rfl rfl rfl [] [] [50] rfl rfl hΓ rfl ⟨⟨rfl, rfl⟩, trivial⟩ trivial (.inl rfl) ?_)
      | (refine W.go TOK 53 hΓ 1000 rfl ?_; (conv => whnf); refine ⟨?_, ?_⟩)
      | (refine D.go TOK 53 hΓ 1000 rfl ?_; (conv => whnf); refine ⟨?_, ?_⟩)
      | (refine W.drawn rfl rfl ?_; refine D.run TOK 53 hΓ 1000 ?_; (conv => whnf); refine ⟨?_, ?_⟩)
    all_goals try exact qco0
    all_goals try (exact .of rfl)
    all_goals try (exact hashG_splice s 0 _ (by omega))
  · have hs := sqN_pre k s (by omega)
    have hnum : inr .u64 (perm (preN k s) 0) := inr_perm _ _
    refine W.run TOK 53 hΓ 1000 ?_
    conv => whnf
    refine ⟨?_, ?_⟩
    repeat' first
      | assumption
      | exact Bool.noConfusion hb
      | exact absurd hb (by decide)
      | (refine W.to (ih (k + 1) ?_ ?_) (Weak.via [(2, 2), (3, 3), (5, 5)] rfl rfl rfl ⟨⟨rfl, rfl⟩, ⟨rfl, rfl⟩, ⟨rfl, rfl⟩, ⟨rfl, ?_⟩, trivial⟩ ⟨⟨rfl, rfl, fun _ _ => A.sim.refl _⟩, ⟨rfl, rfl, fun i hi => ?_⟩, ⟨rfl, rfl, fun i hi => ?_⟩, trivial⟩))
      | (apply W.atRet (π := []) (r' := []) TOK; refine ⟨rfl, rfl, rfl, rfl, ⟨rfl, rfl⟩, ?_, ?_, ?_⟩)
      | ((first | refine W.branch rfl (fun hb => ?_) (fun hb => ?_) | refine D.branch rfl (fun hb => ?_) (fun hb => ?_)) <;> ((try simp only [qhb, addI, reduceCtorEq, Int.reduceToNat] at hb); (try replace hb := of_decide_eq_true hb); (try replace hb := of_decide_eq_false hb)))
      | (refine D.callF (perm_does (preN k s)) rfl rfl rfl rfl [] [] [] rfl rfl hΓ rfl ⟨⟨rfl, rfl, fun _ _ => A.sim.refl _⟩, trivial⟩ trivial (.inl rfl) rfl ?_; (conv => whnf))
      | (refine W.callF (perm_does (preN k s)) rfl rfl rfl rfl [] [] [] rfl rfl hΓ rfl ⟨⟨rfl, rfl, fun _ _ => A.sim.refl _⟩, trivial⟩ trivial (.inl rfl) ?_)
      | (refine D.callF (num_does (perm (preN k s) 0) ?_) rfl rfl rfl rfl [] [] [50] rfl rfl hΓ rfl ⟨⟨rfl, rfl⟩, trivial⟩ trivial (.inl rfl) rfl ?_; (conv => whnf))
      | (refine W.callF (num_does (perm (preN k s) 0) ?_) rfl rfl rfl rfl [] [] [50] rfl rfl hΓ rfl ⟨⟨rfl, rfl⟩, trivial⟩ trivial (.inl rfl) ?_)
      | (refine W.go TOK 53 hΓ 1000 rfl ?_; (conv => whnf); refine ⟨?_, ?_⟩)
      | (refine D.go TOK 53 hΓ 1000 rfl ?_; (conv => whnf); refine ⟨?_, ?_⟩)
      | (refine W.drawn rfl rfl ?_; refine D.run TOK 53 hΓ 1000 ?_; (conv => whnf); refine ⟨?_, ?_⟩)
    all_goals try exact qco0
    all_goals try (exact .of (by show A.int .u64 (perm (preN k s) i) = .int .u64 (sqN k s i); rw [hs]))
    all_goals try (
      show (spliceF (hashG s (8 * k)) (8 * k) (min 8 (32 - 8 * k)) (byteAt (numS (perm (preN k s) 0))) i).sim _
      rw [hs, show min 8 (32 - 8 * k) = 8 by omega]
      exact hashG_splice s k i (by omega))


def Pd_rsum (l : List UInt8) (k : Nat) : St := ⟨[(3, .own 1 500 0 (l.length + 1 + k)), (2, .ptr 2 [])], [(500, some (.arr 1 (l.length + 1 + k) (byteAt (padN l k)))), (2, some (.var zeroH))], [500, 2]⟩
def Ab_rsum (l : List UInt8) (j : Nat) : St := ⟨[(3, .own 1 500 0 (padS l).length), (2, .ptr 2 []), (4, .ptr 4 []), (5, .int .i64 (8 * j : Nat))], [(500, some (.arr 1 (padS l).length (byteAt (padS l)))), (2, some (.var zeroH)), (4, some (.var (st (absN (padS l) j (perm iv)))))], [500, 2, 4]⟩
def Sq_rsum (s : Nat → Int) (k : Nat) : St := ⟨[(2, .ptr 2 []), (4, .ptr 4 []), (6, .ptr 6 []), (7, .int .i64 (k : Nat))], [(2, some (.var zeroH)), (4, some (.var (st (preN k s)))), (6, some (.var (.vec 1 32 (hashG s (8 * k)))))], [2, 4, 6]⟩

def Sr_rsum (s : Nat → Int) (k i : Nat) : St := ⟨[(2, .ptr 2 []), (4, .ptr 4 []), (6, .ptr 6 []), (7, .int .i64 k), (8, .own 1 501 0 8), (9, .int .i64 i)], [(2, some (.var zeroH)), (4, some (.var (st (sqN k s)))), (6, some (.var (.vec 1 32 (hashG s (8 * k + i))))), (501, some (.arr 1 8 (byteAt (numS (sqN k s 0)))))], [2, 4, 6, 501]⟩

theorem rsum_does (l : List UInt8) (h : l.length ≤ 1000000000000) : Does Try.prog 84 [bytesA l] [] [] (Is (hashA (sumS l)) []) := by
  refine Does.intro (fn := Try.f84) Try.func84 rfl rfl fun Γ hΓ => ?_
  refine W.run TOK 66 hΓ 1000 ?_
  conv => whnf
  refine ⟨?_, ?_⟩
  repeat' first
    | assumption
    | exact Bool.noConfusion hb
    | exact absurd hb (by decide)
    | (apply W.atRet (π := []) (r' := []) TOK; refine ⟨rfl, rfl, rfl, rfl, ⟨rfl, rfl⟩, ?_, ?_, ?_⟩)
    | ((first | refine W.branch rfl (fun hb => ?_) (fun hb => ?_) | refine D.branch rfl (fun hb => ?_) (fun hb => ?_)) <;> ((try simp only [qhb, addI, reduceCtorEq, Int.reduceToNat] at hb); (try replace hb := of_decide_eq_true hb); (try replace hb := of_decide_eq_false hb)))
    | (refine D.callF (rperm_does iv) rfl rfl rfl rfl [] [] [] rfl rfl hΓ rfl ⟨⟨rfl, rfl, fun i hi => by match i, hi with | 0, _ | 1, _ | 2, _ | 3, _ | 4, _ => exact .of rfl⟩, trivial⟩ trivial (.inl rfl) rfl ?_; (conv => whnf))
    | (refine W.callF (rperm_does iv) rfl rfl rfl rfl [] [] [] rfl rfl hΓ rfl ⟨⟨rfl, rfl, fun i hi => by match i, hi with | 0, _ | 1, _ | 2, _ | 3, _ | 4, _ => exact .of rfl⟩, trivial⟩ trivial (.inl rfl) ?_)
    | (refine W.go TOK 66 hΓ 1000 rfl ?_; (conv => whnf); refine ⟨?_, ?_⟩)
    | (refine D.go TOK 66 hΓ 1000 rfl ?_; (conv => whnf); refine ⟨?_, ?_⟩)
    | (refine W.drawn rfl rfl ?_; refine D.run TOK 66 hΓ 1000 ?_; (conv => whnf); refine ⟨?_, ?_⟩)
  all_goals try exact qco0
  rotate_right
  refine W.loop (fun k => k ≤ 7 - l.length % 8) (fun k => 8 - k) (Pd_rsum l) 0 (Nat.zero_le _) (Weak.via [(500, 13), (2, 2)] rfl rfl rfl ⟨⟨rfl, rfl, rfl, rfl⟩, ⟨rfl, rfl⟩, trivial⟩ ⟨⟨rfl, Nat.le_refl _, fun j hj => ?_⟩, ⟨rfl, rfl, fun _ _ => A.sim.refl _⟩, trivial⟩) ?_
  · have e : padN l 0 = l ++ [1] := rfl
    rw [e]
    refine cat_sim rfl (fun _ _ => rfl) (fun i hi => ?_) hj
    have : i = 0 := by have : i < 1 := hi; omega
    subst this; rfl
  intro k hk ih
  have hk8 : l.length + 1 + k ≤ 1000000000008 := by omega
  dsimp only [Pd_rsum]
  refine W.run TOK 66 hΓ 1000 ?_
  conv => whnf
  refine ⟨?_, ?_⟩
  repeat' first
    | assumption
    | exact Bool.noConfusion hb
    | exact absurd hb (by decide)
    | (refine W.to (ih (k + 1) ?_ ?_) (Weak.via [(500, 20), (2, 2)] rfl rfl rfl ⟨⟨rfl, rfl, rfl, rfl⟩, ⟨rfl, rfl⟩, trivial⟩ ⟨⟨rfl, Nat.le_refl _, fun j hj => ?_⟩, ⟨rfl, rfl, fun _ _ => A.sim.refl _⟩, trivial⟩))
    | (apply W.atRet (π := []) (r' := []) TOK; refine ⟨rfl, rfl, rfl, rfl, ⟨rfl, rfl⟩, ?_, ?_, ?_⟩)
    | ((first | refine W.branch rfl (fun hb => ?_) (fun hb => ?_) | refine D.branch rfl (fun hb => ?_) (fun hb => ?_)) <;> ((try simp only [qhb, addI, reduceCtorEq, Int.reduceToNat] at hb); (try replace hb := of_decide_eq_true hb); (try replace hb := of_decide_eq_false hb)))
    | (refine D.callF (rperm_does iv) rfl rfl rfl rfl [] [] [] rfl rfl hΓ rfl ⟨⟨rfl, rfl, fun i hi => by match i, hi with | 0, _ | 1, _ | 2, _ | 3, _ | 4, _ => exact .of rfl⟩, trivial⟩ trivial (.inl rfl) rfl ?_; (conv => whnf))
    | (refine W.callF (rperm_does iv) rfl rfl rfl rfl [] [] [] rfl rfl hΓ rfl ⟨⟨rfl, rfl, fun i hi => by match i, hi with | 0, _ | 1, _ | 2, _ | 3, _ | 4, _ => exact .of rfl⟩, trivial⟩ trivial (.inl rfl) ?_)
    | (refine W.go TOK 66 hΓ 1000 rfl ?_; (conv => whnf); refine ⟨?_, ?_⟩)
    | (refine D.go TOK 66 hΓ 1000 rfl ?_; (conv => whnf); refine ⟨?_, ?_⟩)
    | (refine W.drawn rfl rfl ?_; refine D.run TOK 66 hΓ 1000 ?_; (conv => whnf); refine ⟨?_, ?_⟩)
  all_goals try exact qco0
  rotate_right
  all_goals try (
    rw [← padN_snoc]
    refine cat_sim (padN_length l k).symm (fun _ _ => rfl) (fun i hi => ?_) hj
    have : i = 0 := by have : i < 1 := hi; omega
    subst this; rfl)
  have ek : k = 7 - l.length % 8 := by omega
  have elen : (padS l).length = l.length + 1 + k := by rw [padS_eq, padN_length, ek]
  have e8 : (padS l).length % 8 = 0 := by omega
  clear ih
  refine W.loop (fun j => 8 * j ≤ (padS l).length) (fun j => (padS l).length - 8 * j) (Ab_rsum l) 0 (Nat.zero_le _) (Weak.via [(500, 500), (2, 2), (4, 4)] rfl rfl rfl ⟨⟨rfl, rfl, rfl, elen.symm⟩, ⟨rfl, rfl⟩, ⟨rfl, rfl⟩, ⟨rfl, rfl⟩, trivial⟩ ⟨⟨rfl, Nat.le_of_eq elen, fun j hj => by rw [padS_eq, ← ek]; exact .refl _⟩, ⟨rfl, rfl, fun _ _ => A.sim.refl _⟩, ⟨rfl, rfl, fun _ _ => A.sim.refl _⟩, trivial⟩) ?_
  intro j hj ih
  dsimp only [Ab_rsum]
  refine W.run TOK 66 hΓ 1000 ?_
  conv => whnf
  refine ⟨?_, ?_⟩
  repeat' first
    | assumption
    | exact Bool.noConfusion hb
    | exact absurd hb (by decide)
    | (refine W.to (ih (j + 1) ?_ ?_) (Weak.via [(500, 500), (2, 2), (4, 4)] rfl rfl rfl ⟨⟨rfl, rfl, rfl, rfl⟩, ⟨rfl, rfl⟩, ⟨rfl, rfl⟩, ⟨rfl, ?_⟩, trivial⟩ ⟨⟨rfl, Nat.le_refl _, fun _ _ => A.sim.refl _⟩, ⟨rfl, rfl, fun _ _ => A.sim.refl _⟩, ⟨rfl, rfl, fun _ _ => A.sim.refl _⟩, trivial⟩))
    | (apply W.atRet (π := []) (r' := []) TOK; refine ⟨rfl, rfl, rfl, rfl, ⟨rfl, rfl⟩, ?_, ?_, ?_⟩)
    | ((first | refine W.branch rfl (fun hb => ?_) (fun hb => ?_) | refine D.branch rfl (fun hb => ?_) (fun hb => ?_)) <;> ((try simp only [qhb, addI, reduceCtorEq, Int.reduceToNat] at hb); (try replace hb := of_decide_eq_true hb); (try replace hb := of_decide_eq_false hb)))
    | (refine D.callF (rword_does (blk (padS l) j) ?_) rfl rfl rfl rfl [] [500] [] rfl rfl hΓ rfl ⟨⟨rfl, rfl, ?_, rfl, ?_, fun i hi => ?_⟩, trivial⟩ trivial (.inr ⟨trivial, trivial⟩) rfl ?_; (conv => whnf))
    | (refine W.callF (rword_does (blk (padS l) j) ?_) rfl rfl rfl rfl [] [500] [] rfl rfl hΓ rfl ⟨⟨rfl, rfl, ?_, rfl, ?_, fun i hi => ?_⟩, trivial⟩ trivial (.inr ⟨trivial, trivial⟩) ?_)
    | (refine D.callF (rperm_does (put0 (absN (padS l) j (perm iv)) (xr (absN (padS l) j (perm iv) 0) (leN (blk (padS l) j))))) rfl rfl rfl rfl [] [] [] rfl rfl hΓ rfl ⟨⟨rfl, rfl, fun i hi => by match i, hi with | 0, _ | 1, _ | 2, _ | 3, _ | 4, _ => exact .of rfl⟩, trivial⟩ trivial (.inl rfl) rfl ?_; (conv => whnf))
    | (refine W.callF (rperm_does (put0 (absN (padS l) j (perm iv)) (xr (absN (padS l) j (perm iv) 0) (leN (blk (padS l) j))))) rfl rfl rfl rfl [] [] [] rfl rfl hΓ rfl ⟨⟨rfl, rfl, fun i hi => by match i, hi with | 0, _ | 1, _ | 2, _ | 3, _ | 4, _ => exact .of rfl⟩, trivial⟩ trivial (.inl rfl) ?_)
    | (refine W.go TOK 66 hΓ 1000 rfl ?_; (conv => whnf); refine ⟨?_, ?_⟩)
    | (refine D.go TOK 66 hΓ 1000 rfl ?_; (conv => whnf); refine ⟨?_, ?_⟩)
    | (refine W.drawn rfl rfl ?_; refine D.run TOK 66 hΓ 1000 ?_; (conv => whnf); refine ⟨?_, ?_⟩)
  all_goals try exact qco0
  all_goals try (show _ = (blk (padS l) j).length; rw [blk_length _ _ (by omega)]; show (((8 * j : Nat) : Int) + 8).toNat - ((8 * j : Nat) : Int).toNat = 8; omega)
  all_goals try (show ((8 * j : Nat) : Int).toNat + ((((8 * j : Nat) : Int) + 8).toNat - ((8 * j : Nat) : Int).toNat) ≤ _; omega)
  all_goals try (have hi : i < (((8 * j : Nat) : Int) + 8).toNat - ((8 * j : Nat) : Int).toNat := hi
                 exact .of (blk_at _ _ _ (by omega)))
  all_goals try (show (blk (padS l) j).length ≤ 8; rw [blk_length _ _ (by omega)]; omega)
  all_goals try (show (blk (padS l) j).length = 8; rw [blk_length _ _ (by omega)])
  have ej : j = (padS l).length / 8 := by omega
  have hsum : sumS l = sumB (absN (padS l) j (perm iv)) := by rw [ej]; rfl
  rw [hsum]
  have hin : ∀ i, inr .u64 (absN (padS l) j (perm iv) i) := inr_absN _ _
  generalize absN (padS l) j (perm iv) = s at hin ⊢
  clear ih hsum
  refine W.loop (fun k => k ≤ 4) (fun k => 4 - k) (Sq_rsum s) 0 (Nat.zero_le _) (Weak.via [(2, 2), (4, 4), (6, 6)] rfl rfl rfl ⟨⟨rfl, rfl⟩, ⟨rfl, rfl⟩, ⟨rfl, rfl⟩, ⟨rfl, rfl⟩, trivial⟩ ⟨⟨rfl, rfl, fun _ _ => A.sim.refl _⟩, ⟨rfl, rfl, fun _ _ => A.sim.refl _⟩, ⟨rfl, rfl, fun _ _ => .of rfl⟩, trivial⟩) ?_
  intro k hk ih
  dsimp only [Sq_rsum]
  have hpre : preN 0 s = sqN 0 s := rfl
  by_cases hk4 : k < 4
  rotate_left
  · have e4 : k = 4 := by omega
    subst e4
    refine W.run TOK 66 hΓ 1000 ?_
    conv => whnf
    refine ⟨?_, ?_⟩
    repeat' first
      | assumption
      | exact Bool.noConfusion hb
      | exact absurd hb (by decide)
      | (apply W.atRet (π := []) (r' := []) TOK; refine ⟨rfl, rfl, rfl, rfl, ⟨rfl, rfl⟩, ?_, ?_, ?_⟩)
      | ((first | refine W.branch rfl (fun hb => ?_) (fun hb => ?_) | refine D.branch rfl (fun hb => ?_) (fun hb => ?_)) <;> ((try simp only [qhb, addI, reduceCtorEq, Int.reduceToNat] at hb); (try replace hb := of_decide_eq_true hb); (try replace hb := of_decide_eq_false hb)))
      | (refine D.callF (rperm_does (preN k s)) rfl rfl rfl rfl [] [] [] rfl rfl hΓ rfl ⟨⟨rfl, rfl, fun _ _ => A.sim.refl _⟩, trivial⟩ trivial (.inl rfl) rfl ?_; (conv => whnf))
      | (refine W.callF (rperm_does (preN k s)) rfl rfl rfl rfl [] [] [] rfl rfl hΓ rfl ⟨⟨rfl, rfl, fun _ _ => A.sim.refl _⟩, trivial⟩ trivial (.inl rfl) ?_)
      | (refine W.go TOK 66 hΓ 1000 rfl ?_; (conv => whnf); refine ⟨?_, ?_⟩)
      | (refine D.go TOK 66 hΓ 1000 rfl ?_; (conv => whnf); refine ⟨?_, ?_⟩)
      | (refine W.drawn rfl rfl ?_; refine D.run TOK 66 hΓ 1000 ?_; (conv => whnf); refine ⟨?_, ?_⟩)
    all_goals try exact qco0
    all_goals try (exact ⟨rfl, rfl, hashG_end s⟩)
  have hs := fun h => sqN_pre k s h
  have hps : ∀ i, (A.int .u64 (perm (preN k s) i)) = if 0 < k then .int .u64 (sqN k s i) else .int .u64 (perm (preN k s) i) := fun i => by
    split
    · rw [hs (by assumption)]
    · rfl
  have hnum0 : inr .u64 (preN k s 0) := by
    cases k with
    | zero => exact hin 0
    | succ k => exact inr_sqN k hin 0
  have hnum : inr .u64 (perm (preN k s) 0) := inr_perm _ _
  refine W.run TOK 66 hΓ 1000 ?_
  conv => whnf
  refine ⟨?_, ?_⟩
  repeat' first
    | assumption
    | exact Bool.noConfusion hb
    | exact absurd hb (by decide)
    | (apply W.atRet (π := []) (r' := []) TOK; refine ⟨rfl, rfl, rfl, rfl, ⟨rfl, rfl⟩, ?_, ?_, ?_⟩)
    | ((first | refine W.branch rfl (fun hb => ?_) (fun hb => ?_) | refine D.branch rfl (fun hb => ?_) (fun hb => ?_)) <;> ((try simp only [qhb, addI, reduceCtorEq, Int.reduceToNat] at hb); (try replace hb := of_decide_eq_true hb); (try replace hb := of_decide_eq_false hb)))
    | (refine D.callF (rperm_does (preN k s)) rfl rfl rfl rfl [] [] [] rfl rfl hΓ rfl ⟨⟨rfl, rfl, fun _ _ => A.sim.refl _⟩, trivial⟩ trivial (.inl rfl) rfl ?_; (conv => whnf))
    | (refine W.callF (rperm_does (preN k s)) rfl rfl rfl rfl [] [] [] rfl rfl hΓ rfl ⟨⟨rfl, rfl, fun _ _ => A.sim.refl _⟩, trivial⟩ trivial (.inl rfl) ?_)
    | (refine D.callF (rnum_does (preN k s 0) ?_) rfl rfl rfl rfl [] [] [51] rfl rfl hΓ rfl ⟨⟨rfl, rfl⟩, trivial⟩ trivial (.inl rfl) rfl ?_; (conv => whnf))
    | (refine W.callF (rnum_does (preN k s 0) ?_) rfl rfl rfl rfl [] [] [51] rfl rfl hΓ rfl ⟨⟨rfl, rfl⟩, trivial⟩ trivial (.inl rfl) ?_)
    | (refine D.callF (rnum_does (perm (preN k s) 0) ?_) rfl rfl rfl rfl [] [] [51] rfl rfl hΓ rfl ⟨⟨rfl, rfl⟩, trivial⟩ trivial (.inl rfl) rfl ?_; (conv => whnf))
    | (refine W.callF (rnum_does (perm (preN k s) 0) ?_) rfl rfl rfl rfl [] [] [51] rfl rfl hΓ rfl ⟨⟨rfl, rfl⟩, trivial⟩ trivial (.inl rfl) ?_)
    | (refine W.go TOK 66 hΓ 1000 rfl ?_; (conv => whnf); refine ⟨?_, ?_⟩)
    | (refine D.go TOK 66 hΓ 1000 rfl ?_; (conv => whnf); refine ⟨?_, ?_⟩)
    | (refine W.drawn rfl rfl ?_; refine D.run TOK 66 hΓ 1000 ?_; (conv => whnf); refine ⟨?_, ?_⟩)
  all_goals try exact qco0
  all_goals
    have hw : ∀ i, byteAt (numS (sqN k s 0)) i = byteAt (numS (sqN k s 0)) i := fun _ => rfl
    refine W.loop (fun i => i ≤ 8) (fun i => 8 - i) (Sr_rsum s k) 0 (Nat.zero_le _) (Weak.via [(2, 2), (4, 4), (6, 6), (501, 51)] rfl rfl rfl ⟨⟨rfl, rfl⟩, ⟨rfl, rfl⟩, ⟨rfl, rfl⟩, ⟨rfl, rfl⟩, ⟨rfl, rfl, rfl, rfl⟩, ⟨rfl, rfl⟩, trivial⟩ ⟨⟨rfl, rfl, fun _ _ => A.sim.refl _⟩, ⟨rfl, rfl, fun i hi => ?_⟩, ⟨rfl, rfl, fun _ _ => .refl _⟩, ⟨rfl, Nat.le_refl _, fun i hi => ?_⟩, trivial⟩) ?_
    · first
        | exact .of (by show A.int .u64 (perm (preN k s) i) = .int .u64 (sqN k s i); rw [hs (by omega)])
        | (have e0 : k = 0 := by omega
           subst e0; exact .of rfl)
    · first
        | exact .of (by show byteAt (numS (perm (preN k s) 0)) i = byteAt (numS (sqN k s 0)) i; rw [hs (by omega)])
        | (have e0 : k = 0 := by omega
           subst e0; exact .of rfl)
    intro i hi ihr
    dsimp only [Sr_rsum]
    refine W.run TOK 66 hΓ 1000 ?_
    conv => whnf
    refine ⟨?_, ?_⟩
    repeat' first
      | assumption
      | exact Bool.noConfusion hb
      | exact absurd hb (by decide)
      | (refine W.to (ihr (i + 1) ?_ ?_) (Weak.via [(2, 2), (4, 4), (6, 6), (501, 501)] rfl rfl rfl ⟨⟨rfl, rfl⟩, ⟨rfl, rfl⟩, ⟨rfl, rfl⟩, ⟨rfl, rfl⟩, ⟨rfl, rfl, rfl, rfl⟩, ⟨rfl, rfl⟩, trivial⟩ ⟨⟨rfl, rfl, fun _ _ => A.sim.refl _⟩, ⟨rfl, rfl, fun _ _ => A.sim.refl _⟩, ⟨rfl, rfl, fun j hj => hashG_set s k i j (by omega) (by omega)⟩, ⟨rfl, Nat.le_refl _, fun _ _ => .refl _⟩, trivial⟩))
      | (refine W.to (ih (k + 1) ?_ ?_) (Weak.via [(2, 2), (4, 4), (6, 6)] rfl rfl rfl ⟨⟨rfl, rfl⟩, ⟨rfl, rfl⟩, ⟨rfl, rfl⟩, ⟨rfl, ?_⟩, trivial⟩ ⟨⟨rfl, rfl, fun _ _ => A.sim.refl _⟩, ⟨rfl, rfl, fun _ _ => .of rfl⟩, ⟨rfl, rfl, fun j hj => ?_⟩, trivial⟩))
      | ((first | refine W.branch rfl (fun hb => ?_) (fun hb => ?_) | refine D.branch rfl (fun hb => ?_) (fun hb => ?_)) <;> ((try simp only [qhb, addI, reduceCtorEq, Int.reduceToNat] at hb); (try replace hb := of_decide_eq_true hb); (try replace hb := of_decide_eq_false hb)))
      | (refine W.go TOK 66 hΓ 1000 rfl ?_; (conv => whnf); refine ⟨?_, ?_⟩)
      | (refine D.go TOK 66 hΓ 1000 rfl ?_; (conv => whnf); refine ⟨?_, ?_⟩)
      | (refine W.drawn rfl rfl ?_; refine D.run TOK 66 hΓ 1000 ?_; (conv => whnf); refine ⟨?_, ?_⟩)
  all_goals try exact qco0
  all_goals try (have e8 : i = 8 := by omega
                 subst e8; exact .refl _)


theorem tag_does (tag : UInt8) (L : List (List UInt8)) (h : (textS tag L).length ≤ 1000000000000) : Does Try.prog 77 [VX.byte tag, sl 1 bytesA L] [] [] (Is (hashA (sumS (textS tag L))) []) := by
  refine Does.intro (fn := Try.f77) Try.func77 rfl rfl fun Γ hΓ => ?_
  refine W.run TOK 9 hΓ 1000 ?_
  conv => whnf
  refine ⟨?_, ?_⟩
  repeat' first
    | assumption
    | exact Bool.noConfusion hb
    | exact absurd hb (by decide)
    | (apply W.atRet (π := []) (r' := []) TOK; refine ⟨rfl, rfl, rfl, rfl, ⟨rfl, rfl⟩, ?_, ?_, ?_⟩)
    | ((first | refine W.branch rfl (fun hb => ?_) (fun hb => ?_) | refine D.branch rfl (fun hb => ?_) (fun hb => ?_)) <;> ((try simp only [qhb, addI, reduceCtorEq, Int.reduceToNat] at hb); (try replace hb := of_decide_eq_true hb); (try replace hb := of_decide_eq_false hb)))
    | (refine D.callF (text_does tag L h) rfl rfl rfl rfl [] [] [7] rfl rfl hΓ rfl ⟨⟨rfl, rfl⟩, ⟨rfl, rfl, fun _ _ => A.sim.refl _⟩, trivial⟩ trivial (.inl rfl) rfl ?_; (conv => whnf))
    | (refine W.callF (text_does tag L h) rfl rfl rfl rfl [] [] [7] rfl rfl hΓ rfl ⟨⟨rfl, rfl⟩, ⟨rfl, rfl, fun _ _ => A.sim.refl _⟩, trivial⟩ trivial (.inl rfl) ?_)
    | (refine D.callF (sum_does (textS tag L) h) rfl rfl rfl rfl [] [7] [] rfl rfl hΓ rfl ⟨⟨rfl, rfl, rfl, rfl, Nat.le_of_eq (Nat.zero_add _), fun i hi => .of (by rw [Nat.zero_add])⟩, trivial⟩ trivial (.inr ⟨fun _ _ => trivial, trivial⟩) rfl ?_; (conv => whnf))
    | (refine W.callF (sum_does (textS tag L) h) rfl rfl rfl rfl [] [7] [] rfl rfl hΓ rfl ⟨⟨rfl, rfl, rfl, rfl, Nat.le_of_eq (Nat.zero_add _), fun i hi => .of (by rw [Nat.zero_add])⟩, trivial⟩ trivial (.inr ⟨fun _ _ => trivial, trivial⟩) ?_)
    | (refine W.go TOK 9 hΓ 1000 rfl ?_; (conv => whnf); refine ⟨?_, ?_⟩)
    | (refine D.go TOK 9 hΓ 1000 rfl ?_; (conv => whnf); refine ⟨?_, ?_⟩)
    | (refine W.drawn rfl rfl ?_; refine D.run TOK 9 hΓ 1000 ?_; (conv => whnf); refine ⟨?_, ?_⟩)
  all_goals try exact qco0
  all_goals try (exact ⟨rfl, rfl, fun _ _ => A.sim.refl _⟩)

theorem rtag_does (tag : UInt8) (L : List (List UInt8)) (h : (textS tag L).length ≤ 1000000000000) : Does Try.prog 67 [VX.byte tag, sl 1 bytesA L] [] [] (Is (hashA (sumS (textS tag L))) []) := by
  refine Does.intro (fn := Try.f67) Try.func67 rfl rfl fun Γ hΓ => ?_
  refine W.run TOK 9 hΓ 1000 ?_
  conv => whnf
  refine ⟨?_, ?_⟩
  repeat' first
    | assumption
    | exact Bool.noConfusion hb
    | exact absurd hb (by decide)
    | (apply W.atRet (π := []) (r' := []) TOK; refine ⟨rfl, rfl, rfl, rfl, ⟨rfl, rfl⟩, ?_, ?_, ?_⟩)
    | ((first | refine W.branch rfl (fun hb => ?_) (fun hb => ?_) | refine D.branch rfl (fun hb => ?_) (fun hb => ?_)) <;> ((try simp only [qhb, addI, reduceCtorEq, Int.reduceToNat] at hb); (try replace hb := of_decide_eq_true hb); (try replace hb := of_decide_eq_false hb)))
    | (refine D.callF (rtext_does tag L h) rfl rfl rfl rfl [] [] [7] rfl rfl hΓ rfl ⟨⟨rfl, rfl⟩, ⟨rfl, rfl, fun _ _ => A.sim.refl _⟩, trivial⟩ trivial (.inl rfl) rfl ?_; (conv => whnf))
    | (refine W.callF (rtext_does tag L h) rfl rfl rfl rfl [] [] [7] rfl rfl hΓ rfl ⟨⟨rfl, rfl⟩, ⟨rfl, rfl, fun _ _ => A.sim.refl _⟩, trivial⟩ trivial (.inl rfl) ?_)
    | (refine D.callF (rsum_does (textS tag L) h) rfl rfl rfl rfl [] [7] [] rfl rfl hΓ rfl ⟨⟨rfl, rfl, rfl, rfl, Nat.le_of_eq (Nat.zero_add _), fun i hi => .of (by rw [Nat.zero_add])⟩, trivial⟩ trivial (.inr ⟨fun _ _ => trivial, trivial⟩) rfl ?_; (conv => whnf))
    | (refine W.callF (rsum_does (textS tag L) h) rfl rfl rfl rfl [] [7] [] rfl rfl hΓ rfl ⟨⟨rfl, rfl, rfl, rfl, Nat.le_of_eq (Nat.zero_add _), fun i hi => .of (by rw [Nat.zero_add])⟩, trivial⟩ trivial (.inr ⟨fun _ _ => trivial, trivial⟩) ?_)
    | (refine W.go TOK 9 hΓ 1000 rfl ?_; (conv => whnf); refine ⟨?_, ?_⟩)
    | (refine D.go TOK 9 hΓ 1000 rfl ?_; (conv => whnf); refine ⟨?_, ?_⟩)
    | (refine W.drawn rfl rfl ?_; refine D.run TOK 9 hΓ 1000 ?_; (conv => whnf); refine ⟨?_, ?_⟩)
  all_goals try exact qco0
  all_goals try (exact ⟨rfl, rfl, fun _ _ => A.sim.refl _⟩)

end Go.Proofs.Ytcolghonbncpnaa
