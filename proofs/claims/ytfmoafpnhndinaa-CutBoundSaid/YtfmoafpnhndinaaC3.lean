/- Walks through functions of the program, and what they come to. -/
import Derived.Test.YtfmoafpnhndinaaC1
import Derived.Test.YtfmoafpnhndinaaVxG
set_option linter.unusedSimpArgs false
set_option linter.unusedVariables false
namespace Go.Proofs.Ytfmoafpnhndinaa
open VX
set_option maxRecDepth 100000
set_option maxHeartbeats 4000000

theorem catF_eq (n : Nat) (g h : Nat → A) (i : Nat) : catF n g h i = if i < n then g i else h (i - n) := by
  cases n with
  | zero => simp [catF]
  | succ n =>
    simp only [catF]
    by_cases e : i < n + 1
    · have : Nat.blt i (n + 1) = true := by simp [Nat.blt]; omega
      rw [this, if_pos e]; rfl
    · have : Nat.blt i (n + 1) = false := by
        cases h : Nat.blt i (n + 1) with
        | false => rfl
        | true => exact absurd (blt_lt h) e
      rw [this, if_neg e]; rfl
def sumN (L : Nat → Int) : Nat → Int
  | 0 => 0
  | n + 1 => sumN L n + L n
theorem sumN_congr {L M : Nat → Int} : ∀ n, (∀ j, j < n → L j = M j) → sumN L n = sumN M n
  | 0, _ => rfl
  | n + 1, h => by rw [sumN, sumN, sumN_congr n fun j hj => h j (by omega), h n (by omega)]
theorem sumN_nonneg {L : Nat → Int} : ∀ n, (∀ j, j < n → 0 ≤ L j) → 0 ≤ sumN L n
  | 0, _ => by simp [sumN]
  | n + 1, h => by
    have := sumN_nonneg n fun j hj => h j (by omega)
    have := h n (by omega)
    rw [sumN]; omega
theorem sumN_zero {L : Nat → Int} : ∀ n, (∀ j, j < n → L j ≤ 0) → sumN L n ≤ 0
  | 0, _ => by simp [sumN]
  | n + 1, h => by
    have := sumN_zero n fun j hj => h j (by omega)
    have := h n (by omega)
    rw [sumN]; omega
def upd (L : Nat → Int) (i : Nat) (v : Int) : Nat → Int := fun j => if j = i then v else L j
theorem sumN_upd {L : Nat → Int} {i : Nat} {v : Int} : ∀ n, sumN (upd L i v) n = if i < n then sumN L n + (v - L i) else sumN L n
  | 0 => by simp [sumN]
  | n + 1 => by
    rw [sumN, sumN, sumN_upd n]
    unfold upd
    by_cases e : n = i
    · subst e; simp; omega
    · rw [if_neg e]
      split <;> split <;> omega

structure B1 where
  i : Nat
  m : Nat
  L : Nat → Int
  n : Int
def arrI (m : Nat) (L : Nat → Int) : VX.Obj := .arr 1 m fun j => .int .i64 (L j)
def Sb1 (l : List UInt8) (x : B1) : St :=
  ⟨[(0, bytesA l), (3, .own 1 500 0 x.m), (4, .int .i64 x.n), (5, .int .i64 x.i)], [(500, some (arrI x.m x.L))], [500]⟩
def Jb1 (l : List UInt8) (x : B1) : Prop := x.i ≤ l.length ∧ x.m ≤ x.i ∧ x.n = sumN x.L x.m ∧ x.n ≤ 32 ∧ ∀ j, j < x.m → 0 ≤ x.L j ∧ x.L j ≤ 3
/-- The rounds: how many, what is left. -/
structure B2 where
  R : Int
  L : Nat → Int
  n : Int
def Sb2 (l : List UInt8) (all : Int) (m : Nat) (x : B2) : St :=
  ⟨[(3, .own 1 500 0 m), (4, .int .i64 x.n), (7, .int .i64 x.R), (8, .int .i64 all)], [(500, some (arrI m x.L))], [500]⟩
def Jb2 (all : Int) (m : Nat) (x : B2) : Prop := 0 ≤ all ∧ all ≤ 32 ∧ m ≤ 40 ∧ x.n = sumN x.L m ∧ ∃ e f : Int, 0 ≤ e ∧ e ≤ 3 ∧ 0 ≤ f ∧ x.R = e + f ∧ 8 * f ≤ all - x.n ∧ ∀ j, j < m → 0 ≤ x.L j ∧ x.L j ≤ 3 - e

structure B3 where
  i : Nat
  took : Int
  M : Nat → Int
  k : Int
def Sb3 (all : Int) (m : Nat) (R : Int) (x : B3) : St :=
  ⟨[(3, .own 1 500 0 m), (4, .int .i64 x.k), (7, .int .i64 R), (8, .int .i64 all), (9, .int .i64 x.took), (10, .int .i64 x.i)], [(500, some (arrI m x.M))], [500]⟩
def Jb3 (m : Nat) (L : Nat → Int) (n : Int) (x : B3) : Prop := x.i ≤ m ∧ 0 ≤ x.took ∧ x.took ≤ 8 ∧ x.k = n - x.took ∧ x.k = sumN x.M m ∧ (∀ j, j < m → 0 ≤ x.M j ∧ x.M j ≤ L j) ∧ (∀ j, j < x.i → x.M j ≤ L j - 1 ∨ x.M j ≤ 0) ∧ ∀ j, x.i ≤ j → x.M j = L j
structure B4 where
  i : Nat
  M : Nat → Int
def Sb4 (all : Int) (m : Nat) (R k : Int) (x : B4) : St :=
  ⟨[(3, .own 1 500 0 m), (4, .int .i64 k), (7, .int .i64 R), (8, .int .i64 all), (11, .int .i64 x.i)], [(500, some (arrI m x.M))], [500]⟩
def Jb4 (m : Nat) (k e : Int) (x : B4) : Prop := 1 ≤ x.i ∧ sumN x.M m = k ∧ ∀ j, j < m → 0 ≤ x.M j ∧ x.M j ≤ 3 - e
def Sb5 (all : Int) (m : Nat) (R k : Int) (i : Nat) (x : B4) : St :=
  ⟨[(3, .own 1 500 0 m), (4, .int .i64 k), (7, .int .i64 R), (8, .int .i64 all), (11, .int .i64 i), (12, .int .i64 x.i)], [(500, some (arrI m x.M))], [500]⟩
def Jb5 (m : Nat) (k e : Int) (i : Nat) (x : B4) : Prop := x.i ≤ i ∧ sumN x.M m = k ∧ ∀ j, j < m → 0 ≤ x.M j ∧ x.M j ≤ 3 - e
theorem setF_sim {L : Nat → Int} {i j : Nat} {v : Int} {k : IntKind} : (setF (fun j => .int k (L j)) i (.int k v) j).sim (.int k (upd L i v j)) := by
  unfold setF upd
  by_cases e : j = i
  · subst e; rw [Nat.beq_refl, if_pos rfl]; exact .refl _
  · rw [nbeq_ne e, if_neg e]; exact .refl _
theorem setF_sim2 {L : Nat → Int} {i i' j : Nat} {v v' : Int} {k : IntKind} : (setF (setF (fun j => .int k (L j)) i (.int k v)) i' (.int k v') j).sim (.int k (upd (upd L i v) i' v' j)) := by
  by_cases e : j = i'
  · subst e
    unfold setF upd
    rw [Nat.beq_refl, if_pos rfl]; exact .refl _
  · have h1 : setF (setF (fun j => A.int k (L j)) i (.int k v)) i' (.int k v') j = setF (fun j => A.int k (L j)) i (.int k v) j := by
      rw [setF, nbeq_ne e]; rfl
    have h2 : upd (upd L i v) i' v' j = upd L i v j := by rw [upd, if_neg e]
    rw [h1, h2]
    exact setF_sim
def kv (l : List UInt8) (i : Nat) (n : Int) : Int := if 32 - n < IntKind.i64.wrap (((l.getD i 0).toNat : Int) % 3) + 1 then 32 - n else IntKind.i64.wrap (((l.getD i 0).toNat : Int) % 3) + 1
theorem kv_eq (l : List UInt8) (i : Nat) (n : Int) : ∃ c : Int, 0 ≤ c ∧ c ≤ 2 ∧ IntKind.i64.wrap (((l.getD i 0).toNat : Int) % 3) = c ∧ kv l i n = if 32 - n < c + 1 then 32 - n else c + 1 := by
  refine ⟨((l.getD i 0).toNat : Int) % 3, by omega, by omega, ?_, ?_⟩
  · exact wrap_i64_in (by omega) (by omega)
  · unfold kv
    rw [wrap_i64_in (by omega) (by omega)]
theorem bound2_does (l : List UInt8) (hl : l.length ≤ 9223372036854775807) : Does Try.prog 4 [bytesA l] [] [] Yes := by
  refine Does.intro (fn := Try.f4) Try.func4 rfl rfl fun Γ hΓ => ?_
  refine W.run TOK 128 hΓ 1000 ?_
  conv => whnf
  refine ⟨?_, ?_⟩
  repeat' first
    | assumption
    | exact Bool.noConfusion hb
    | exact absurd hb (by decide)
    | (apply W.atRet (π := []) (r' := []) TOK; refine ⟨rfl, rfl, rfl, rfl, rfl, ?_, ?_, ?_⟩)
    | (refine W.branch rfl (fun hb => ?_) (fun hb => ?_) <;> ((try simp only [decide_eq_true_eq, decide_eq_false_iff_not, Bool.not_eq_true', Bool.not_eq_false', Int.not_lt, Int.not_le, cond_true, cond_false, reduceCtorEq, Int.toNat_natCast, addI] at hb); (try replace hb := of_decide_eq_true hb); (try replace hb := of_decide_eq_false hb)))
    | (refine D.branch rfl (fun hb => ?_) (fun hb => ?_) <;> ((try simp only [decide_eq_true_eq, decide_eq_false_iff_not, Bool.not_eq_true', Bool.not_eq_false', Int.not_lt, Int.not_le, cond_true, cond_false, reduceCtorEq, Int.toNat_natCast, addI] at hb); (try replace hb := of_decide_eq_true hb); (try replace hb := of_decide_eq_false hb)))
    | (refine D.callF (rounds_does _ _ ?_) rfl rfl rfl rfl [] [] [] rfl rfl hΓ rfl ⟨⟨rfl, rfl⟩, ⟨rfl, rfl⟩, trivial⟩ trivial (.inl rfl) rfl ?_; (conv => whnf))
    | (refine W.callF (rounds_does _ _ ?_) rfl rfl rfl rfl [] [] [] rfl rfl hΓ rfl ⟨⟨rfl, rfl⟩, ⟨rfl, rfl⟩, trivial⟩ trivial (.inl rfl) ?_)
    | (refine D.callF (bound_does) rfl rfl rfl rfl [] [] [] rfl rfl hΓ rfl trivial trivial (.inl rfl) rfl ?_; (conv => whnf))
    | (refine W.callF (bound_does) rfl rfl rfl rfl [] [] [] rfl rfl hΓ rfl trivial trivial (.inl rfl) ?_)
    | (refine D.callF (known_does) rfl rfl rfl rfl [] [] [] rfl rfl hΓ rfl trivial trivial (.inl rfl) rfl ?_; (conv => whnf))
    | (refine W.callF (known_does) rfl rfl rfl rfl [] [] [] rfl rfl hΓ rfl trivial trivial (.inl rfl) ?_)
    | (refine W.go TOK 128 hΓ 1000 rfl ?_; (conv => whnf); refine ⟨?_, ?_⟩)
    | (refine D.go TOK 128 hΓ 1000 rfl ?_; (conv => whnf); refine ⟨?_, ?_⟩)
    | (refine W.drawn rfl rfl ?_; refine D.run TOK 128 hΓ 1000 ?_; (conv => whnf); refine ⟨?_, ?_⟩)
  all_goals try (exact trivial)
  all_goals try (exact rfl)
  all_goals try omega
  all_goals try (simp only [allP, List.nil_append, List.append_nil, List.cons_append, List.append_eq, and_true, true_and, inr_i64, inr_u8, inr_u64, A.purePL, A.pureP, A.sureP, A.surePL, Int.toNat_natCast, addI]; omega)
  all_goals try (simp only [allP, List.nil_append, List.append_nil, List.cons_append, List.append_eq, and_true, true_and, inr_i64, inr_u8, inr_u64, A.purePL, A.pureP, A.sureP, A.surePL, Int.toNat_natCast, addI]; (repeat' apply And.intro) <;> first | exact trivial | rfl | omega | decide)
  have h40 : l.length ≤ 40 := by omega
  refine W.addNil 500 1 (fun j => .int .i64 0) rfl ?_
  refine W.loop (Jb1 l) (fun x => l.length - x.i) (Sb1 l) ⟨0, 0, fun _ => 0, 0⟩ ⟨Nat.zero_le _, Nat.le_refl _, rfl, by decide, fun j hj => absurd hj (Nat.not_lt_zero _)⟩
    (Weak.via [(500, 500)] rfl rfl rfl ⟨⟨rfl, rfl, fun _ _ => A.sim.refl _⟩, rfl, ⟨rfl, rfl⟩, ⟨rfl, rfl⟩, trivial⟩ ⟨⟨rfl, Nat.le_refl _, fun _ _ => A.sim.refl _⟩, trivial⟩) ?_
  rintro ⟨i, m, L, n⟩ ⟨q1, q2, q3, q4, q5⟩ ih
  dsimp only at q1 q2 q3 q4 q5
  have q6 := sumN_nonneg m fun j hj => (q5 j hj).1
  obtain ⟨c, c1, c2, c3, c4⟩ := kv_eq l i n
  have cl : ((l.getD i 0).toNat : Int) % 3 = c := by rw [← c3]; exact (wrap_i64_in (by omega) (by omega)).symm
  dsimp only [Sb1, arrI]
  refine W.run TOK 128 hΓ 1000 ?_
  conv => whnf
  refine ⟨?_, ?_⟩
  repeat' first
    | assumption
    | exact Bool.noConfusion hb
    | exact absurd hb (by decide)
    | (refine W.to (ih ⟨i + 1, m + 1, upd L m (kv l i n), n + kv l i n⟩ ?_ ?_) (Weak.via [(500, 39)] rfl rfl rfl ⟨⟨rfl, rfl, fun _ _ => A.sim.refl _⟩, ⟨rfl, rfl, rfl, rfl⟩, ⟨rfl, ?_⟩, ⟨rfl, ?_⟩, trivial⟩ ⟨⟨rfl, Nat.le_refl _, fun j hj => ?_⟩, trivial⟩))
    | (refine W.to (ih ⟨i + 1, m, L, n⟩ ?_ ?_) (Weak.via [(500, 500)] rfl rfl rfl ⟨⟨rfl, rfl, fun _ _ => A.sim.refl _⟩, ⟨rfl, rfl, rfl, rfl⟩, ⟨rfl, ?_⟩, ⟨rfl, ?_⟩, trivial⟩ ⟨⟨rfl, Nat.le_refl _, fun j hj => A.sim.refl _⟩, trivial⟩))
    | (apply W.atRet (π := []) (r' := []) TOK; refine ⟨rfl, rfl, rfl, rfl, rfl, ?_, ?_, ?_⟩)
    | (refine W.branch rfl (fun hb => ?_) (fun hb => ?_) <;> ((try simp only [decide_eq_true_eq, decide_eq_false_iff_not, Bool.not_eq_true', Bool.not_eq_false', Int.not_lt, Int.not_le, cond_true, cond_false, reduceCtorEq, Int.toNat_natCast, addI] at hb); (try replace hb := of_decide_eq_true hb); (try replace hb := of_decide_eq_false hb)))
    | (refine D.branch rfl (fun hb => ?_) (fun hb => ?_) <;> ((try simp only [decide_eq_true_eq, decide_eq_false_iff_not, Bool.not_eq_true', Bool.not_eq_false', Int.not_lt, Int.not_le, cond_true, cond_false, reduceCtorEq, Int.toNat_natCast, addI] at hb); (try replace hb := of_decide_eq_true hb); (try replace hb := of_decide_eq_false hb)))
    | (refine D.callF (rounds_does _ _ ?_) rfl rfl rfl rfl [] [] [] rfl rfl hΓ rfl ⟨⟨rfl, rfl⟩, ⟨rfl, rfl⟩, trivial⟩ trivial (.inl rfl) rfl ?_; (conv => whnf))
    | (refine W.callF (rounds_does _ _ ?_) rfl rfl rfl rfl [] [] [] rfl rfl hΓ rfl ⟨⟨rfl, rfl⟩, ⟨rfl, rfl⟩, trivial⟩ trivial (.inl rfl) ?_)
    | (refine D.callF (bound_does) rfl rfl rfl rfl [] [] [] rfl rfl hΓ rfl trivial trivial (.inl rfl) rfl ?_; (conv => whnf))
    | (refine W.callF (bound_does) rfl rfl rfl rfl [] [] [] rfl rfl hΓ rfl trivial trivial (.inl rfl) ?_)
    | (refine D.callF (known_does) rfl rfl rfl rfl [] [] [] rfl rfl hΓ rfl trivial trivial (.inl rfl) rfl ?_; (conv => whnf))
    | (refine W.callF (known_does) rfl rfl rfl rfl [] [] [] rfl rfl hΓ rfl trivial trivial (.inl rfl) ?_)
    | (refine W.go TOK 128 hΓ 1000 rfl ?_; (conv => whnf); refine ⟨?_, ?_⟩)
    | (refine D.go TOK 128 hΓ 1000 rfl ?_; (conv => whnf); refine ⟨?_, ?_⟩)
    | (refine W.drawn rfl rfl ?_; refine D.run TOK 128 hΓ 1000 ?_; (conv => whnf); refine ⟨?_, ?_⟩)
  all_goals try (exact trivial)
  all_goals try (exact rfl)
  all_goals try omega
  all_goals try (simp only [allP, List.nil_append, List.append_nil, List.cons_append, List.append_eq, and_true, true_and, inr_i64, inr_u8, inr_u64, A.purePL, A.pureP, A.sureP, A.surePL, Int.toNat_natCast, addI, c3]; omega)
  all_goals try (simp only [allP, List.nil_append, List.append_nil, List.cons_append, List.append_eq, and_true, true_and, inr_i64, inr_u8, inr_u64, A.purePL, A.pureP, A.sureP, A.surePL, Int.toNat_natCast, addI, c3]; (repeat' apply And.intro) <;> first | exact trivial | rfl | omega | decide)
  · have hk := ‹(0 : Int) < _›
    rw [c3] at hk
    have hk0 : 0 < kv l i n := by rw [c4]; exact hk
    have hk3 : kv l i n ≤ 3 ∧ n + kv l i n ≤ 32 := by rw [c4]; split <;> omega
    refine ⟨by show i + 1 ≤ _; omega, by show m + 1 ≤ i + 1; omega, ?_, hk3.2, ?_⟩
    · show n + kv l i n = sumN (upd L m (kv l i n)) (m + 1)
      rw [sumN, sumN_upd, if_neg (Nat.lt_irrefl _), ← q3]
      simp [upd]
    · intro j hj
      show 0 ≤ upd L m (kv l i n) j ∧ upd L m (kv l i n) j ≤ 3
      unfold upd
      split
      · omega
      · exact q5 j (by have : j < m + 1 := hj; omega)
  · have hj' : j < m + 1 := hj
    rw [catF_eq]
    show A.sim _ (.int .i64 (upd L m (kv l i n) j))
    unfold upd
    by_cases e : j < m
    · rw [if_pos e, if_neg (by omega)]; exact .refl _
    · have : j = m := by omega
      subst this
      rw [if_neg e, if_pos rfl, Nat.sub_self]; exact .refl _
  · exact ⟨by show i + 1 ≤ _; omega, by show m ≤ i + 1; omega, q3, q4, q5⟩
  have hall : 0 ≤ n := by omega
  clear ih c c1 c2 c3 c4 cl
  refine W.loop (Jb2 n m) (fun x => (100 - x.R).toNat) (Sb2 l n m) ⟨0, L, n⟩ ⟨hall, q4, by omega, q3, 0, 0, by omega, by omega, by omega, rfl, by show 8 * (0 : Int) ≤ n - n; omega, fun j hj => by have := q5 j hj; dsimp only; omega⟩
    (Weak.via [(500, 500)] rfl rfl rfl ⟨⟨rfl, rfl, rfl, rfl⟩, ⟨rfl, rfl⟩, ⟨rfl, rfl⟩, ⟨rfl, rfl⟩, trivial⟩ ⟨⟨rfl, Nat.le_refl _, fun _ _ => A.sim.refl _⟩, trivial⟩) ?_
  rintro ⟨R, L', n'⟩ ⟨p1, p2, p3, p4, e, f, e1, e2, f1, p5, p6, p7⟩ ih
  dsimp only at p1 p2 p3 p4 p5 p6 p7
  have p8 := sumN_nonneg m fun j hj => (p7 j hj).1
  have p9 : 8 * f ≤ n - n' := p6
  dsimp only [Sb2, arrI]
  refine W.run TOK 128 hΓ 1000 ?_
  conv => whnf
  refine ⟨?_, ?_⟩
  repeat' first
    | assumption
    | exact Bool.noConfusion hb
    | exact absurd hb (by decide)
    | (apply W.atRet (π := []) (r' := []) TOK; refine ⟨rfl, rfl, rfl, rfl, rfl, ?_, ?_, ?_⟩)
    | (refine W.branch rfl (fun hb => ?_) (fun hb => ?_) <;> ((try simp only [decide_eq_true_eq, decide_eq_false_iff_not, Bool.not_eq_true', Bool.not_eq_false', Int.not_lt, Int.not_le, cond_true, cond_false, reduceCtorEq, Int.toNat_natCast, addI] at hb); (try replace hb := of_decide_eq_true hb); (try replace hb := of_decide_eq_false hb)))
    | (refine D.branch rfl (fun hb => ?_) (fun hb => ?_) <;> ((try simp only [decide_eq_true_eq, decide_eq_false_iff_not, Bool.not_eq_true', Bool.not_eq_false', Int.not_lt, Int.not_le, cond_true, cond_false, reduceCtorEq, Int.toNat_natCast, addI] at hb); (try replace hb := of_decide_eq_true hb); (try replace hb := of_decide_eq_false hb)))
    | (refine D.callF (rounds_does _ _ ?_) rfl rfl rfl rfl [] [] [] rfl rfl hΓ rfl ⟨⟨rfl, rfl⟩, ⟨rfl, rfl⟩, trivial⟩ trivial (.inl rfl) rfl ?_; (conv => whnf))
    | (refine W.callF (rounds_does _ _ ?_) rfl rfl rfl rfl [] [] [] rfl rfl hΓ rfl ⟨⟨rfl, rfl⟩, ⟨rfl, rfl⟩, trivial⟩ trivial (.inl rfl) ?_)
    | (refine D.callF (bound_does) rfl rfl rfl rfl [] [] [] rfl rfl hΓ rfl trivial trivial (.inl rfl) rfl ?_; (conv => whnf))
    | (refine W.callF (bound_does) rfl rfl rfl rfl [] [] [] rfl rfl hΓ rfl trivial trivial (.inl rfl) ?_)
    | (refine D.callF (known_does) rfl rfl rfl rfl [] [] [] rfl rfl hΓ rfl trivial trivial (.inl rfl) rfl ?_; (conv => whnf))
    | (refine W.callF (known_does) rfl rfl rfl rfl [] [] [] rfl rfl hΓ rfl trivial trivial (.inl rfl) ?_)
    | (refine W.go TOK 128 hΓ 1000 rfl ?_; (conv => whnf); refine ⟨?_, ?_⟩)
    | (refine D.go TOK 128 hΓ 1000 rfl ?_; (conv => whnf); refine ⟨?_, ?_⟩)
    | (refine W.drawn rfl rfl ?_; refine D.run TOK 128 hΓ 1000 ?_; (conv => whnf); refine ⟨?_, ?_⟩)
  all_goals try (exact trivial)
  all_goals try (exact rfl)
  all_goals try omega
  all_goals try (simp only [allP, List.nil_append, List.append_nil, List.cons_append, List.append_eq, and_true, true_and, inr_i64, inr_u8, inr_u64, A.purePL, A.pureP, A.sureP, A.surePL, Int.toNat_natCast, addI]; omega)
  all_goals try (simp only [allP, List.nil_append, List.append_nil, List.cons_append, List.append_eq, and_true, true_and, inr_i64, inr_u8, inr_u64, A.purePL, A.pureP, A.sureP, A.surePL, Int.toNat_natCast, addI]; (repeat' apply And.intro) <;> first | exact trivial | rfl | omega | decide)
  rotate_left
  all_goals try (show (bif true then decide _ else false) = true; rw [cond_true, decide_eq_true_eq]; unfold rounds at *; omega)
  all_goals try (exfalso; unfold rounds at *; omega)
  refine W.loop (Jb3 m L' n') (fun x => m - x.i) (Sb3 n m R) ⟨0, 0, L', n'⟩ ⟨Nat.zero_le _, Int.le_refl _, (by decide : (0 : Int) ≤ 8), by show n' = n' - 0; omega, p4, fun j hj => by have := p7 j hj; dsimp only; omega, fun j hj => absurd hj (Nat.not_lt_zero _), fun j hj => rfl⟩
    (Weak.via [(500, 500)] rfl rfl rfl ⟨⟨rfl, rfl, rfl, rfl⟩, ⟨rfl, rfl⟩, ⟨rfl, rfl⟩, ⟨rfl, rfl⟩, ⟨rfl, rfl⟩, ⟨rfl, rfl⟩, trivial⟩ ⟨⟨rfl, Nat.le_refl _, fun _ _ => A.sim.refl _⟩, trivial⟩) ?_
  rintro ⟨i, took, M, k⟩ ⟨r1, r2, r3, r4, r5, r6, r7, r8⟩ ih3
  dsimp only at r1 r2 r3 r4 r5 r6 r7 r8
  have r9 := sumN_nonneg m fun j hj => (r6 j hj).1
  have r6i : i < m → 0 ≤ M i ∧ M i ≤ 3 := fun h => ⟨(r6 i h).1, by have := r6 i h; have := p7 i h; omega⟩
  dsimp only [Sb3, arrI]
  refine W.run TOK 128 hΓ 1000 ?_
  conv => whnf
  refine ⟨?_, ?_⟩
  repeat' first
    | assumption
    | exact Bool.noConfusion hb
    | exact absurd hb (by decide)
    | (refine W.to (ih3 ⟨i + 1, took, M, k⟩ ?_ ?_) (Weak.via [(500, 500)] rfl rfl rfl ⟨⟨rfl, rfl, rfl, rfl⟩, ⟨rfl, rfl⟩, ⟨rfl, rfl⟩, ⟨rfl, rfl⟩, ⟨rfl, rfl⟩, ⟨rfl, ?_⟩, trivial⟩ ⟨⟨rfl, Nat.le_refl _, fun j hj => A.sim.refl _⟩, trivial⟩))
    | (refine W.to (ih3 ⟨i + 1, took + 1, upd M i (M i - 1), k - 1⟩ ?_ ?_) (Weak.via [(500, 500)] rfl rfl rfl ⟨⟨rfl, rfl, rfl, rfl⟩, ⟨rfl, rfl⟩, ⟨rfl, rfl⟩, ⟨rfl, rfl⟩, ⟨rfl, rfl⟩, ⟨rfl, ?_⟩, trivial⟩ ⟨⟨rfl, Nat.le_refl _, fun j hj => setF_sim⟩, trivial⟩))
    | (apply W.atRet (π := []) (r' := []) TOK; refine ⟨rfl, rfl, rfl, rfl, rfl, ?_, ?_, ?_⟩)
    | (refine W.branch rfl (fun hb => ?_) (fun hb => ?_) <;> ((try simp only [decide_eq_true_eq, decide_eq_false_iff_not, Bool.not_eq_true', Bool.not_eq_false', Int.not_lt, Int.not_le, cond_true, cond_false, reduceCtorEq, Int.toNat_natCast, addI] at hb); (try replace hb := of_decide_eq_true hb); (try replace hb := of_decide_eq_false hb)))
    | (refine D.branch rfl (fun hb => ?_) (fun hb => ?_) <;> ((try simp only [decide_eq_true_eq, decide_eq_false_iff_not, Bool.not_eq_true', Bool.not_eq_false', Int.not_lt, Int.not_le, cond_true, cond_false, reduceCtorEq, Int.toNat_natCast, addI] at hb); (try replace hb := of_decide_eq_true hb); (try replace hb := of_decide_eq_false hb)))
    | (refine D.callF (rounds_does _ _ ?_) rfl rfl rfl rfl [] [] [] rfl rfl hΓ rfl ⟨⟨rfl, rfl⟩, ⟨rfl, rfl⟩, trivial⟩ trivial (.inl rfl) rfl ?_; (conv => whnf))
    | (refine W.callF (rounds_does _ _ ?_) rfl rfl rfl rfl [] [] [] rfl rfl hΓ rfl ⟨⟨rfl, rfl⟩, ⟨rfl, rfl⟩, trivial⟩ trivial (.inl rfl) ?_)
    | (refine D.callF (bound_does) rfl rfl rfl rfl [] [] [] rfl rfl hΓ rfl trivial trivial (.inl rfl) rfl ?_; (conv => whnf))
    | (refine W.callF (bound_does) rfl rfl rfl rfl [] [] [] rfl rfl hΓ rfl trivial trivial (.inl rfl) ?_)
    | (refine D.callF (known_does) rfl rfl rfl rfl [] [] [] rfl rfl hΓ rfl trivial trivial (.inl rfl) rfl ?_; (conv => whnf))
    | (refine W.callF (known_does) rfl rfl rfl rfl [] [] [] rfl rfl hΓ rfl trivial trivial (.inl rfl) ?_)
    | (refine W.go TOK 128 hΓ 1000 rfl ?_; (conv => whnf); refine ⟨?_, ?_⟩)
    | (refine D.go TOK 128 hΓ 1000 rfl ?_; (conv => whnf); refine ⟨?_, ?_⟩)
    | (refine W.drawn rfl rfl ?_; refine D.run TOK 128 hΓ 1000 ?_; (conv => whnf); refine ⟨?_, ?_⟩)
  all_goals try (exact trivial)
  all_goals try (exact rfl)
  all_goals try omega
  all_goals try (simp only [allP, List.nil_append, List.append_nil, List.cons_append, List.append_eq, and_true, true_and, inr_i64, inr_u8, inr_u64, A.purePL, A.pureP, A.sureP, A.surePL, Int.toNat_natCast, addI]; omega)
  all_goals try (simp only [allP, List.nil_append, List.append_nil, List.cons_append, List.append_eq, and_true, true_and, inr_i64, inr_u8, inr_u64, A.purePL, A.pureP, A.sureP, A.surePL, Int.toNat_natCast, addI]; (repeat' apply And.intro) <;> first | exact trivial | rfl | omega | decide)
  · refine ⟨by show i + 1 ≤ m; omega, by show 0 ≤ took + 1; omega, by show took + 1 ≤ 8; omega, by show k - 1 = n' - (took + 1); omega, ?_, ?_, ?_, ?_⟩
    · show k - 1 = sumN (upd M i (M i - 1)) m
      rw [sumN_upd, if_pos (by omega)]; omega
    · intro j hj
      show 0 ≤ upd M i (M i - 1) j ∧ upd M i (M i - 1) j ≤ L' j
      have := r6 j hj
      unfold upd
      split
      · subst j; omega
      · exact this
    · intro j hj
      show upd M i (M i - 1) j ≤ L' j - 1 ∨ upd M i (M i - 1) j ≤ 0
      have hj : j < i + 1 := hj
      unfold upd
      split
      · subst j; have := r6 i (by omega); omega
      · exact r7 j (by omega)
    · intro j hj
      have hj : i + 1 ≤ j := hj
      show upd M i (M i - 1) j = L' j
      unfold upd
      rw [if_neg (by omega)]
      exact r8 j (by omega)
  · refine ⟨by show i + 1 ≤ m; omega, r2, r3, r4, r5, r6, fun j hj => ?_, fun j hj => r8 j (by have hj : i + 1 ≤ j := hj; omega)⟩
    have hj : j < i + 1 := hj
    by_cases e : j < i
    · exact r7 j e
    · have : j = i := by omega
      subst this
      right; show M j ≤ 0; omega
  all_goals
    have hr : ∃ e2 f2 : Int, 0 ≤ e2 ∧ e2 ≤ 3 ∧ 0 ≤ f2 ∧ R + 1 = e2 + f2 ∧ 8 * f2 ≤ n - k ∧ ∀ j, j < m → 0 ≤ M j ∧ M j ≤ 3 - e2 := by
      first
        | exact ⟨e, f + 1, by omega, by omega, by omega, by omega, by omega, fun j hj => by have := r6 j hj; have := p7 j hj; omega⟩
        | (have he : e < 3 := by
             refine Int.not_le.1 fun h3 => ?_
             have := sumN_zero (L := L') m fun j hj => by have := p7 j hj; omega
             omega
           exact ⟨e + 1, f, by omega, by omega, by omega, by omega, by omega, fun j hj => by have := r6 j hj; have := p7 j hj; have := r7 j (by omega); omega⟩)
    clear ih3
    obtain ⟨e2, f2, g1, g2, g3, g4, g5, g6⟩ := hr
    refine W.loop (Jb4 m k e2) (fun x => m - x.i) (Sb4 n m R k) ⟨1, M⟩ ⟨Nat.le_refl _, r5.symm, g6⟩
      (Weak.via [(500, 500)] rfl rfl rfl ⟨⟨rfl, rfl, rfl, rfl⟩, ⟨rfl, rfl⟩, ⟨rfl, rfl⟩, ⟨rfl, rfl⟩, ⟨rfl, rfl⟩, trivial⟩ ⟨⟨rfl, Nat.le_refl _, fun _ _ => A.sim.refl _⟩, trivial⟩) ?_
    rintro ⟨a, N⟩ ⟨s1, s2, s3⟩ ih4
    dsimp only at s1 s2 s3
    dsimp only [Sb4, arrI]
    refine W.run TOK 128 hΓ 1000 ?_
    conv => whnf
    refine ⟨?_, ?_⟩
    repeat' first
      | assumption
      | exact Bool.noConfusion hb
      | exact absurd hb (by decide)
      | (refine W.to (ih ⟨R + 1, N, k⟩ ?_ ?_) (Weak.via [(500, 500)] rfl rfl rfl ⟨⟨rfl, rfl, rfl, rfl⟩, ⟨rfl, rfl⟩, ⟨rfl, rfl⟩, ⟨rfl, rfl⟩, trivial⟩ ⟨⟨rfl, Nat.le_refl _, fun j hj => A.sim.refl _⟩, trivial⟩))
      | (apply W.atRet (π := []) (r' := []) TOK; refine ⟨rfl, rfl, rfl, rfl, rfl, ?_, ?_, ?_⟩)
      | (refine W.branch rfl (fun hb => ?_) (fun hb => ?_) <;> ((try simp only [decide_eq_true_eq, decide_eq_false_iff_not, Bool.not_eq_true', Bool.not_eq_false', Int.not_lt, Int.not_le, cond_true, cond_false, reduceCtorEq, Int.toNat_natCast, addI] at hb); (try replace hb := of_decide_eq_true hb); (try replace hb := of_decide_eq_false hb)))
      | (refine D.branch rfl (fun hb => ?_) (fun hb => ?_) <;> ((try simp only [decide_eq_true_eq, decide_eq_false_iff_not, Bool.not_eq_true', Bool.not_eq_false', Int.not_lt, Int.not_le, cond_true, cond_false, reduceCtorEq, Int.toNat_natCast, addI] at hb); (try replace hb := of_decide_eq_true hb); (try replace hb := of_decide_eq_false hb)))
      | (refine D.callF (rounds_does _ _ ?_) rfl rfl rfl rfl [] [] [] rfl rfl hΓ rfl ⟨⟨rfl, rfl⟩, ⟨rfl, rfl⟩, trivial⟩ trivial (.inl rfl) rfl ?_; (conv => whnf))
      | (refine W.callF (rounds_does _ _ ?_) rfl rfl rfl rfl [] [] [] rfl rfl hΓ rfl ⟨⟨rfl, rfl⟩, ⟨rfl, rfl⟩, trivial⟩ trivial (.inl rfl) ?_)
      | (refine D.callF (bound_does) rfl rfl rfl rfl [] [] [] rfl rfl hΓ rfl trivial trivial (.inl rfl) rfl ?_; (conv => whnf))
      | (refine W.callF (bound_does) rfl rfl rfl rfl [] [] [] rfl rfl hΓ rfl trivial trivial (.inl rfl) ?_)
      | (refine D.callF (known_does) rfl rfl rfl rfl [] [] [] rfl rfl hΓ rfl trivial trivial (.inl rfl) rfl ?_; (conv => whnf))
      | (refine W.callF (known_does) rfl rfl rfl rfl [] [] [] rfl rfl hΓ rfl trivial trivial (.inl rfl) ?_)
      | (refine W.go TOK 128 hΓ 1000 rfl ?_; (conv => whnf); refine ⟨?_, ?_⟩)
      | (refine D.go TOK 128 hΓ 1000 rfl ?_; (conv => whnf); refine ⟨?_, ?_⟩)
      | (refine W.drawn rfl rfl ?_; refine D.run TOK 128 hΓ 1000 ?_; (conv => whnf); refine ⟨?_, ?_⟩)
  all_goals try (exact trivial)
  all_goals try (exact rfl)
  all_goals try omega
  all_goals try (simp only [allP, List.nil_append, List.append_nil, List.cons_append, List.append_eq, and_true, true_and, inr_i64, inr_u8, inr_u64, A.purePL, A.pureP, A.sureP, A.surePL, Int.toNat_natCast, addI]; omega)
  all_goals try (simp only [allP, List.nil_append, List.append_nil, List.cons_append, List.append_eq, and_true, true_and, inr_i64, inr_u8, inr_u64, A.purePL, A.pureP, A.sureP, A.surePL, Int.toNat_natCast, addI]; (repeat' apply And.intro) <;> first | exact trivial | rfl | omega | decide)
  all_goals try (show Jb2 n m _; exact ⟨p1, p2, p3, s2.symm, e2, f2, g1, g2, g3, g4, g5, s3⟩)
  all_goals try (show (100 - (R + 1)).toNat < (100 - R).toNat; omega)
  all_goals
    refine W.loop (Jb5 m k e2 a) (fun x => x.i) (Sb5 n m R k a) ⟨a, N⟩ ⟨Nat.le_refl _, s2, s3⟩
      (Weak.via [(500, 500)] rfl rfl rfl ⟨⟨rfl, rfl, rfl, rfl⟩, ⟨rfl, rfl⟩, ⟨rfl, rfl⟩, ⟨rfl, rfl⟩, ⟨rfl, rfl⟩, ⟨rfl, rfl⟩, trivial⟩ ⟨⟨rfl, Nat.le_refl _, fun _ _ => A.sim.refl _⟩, trivial⟩) ?_
    rintro ⟨b, O⟩ ⟨t1, t2, t3⟩ ih5
    dsimp only at t1 t2 t3
    have ham : a < m := by omega
    have hbm : ((b : Int) - 1).toNat = b - 1 := by omega
    have tb := t3 b (by omega)
    have tb1 := t3 (b - 1) (by omega)
    rw [← hbm] at tb1
    dsimp only [Sb5, arrI]
    refine W.run TOK 128 hΓ 1000 ?_
    conv => whnf
    refine ⟨?_, ?_⟩
    repeat' first
      | assumption
      | exact Bool.noConfusion hb
      | exact absurd hb (by decide)
      | (refine W.to (ih4 ⟨a + 1, O⟩ ?_ ?_) (Weak.via [(500, 500)] rfl rfl rfl ⟨⟨rfl, rfl, rfl, rfl⟩, ⟨rfl, rfl⟩, ⟨rfl, rfl⟩, ⟨rfl, rfl⟩, ⟨rfl, rfl⟩, trivial⟩ ⟨⟨rfl, Nat.le_refl _, fun j hj => A.sim.refl _⟩, trivial⟩))
      | (refine W.to (ih5 ⟨b - 1, upd (upd O b (O ((b : Int) - 1).toNat)) ((b : Int) - 1).toNat (O b)⟩ ?_ ?_) (Weak.via [(500, 500)] rfl rfl rfl ⟨⟨rfl, rfl, rfl, rfl⟩, ⟨rfl, rfl⟩, ⟨rfl, rfl⟩, ⟨rfl, rfl⟩, ⟨rfl, rfl⟩, ⟨rfl, ?_⟩, trivial⟩ ⟨⟨rfl, Nat.le_refl _, fun j hj => setF_sim2⟩, trivial⟩))
      | (apply W.atRet (π := []) (r' := []) TOK; refine ⟨rfl, rfl, rfl, rfl, rfl, ?_, ?_, ?_⟩)
      | (refine W.branch rfl (fun hb => ?_) (fun hb => ?_) <;> ((try simp only [decide_eq_true_eq, decide_eq_false_iff_not, Bool.not_eq_true', Bool.not_eq_false', Int.not_lt, Int.not_le, cond_true, cond_false, reduceCtorEq, Int.toNat_natCast, addI] at hb); (try replace hb := of_decide_eq_true hb); (try replace hb := of_decide_eq_false hb)))
      | (refine D.branch rfl (fun hb => ?_) (fun hb => ?_) <;> ((try simp only [decide_eq_true_eq, decide_eq_false_iff_not, Bool.not_eq_true', Bool.not_eq_false', Int.not_lt, Int.not_le, cond_true, cond_false, reduceCtorEq, Int.toNat_natCast, addI] at hb); (try replace hb := of_decide_eq_true hb); (try replace hb := of_decide_eq_false hb)))
      | (refine D.callF (rounds_does _ _ ?_) rfl rfl rfl rfl [] [] [] rfl rfl hΓ rfl ⟨⟨rfl, rfl⟩, ⟨rfl, rfl⟩, trivial⟩ trivial (.inl rfl) rfl ?_; (conv => whnf))
      | (refine W.callF (rounds_does _ _ ?_) rfl rfl rfl rfl [] [] [] rfl rfl hΓ rfl ⟨⟨rfl, rfl⟩, ⟨rfl, rfl⟩, trivial⟩ trivial (.inl rfl) ?_)
      | (refine D.callF (bound_does) rfl rfl rfl rfl [] [] [] rfl rfl hΓ rfl trivial trivial (.inl rfl) rfl ?_; (conv => whnf))
      | (refine W.callF (bound_does) rfl rfl rfl rfl [] [] [] rfl rfl hΓ rfl trivial trivial (.inl rfl) ?_)
      | (refine D.callF (known_does) rfl rfl rfl rfl [] [] [] rfl rfl hΓ rfl trivial trivial (.inl rfl) rfl ?_; (conv => whnf))
      | (refine W.callF (known_does) rfl rfl rfl rfl [] [] [] rfl rfl hΓ rfl trivial trivial (.inl rfl) ?_)
      | (refine W.go TOK 128 hΓ 1000 rfl ?_; (conv => whnf); refine ⟨?_, ?_⟩)
      | (refine D.go TOK 128 hΓ 1000 rfl ?_; (conv => whnf); refine ⟨?_, ?_⟩)
      | (refine W.drawn rfl rfl ?_; refine D.run TOK 128 hΓ 1000 ?_; (conv => whnf); refine ⟨?_, ?_⟩)
  all_goals try (exact trivial)
  all_goals try (exact rfl)
  all_goals try omega
  all_goals try (simp only [allP, List.nil_append, List.append_nil, List.cons_append, List.append_eq, and_true, true_and, inr_i64, inr_u8, inr_u64, A.purePL, A.pureP, A.sureP, A.surePL, Int.toNat_natCast, addI]; omega)
  all_goals try (simp only [allP, List.nil_append, List.append_nil, List.cons_append, List.append_eq, and_true, true_and, inr_i64, inr_u8, inr_u64, A.purePL, A.pureP, A.sureP, A.surePL, Int.toNat_natCast, addI]; (repeat' apply And.intro) <;> first | exact trivial | rfl | omega | decide)
  all_goals try (show Jb4 m k e2 _; exact ⟨by show 1 ≤ a + 1; omega, t2, t3⟩)
  all_goals try (show m - (a + 1) < m - a; omega)
  all_goals
    have b0 : 0 < b := by omega
    rw [hbm]
    refine ⟨by show b - 1 ≤ a; omega, ?_, fun j hj => ?_⟩
    · show sumN (upd (upd O b (O (b - 1))) (b - 1) (O b)) m = k
      rw [sumN_upd, sumN_upd, if_pos (by omega), if_pos (by omega)]
      have : upd O b (O (b - 1)) (b - 1) = O (b - 1) := by unfold upd; rw [if_neg (by omega)]
      rw [this]; omega
    · show 0 ≤ upd (upd O b (O (b - 1))) (b - 1) (O b) j ∧ upd (upd O b (O (b - 1))) (b - 1) (O b) j ≤ 3 - e2
      unfold upd
      split
      · exact t3 b (by omega)
      · split
        · exact t3 (b - 1) (by omega)
        · exact t3 j hj
theorem cutBound_law (x0 : A) (s0 : Shaped (.slice (.int .u8)) x0) : Does Try.prog 4 [x0] [] [] Yes := by
  obtain ⟨l, h1, h2⟩ := Rep.bytes x0 s0
  exact Does.args (ys := [bytesA l]) ⟨h1, trivial⟩ ⟨s0.pure, trivial⟩ (bound2_does l h2)
end Go.Proofs.Ytfmoafpnhndinaa
