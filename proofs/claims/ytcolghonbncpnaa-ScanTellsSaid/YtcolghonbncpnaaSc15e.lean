/- Walks: requests told by numbers. -/
import Derived.Test.YtcolghonbncpnaaSc15a
import Derived.Test.YtcolghonbncpnaaPlA
set_option linter.unusedSimpArgs false
set_option linter.unusedVariables false
namespace Go.Proofs.Ytcolghonbncpnaa
open VX
set_option maxRecDepth 100000
set_option maxHeartbeats 4000000
theorem qSc15e1 {P : Prop} (h : P := by (focus ((repeat' apply And.intro) <;> first | exact qlf0 | exact hyy | exact hyy.symm | exact Nat.le_of_eq hyy | exact hm _ (hpx _ _ _ w1 w2 w4) _ (Nat.le_refl _) | exact hm _ (hpx _ _ _ w1 w2 w4) _ (Nat.le_of_eq hyy)))) : P := h
theorem latest_nil (s : List UInt8) : Does Try.prog 50 [.nils, .str s] [] [] (Is (.tup [.agg [.agg [.str [], .int .i64 0, .int .u64 0], .int .i64 0], .bool false]) []) := by
  refine Does.intro (fn := Try.f50) Try.func50 rfl rfl fun Γ hΓ => ?_
  refine W.run TOK 45 hΓ 1000 ?_
  conv => whnf
  refine ⟨?_, ?_⟩
  repeat' first
    | assumption
    | exact Bool.noConfusion hb
    | exact absurd hb (by decide)
    | (exfalso; omega)
    | ((first | refine W.branch rfl (fun hb => ?_) (fun hb => ?_) | refine D.branch rfl (fun hb => ?_) (fun hb => ?_)) <;> ((try simp only [qhb, addI, reduceCtorEq, Int.reduceToNat] at hb); (try replace hb := of_decide_eq_true hb); (try replace hb := of_decide_eq_false hb)))
    | (refine W.go TOK 45 hΓ 1000 rfl ?_; (conv => whnf); refine ⟨?_, ?_⟩)
    | (refine D.go TOK 45 hΓ 1000 rfl ?_; (conv => whnf); refine ⟨?_, ?_⟩)
    | (refine W.drawn rfl rfl ?_; refine D.run TOK 45 hΓ 1000 ?_; (conv => whnf); refine ⟨?_, ?_⟩)
  all_goals (repeat' apply And.intro)
  all_goals try exact qcs0
  refine W.loopA (Nat) (fun i => i = 0) (fun i => 0) (fun i => [(7, .bool false), (8, .int .i64 (i : Nat))]) (fun _ => []) [] (0) (rfl) ?_
  (conv => whnf); refine ⟨?_, ?_⟩; focus ((conv => whnf); refine ⟨rfl, rfl, rfl, rfl, rfl, rfl, ?_, ?_⟩; iterate 2 exact qlf1)
  rintro i hi ih
  subst hi
  clear ih
  repeat' first
    | assumption
    | exact Bool.noConfusion hb
    | exact absurd hb (by decide)
    | (exfalso; omega)
    | (exfalso; simp at hb; done)
    | (refine W.retA TOK rfl ?_; (conv => whnf); refine ⟨rfl, rfl, rfl, rfl, rfl, rfl, ?_, ?_, ?_⟩)
    | ((first | refine W.branch rfl (fun hb => ?_) (fun hb => ?_) | refine D.branch rfl (fun hb => ?_) (fun hb => ?_)) <;> ((try simp only [qhb, addI, reduceCtorEq, Int.reduceToNat] at hb); (try replace hb := of_decide_eq_true hb); (try replace hb := of_decide_eq_false hb)))
    | (refine W.go TOK 45 hΓ 1000 rfl ?_; (conv => whnf); refine ⟨?_, ?_⟩)
    | (refine D.go TOK 45 hΓ 1000 rfl ?_; (conv => whnf); refine ⟨?_, ?_⟩)
    | (refine W.drawn rfl rfl ?_; refine D.run TOK 45 hΓ 1000 ?_; (conv => whnf); refine ⟨?_, ?_⟩)
  all_goals (repeat' apply And.intro)
  all_goals try exact qcs0

def nxtF (s : List UInt8) (a : Int × Int) (x : Pen) : Int × Int := if x.u.name = s ∧ a.1 < x.u.ver then (x.u.ver, x.u.key) else a
def nxt (l : List Pen) (s : List UInt8) : Int × Int := l.foldl (nxtF s) (0, 0)
theorem nxt_snoc (l : List Pen) (x : Pen) (s : List UInt8) : nxt (l ++ [x]) s = nxtF s (nxt l s) x := by
  unfold nxt
  rw [List.foldl_append]
  rfl
theorem nxt_bd {l : List Pen} {c : Int} (h : ∀ p ∈ l, p.u.ver ≤ c) (hc : 0 ≤ c) (s : List UInt8) : 0 ≤ (nxt l s).1 ∧ (nxt l s).1 ≤ c := by
  induction l using snocInd with
  | nil => exact ⟨Int.le_refl _, hc⟩
  | snoc l x ih =>
    have := ih fun p hp => h p (List.mem_append_left _ hp)
    have hx := h x (List.mem_append_right _ (List.mem_singleton.2 rfl))
    rw [nxt_snoc, nxtF]
    split
    · simp only; omega
    · exact this
theorem next_does (l : List Pen) (s : List UInt8) (h9 : l.length ≤ 1000000) (hv : ∀ p ∈ l, p.u.ver ≤ 2000000000) : Does Try.prog 28 [.nils, .ro 9 l.length (lsA penA l), .str s] [] [] (Is (.tup [.int .i64 ((nxt l s).1 + 1), .int .u64 (nxt l s).2]) []) := by
  refine Does.intro (fn := Try.f28) Try.func28 rfl rfl fun Γ hΓ => ?_
  refine W.run TOK 54 hΓ 1000 ?_
  conv => whnf
  refine ⟨?_, ?_⟩
  repeat' first
    | assumption
    | exact Bool.noConfusion hb
    | exact absurd hb (by decide)
    | (exfalso; omega)
    | ((first | refine W.branch rfl (fun hb => ?_) (fun hb => ?_) | refine D.branch rfl (fun hb => ?_) (fun hb => ?_)) <;> ((try simp only [qhb, addI, reduceCtorEq, Int.reduceToNat] at hb); (try replace hb := of_decide_eq_true hb); (try replace hb := of_decide_eq_false hb)))
    | ((first | (refine D.callA (latest_nil s) rfl rfl rfl rfl hΓ rfl ?_; (conv => whnf); refine ⟨rfl, rfl, rfl, ?_, ?_, ?_, ?_⟩) | (refine W.callA (latest_nil s) rfl rfl rfl rfl hΓ rfl ?_; (conv => whnf); refine ⟨rfl, rfl, ?_, ?_, ?_, ?_⟩)); iterate 3 exact qlf1; (conv => whnf))
    | (refine W.go TOK 54 hΓ 1000 rfl ?_; (conv => whnf); refine ⟨?_, ?_⟩)
    | (refine D.go TOK 54 hΓ 1000 rfl ?_; (conv => whnf); refine ⟨?_, ?_⟩)
    | (refine W.drawn rfl rfl ?_; refine D.run TOK 54 hΓ 1000 ?_; (conv => whnf); refine ⟨?_, ?_⟩)
  all_goals (repeat' apply And.intro)
  all_goals try exact qcs0
  refine W.loopA (Nat) (fun i => i ≤ l.length) (fun i => l.length - i) (fun i => [(10, .int .i64 (nxt (l.take i) s).1), (11, .int .u64 (nxt (l.take i) s).2), (12, .int .i64 (i : Nat))]) (fun _ => []) [] (0) (Nat.zero_le _) ?_
  (conv => whnf); refine ⟨?_, ?_⟩; focus ((conv => whnf); refine ⟨rfl, rfl, rfl, rfl, rfl, rfl, ?_, ?_⟩; iterate 2 exact qlf1)
  rintro i hi ih
  have hb0 := nxt_bd (l := l.take i) (c := 2000000000) (fun p hp => hv p (List.take_subset _ _ hp)) (by decide) s
  by_cases hil : i < l.length
  rotate_left
  · have hfin : l.take i = l := List.take_of_length_le (by omega)
    rw [hfin] at hb0 ⊢
    clear ih
    generalize nxt l s = c at hb0 ⊢
    repeat' first
      | assumption
      | exact Bool.noConfusion hb
      | exact absurd hb (by decide)
      | (exfalso; omega)
      | (refine W.retA TOK rfl ?_; (conv => whnf); refine ⟨rfl, rfl, rfl, rfl, rfl, rfl, ?_, ?_, ?_⟩)
      | ((first | refine W.branch rfl (fun hb => ?_) (fun hb => ?_) | refine D.branch rfl (fun hb => ?_) (fun hb => ?_)) <;> ((try simp only [qhb, addI, reduceCtorEq, Int.reduceToNat] at hb); (try replace hb := of_decide_eq_true hb); (try replace hb := of_decide_eq_false hb)))
      | (refine W.go TOK 54 hΓ 1000 rfl ?_; (conv => whnf); refine ⟨?_, ?_⟩)
      | (refine D.go TOK 54 hΓ 1000 rfl ?_; (conv => whnf); refine ⟨?_, ?_⟩)
      | (refine W.drawn rfl rfl ?_; refine D.run TOK 54 hΓ 1000 ?_; (conv => whnf); refine ⟨?_, ?_⟩)
    all_goals (repeat' apply And.intro)
    all_goals try exact qcs0
  have hst := nxt_snoc (l.take i) (HP.at_ l i) s
  rw [← take_snoc hil] at hst
  have ih2 := ih (i + 1) hil (by omega)
  rw [hst] at ih2
  generalize nxt (l.take i) s = c at hb0 ih2 ⊢
  by_cases h1 : (HP.at_ l i).u.name = s
  · by_cases h2 : c.1 < (HP.at_ l i).u.ver
    · rw [nxtF, if_pos ⟨h1, h2⟩] at ih2
      dsimp only at ih2
      repeat' first
        | assumption
        | exact Bool.noConfusion hb
        | exact absurd hb (by decide)
        | (exfalso; omega)
        | exact absurd h1 hb
        | exact absurd h2 hb
        | exact absurd h2 (Int.not_lt.2 hb)
        | (refine W.toA (ih2) ?_; rotate_left 0; (conv => whnf); refine ⟨rfl, rfl, rfl, rfl, rfl, rfl, ?_, ?_⟩; iterate 2 exact qlf1)
        | ((first | refine W.branch rfl (fun hb => ?_) (fun hb => ?_) | refine D.branch rfl (fun hb => ?_) (fun hb => ?_)) <;> ((try simp only [qhb, addI, reduceCtorEq, Int.reduceToNat] at hb); (try replace hb := of_decide_eq_true hb); (try replace hb := of_decide_eq_false hb)))
        | (refine W.go TOK 54 hΓ 1000 rfl ?_; (conv => whnf); refine ⟨?_, ?_⟩)
        | (refine D.go TOK 54 hΓ 1000 rfl ?_; (conv => whnf); refine ⟨?_, ?_⟩)
        | (refine W.drawn rfl rfl ?_; refine D.run TOK 54 hΓ 1000 ?_; (conv => whnf); refine ⟨?_, ?_⟩)
      all_goals (repeat' apply And.intro)
      all_goals try exact qcs0
    · rw [nxtF, if_neg (fun h => h2 h.2)] at ih2
      repeat' first
        | assumption
        | exact Bool.noConfusion hb
        | exact absurd hb (by decide)
        | (exfalso; omega)
        | exact absurd h1 hb
        | exact absurd hb h2
        | (refine W.toA (ih2) ?_; rotate_left 0; (conv => whnf); refine ⟨rfl, rfl, rfl, rfl, rfl, rfl, ?_, ?_⟩; iterate 2 exact qlf1)
        | ((first | refine W.branch rfl (fun hb => ?_) (fun hb => ?_) | refine D.branch rfl (fun hb => ?_) (fun hb => ?_)) <;> ((try simp only [qhb, addI, reduceCtorEq, Int.reduceToNat] at hb); (try replace hb := of_decide_eq_true hb); (try replace hb := of_decide_eq_false hb)))
        | (refine W.go TOK 54 hΓ 1000 rfl ?_; (conv => whnf); refine ⟨?_, ?_⟩)
        | (refine D.go TOK 54 hΓ 1000 rfl ?_; (conv => whnf); refine ⟨?_, ?_⟩)
        | (refine W.drawn rfl rfl ?_; refine D.run TOK 54 hΓ 1000 ?_; (conv => whnf); refine ⟨?_, ?_⟩)
      all_goals (repeat' apply And.intro)
      all_goals try exact qcs0
  · rw [nxtF, if_neg (fun h => h1 h.1)] at ih2
    repeat' first
      | assumption
      | exact Bool.noConfusion hb
      | exact absurd hb (by decide)
      | (exfalso; omega)
      | exact absurd hb h1
      | (refine W.toA (ih2) ?_; rotate_left 0; (conv => whnf); refine ⟨rfl, rfl, rfl, rfl, rfl, rfl, ?_, ?_⟩; iterate 2 exact qlf1)
      | ((first | refine W.branch rfl (fun hb => ?_) (fun hb => ?_) | refine D.branch rfl (fun hb => ?_) (fun hb => ?_)) <;> ((try simp only [qhb, addI, reduceCtorEq, Int.reduceToNat] at hb); (try replace hb := of_decide_eq_true hb); (try replace hb := of_decide_eq_false hb)))
      | (refine W.go TOK 54 hΓ 1000 rfl ?_; (conv => whnf); refine ⟨?_, ?_⟩)
      | (refine D.go TOK 54 hΓ 1000 rfl ?_; (conv => whnf); refine ⟨?_, ?_⟩)
      | (refine W.drawn rfl rfl ?_; refine D.run TOK 54 hΓ 1000 ?_; (conv => whnf); refine ⟨?_, ?_⟩)
    all_goals (repeat' apply And.intro)
    all_goals try exact qcs0

def seatP (l : List UInt8) (i : Nat) (a : List Pen) : Pen := ⟨⟨nameS (l.getD i 0), (nxt a (nameS (l.getD i 0))).1 + 1, ((l.getD i 0).toNat : Int) + 1, ((l.getD i 0).toNat : Int) / 6 % 2, 0, 0⟩, (i : Int) + ((l.getD i 0).toNat : Int) / 12 % 4, (i : Int) + 1, true⟩
def seatL (l : List UInt8) : Nat → List Pen
  | 0 => []
  | i + 1 => seatL l i ++ [seatP l i (seatL l i)]
theorem seatL_len (l : List UInt8) : ∀ i, (seatL l i).length = i
  | 0 => rfl
  | i + 1 => by rw [seatL, List.length_append, seatL_len l i]; rfl
theorem seatL_ver (l : List UInt8) : ∀ i, ∀ p ∈ seatL l i, 1 ≤ p.u.ver ∧ p.u.ver ≤ i
  | 0 => fun p hp => absurd hp List.not_mem_nil
  | i + 1 => fun p hp => by
    rw [seatL] at hp
    rcases List.mem_append.1 hp with hp | hp
    · have := seatL_ver l i p hp
      omega
    · have : p = seatP l i (seatL l i) := by simpa using hp
      subst this
      have := nxt_bd (l := seatL l i) (c := i) (fun p hp => (seatL_ver l i p hp).2) (by omega) (nameS (l.getD i 0))
      simp only [seatP]
      omega
theorem seatpending_does (l : List UInt8) (h9 : l.length ≤ 1000) : Does Try.prog 20 [VX.bytesA l] [] [1] (Is (.own 9 1 0 (seatL l l.length).length) [(1, some (.arr 9 (seatL l l.length).length (lsA penA (seatL l l.length))))]) := by
  refine Does.intro (fn := Try.f20) Try.func20 rfl rfl fun Γ hΓ => ?_
  refine W.run TOK 61 hΓ 1000 ?_
  conv => whnf
  refine ⟨?_, ?_⟩
  repeat' first
    | assumption
    | exact Bool.noConfusion hb
    | exact absurd hb (by decide)
    | (exfalso; omega)
    | ((first | refine W.branch rfl (fun hb => ?_) (fun hb => ?_) | refine D.branch rfl (fun hb => ?_) (fun hb => ?_)) <;> ((try simp only [qhb, addI, reduceCtorEq, Int.reduceToNat] at hb); (try replace hb := of_decide_eq_true hb); (try replace hb := of_decide_eq_false hb)))
    | (refine W.go TOK 61 hΓ 1000 rfl ?_; (conv => whnf); refine ⟨?_, ?_⟩)
    | (refine D.go TOK 61 hΓ 1000 rfl ?_; (conv => whnf); refine ⟨?_, ?_⟩)
    | (refine W.drawn rfl rfl ?_; refine D.run TOK 61 hΓ 1000 ?_; (conv => whnf); refine ⟨?_, ?_⟩)
  all_goals (repeat' apply And.intro)
  all_goals try exact qcs0
  refine W.loopA (Nat) (fun i => i ≤ l.length) (fun i => l.length - i) (fun i => [(3, .own 9 700 0 (seatL l i).length), (4, .int .i64 (i : Nat))]) (fun i => [(700, some (.arr 9 (seatL l i).length (lsA penA (seatL l i))))]) [] (0) (Nat.zero_le _) ?_
  (conv => whnf); refine ⟨?_, ?_⟩; focus ((conv => whnf); refine ⟨rfl, rfl, rfl, rfl, rfl, rfl, ?_, ?_⟩; iterate 2 exact qlf1)
  rintro i hi ih
  have hsl := seatL_len l i
  by_cases hil : i < l.length
  rotate_left
  · have hil2 : i = l.length := by omega
    clear ih
    subst hil2
    repeat' first
      | assumption
      | exact Bool.noConfusion hb
      | exact absurd hb (by decide)
      | (exfalso; omega)
      | (refine W.retA TOK rfl ?_; (conv => whnf); refine ⟨rfl, rfl, rfl, rfl, rfl, rfl, ?_, ?_, ?_⟩)
      | ((first | refine W.branch rfl (fun hb => ?_) (fun hb => ?_) | refine D.branch rfl (fun hb => ?_) (fun hb => ?_)) <;> ((try simp only [qhb, addI, reduceCtorEq, Int.reduceToNat] at hb); (try replace hb := of_decide_eq_true hb); (try replace hb := of_decide_eq_false hb)))
      | (refine W.go TOK 61 hΓ 1000 rfl ?_; (conv => whnf); refine ⟨?_, ?_⟩)
      | (refine D.go TOK 61 hΓ 1000 rfl ?_; (conv => whnf); refine ⟨?_, ?_⟩)
      | (refine W.drawn rfl rfl ?_; refine D.run TOK 61 hΓ 1000 ?_; (conv => whnf); refine ⟨?_, ?_⟩)
    all_goals (repeat' apply And.intro)
    all_goals try exact qcs0
  have hl8 := (l.getD i 0).toNat_lt
  have cn := name_does (l.getD i 0)
  have cx := next_does (seatL l i) (nameS (l.getD i 0)) (by omega) (fun p hp => by have := seatL_ver l i p hp; omega)
  have ih2 := ih (i + 1) hil (by omega)
  have hy2 : seatL l (i + 1) = seatL l i ++ [seatP l i (seatL l i)] := rfl
  obtain ⟨x, hx⟩ : ∃ x, x = seatP l i (seatL l i) := ⟨_, rfl⟩
  obtain ⟨c, hc⟩ : ∃ c, c = nxt (seatL l i) (nameS (l.getD i 0)) := ⟨_, rfl⟩
  rw [← hc] at cx
  have hxe : x = ⟨⟨nameS (l.getD i 0), c.1 + 1, ((l.getD i 0).toNat : Int) + 1, ((l.getD i 0).toNat : Int) / 6 % 2, 0, 0⟩, (i : Int) + ((l.getD i 0).toNat : Int) / 12 % 4, (i : Int) + 1, true⟩ := by rw [hx, seatP, ← hc]
  rw [← hx] at hy2
  clear hx hc
  generalize seatL l (i + 1) = y2 at ih2 hy2
  generalize seatL l i = y at hsl cx hy2 ⊢
  generalize nameS (l.getD i 0) = nn at cn cx hxe
  have w1 : IntKind.u64.wrap (IntKind.u64.wrap ((l.getD i 0).toNat : Int) + 1) = ((l.getD i 0).toNat : Int) + 1 := by
    rw [wrap_inr (k := .u64) (n := ((l.getD i 0).toNat : Int)) (inr_u64.2 (by omega)), wrap_inr (k := .u64) (inr_u64.2 (by omega))]
  have w2 : IntKind.i64.wrap (((l.getD i 0).toNat : Int) / 6 % 2) = ((l.getD i 0).toNat : Int) / 6 % 2 := wrap_i64_in (by omega) (by omega)
  have w3 : IntKind.i64.wrap (((l.getD i 0).toNat : Int) / 12 % 4) = ((l.getD i 0).toNat : Int) / 12 % 4 := wrap_i64_in (by omega) (by omega)
  have w4 : (i : Int) + IntKind.i64.wrap (((l.getD i 0).toNat : Int) / 12 % 4) = (i : Int) + ((l.getD i 0).toNat : Int) / 12 % 4 := by rw [w3]
  have hyy : y2.length = y.length + 1 := by rw [hy2, List.length_append]; rfl
  have hm : ∀ g : Nat → A, g 0 = penA x → ∀ m, m ≤ y.length + 1 → ∀ j, j < m → (catF y.length (lsA penA y) g j).sim (lsA penA y2 j) := fun g hg m hm => by rw [hy2]; exact ls_snoc _ rfl hg hm
  have hpx : ∀ a b d : Int, a = ((l.getD i 0).toNat : Int) + 1 → b = ((l.getD i 0).toNat : Int) / 6 % 2 → d = (i : Int) + ((l.getD i 0).toNat : Int) / 12 % 4 → penA ⟨⟨nn, c.1 + 1, a, b, 0, 0⟩, d, (i : Int) + 1, true⟩ = penA x := fun a b d ha hb hd => by rw [ha, hb, hd, hxe]
  clear hy2
  repeat' first
    | assumption
    | exact Bool.noConfusion hb
    | exact absurd hb (by decide)
    | (exfalso; omega)
    | (refine W.toA (ih2) ?_; rotate_left 0; (conv => whnf); refine ⟨rfl, rfl, rfl, rfl, rfl, rfl, ?_, ?_⟩; iterate 2 exact qSc15e1)
    | ((first | refine W.branch rfl (fun hb => ?_) (fun hb => ?_) | refine D.branch rfl (fun hb => ?_) (fun hb => ?_)) <;> ((try simp only [qhb, addI, reduceCtorEq, Int.reduceToNat] at hb); (try replace hb := of_decide_eq_true hb); (try replace hb := of_decide_eq_false hb)))
    | ((first | (refine D.callA (cn) rfl rfl rfl rfl hΓ rfl ?_; (conv => whnf); refine ⟨rfl, rfl, rfl, ?_, ?_, ?_, ?_⟩) | (refine W.callA (cn) rfl rfl rfl rfl hΓ rfl ?_; (conv => whnf); refine ⟨rfl, rfl, ?_, ?_, ?_, ?_⟩)); iterate 3 exact qSc15e1; (conv => whnf))
    | ((first | (refine D.callA (cx) rfl rfl rfl rfl hΓ rfl ?_; (conv => whnf); refine ⟨rfl, rfl, rfl, ?_, ?_, ?_, ?_⟩) | (refine W.callA (cx) rfl rfl rfl rfl hΓ rfl ?_; (conv => whnf); refine ⟨rfl, rfl, ?_, ?_, ?_, ?_⟩)); iterate 3 exact qSc15e1; (conv => whnf))
    | (refine W.go TOK 61 hΓ 1000 rfl ?_; (conv => whnf); refine ⟨?_, ?_⟩)
    | (refine D.go TOK 61 hΓ 1000 rfl ?_; (conv => whnf); refine ⟨?_, ?_⟩)
    | (refine W.drawn rfl rfl ?_; refine D.run TOK 61 hΓ 1000 ?_; (conv => whnf); refine ⟨?_, ?_⟩)
  all_goals (repeat' apply And.intro)
  all_goals try first | exact qcl0 | exact qsm0 | (show (y.length + 1) * 80 ≤ _; omega) | (rw [w3]; omega)

end Go.Proofs.Ytcolghonbncpnaa
