/- Walks: known of layer 15, and file. -/
import Derived.Test.YtcolghonbncpnaaSc15c
import Derived.Test.YtcolghonbncpnaaSc15b
import Derived.Test.YtcolghonbncpnaaSc15u
import Derived.Test.YtcolghonbncpnaaSc15e
import Derived.Test.YtcolghonbncpnaaPlB
import Derived.Test.YtcolghonbncpnaaVxI
set_option linter.unusedSimpArgs false
set_option linter.unusedVariables false
namespace Go.Proofs.Ytcolghonbncpnaa
open VX
set_option maxRecDepth 100000
set_option maxHeartbeats 4000000
theorem qSc15f1 {P : Prop} (h : P := by (focus ((repeat' apply And.intro) <;> first | exact qlf0 | exact penA_flat _ _ | exact recA_flat _ _ | exact ⟨rfl, rfl, rfl⟩ | exact ⟨rfl, rfl, rfl, rfl, ⟨rfl, rfl⟩⟩ | ((repeat' apply And.intro) <;> rfl) | exact A.sim.nil0 | exact hl | exact hl.symm | exact hz | exact hz.symm | exact hYs _ | (intro i hi; rw [Nat.zero_add]; exact hYs _ i hi)))) : P := h
theorem qSc15f2 {P : Prop} (h : P := by (focus ((repeat' apply And.intro) <;> first | exact qlf0 | exact penA_flat _ _ | exact recA_flat _ _ | exact ⟨rfl, rfl, rfl⟩ | exact ⟨rfl, rfl, rfl, rfl, ⟨rfl, rfl⟩⟩ | ((repeat' apply And.intro) <;> rfl)))) : P := h
theorem qSc15f3 {P : Prop} (h : P := by (focus ((repeat' apply And.intro) <;> first | exact qlf0 | exact h0 | exact h0.symm | exact h0s _ | (show _ = _; omega)))) : P := h
theorem qSc15f4 {P : Prop} (h : P := by (focus ((repeat' apply And.intro) <;> first | exact qlf0 | exact penA_flat _ _ | exact recA_flat _ _ | exact ⟨rfl, rfl, rfl⟩ | exact ⟨rfl, rfl, rfl, rfl, ⟨rfl, rfl⟩⟩ | ((repeat' apply And.intro) <;> rfl) | exact w5 | exact wk1 | exact wi | exact wk | exact hl2 | exact hl2.symm | exact hm _))) : P := h
theorem qSc15f5 {P : Prop} (h : P := by first | exact qcl0 | exact w5 | exact wk1 | exact wk | exact wi | exact qsm0 | (show (y.length + p.length) * 1 ≤ _; omega)) : P := h
theorem qSc15f6 {P : Prop} (h : P := by
  generalize updN (nameS (more.getD i 0)) (((more.getD i 0).toNat : Int) % 5 + 1) 0 0 = u at *
  generalize nameS (more.getD i 0) = nm at *
  repeat' first
    | assumption
    | exact Bool.noConfusion hb
    | exact absurd hb (by decide)
    | (exfalso; omega)
    | exact absurd hb h4
    | exact absurd h4 hb
    | exact absurd hb h29
    | exact absurd h29 hb
    | (exfalso; simp at hb; done)
    | (refine W.toA (ih2) ?_; rotate_left 0; (conv => whnf); refine ⟨rfl, rfl, rfl, rfl, rfl, rfl, ?_, ?_⟩; iterate 2 exact qSc15f4)
    | ((first | refine W.branch rfl (fun hb => ?_) (fun hb => ?_) | refine D.branch rfl (fun hb => ?_) (fun hb => ?_)) <;> ((try simp only [qhb, addI, reduceCtorEq, Int.reduceToNat] at hb); (try replace hb := of_decide_eq_true hb); (try replace hb := of_decide_eq_false hb)))
    | ((first | (refine D.callA (cn) rfl rfl rfl rfl hΓ rfl ?_; (conv => whnf); refine ⟨rfl, rfl, rfl, ?_, ?_, ?_, ?_⟩) | (refine W.callA (cn) rfl rfl rfl rfl hΓ rfl ?_; (conv => whnf); refine ⟨rfl, rfl, ?_, ?_, ?_, ?_⟩)); iterate 3 exact qSc15f4; (conv => whnf))
    | ((first | (refine D.callA (cu) rfl rfl rfl rfl hΓ rfl ?_; (conv => whnf); refine ⟨rfl, rfl, rfl, ?_, ?_, ?_, ?_⟩) | (refine W.callA (cu) rfl rfl rfl rfl hΓ rfl ?_; (conv => whnf); refine ⟨rfl, rfl, ?_, ?_, ?_, ?_⟩)); iterate 3 exact qSc15f4; (conv => whnf))
    | ((first | (refine D.callA (cp) rfl rfl rfl rfl hΓ rfl ?_; (conv => whnf); refine ⟨rfl, rfl, rfl, ?_, ?_, ?_, ?_⟩) | (refine W.callA (cp) rfl rfl rfl rfl hΓ rfl ?_; (conv => whnf); refine ⟨rfl, rfl, ?_, ?_, ?_, ?_⟩)); iterate 3 exact qSc15f4; (conv => whnf))
    | (refine W.go TOK 83 hΓ 1000 rfl ?_; (conv => whnf); refine ⟨?_, ?_⟩)
    | (refine D.go TOK 83 hΓ 1000 rfl ?_; (conv => whnf); refine ⟨?_, ?_⟩)
    | (refine W.drawn rfl rfl ?_; refine D.run TOK 83 hΓ 1000 ?_; (conv => whnf); refine ⟨?_, ?_⟩)
  all_goals (repeat' apply And.intro)
  all_goals try exact qSc15f5) : P := h
theorem nameS_len (k : UInt8) : 1 ≤ (nameS k).length ∧ (nameS k).length ≤ 32 := by
  have h : k.toNat % 6 < 6 := Nat.mod_lt _ (by decide)
  unfold nameS
  generalize k.toNat % 6 = i at h
  have : i = 0 ∨ i = 1 ∨ i = 2 ∨ i = 3 ∨ i = 4 ∨ i = 5 := by omega
  rcases this with rfl | rfl | rfl | rfl | rfl | rfl <;> decide
structure SeatOK (p : Pen) : Prop where
  r : updRight p.u = true
  o : UpdOK p.u
  t : 0 ≤ p.tick ∧ p.tick ≤ 1000
theorem seatL_ok (l : List UInt8) : ∀ i, i ≤ 34 → ∀ p ∈ seatL l i, SeatOK p
  | 0, _ => fun p hp => absurd hp List.not_mem_nil
  | i + 1, hi => fun p hp => by
    rw [seatL] at hp
    rcases List.mem_append.1 hp with hp | hp
    · exact seatL_ok l i (by omega) p hp
    · have : p = seatP l i (seatL l i) := by simpa using hp
      subst this
      have hv := nxt_bd (l := seatL l i) (c := i) (fun p hp => (seatL_ver l i p hp).2) (by omega) (nameS (l.getD i 0))
      have hn := nameS_len (l.getD i 0)
      have hk := (l.getD i 0).toNat_lt
      unfold seatP
      refine ⟨decide_eq_true ?_, ⟨inr_i64.2 ⟨?_, ?_⟩, inr_u64.2 ⟨?_, ?_⟩, inr_i64.2 ⟨?_, ?_⟩, u64_0, u64_0⟩, ⟨?_, ?_⟩⟩
      all_goals simp only
      all_goals omega

theorem kn15_facts : ∃ (r : Rec) (y : List UInt8), y.length = 37 ∧ bseS 3 5 [] = y ∧ recsS (y ++ List.replicate 50 0) = ([r], 37) ∧ wholeS [r] = (3, [], true) ∧ chooseS [] y = (1, true) ∧ chooseS [] [] = (0, false) := by
  have h0 : rightS (baseR 3 5 0) = true := base_right (by decide) (by decide) (by decide)
  have o0 : RecOK (baseR 3 5 0) := base_ok (i64_c (by decide)) (i64_c (by decide)) (by decide)
  have hy : bseS 3 5 [] = bsP 3 5 [] 0 := bse_yes (l := []) h0 fun j hj => absurd hj (Nat.not_lt_zero _)
  have hl : (bsP 3 5 [] 0).length = 37 := by
    show (jputS (baseR 3 5 0)).1.length = 37
    unfold jputS
    rw [if_pos h0, jput_eq h0, frameB_len, show bodyS (baseR 3 5 0) = numS 3 ++ numS 0 from rfl, List.length_append, numS_length, numS_length]
  have hr : VX.Rows [baseR 3 5 0] := rwS_rows (gen := 3) (seq := 5) (l := []) h0 o0 0 fun j hj => absurd hj (Nat.not_lt_zero _)
  have hf : flatJ [baseR 3 5 0] = bsP 3 5 [] 0 := rwS_flat 3 5 [] 0
  have r1 : recsS (bsP 3 5 [] 0 ++ List.replicate 50 0) = ([baseR 3 5 0], 37) := by
    rw [recs_of (rest := List.replicate 50 0) hr (by rw [hf]) (.inl (jread_hole rfl)), hf, hl]
  have r2 : recsS (bsP 3 5 [] 0) = ([baseR 3 5 0], 37) := by
    rw [recs_of (rest := []) hr (by rw [hf, List.append_nil]) (.inl (jread_end (by decide))), hf, hl]
  have r3 : recsS [] = ([], 0) := recs_of (rest := []) .nil rfl (.inl (jread_end (by decide)))
  have w1 : wholeS [baseR 3 5 0] = (3, [], true) := whole_yes (l := [baseR 3 5 0]) ⟨by decide, rfl, by decide⟩ fun j h1 h2 => absurd h2 (by show ¬ j < 1; omega)
  have w2 : wholeS [] = (0, [], false) := whole_noH fun h => absurd h.1 (by decide)
  refine ⟨baseR 3 5 0, bsP 3 5 [] 0, hl, hy, r1, w1, ?_, ?_⟩
  · unfold chooseS; rw [r2, r3, w1, w2]; rfl
  · unfold chooseS; rw [r3, w2]; rfl
theorem known_does : Does Try.prog 8 [] [] [] (Is (.bool true) []) := by
  obtain ⟨r, y, hl, hy, f1, f2, f3, f4⟩ := kn15_facts
  have cb := rbase_does 3 5 [] (i64_c (by decide)) (i64_c (by decide)) (Nat.zero_le _) (fun p hp => absurd hp List.not_mem_nil)
  rw [hy, hl] at cb
  have hz : (y ++ List.replicate 50 (0 : UInt8)).length = 87 := by rw [List.length_append, List.length_replicate, hl]
  have cr := rec_does (y ++ List.replicate 50 0) (by rw [hz]; decide)
  have cw := whole_does [r] (by show 1 ≤ _; decide)
  have c1 := choose_does [] y (Nat.zero_le _) (by rw [hl]; decide)
  have c2 := choose_does [] [] (Nat.zero_le _) (Nat.zero_le _)
  rw [f1] at cr
  rw [f2] at cw
  rw [f3] at c1
  rw [f4] at c2
  clear f1 f2 f3 f4 hy
  obtain ⟨Y, hY⟩ : ∃ Y, Y = y ++ List.replicate 50 (0 : UInt8) := ⟨_, rfl⟩
  rw [← hY] at cr hz
  have hYs : ∀ m, ∀ j, j < m → (catF 37 (byteAt y) (byteAt (List.replicate 50 0)) j).sim (byteAt Y j) := fun m j _ => by
    rw [hY, ← cat_bytes, hl]; exact .refl _
  clear hY
  refine Does.intro (fn := Try.f8) Try.func8 rfl rfl fun Γ hΓ => ?_
  refine W.run TOK 66 hΓ 1000 ?_
  conv => whnf
  refine ⟨?_, ?_⟩
  repeat' first
    | assumption
    | exact Bool.noConfusion hb
    | exact absurd hb (by decide)
    | (exfalso; omega)
    | (exfalso; simp at hb; done)
    | (refine W.appZeros TOK (nt := 66) hΓ rfl rfl rfl rfl rfl rfl rfl rfl rfl rfl (ts := 9) rfl 50 rfl (by decide) (by decide) (nm := 901) rfl ?_)
    | (refine W.retA TOK rfl ?_; (conv => whnf); refine ⟨rfl, rfl, rfl, rfl, rfl, rfl, ?_, ?_, ?_⟩)
    | (refine W.branch rfl (fun hb => ?_) (fun hb => ?_) <;> ((try simp only [qhb, addI, reduceCtorEq, Int.reduceToNat] at hb); (try replace hb := of_decide_eq_true hb); (try replace hb := of_decide_eq_false hb)))
    | (refine W.callA (cb) rfl rfl rfl rfl hΓ rfl ?_; (conv => whnf); refine ⟨rfl, rfl, ?_, ?_, ?_, ?_⟩; iterate 3 exact qSc15f1; (conv => whnf))
    | (refine W.callA (cr) rfl rfl rfl rfl hΓ rfl ?_; (conv => whnf); refine ⟨rfl, rfl, ?_, ?_, ?_, ?_⟩; iterate 3 exact qSc15f1; (conv => whnf))
    | (refine W.callA (cw) rfl rfl rfl rfl hΓ rfl ?_; (conv => whnf); refine ⟨rfl, rfl, ?_, ?_, ?_, ?_⟩; iterate 3 exact qSc15f1; (conv => whnf))
    | (refine W.callA (c1) rfl rfl rfl rfl hΓ rfl ?_; (conv => whnf); refine ⟨rfl, rfl, ?_, ?_, ?_, ?_⟩; iterate 3 exact qSc15f1; (conv => whnf))
    | (refine W.callA (c2) rfl rfl rfl rfl hΓ rfl ?_; (conv => whnf); refine ⟨rfl, rfl, ?_, ?_, ?_, ?_⟩; iterate 3 exact qSc15f1; (conv => whnf))
    | (refine W.go TOK 66 hΓ 1000 rfl ?_; (conv => whnf); refine ⟨?_, ?_⟩)
  all_goals (repeat' apply And.intro)
  all_goals try first | exact qcl0 | exact hl | exact hl.symm | exact qsm0

noncomputable def fileS (gen : Int) (l more : List UInt8) (seq : Int) : List UInt8 := bseS gen seq (seatL l l.length) ++ flJ nameS (seq + ((l.length : Int) + 1)) more more.length
theorem bse_len (gen seq : Int) (l : List Pen) : (bseS gen seq l).length ≤ 109 * (l.length + 1) := by
  unfold bseS
  split
  · have := bsP_len gen seq l l.length
    omega
  · exact Nat.zero_le _
theorem fileS_len (gen : Int) (l more : List UInt8) (seq : Int) : (fileS gen l more seq).length ≤ 109 * (l.length + 1 + more.length) := by
  have h1 := bse_len gen seq (seatL l l.length)
  have h2 := flJ_len nameS (seq + ((l.length : Int) + 1)) more more.length
  rw [seatL_len] at h1
  unfold fileS
  rw [List.length_append]
  omega
theorem file_does (gen : Int) (l more : List UInt8) (seq : Int) (hg : 0 ≤ gen ∧ gen ≤ 255) (hs : 0 ≤ seq ∧ seq ≤ 4095) (hl : l.length ≤ 32) (hm9 : more.length ≤ 100) : Does Try.prog 9 [.int .i64 gen, bytesA l, bytesA more, .int .i64 seq] [] [1] (Is (.own 1 1 0 (fileS gen l more seq).length) [(1, some (.arr 1 (fileS gen l more seq).length (byteAt (fileS gen l more seq))))]) := by
  have cp := seatpending_does l (by omega)
  have hln := seatL_len l l.length
  have hok := seatL_ok l l.length (by omega)
  have hbl := bse_len gen seq (seatL l l.length)
  unfold fileS
  generalize seatL l l.length = P at *
  have hu : ∀ p ∈ P, UpdOK p.u ∧ inr .i64 p.tick := fun p hp => ⟨(hok p hp).o, inr_i64.2 (by have := (hok p hp).t; omega)⟩
  have cb := rbase_does gen seq P (i64_c (by omega)) (i64_c (by omega)) (by omega) hu
  generalize bseS gen seq P = B at *
  obtain ⟨q0, hq0⟩ : ∃ q, q = seq + ((l.length : Int) + 1) := ⟨_, rfl⟩
  rw [← hq0]
  have hq9 : seq + ((P.length : Int) + 1) = q0 := by rw [hq0, hln]
  have h0 : B.length = (B ++ flJ nameS q0 more 0).length := by show _ = (B ++ []).length; rw [List.append_nil]
  have h0s : ∀ m, ∀ j, j < m → (byteAt B j).sim (byteAt (B ++ flJ nameS q0 more 0) j) := fun m j _ => by
    show (byteAt B j).sim (byteAt (B ++ []) j)
    rw [List.append_nil]; exact .refl _
  refine Does.intro (fn := Try.f9) Try.func9 rfl rfl fun Γ hΓ => ?_
  refine W.run TOK 83 hΓ 1000 ?_
  conv => whnf
  refine ⟨?_, ?_⟩
  repeat' first
    | assumption
    | exact Bool.noConfusion hb
    | exact absurd hb (by decide)
    | (exfalso; omega)
    | ((first | refine W.branch rfl (fun hb => ?_) (fun hb => ?_) | refine D.branch rfl (fun hb => ?_) (fun hb => ?_)) <;> ((try simp only [qhb, addI, reduceCtorEq, Int.reduceToNat] at hb); (try replace hb := of_decide_eq_true hb); (try replace hb := of_decide_eq_false hb)))
    | ((first | (refine D.callA (cp) rfl rfl rfl rfl hΓ rfl ?_; (conv => whnf); refine ⟨rfl, rfl, rfl, ?_, ?_, ?_, ?_⟩) | (refine W.callA (cp) rfl rfl rfl rfl hΓ rfl ?_; (conv => whnf); refine ⟨rfl, rfl, ?_, ?_, ?_, ?_⟩)); iterate 3 exact qSc15f2; (conv => whnf))
    | ((first | (refine D.callA (cb) rfl rfl rfl rfl hΓ rfl ?_; (conv => whnf); refine ⟨rfl, rfl, rfl, ?_, ?_, ?_, ?_⟩) | (refine W.callA (cb) rfl rfl rfl rfl hΓ rfl ?_; (conv => whnf); refine ⟨rfl, rfl, ?_, ?_, ?_, ?_⟩)); iterate 3 exact qSc15f2; (conv => whnf))
    | (refine W.go TOK 83 hΓ 1000 rfl ?_; (conv => whnf); refine ⟨?_, ?_⟩)
    | (refine D.go TOK 83 hΓ 1000 rfl ?_; (conv => whnf); refine ⟨?_, ?_⟩)
    | (refine W.drawn rfl rfl ?_; refine D.run TOK 83 hΓ 1000 ?_; (conv => whnf); refine ⟨?_, ?_⟩)
  all_goals (repeat' apply And.intro)
  all_goals try exact qcs0
  refine W.loopA (Nat) (fun i => i ≤ more.length) (fun i => more.length - i) (fun i => [(10, .own 1 700 0 (B ++ flJ nameS q0 more i).length), (3, .int .i64 (q0 + (i : Int))), (11, .int .i64 (i : Nat))]) (fun i => [(700, some (.arr 1 (B ++ flJ nameS q0 more i).length (byteAt (B ++ flJ nameS q0 more i))))]) [12, 13, 14, 15, 16, 17, 18, 19, 20, 21, 22, 23, 24, 25] (0) (Nat.zero_le _) ?_
  (conv => whnf); refine ⟨?_, ?_⟩; focus ((conv => whnf); refine ⟨rfl, rfl, rfl, rfl, rfl, rfl, ?_, ?_⟩; iterate 2 exact qSc15f3)
  rintro i hi ih
  by_cases hil : i < more.length
  rotate_left
  · have hie : i = more.length := by omega
    clear ih
    subst hie
    repeat' first
      | assumption
      | exact Bool.noConfusion hb
      | exact absurd hb (by decide)
      | (exfalso; omega)
      | (refine W.retA TOK rfl ?_; (conv => whnf); refine ⟨rfl, rfl, rfl, rfl, rfl, rfl, ?_, ?_, ?_⟩)
      | ((first | refine W.branch rfl (fun hb => ?_) (fun hb => ?_) | refine D.branch rfl (fun hb => ?_) (fun hb => ?_)) <;> ((try simp only [qhb, addI, reduceCtorEq, Int.reduceToNat] at hb); (try replace hb := of_decide_eq_true hb); (try replace hb := of_decide_eq_false hb)))
      | (refine W.go TOK 83 hΓ 1000 rfl ?_; (conv => whnf); refine ⟨?_, ?_⟩)
      | (refine D.go TOK 83 hΓ 1000 rfl ?_; (conv => whnf); refine ⟨?_, ?_⟩)
      | (refine W.drawn rfl rfl ?_; refine D.run TOK 83 hΓ 1000 ?_; (conv => whnf); refine ⟨?_, ?_⟩)
    all_goals (repeat' apply And.intro)
    all_goals try exact qcs0
  obtain ⟨k, hk⟩ : ∃ k, k = more.getD i 0 := ⟨_, rfl⟩
  have hk8 := k.toNat_lt
  have hfl := flJ_len nameS q0 more i
  have ih2 := ih (i + 1) hil (by omega)
  clear ih h0 h0s
  have cn := name_does k
  have hnl := nameS_len k
  have cu := sup_does (nameS k) ((k.toNat : Int) % 5 + 1) 0 0 (by omega) (by omega) (inr_u8.2 ⟨by decide, by decide⟩) (inr_u8.2 ⟨by decide, by decide⟩)
  have hro := fRec_ok (nm := nameS) (q := q0 + (i : Int)) (i := i) (k := k) (by omega) (by omega)
  have cp := rjput_does (fRec nameS (q0 + (i : Int)) i k) hro
  have hpl := jput_len (fRec nameS (q0 + (i : Int)) i k)
  have hst : B ++ flJ nameS q0 more (i + 1) = (B ++ flJ nameS q0 more i) ++ (jputS (fRec nameS (q0 + (i : Int)) i k)).1 := by rw [flJ, ← hk, List.append_assoc]
  rw [hst] at ih2
  clear hro hst
  have hyl : (B ++ flJ nameS q0 more i).length ≤ 109 * 200 := by rw [List.length_append]; omega
  generalize B ++ flJ nameS q0 more i = y at *
  have hkl : more.getD i 0 = k := hk.symm
  have wk : IntKind.i64.wrap ((k.toNat : Int) % 5) = (k.toNat : Int) % 5 := wrap_i64_in (by omega) (by omega)
  have w5 : IntKind.i64.wrap ((k.toNat : Int) % 5) + 1 = (k.toNat : Int) % 5 + 1 := by rw [wk]
  have wi : IntKind.i64.wrap (i : Int) = (i : Int) := wrap_i64_in (by omega) (by omega)
  have wk1 : IntKind.i64.wrap (k.toNat : Int) + 1 = (k.toNat : Int) + 1 := by rw [wrap_i64_in (by omega) (by omega)]
  generalize hR : jputS (fRec nameS (q0 + (i : Int)) i k) = p at *
  obtain ⟨p, e⟩ := p
  simp only at *
  obtain ⟨y2, hy2⟩ : ∃ y2, y2 = y ++ p := ⟨_, rfl⟩
  have hl2 : y2.length = y.length + p.length := by rw [hy2, List.length_append]
  have hm : ∀ m, ∀ j, j < m → (catF y.length (byteAt y) (byteAt p) j).sim (byteAt y2 j) := fun m j _ => by rw [cat_bytes, ← hy2]; exact .refl _
  rw [← hy2] at ih2
  clear hy2 hR
  subst hk
  by_cases h4 : ((more.getD i 0).toNat : Int) % 4 = 0
  · by_cases h29 : ((more.getD i 0).toNat : Int) % 29 = 28
    · skip
      rw [show fRec nameS (q0 + (i : Int)) i (more.getD i 0) = ⟨3, q0 + (i : Int) + 2, 0, 0, ⟨[], 0, 0, 0, 0, 0⟩, 0, ((more.getD i 0).toNat : Int) + 1⟩ by unfold fRec; rw [if_pos h29, if_pos h4]] at cp
      exact qSc15f6
    · skip
      rw [show fRec nameS (q0 + (i : Int)) i (more.getD i 0) = ⟨3, q0 + (i : Int), 0, 0, ⟨[], 0, 0, 0, 0, 0⟩, 0, ((more.getD i 0).toNat : Int) + 1⟩ by unfold fRec; rw [if_neg h29, if_pos h4]] at cp
      exact qSc15f6
  · by_cases h29 : ((more.getD i 0).toNat : Int) % 29 = 28
    · skip
      rw [show fRec nameS (q0 + (i : Int)) i (more.getD i 0) = ⟨2, q0 + (i : Int) + 2, 0, 0, updN (nameS (more.getD i 0)) (((more.getD i 0).toNat : Int) % 5 + 1) 0 0, (i : Int), 0⟩ by unfold fRec; rw [if_pos h29, if_neg h4]] at cp
      exact qSc15f6
    · skip
      rw [show fRec nameS (q0 + (i : Int)) i (more.getD i 0) = ⟨2, q0 + (i : Int), 0, 0, updN (nameS (more.getD i 0)) (((more.getD i 0).toNat : Int) % 5 + 1) 0 0, (i : Int), 0⟩ by unfold fRec; rw [if_neg h29, if_neg h4]] at cp
      exact qSc15f6
end Go.Proofs.Ytcolghonbncpnaa
