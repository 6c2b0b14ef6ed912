/- Those that are picked: order and names, plain Lean. -/
import Derived.Test.YthnmbpcdcjamoaaPoLaw
set_option linter.unusedSimpArgs false
set_option linter.unusedVariables false
namespace VX
open Go

abbrev nmP (p : Pen) : List UInt8 := p.u.name
theorem fnd_snoc {l : List Pen} {x : Pen} (h : x.u.name ∉ l.map (·.u.name)) (s : List UInt8) : fnd (l ++ [x]) s = if s = x.u.name then x else fnd l s := by
  unfold fnd
  rw [List.find?_append]
  by_cases hs : s = x.u.name
  · rw [if_pos hs]
    subst hs
    have : (l.find? fun p => decide (p.u.name = x.u.name)) = none := by
      rw [List.find?_eq_none]
      intro y hy e
      exact h (List.mem_map.2 ⟨y, hy, of_decide_eq_true e⟩)
    rw [this, Option.none_or, List.find?_cons_of_pos (by simp)]
    rfl
  · rw [if_neg hs]
    have : [x].find? (fun p => decide (p.u.name = s)) = none := by
      rw [List.find?_cons_of_neg (by simpa using fun e => hs e.symm)]; rfl
    rw [this, Option.or_none]
theorem frs_mem {l : List Pen} {p : Pen} (h : p ∈ frs l) : p ∈ l := by
  induction l using snocInd with
  | nil => exact h
  | snoc l x ih =>
    rw [frs_snoc] at h
    split at h
    · exact List.mem_append_left _ (ih h)
    · rcases List.mem_append.1 h with h | h
      · exact List.mem_append_left _ (ih h)
      · exact List.mem_append_right _ h
theorem frs_nodup (l : List Pen) : ((frs l).map (·.u.name)).Nodup := by
  induction l using snocInd with
  | nil => exact List.nodup_nil
  | snoc l x ih =>
    rw [frs_snoc]
    split
    · exact ih
    · rename_i h
      rw [List.map_append, List.nodup_append]
      refine ⟨ih, by simp, fun a ha b hb => ?_⟩
      have : b = x.u.name := by simpa using hb
      subst this
      exact fun e => h (e ▸ ha)
theorem fnd_frs {l : List Pen} {p : Pen} (h : p ∈ frs l) : fnd l p.u.name = p := by
  induction l using snocInd with
  | nil => cases h
  | snoc l x ih =>
    by_cases hm : x.u.name ∈ l.map (·.u.name)
    · rw [frs_old hm] at h
      rw [fnd_old hm, ih h]
    · rw [frs_new hm] at h
      rw [fnd_snoc hm]
      rcases List.mem_append.1 h with h | h
      · rw [if_neg, ih h]
        intro e
        exact hm (e ▸ List.mem_map.2 ⟨p, frs_mem h, rfl⟩)
      · have : p = x := by simpa using h
        subst this
        exact if_pos rfl
theorem frs_all {l : List Pen} (h : (l.map (·.u.name)).Nodup) : frs l = l := by
  induction l using snocInd with
  | nil => rfl
  | snoc l x ih =>
    rw [List.map_append, List.nodup_append] at h
    have hn : x.u.name ∉ l.map (·.u.name) := fun e => h.2.2 _ e _ (List.mem_singleton.2 rfl) rfl
    rw [frs_new hn, ih h.1]
theorem dues_of {G : List UInt8 → Int} {l : List Pen} {d : Due} (h : d ∈ dues G l) : ∃ p ∈ frs l, p.syn = true ∧ dueOf G p = d := by
  obtain ⟨p, hp, e⟩ := List.mem_map.1 h
  obtain ⟨h1, h2⟩ := List.mem_filter.1 hp
  exact ⟨p, h1, h2, e⟩
theorem srt_dues {G : List UInt8 → Int} {l : List Pen} {d : Due} (h : d ∈ HP.srt lessS (dues G l)) : ∃ p ∈ frs l, p.syn = true ∧ dueOf G p = d ∧ fnd l d.name = p := by
  obtain ⟨p, h1, h2, h3⟩ := dues_of ((HP.srt_perm _).subset h)
  refine ⟨p, h1, h2, h3, ?_⟩
  rw [← h3]
  exact fnd_frs h1
theorem pick_due (G : List UInt8 → Int) (l : List Pen) (n : Int) : (pickS G l n).map (dueOf G) = (HP.srt lessS (dues G l)).take n.toNat := by
  unfold pickS
  rw [List.map_map]
  conv => rhs; rw [← List.map_id ((HP.srt lessS (dues G l)).take n.toNat)]
  refine List.map_congr_left fun d hd => ?_
  obtain ⟨p, _, _, h3, h4⟩ := srt_dues ((List.take_sublist _ _).subset hd)
  show dueOf G (fnd l d.name) = d
  rw [h4, h3]
theorem pick_mem {G : List UInt8 → Int} {l : List Pen} {n : Int} {p : Pen} (h : p ∈ pickS G l n) : p ∈ frs l ∧ p.syn = true := by
  obtain ⟨d, hd, e⟩ := List.mem_map.1 h
  obtain ⟨q, h1, h2, _, h4⟩ := srt_dues ((List.take_sublist _ _).subset hd)
  have : q = p := h4.symm.trans e
  subst this
  exact ⟨h1, h2⟩
theorem pick_len (G : List UInt8 → Int) (l : List Pen) (n : Int) : (pickS G l n).length = min n.toNat ((frs l).filter synP).length := by
  unfold pickS
  rw [List.length_map, List.length_take, HP.srt_len]
  unfold dues
  rw [List.length_map]
theorem pick_nodup (G : List UInt8 → Int) (l : List Pen) (n : Int) : ((pickS G l n).map (·.u.name)).Nodup := by
  have e : (pickS G l n).map (·.u.name) = ((HP.srt lessS (dues G l)).take n.toNat).map Due.name := by
    rw [← pick_due, List.map_map]
    rfl
  rw [e]
  have h1 : ((dues G l).map Due.name).Nodup := by
    unfold dues
    rw [List.map_map]
    show (((frs l).filter synP).map (·.u.name)).Nodup
    exact (frs_nodup l).sublist ((List.filter_sublist).map _)
  have h2 : ((HP.srt lessS (dues G l)).map Due.name).Nodup := ((HP.srt_perm (dues G l)).map Due.name).nodup_iff.2 h1
  exact h2.sublist ((List.take_sublist _ _).map _)
theorem at_pick {G : List UInt8 → Int} {l : List Pen} {n : Int} {i : Nat} (hi : i < (pickS G l n).length) : dueOf G (HP.at_ (pickS G l n) i) = HP.at_ (HP.srt lessS (dues G l)) i := by
  have h : HP.at_ ((pickS G l n).map (dueOf G)) i = HP.at_ ((HP.srt lessS (dues G l)).take n.toNat) i := congrArg (fun x => HP.at_ x i) (pick_due G l n)
  rw [at_map _ hi] at h
  rw [h]
  have hl := congrArg List.length (pick_due G l n)
  rw [List.length_map, List.length_take] at hl
  exact HP.at_take (by omega)
theorem at_ne {α : Type} [Inhabited α] {l : List α} (h : l.Nodup) {i j : Nat} (hij : i < j) (hj : j < l.length) : HP.at_ l i ≠ HP.at_ l j := by
  have := List.pairwise_iff_getElem.1 h i j (by omega) hj hij
  simpa [HP.at_, List.getD_eq_getElem?_getD, hj, show i < l.length by omega] using this
/-- Those that are picked stand in order. -/
theorem pick_lt {G : List UInt8 → Int} {l : List Pen} {n : Int} {i j : Nat} (hij : i < j) (hj : j < (pickS G l n).length) : lessS (dueOf G (HP.at_ (pickS G l n) i)) (dueOf G (HP.at_ (pickS G l n) j)) = true := by
  have hsl := HP.srt_len (lt := lessS) (dues G l)
  have hl := congrArg List.length (pick_due G l n)
  rw [List.length_map, List.length_take] at hl
  have hle := List.pairwise_iff_getElem.1 (HP.srt_sl less_ord (dues G l)) i j (by omega) (by omega) hij
  have h4 : lessS (dueOf G (HP.at_ (pickS G l n) j)) (dueOf G (HP.at_ (pickS G l n) i)) = false := by
    rw [at_pick hj, at_pick (by omega), HP.at_, HP.at_, List.getD_eq_getElem?_getD, List.getD_eq_getElem?_getD, List.getElem?_eq_getElem (by omega), List.getElem?_eq_getElem (by omega)]
    exact hle
  cases h5 : lessS (dueOf G (HP.at_ (pickS G l n) i)) (dueOf G (HP.at_ (pickS G l n) j)) with
  | true => rfl
  | false =>
    exfalso
    have e := less_ord.tot _ _ h5 h4
    have hn := at_ne (pick_nodup G l n) hij (by rw [List.length_map]; exact hj)
    rw [at_map _ (by omega), at_map _ hj] at hn
    exact hn (congrArg Due.name e)
/-- The first that is picked is not above any that might be. -/
theorem pick_least {G : List UInt8 → Int} {l : List Pen} {n : Int} (h0 : 0 < (pickS G l n).length) {p : Pen} (hp : p ∈ frs l) (hs : p.syn = true) : lessS (dueOf G p) (dueOf G (HP.at_ (pickS G l n) 0)) = false := by
  have hsl := HP.srt_len (lt := lessS) (dues G l)
  have hl := congrArg List.length (pick_due G l n)
  rw [List.length_map, List.length_take] at hl
  rw [at_pick h0]
  have hm : dueOf G p ∈ HP.srt lessS (dues G l) := (HP.srt_perm _).symm.subset (List.mem_map.2 ⟨p, List.mem_filter.2 ⟨hp, hs⟩, rfl⟩)
  obtain ⟨k, hk, e⟩ := HP.mem_at hm
  rw [← e]
  rcases Nat.eq_zero_or_pos k with h | h
  · subst h
    cases h6 : lessS (HP.at_ (HP.srt lessS (dues G l)) 0) (HP.at_ (HP.srt lessS (dues G l)) 0) with
    | false => rfl
    | true => exact absurd (less_ord.asym h6) (by rw [h6]; decide)
  · have := List.pairwise_iff_getElem.1 (HP.srt_sl less_ord (dues G l)) 0 k (by omega) hk h
    rw [HP.at_, HP.at_, List.getD_eq_getElem?_getD, List.getD_eq_getElem?_getD, List.getElem?_eq_getElem (by omega), List.getElem?_eq_getElem (by omega)]
    exact this

/-! ### of like deadlines -/
def shareP (u i : Nat) : Pen := ⟨⟨nm i, 1, 1, if i = u then 1 else 0, 0, 0⟩, 0, (i : Nat), true⟩
def shareL (u n : Nat) : List Pen := (List.range n).map (shareP u)
theorem shareL_len (u n : Nat) : (shareL u n).length = n := by simp [shareL]
theorem shareL_snoc (u n : Nat) : shareL u (n + 1) = shareL u n ++ [shareP u n] := by
  unfold shareL
  rw [List.range_succ, List.map_append]
  rfl
theorem nodup_range {n : Nat} (hn : n ≤ 100) : ((List.range n).map nm).Nodup := by
  rw [List.nodup_iff_pairwise_ne, List.pairwise_map]
  refine (List.nodup_range (n := n)).imp_of_mem ?_
  intro a b ha hb hne e
  exact hne (nm_inj (by have := List.mem_range.1 ha; omega) (by have := List.mem_range.1 hb; omega) e)
theorem share_nodup {u n : Nat} (hn : n ≤ 100) : ((shareL u n).map (·.u.name)).Nodup := by
  have : (shareL u n).map (·.u.name) = (List.range n).map nm := by
    unfold shareL
    rw [List.map_map]
    rfl
  rw [this]
  exact nodup_range hn
structure Shares (G : List UInt8 → Int) (u n : Nat) (x : List Pen) : Prop where
  len : x.length = n
  first : (HP.at_ x 0).u.cls = 1
  next : ∀ i, 2 ≤ i → i < n → G (HP.at_ x (i - 1)).u.name < G (HP.at_ x i).u.name ∨ (G (HP.at_ x (i - 1)).u.name = G (HP.at_ x i).u.name ∧ strLt (HP.at_ x (i - 1)).u.name (HP.at_ x i).u.name = true)
theorem share_mem {u n : Nat} {p : Pen} (h : p ∈ shareL u n) : ∃ j, j < n ∧ p = shareP u j := by
  obtain ⟨j, hj, e⟩ := List.mem_map.1 h
  exact ⟨j, List.mem_range.1 hj, e.symm⟩
theorem shares (G : List UInt8 → Int) {u n : Nat} (hu : u < n) (hn : n ≤ 8) : Shares G u n (pickS G (shareL u n) 99) := by
  have hf := frs_all (share_nodup (u := u) (show n ≤ 100 by omega))
  have hfs : (frs (shareL u n)).filter synP = shareL u n := by
    rw [hf, List.filter_eq_self]
    intro p hp
    obtain ⟨j, _, e⟩ := share_mem hp
    subst e; rfl
  have hl : (pickS G (shareL u n) 99).length = n := by
    rw [pick_len, hfs, shareL_len]
    show min 99 n = n
    omega
  have hin : ∀ i, i < n → ∃ j, j < n ∧ HP.at_ (pickS G (shareL u n) 99) i = shareP u j := fun i hi => by
    have h := (pick_mem (HP.at_mem (show i < (pickS G (shareL u n) 99).length by omega))).1
    rw [hf] at h
    exact share_mem h
  have h1 : (HP.at_ (pickS G (shareL u n) 99) 0).u.cls = 1 := by
    obtain ⟨j, hj, e⟩ := hin 0 (by omega)
    have hlt := pick_least (G := G) (l := shareL u n) (n := 99) (by omega) (p := shareP u u) (by rw [hf]; exact List.mem_map.2 ⟨u, List.mem_range.2 hu, rfl⟩) rfl
    rw [e] at hlt ⊢
    by_cases hju : j = u
    · show (if j = u then (1 : Int) else 0) = 1
      rw [if_pos hju]
    · exfalso
      have : lessS (dueOf G (shareP u u)) (dueOf G (shareP u j)) = true := (less_iff _ _).2 (.inr ⟨rfl, .inl (by
        show (if j = u then (1 : Int) else 0) < if u = u then 1 else 0
        rw [if_neg hju, if_pos rfl]; decide)⟩)
      rw [this] at hlt
      cases hlt
  refine ⟨hl, h1, fun i hi hin2 => ?_⟩
  have hzero : ∀ k, 0 < k → k < n → ∃ j, j < n ∧ j ≠ u ∧ HP.at_ (pickS G (shareL u n) 99) k = shareP u j := fun k hk hkn => by
    obtain ⟨j, hj, e⟩ := hin k hkn
    refine ⟨j, hj, fun hju => ?_, e⟩
    obtain ⟨j0, hj0, e0⟩ := hin 0 (by omega)
    have hj0u : j0 = u := by
      rw [e0] at h1
      by_cases h : j0 = u
      · exact h
      · have h1 : (if j0 = u then (1 : Int) else 0) = 1 := h1
        rw [if_neg h] at h1; cases h1
    have hn := at_ne (pick_nodup G (shareL u n) 99) hk (by rw [List.length_map]; omega)
    rw [at_map _ (by omega), at_map _ (by omega), e, e0, hju, hj0u] at hn
    exact hn rfl
  obtain ⟨a, ha, hau, ea⟩ := hzero (i - 1) (by omega) (by omega)
  obtain ⟨b, hb, hbu, eb⟩ := hzero i (by omega) hin2
  have hlt := (less_iff _ _).1 (pick_lt (G := G) (l := shareL u n) (n := 99) (show i - 1 < i by omega) (by omega))
  rw [ea, eb] at hlt ⊢
  have ca : (shareP u a).u.cls = 0 := if_neg hau
  have cb : (shareP u b).u.cls = 0 := if_neg hbu
  rcases hlt with h | ⟨_, h | ⟨_, h | ⟨h, k⟩⟩⟩
  · exact absurd (show (0 : Int) + 40 < 0 + 40 from h) (by decide)
  · exfalso
    have h : (shareP u b).u.cls < (shareP u a).u.cls := h
    omega
  · exact .inl h
  · exact .inr ⟨h, k⟩
end VX
