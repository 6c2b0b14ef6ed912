/- A disk that forgets, as the document tells it: of each file what is sure, and what was appended behind that. -/
set_option linter.unusedSimpArgs false
set_option linter.unusedVariables false
namespace DK

/-- A file: what is sure; what was appended since. -/
structure F where
  s : List UInt8
  ps : List (List UInt8)
structure D where
  f0 : F
  f1 : F
  f2 : F
  room : Int
  fail : Int

def F.b (x : F) : List UInt8 := x.s ++ x.ps.flatten
/-- Where the parts begin. -/
def pos : Nat → List (List UInt8) → List Nat
  | _, [] => []
  | k, p :: ps => k :: pos (k + p.length) ps
def F.begins (x : F) : List Nat := pos x.s.length x.ps

theorem pos_length : ∀ (k : Nat) (ps : List (List UInt8)), (pos k ps).length = ps.length
  | _, [] => rfl
  | k, p :: ps => by simp [pos, pos_length]
theorem pos_append : ∀ (k : Nat) (ps : List (List UInt8)) (b : List UInt8), pos k (ps ++ [b]) = pos k ps ++ [k + ps.flatten.length]
  | k, [], b => by simp [pos]
  | k, p :: ps, b => by simp [pos, pos_append, Nat.add_assoc]
theorem pos_getD : ∀ (k : Nat) (ps : List (List UInt8)) (i : Nat), i < ps.length → (pos k ps).getD i 0 = k + (ps.take i).flatten.length
  | k, [], i, h => by simp at h
  | k, p :: ps, 0, h => by simp [pos]
  | k, p :: ps, i + 1, h => by
    have := pos_getD (k + p.length) ps i (by simpa using h)
    simp [pos] at this ⊢
    simp [this, Nat.add_assoc]

def get (d : D) : Nat → F
  | 0 => d.f0
  | 1 => d.f1
  | _ => d.f2
def set (d : D) (i : Nat) (x : F) : D := match i with
  | 0 => { d with f0 := x }
  | 1 => { d with f1 := x }
  | _ => { d with f2 := x }
/-- Is it none of the files? -/
def no (f : Int) : Bool := decide (f < 0) || decide (3 ≤ f)
/-- Does this write fail? -/
def failB (d : D) : Bool := !decide (d.fail < 0) && decide (d.fail - 1 < 0)
def failD (d : D) : D := { d with fail := if d.fail < 0 then d.fail else d.fail - 1 }
def used (d : D) : Nat := d.f0.b.length + d.f1.b.length + d.f2.b.length

def newD (room : Int) : D := ⟨⟨[], []⟩, ⟨[], []⟩, ⟨[], []⟩, if room < 0 then 0 else room, -1⟩
def appE (d : D) (f : Int) (b : List UInt8) : Int := if no f = true then 36 else if failB d = true then 32 else if d.room - (used d : Int) < b.length then 33 else 0
def appF (x : F) (b : List UInt8) : F := { x with ps := x.ps ++ [b] }
def appD (d : D) (f : Int) (b : List UInt8) : D :=
  if no f = true then d else if failB d = true then failD d else if d.room - (used d : Int) < b.length then failD d else set (failD d) f.toNat (appF (get d f.toNat) b)
def syncE (d : D) (f : Int) : Int := if no f = true then 36 else if failB d = true then 32 else 0
def syncF (x : F) : F := ⟨x.b, []⟩
def syncD (d : D) (f : Int) : D := if no f = true then d else if failB d = true then failD d else set (failD d) f.toNat (syncF (get d f.toNat))
/-- The parts, cut behind n bytes. -/
def cutP : Nat → List (List UInt8) → List (List UInt8)
  | _, [] => []
  | 0, _ :: _ => []
  | n + 1, p :: ps => p.take (n + 1) :: cutP (n + 1 - p.length) ps
def cutF (x : F) (n : Nat) : F := ⟨x.s.take n, cutP (n - x.s.length) x.ps⟩
def cutE (d : D) (f n : Int) : Int := if no f = true then 36 else if n < 0 ∨ ((get d f.toNat).b.length : Int) < n then 36 else if failB d = true then 32 else 0
def cutD (d : D) (f n : Int) : D := if no f = true then d else if n < 0 ∨ ((get d f.toNat).b.length : Int) < n then d else if failB d = true then failD d else set (failD d) f.toNat (cutF (get d f.toNat) n.toNat)
def readS (d : D) (f : Int) : List UInt8 := if no f = true then [] else (get d f.toNat).b
def sureS (d : D) (f : Int) : Int := if no f = true then 0 else (get d f.toNat).s.length
def failSet (d : D) (n : Int) : D := { d with fail := if n < -1 then -1 else n }
/-- The last of the first bits that is set; below 0: none. -/
def lastB (m : Nat) : Nat → Int
  | 0 => -1
  | k + 1 => if m.testBit k = true then k else lastB m k
/-- What is there of a part behind a crash. -/
def left (m : Nat) (torn last : Int) (i : Nat) (p : List UInt8) : List UInt8 :=
  if m.testBit i = false then List.replicate p.length 0 else if (i : Int) = last ∧ 0 ≤ torn then p.take torn.toNat else p
def lefts (m : Nat) (torn last : Int) (ps : List (List UInt8)) (n : Nat) : List UInt8 := (List.range n).flatMap fun i => left m torn last i (ps.getD i [])
def lastOf (m : Nat) (x : F) : Int := lastB m (min x.ps.length 64)
def crashF (m : Nat) (torn : Int) (x : F) : F := ⟨x.s ++ lefts m torn (lastOf m x) x.ps (lastOf m x + 1).toNat, []⟩
def crashD (d : D) (m : Nat) (torn : Int) : D := ⟨crashF m torn d.f0, crashF m torn d.f1, crashF m torn d.f2, d.room, -1⟩

/-- What may be: numbers that fit, lengths that are no end. -/
structure Ok (d : D) : Prop where
  fl : -1 ≤ d.fail
  fh : d.fail ≤ 9223372036854775807
  rl : 0 ≤ d.room
  rh : d.room ≤ 9223372036854775807
  b0 : d.f0.b.length ≤ 1000000000
  b1 : d.f1.b.length ≤ 1000000000
  b2 : d.f2.b.length ≤ 1000000000
  p0 : d.f0.ps.length ≤ 1000000000
  p1 : d.f1.ps.length ≤ 1000000000
  p2 : d.f2.ps.length ≤ 1000000000
theorem lefts_succ (m : Nat) (torn last : Int) (ps : List (List UInt8)) (n : Nat) : lefts m torn last ps (n + 1) = lefts m torn last ps n ++ left m torn last n (ps.getD n []) := by
  simp [lefts, List.range_succ]
theorem lefts_zero (m : Nat) (torn last : Int) (ps : List (List UInt8)) : lefts m torn last ps 0 = [] := rfl
theorem lastB_le (m : Nat) : ∀ n : Nat, -1 ≤ lastB m n ∧ lastB m n < n
  | 0 => by simp [lastB]
  | n + 1 => by
    have := lastB_le m n
    unfold lastB
    split <;> omega
theorem left_len (m : Nat) (torn last : Int) (i : Nat) (p : List UInt8) : (left m torn last i p).length ≤ p.length := by
  unfold left
  split
  · simp
  · split
    · rw [List.length_take]; omega
    · exact Nat.le_refl _
theorem take_flat {ps : List (List UInt8)} {i : Nat} (h : i < ps.length) : (ps.take (i + 1)).flatten = (ps.take i).flatten ++ ps.getD i [] := by
  rw [List.take_succ_eq_append_getElem h, List.flatten_append]
  simp [List.getD_eq_getElem?_getD, List.getElem?_eq_getElem h]
theorem flat_le {ps : List (List UInt8)} (i : Nat) : (ps.take i).flatten.length ≤ ps.flatten.length := by
  have h : ps.flatten = (ps.take i).flatten ++ (ps.drop i).flatten := by rw [← List.flatten_append, List.take_append_drop]
  rw [h, List.length_append]; omega
theorem lefts_len (m : Nat) (torn last : Int) (ps : List (List UInt8)) : ∀ n, n ≤ ps.length → (lefts m torn last ps n).length ≤ (ps.take n).flatten.length
  | 0, _ => by simp [lefts]
  | n + 1, h => by
    rw [lefts_succ, take_flat (by omega), List.length_append, List.length_append]
    have := lefts_len m torn last ps n (by omega)
    have := left_len m torn last n (ps.getD n [])
    omega
/-- Where a part begins. -/
theorem begins_get (x : F) {i : Nat} (h : i < x.ps.length) : x.begins.getD i 0 = (x.s ++ (x.ps.take i).flatten).length := by
  rw [F.begins, pos_getD _ _ _ h, List.length_append]
theorem part_in (x : F) {i : Nat} (h : i + 1 < x.ps.length) : (x.b.take (x.begins.getD (i + 1) 0)).drop (x.begins.getD i 0) = x.ps.getD i [] := by
  have hb : x.b = x.s ++ (x.ps.take i).flatten ++ (x.ps.getD i [] ++ (x.ps.drop (i + 1)).flatten) := by
    rw [F.b, List.append_assoc, ← List.append_assoc (x.ps.take i).flatten, ← take_flat (by omega), ← List.flatten_append, List.take_append_drop]
  have h1 := begins_get x h
  have h0 := begins_get x (i := i) (by omega)
  rw [take_flat (by omega), ← List.append_assoc] at h1
  rw [h1, h0, hb, ← List.append_assoc, List.take_left, List.drop_left]
theorem part_last (x : F) {i : Nat} (h : i + 1 = x.ps.length) : x.b.drop (x.begins.getD i 0) = x.ps.getD i [] := by
  have hb : x.b = x.s ++ (x.ps.take i).flatten ++ (x.ps.getD i [] ++ (x.ps.drop (i + 1)).flatten) := by
    rw [F.b, List.append_assoc, ← List.append_assoc (x.ps.take i).flatten, ← take_flat (by omega), ← List.flatten_append, List.take_append_drop]
  have h0 := begins_get x (i := i) (by omega)
  rw [h0, hb, List.drop_left, List.drop_of_length_le (by omega)]
  simp
theorem begins_le (x : F) {i : Nat} (h : i < x.ps.length) : x.begins.getD i 0 + (x.ps.getD i []).length ≤ x.b.length := by
  rw [begins_get x h]
  have := flat_le (ps := x.ps) (i + 1)
  rw [take_flat h, List.length_append] at this
  rw [F.b, List.length_append, List.length_append]; omega
theorem begins_next (x : F) {i : Nat} (h : i + 1 < x.ps.length) : x.begins.getD (i + 1) 0 = x.begins.getD i 0 + (x.ps.getD i []).length := by
  rw [begins_get x h, begins_get x (i := i) (by omega), take_flat (by omega)]
  simp only [List.length_append]; omega
theorem begins_end (x : F) {i : Nat} (h : i + 1 = x.ps.length) : x.b.length = x.begins.getD i 0 + (x.ps.getD i []).length := by
  have := congrArg List.length (part_last x h)
  have := begins_le x (i := i) (by omega)
  rw [List.length_drop] at *
  omega
/-- What begins ahead of a place. -/
theorem pos_filter : ∀ (ps : List (List UInt8)) (k n : Nat), (pos k ps).filter (fun a => decide (a < n)) = pos k (cutP (n - k) ps)
  | [], k, n => by cases n - k <;> simp [pos, cutP]
  | p :: ps, k, n => by
    cases h : n - k with
    | zero =>
      have hk : n ≤ k := by omega
      rw [cutP]
      have : ∀ a ∈ pos k (p :: ps), ¬ (decide (a < n) = true) := by
        have key : ∀ (qs : List (List UInt8)) (j : Nat), n ≤ j → ∀ a ∈ pos j qs, n ≤ a := by
          intro qs
          induction qs with
          | nil => intro j _ a ha; simp [pos] at ha
          | cons q qs ih =>
            intro j hj a ha
            simp only [pos, List.mem_cons] at ha
            rcases ha with rfl | ha
            · exact hj
            · exact ih _ (by omega) a ha
        intro a ha
        have := key _ _ hk a ha
        simp; omega
      rw [List.filter_eq_nil_iff.2 this]
      rfl
    | succ q =>
      have hk : k < n := by omega
      rw [cutP]
      simp only [pos]
      rw [List.filter_cons, if_pos (by simpa using hk), pos_filter ps (k + p.length) n]
      congr 1
      rw [show n - (k + p.length) = q + 1 - p.length by omega]
      by_cases hp : p.length ≤ q + 1
      · rw [List.take_of_length_le hp]
      · have e0 : q + 1 - p.length = 0 := by omega
        rw [e0]
        cases ps <;> simp [cutP, pos]
theorem cutP_flat : ∀ (ps : List (List UInt8)) (n : Nat), (cutP n ps).flatten = ps.flatten.take n
  | [], n => by cases n <;> simp [cutP]
  | p :: ps, 0 => by simp [cutP]
  | p :: ps, n + 1 => by
    rw [cutP, List.flatten_cons, cutP_flat ps, List.flatten_cons, List.take_append]
theorem cutF_b (x : F) (n : Nat) : (cutF x n).b = x.b.take n := by
  rw [cutF, F.b, F.b, cutP_flat, List.take_append]
theorem cutF_begins (x : F) (n : Nat) : (cutF x n).begins = x.begins.filter fun a => decide (a < n) := by
  rw [cutF, F.begins, F.begins, pos_filter]
  by_cases h : x.s.length ≤ n
  · simp [Nat.min_eq_right h]
  · have e : n - x.s.length = 0 := by omega
    rw [e]
    cases x.ps <;> simp [cutP, pos]
theorem ok_fail {d : D} (h : Ok d) : Ok (failD d) := ⟨by have := h.fl; simp only [failD]; split <;> omega, by have := h.fh; simp only [failD]; split <;> omega, h.rl, h.rh, h.b0, h.b1, h.b2, h.p0, h.p1, h.p2⟩
theorem appF_len (x : F) (b : List UInt8) : (appF x b).b.length = x.b.length + b.length := by simp [appF, F.b, Nat.add_assoc]
theorem appF_b (x : F) (b : List UInt8) : (appF x b).b = x.b ++ b := by simp [appF, F.b]
theorem appF_begins (x : F) (b : List UInt8) : (appF x b).begins = x.begins ++ [x.b.length] := by simp [appF, F.begins, F.b, pos_append]
theorem begins_len (x : F) : x.begins.length = x.ps.length := pos_length _ _
theorem sure_le (x : F) : x.s.length ≤ x.b.length := by simp [F.b]
end DK
