/- Plain: ways over places from 0 on; least demerits, fewest lines, least demerits of so many lines. -/
namespace Go.Proofs.Ytefjhhgfkdkfaaa
set_option linter.unusedSimpArgs false
set_option linter.unusedVariables false
def ML : Nat := 1000000000000000
theorem ML_pos : 0 < ML := by unfold ML; omega
/-- A table of lines: from, to: the demerits of an allowed line. -/
abbrev Tb := Nat → Nat → Option Nat
/-- The demerits of breaks from a place on. -/
def cost (t : Tb) : Nat → List Nat → Option Nat
  | _, [] => some 0
  | i, j :: l => match t i j with
    | none => none
    | some d => match cost t j l with
      | none => none
      | some c => some (d + c)
def lastOf : Nat → List Nat → Nat
  | i, [] => i
  | _, j :: l => lastOf j l
/-- Breaks from i to j with demerits c. -/
def Path (t : Tb) (i : Nat) (b : List Nat) (j c : Nat) : Prop := cost t i b = some c ∧ lastOf i b = j
theorem Path.nil (t : Tb) (i : Nat) : Path t i [] i 0 := ⟨rfl, rfl⟩
theorem Path.cons {t : Tb} {i k j d c : Nat} {b : List Nat} (h : t i k = some d) (p : Path t k b j c) : Path t i (k :: b) j (d + c) := by
  obtain ⟨h1, h2⟩ := p
  exact ⟨by simp [cost, h, h1], h2⟩
theorem Path.inv {t : Tb} {i k j c : Nat} {b : List Nat} (p : Path t i (k :: b) j c) : ∃ d e, t i k = some d ∧ Path t k b j e ∧ c = d + e := by
  obtain ⟨h1, h2⟩ := p
  unfold cost at h1
  split at h1
  · cases h1
  · rename_i d hd
    split at h1
    · cases h1
    · rename_i e he
      cases h1
      exact ⟨d, e, hd, ⟨he, h2⟩, rfl⟩
theorem Path.snoc {t : Tb} {k j d : Nat} (h : t k j = some d) : ∀ {b : List Nat} {i c : Nat}, Path t i b k c → Path t i (b ++ [j]) j (c + d)
  | [], i, c, p => by
    obtain ⟨h1, h2⟩ := p
    cases h1
    obtain rfl : i = k := h2
    rw [Nat.zero_add]
    exact Path.cons h (Path.nil t j)
  | m :: b, i, c, p => by
    obtain ⟨d', e, h1, h2, rfl⟩ := p.inv
    rw [Nat.add_assoc]
    exact Path.cons h1 (Path.snoc h h2)
theorem Path.unsnoc {t : Tb} {j c : Nat} : ∀ {b : List Nat} {i : Nat} {k : Nat}, Path t i (b ++ [j]) k c → k = j ∧ ∃ m e d, Path t i b m e ∧ t m j = some d ∧ c = e + d := by
  intro b
  induction b generalizing c with
  | nil =>
    intro i k p
    obtain ⟨d, e, h1, h2, rfl⟩ := p.inv
    obtain ⟨h3, h4⟩ := h2
    cases h3
    exact ⟨h4.symm, i, 0, d, Path.nil t i, h1, by omega⟩
  | cons x b ih =>
    intro i k p
    obtain ⟨d, e, h1, h2, rfl⟩ := p.inv
    obtain ⟨rfl, m, e', d', h3, h4, rfl⟩ := ih h2
    exact ⟨rfl, m, d + e', d', Path.cons h1 h3, h4, by omega⟩
theorem Path.append {t : Tb} {k j c' : Nat} {b' : List Nat} (q : Path t k b' j c') : ∀ {b : List Nat} {i c : Nat}, Path t i b k c → Path t i (b ++ b') j (c + c')
  | [], i, c, p => by
    obtain ⟨h1, h2⟩ := p
    cases h1
    obtain rfl : i = k := h2
    rw [Nat.zero_add]
    exact q
  | m :: b, i, c, p => by
    obtain ⟨d', e, h1, h2, rfl⟩ := p.inv
    rw [Nat.add_assoc]
    exact Path.cons h1 (Path.append q h2)
/-- What a table is known to be: lines go on, below n, and have at most D demerits. -/
structure TbOk (t : Tb) (n D : Nat) : Prop where
  up : ∀ {i j d}, t i j = some d → i < j ∧ j < n ∧ d ≤ D
  pos : 0 < n
  ml : n * D < ML
theorem Path.len {t : Tb} {n D : Nat} (ht : TbOk t n D) : ∀ {b : List Nat} {i j c : Nat}, Path t i b j c → i + b.length ≤ j ∧ c ≤ b.length * D
  | [], i, j, c, p => by
    obtain ⟨h1, h2⟩ := p
    cases h1
    obtain rfl : i = j := h2
    simp
  | m :: b, i, j, c, p => by
    obtain ⟨d, e, h1, h2, rfl⟩ := p.inv
    have h3 := Path.len ht h2
    have h4 := ht.up h1
    simp only [List.length_cons, Nat.add_mul]
    omega
theorem Path.lt {t : Tb} {n D : Nat} (ht : TbOk t n D) {b : List Nat} {i j c : Nat} (p : Path t i b j c) (hj : j < n) : c < ML ∧ b.length < n := by
  have h := p.len ht
  have h2 : b.length * D ≤ n * D := Nat.mul_le_mul_right _ (by omega)
  have := ht.ml
  omega
/-- The best way to j by lines that begin ahead of k: its demerits, and the place before. -/
def fwd (t : Tb) : Nat → Nat → Nat × Int
  | 0, j => if j = 0 then (0, -1) else (ML, -1)
  | k + 1, j => match t k j with
    | none => fwd t k j
    | some d => if (fwd t k k).1 < ML ∧ (fwd t k k).1 + d < (fwd t k j).1 then ((fwd t k k).1 + d, (k : Int)) else fwd t k j
def dist (t : Tb) (j : Nat) : Nat := (fwd t j j).1
theorem fwd_le_ML (t : Tb) : ∀ (k j : Nat), (fwd t k j).1 ≤ ML
  | 0, j => by unfold fwd; split <;> simp
  | k + 1, j => by
    have := fwd_le_ML t k j
    unfold fwd
    split
    · exact this
    · split
      · rename_i d hd h
        show (fwd t k k).1 + d ≤ ML
        omega
      · exact this
theorem dist_le_ML (t : Tb) (j : Nat) : dist t j ≤ ML := fwd_le_ML t j j
theorem fwd_stay {t : Tb} {n D : Nat} (ht : TbOk t n D) {j : Nat} : ∀ (k : Nat), j ≤ k → fwd t k j = fwd t j j
  | 0, h => by
    obtain rfl : j = 0 := by omega
    rfl
  | k + 1, h => by
    by_cases e : j = k + 1
    · rw [e]
    · have hk := fwd_stay ht k (by omega : j ≤ k)
      have h0 : t k j = none := by
        cases hd : t k j with
        | none => rfl
        | some d => have := ht.up hd; omega
      show (match t k j with | none => fwd t k j | some d => _) = _
      rw [h0]
      exact hk
theorem fwd_dist {t : Tb} {n D : Nat} (ht : TbOk t n D) {j k : Nat} (h : j ≤ k) : (fwd t k j).1 = dist t j := by rw [fwd_stay ht k h]; rfl
theorem dist_zero (t : Tb) : dist t 0 = 0 := rfl
theorem fwd_step {t : Tb} {k j d : Nat} (h : t k j = some d) (hk : dist t k < ML) : (fwd t (k + 1) j).1 ≤ dist t k + d := by
  unfold fwd
  rw [h]
  show (if (fwd t k k).1 < ML ∧ (fwd t k k).1 + d < (fwd t k j).1 then ((fwd t k k).1 + d, (k : Int)) else fwd t k j).1 ≤ _
  split
  · exact Nat.le_refl _
  · rename_i h2
    have : dist t k = (fwd t k k).1 := rfl
    omega
theorem fwd_mono (t : Tb) (j : Nat) : ∀ {k k' : Nat}, k ≤ k' → (fwd t k' j).1 ≤ (fwd t k j).1 := by
  intro k k' h
  induction h with
  | refl => exact Nat.le_refl _
  | step h ih =>
    rename_i m
    refine Nat.le_trans ?_ ih
    show (match t m j with | none => fwd t m j | some d => _).1 ≤ _
    split
    · exact Nat.le_refl _
    · split
      · rename_i d hd h2
        show (fwd t m m).1 + d ≤ _
        omega
      · exact Nat.le_refl _
/-- The distances are right labels. -/
theorem dist_step {t : Tb} {n D : Nat} (ht : TbOk t n D) {i j d : Nat} (h : t i j = some d) : dist t j ≤ dist t i + d := by
  by_cases hi : dist t i < ML
  · have h1 := ht.up h
    have h2 := fwd_step h hi
    have h3 := fwd_mono t j (show i + 1 ≤ j by omega)
    show (fwd t j j).1 ≤ _
    omega
  · have := dist_le_ML t j
    omega
/-- Right labels: no breaks have less demerits. -/
theorem label_le {t : Tb} {L : Nat → Nat} (h : ∀ i j d, t i j = some d → L j ≤ L i + d) : ∀ {b : List Nat} {i j c : Nat}, Path t i b j c → L j ≤ L i + c
  | [], i, j, c, p => by
    obtain ⟨h1, h2⟩ := p
    cases h1
    obtain rfl : i = j := h2
    simp
  | m :: b, i, j, c, p => by
    obtain ⟨d, e, h1, h2, rfl⟩ := p.inv
    have h3 := label_le h h2
    have h4 := h _ _ _ h1
    omega
theorem dist_le {t : Tb} {n D : Nat} (ht : TbOk t n D) {b : List Nat} {j c : Nat} (p : Path t 0 b j c) : dist t j ≤ c := by
  have := label_le (L := dist t) (fun i j d h => dist_step ht h) p
  rw [dist_zero] at this
  omega
/-- How a place is reached. -/
theorem fwd_by {t : Tb} {n D : Nat} (ht : TbOk t n D) : ∀ (k j : Nat), j ≠ 0 → (fwd t k j).1 < ML → ∃ (i d : Nat), (fwd t k j).2 = (i : Int) ∧ i < k ∧ t i j = some d ∧ dist t i < ML ∧ (fwd t k j).1 = dist t i + d
  | 0, j, h0, h => by
    unfold fwd at h
    rw [if_neg h0] at h
    exact absurd h (Nat.lt_irrefl _)
  | k + 1, j, h0, h => by
    have ih := fwd_by ht k j h0
    unfold fwd at h ⊢
    cases hd : t k j with
    | none =>
      simp only [hd] at h ⊢
      obtain ⟨i, d, a1, a2, a3, a4, a5⟩ := ih h
      exact ⟨i, d, a1, by omega, a3, a4, a5⟩
    | some d =>
      simp only [hd] at h ⊢
      split at h
      · rename_i h2
        rw [if_pos h2]
        exact ⟨k, d, rfl, by omega, hd, h2.1, rfl⟩
      · rename_i h2
        rw [if_neg h2]
        obtain ⟨i, d, a1, a2, a3, a4, a5⟩ := ih h
        exact ⟨i, d, a1, by omega, a3, a4, a5⟩
theorem dist_by {t : Tb} {n D : Nat} (ht : TbOk t n D) {j : Nat} (hj : j ≤ n) (h0 : j ≠ 0) (h : dist t j < ML) : ∃ (i d : Nat), (fwd t n j).2 = (i : Int) ∧ i < j ∧ t i j = some d ∧ dist t i < ML ∧ dist t j = dist t i + d := by
  rw [fwd_stay ht n hj]
  exact fwd_by ht j j h0 h
theorem dist_path {t : Tb} {n D : Nat} (ht : TbOk t n D) : ∀ (j : Nat), dist t j < ML → ∃ b, Path t 0 b j (dist t j) := fun j => by
  induction j using Nat.strongRecOn with
  | ind j ih =>
    intro h
    by_cases h0 : j = 0
    · subst h0
      exact ⟨[], Path.nil t 0⟩
    · obtain ⟨i, d, -, h2, h3, h4, h5⟩ := fwd_by ht j j h0 h
      obtain ⟨b, hb⟩ := ih i h2 h4
      exact ⟨b ++ [j], by rw [show dist t j = dist t i + d from h5]; exact Path.snoc h3 hb⟩
theorem dist_iff {t : Tb} {n D : Nat} (ht : TbOk t n D) {j : Nat} (hj : j < n) : dist t j < ML ↔ ∃ b c, Path t 0 b j c :=
  ⟨fun h => by obtain ⟨b, hb⟩ := dist_path ht j h; exact ⟨b, _, hb⟩, fun ⟨b, c, hb⟩ => by have := dist_le ht hb; have := (hb.lt ht hj).1; omega⟩
/-- The fewest lines to j by lines that begin ahead of k. -/
def hop (t : Tb) : Nat → Nat → Option Nat
  | 0, j => if j = 0 then some 0 else none
  | k + 1, j => match t k j with
    | none => hop t k j
    | some _ => match hop t k k with
      | none => hop t k j
      | some m => match hop t k j with
        | none => some (m + 1)
        | some x => if m + 1 < x then some (m + 1) else some x
theorem hop_stay {t : Tb} {n D : Nat} (ht : TbOk t n D) {j : Nat} : ∀ (k : Nat), j ≤ k → hop t k j = hop t j j
  | 0, h => by
    obtain rfl : j = 0 := by omega
    rfl
  | k + 1, h => by
    by_cases e : j = k + 1
    · rw [e]
    · have hk := hop_stay ht k (by omega : j ≤ k)
      have h0 : t k j = none := by
        cases hd : t k j with
        | none => rfl
        | some d => have := ht.up hd; omega
      show (match t k j with | none => hop t k j | some _ => _) = _
      rw [h0]
      exact hk
theorem hop_path {t : Tb} {n D : Nat} (ht : TbOk t n D) : ∀ (k j x : Nat), hop t k j = some x → ∃ b c, Path t 0 b j c ∧ b.length = x
  | 0, j, x, h => by
    unfold hop at h
    split at h
    · rename_i h0
      subst h0
      cases h
      exact ⟨[], 0, Path.nil t 0, rfl⟩
    · cases h
  | k + 1, j, x, h => by
    unfold hop at h
    split at h
    · exact hop_path ht k j x h
    · rename_i d hd
      split at h
      · exact hop_path ht k j x h
      · rename_i m hm
        obtain ⟨b, c, hb, hl⟩ := hop_path ht k k m hm
        have hnew : ∃ b c, Path t 0 b j c ∧ b.length = m + 1 := ⟨b ++ [j], c + d, Path.snoc hd hb, by simp [hl]⟩
        split at h
        · cases h; exact hnew
        · rename_i y hy
          split at h
          · cases h; exact hnew
          · cases h; exact hop_path ht k j _ hy
/-- No more lines than so many. -/
def leO : Option Nat → Nat → Prop
  | none, _ => False
  | some x, y => x ≤ y
theorem hop_mono (t : Tb) (j : Nat) {y : Nat} : ∀ {k k' : Nat}, k ≤ k' → leO (hop t k j) y → leO (hop t k' j) y := by
  intro k k' h
  induction h with
  | refl => exact id
  | step h ih =>
    rename_i m
    intro h0
    have h1 := ih h0
    show leO (match t m j with | none => hop t m j | some _ => _) y
    split
    · exact h1
    · split
      · exact h1
      · rename_i q hq
        split
        · rename_i e
          rw [e] at h1
          exact h1.elim
        · rename_i x hx
          rw [hx] at h1
          have h1 : x ≤ y := h1
          split
          · show q + 1 ≤ y
            omega
          · exact h1
theorem hop_step {t : Tb} {k j d m : Nat} (h : t k j = some d) (hk : hop t k k = some m) : leO (hop t (k + 1) j) (m + 1) := by
  show leO (match t k j with | none => hop t k j | some _ => _) _
  rw [h, hk]
  show leO (match hop t k j with | none => some (m + 1) | some x => if m + 1 < x then some (m + 1) else some x) _
  split
  · exact Nat.le_refl _
  · split
    · exact Nat.le_refl _
    · rename_i x hx h2
      show x ≤ m + 1
      omega
theorem hop_le {t : Tb} {n D : Nat} (ht : TbOk t n D) : ∀ (l : Nat) {b : List Nat} {j c : Nat}, b.length = l → Path t 0 b j c → leO (hop t j j) b.length := by
  intro l
  induction l with
  | zero =>
    intro b j c hl p
    obtain rfl := List.eq_nil_of_length_eq_zero hl
    obtain ⟨h1, h2⟩ := p
    obtain rfl : 0 = j := h2
    exact Nat.le_refl _
  | succ l ih =>
    intro b j c hl p
    rcases List.eq_nil_or_concat b with rfl | ⟨b', x, rfl⟩
    · simp at hl
    · rw [List.concat_eq_append] at p hl ⊢
      obtain ⟨rfl, m, e, d, h3, h4, rfl⟩ := p.unsnoc
      have h5 := ih (by simpa using hl) h3
      have h6 := (ht.up h4).1
      have hs := hop_stay ht m (Nat.le_refl m)
      cases hm : hop t m m with
      | none => rw [hm] at h5; exact h5.elim
      | some q =>
        rw [hm] at h5
        have h5 : q ≤ b'.length := h5
        have h7 := hop_mono t j (show m + 1 ≤ j by omega) (hop_step h4 hm)
        cases hj : hop t j j with
        | none => rw [hj] at h7; exact h7.elim
        | some y =>
          rw [hj] at h7
          have h7 : y ≤ q + 1 := h7
          show y ≤ _
          rw [List.length_append, List.length_singleton]
          omega
/-- The best way to j by one line more than 'prev' tells, the line beginning ahead of k. -/
def inS (t : Tb) (prev : Nat → Nat) : Nat → Nat → Nat × Int
  | 0, _ => (ML, -1)
  | k + 1, j => match t k j with
    | none => inS t prev k j
    | some d => if prev k < ML ∧ prev k + d < (inS t prev k j).1 then (prev k + d, (k : Int)) else inS t prev k j
/-- The best way to j by just m lines. -/
def inD (t : Tb) (n : Nat) : Nat → Nat → Nat × Int
  | 0, j => if j = 0 then (0, -1) else (ML, -1)
  | m + 1, j => inS t (fun i => (inD t n m i).1) n j
theorem inS_le_ML (t : Tb) (p : Nat → Nat) : ∀ (k j : Nat), (inS t p k j).1 ≤ ML
  | 0, j => Nat.le_refl _
  | k + 1, j => by
    have := inS_le_ML t p k j
    unfold inS
    split
    · exact this
    · split
      · rename_i d hd h
        show p k + d ≤ ML
        omega
      · exact this
theorem inD_le_ML (t : Tb) (n : Nat) : ∀ (m j : Nat), (inD t n m j).1 ≤ ML
  | 0, j => by unfold inD; split <;> simp
  | m + 1, j => inS_le_ML t _ n j
theorem inS_mono (t : Tb) (p : Nat → Nat) (j : Nat) : ∀ {k k' : Nat}, k ≤ k' → (inS t p k' j).1 ≤ (inS t p k j).1 := by
  intro k k' h
  induction h with
  | refl => exact Nat.le_refl _
  | step h ih =>
    rename_i q
    refine Nat.le_trans ?_ ih
    show (match t q j with | none => inS t p q j | some d => _).1 ≤ _
    split
    · exact Nat.le_refl _
    · split
      · rename_i d hd h2
        show p q + d ≤ _
        omega
      · exact Nat.le_refl _
theorem inS_step {t : Tb} {p : Nat → Nat} {k j d : Nat} (h : t k j = some d) (hk : p k < ML) : (inS t p (k + 1) j).1 ≤ p k + d := by
  show (match t k j with | none => inS t p k j | some d => _).1 ≤ _
  rw [h]
  show (if p k < ML ∧ p k + d < (inS t p k j).1 then (p k + d, (k : Int)) else inS t p k j).1 ≤ _
  split
  · exact Nat.le_refl _
  · omega
theorem inS_by {t : Tb} {p : Nat → Nat} : ∀ (k j : Nat), (inS t p k j).1 < ML → ∃ (i d : Nat), (inS t p k j).2 = (i : Int) ∧ i < k ∧ t i j = some d ∧ p i < ML ∧ (inS t p k j).1 = p i + d
  | 0, j, h => absurd h (Nat.lt_irrefl _)
  | k + 1, j, h => by
    have ih := inS_by (t := t) (p := p) k j
    unfold inS at h ⊢
    cases hd : t k j with
    | none =>
      simp only [hd] at h ⊢
      obtain ⟨i, d, a1, a2, a3, a4, a5⟩ := ih h
      exact ⟨i, d, a1, by omega, a3, a4, a5⟩
    | some d =>
      simp only [hd] at h ⊢
      split at h
      · rename_i h2
        rw [if_pos h2]
        exact ⟨k, d, rfl, by omega, hd, h2.1, rfl⟩
      · rename_i h2
        rw [if_neg h2]
        obtain ⟨i, d, a1, a2, a3, a4, a5⟩ := ih h
        exact ⟨i, d, a1, by omega, a3, a4, a5⟩
theorem inD_by {t : Tb} {n D : Nat} (ht : TbOk t n D) {m j : Nat} (h : (inD t n (m + 1) j).1 < ML) : ∃ (i d : Nat), (inD t n (m + 1) j).2 = (i : Int) ∧ i < j ∧ t i j = some d ∧ (inD t n m i).1 < ML ∧ (inD t n (m + 1) j).1 = (inD t n m i).1 + d := by
  obtain ⟨i, d, a1, a2, a3, a4, a5⟩ := inS_by (t := t) (p := fun i => (inD t n m i).1) n j h
  exact ⟨i, d, a1, (ht.up a3).1, a3, a4, a5⟩
theorem inD_le {t : Tb} {n D : Nat} (ht : TbOk t n D) : ∀ (m : Nat) {b : List Nat} {j c : Nat}, b.length = m → Path t 0 b j c → j < n → (inD t n m j).1 ≤ c := by
  intro m
  induction m with
  | zero =>
    intro b j c hl p hj
    obtain rfl := List.eq_nil_of_length_eq_zero hl
    obtain ⟨h1, h2⟩ := p
    obtain rfl : 0 = j := h2
    simp [inD]
  | succ m ih =>
    intro b j c hl p hj
    rcases List.eq_nil_or_concat b with rfl | ⟨b', x, rfl⟩
    · simp at hl
    · rw [List.concat_eq_append] at p hl
      obtain ⟨rfl, i, e, d, h3, h4, rfl⟩ := p.unsnoc
      have h6 := ht.up h4
      have h5 := ih (by simpa using hl) h3 (by omega)
      have h8 := (h3.lt ht (by omega)).1
      have h7 := inS_step (p := fun i => (inD t n m i).1) h4 (show (inD t n m i).1 < ML by omega)
      have := inS_mono t (fun i => (inD t n m i).1) j (show i + 1 ≤ n by omega)
      show (inS t (fun i => (inD t n m i).1) n j).1 ≤ _
      have h9 : (fun i => (inD t n m i).1) i = (inD t n m i).1 := rfl
      omega
theorem inD_path {t : Tb} {n D : Nat} (ht : TbOk t n D) : ∀ (m j : Nat), (inD t n m j).1 < ML → ∃ b, Path t 0 b j (inD t n m j).1 ∧ b.length = m := by
  intro m
  induction m with
  | zero =>
    intro j h
    unfold inD at h ⊢
    split at h
    · rename_i h0
      subst h0
      exact ⟨[], Path.nil t 0, rfl⟩
    · exact absurd h (Nat.lt_irrefl _)
  | succ m ih =>
    intro j h
    obtain ⟨i, d, -, h2, h3, h4, h5⟩ := inD_by ht h
    obtain ⟨b, hb, hl⟩ := ih i h4
    exact ⟨b ++ [j], by rw [h5]; exact Path.snoc h3 hb, by simp [hl]⟩
theorem inD_iff {t : Tb} {n D : Nat} (ht : TbOk t n D) {m j : Nat} (hj : j < n) : (inD t n m j).1 < ML ↔ ∃ b c, Path t 0 b j c ∧ b.length = m :=
  ⟨fun h => by obtain ⟨b, hb, hl⟩ := inD_path ht m j h; exact ⟨b, _, hb, hl⟩, fun ⟨b, c, hb, hl⟩ => by have := inD_le ht m hl hb hj; have := (hb.lt ht hj).1; omega⟩
end Go.Proofs.Ytefjhhgfkdkfaaa
