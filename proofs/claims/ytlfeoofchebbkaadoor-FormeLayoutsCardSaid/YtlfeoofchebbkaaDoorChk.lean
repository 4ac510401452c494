/- Right names and pieces: the small functions of CheckForme, by their contracts. -/
import Derived.Test.YtlfeoofchebbkaaDoorMem
namespace Go.Proofs.YtlfeoofchebbkaaDoor
set_option linter.unusedSimpArgs false
set_option linter.unusedVariables false
open Go.RowKit
def win (n lo hi : Int) : Bool := decide (lo ≤ n ∧ n ≤ hi)
theorem win_t {n lo hi : Int} : win n lo hi = true ↔ lo ≤ n ∧ n ≤ hi := by unfold win; exact decide_eq_true_iff
theorem win_f {n lo hi : Int} : win n lo hi = false ↔ ¬ (lo ≤ n ∧ n ≤ hi) := by unfold win; exact decide_eq_false_iff_not
theorem within_any (n lo hi : Int) (w : World) : Calls Tryd.prog 35 #[.int .i64 n, .int .i64 lo, .int .i64 hi] w fun e w' => e = .returned (.bool (win n lo hi)) ∧ w = w' := by
  go_enter Tryd.func35, Tryd.ntmps35
  go_wp2
  all_goals go_ret
  all_goals exact ⟨ret_bool (by unfold win; first | exact decide_eq_decide.2 (by omega) | exact (decide_eq_false (by omega)).symm), rfl⟩
theorem isSide_any (n : Int) (w : World) : Calls Tryd.prog 42 #[.int .i64 n] w fun e w' => e = .returned (.bool (win n 1 4000)) ∧ w = w' := by
  go_enter Tryd.func42, Tryd.ntmps42
  go_wp2_with (go_at_call 35; refine (within_any _ _ _ _).mono ?_; rintro e w' ⟨rfl, rfl⟩)
  go_ret
  exact ⟨rfl, rfl⟩
def insB (b s d : Int) : Bool := decide (1 ≤ s ∧ 0 ≤ b ∧ b < d ∧ s ≤ d - b)
theorem inside_any (b s d : Int) (w : World) (hd : 0 ≤ d) (hd' : d ≤ 4000) : Calls Tryd.prog 62 #[.int .i64 b, .int .i64 s, .int .i64 d] w fun e w' => e = .returned (.bool (insB b s d)) ∧ w = w' := by
  go_enter Tryd.func62, Tryd.ntmps62
  go_wp2
  all_goals go_ret
  all_goals exact ⟨ret_bool (by unfold insB; first | exact decide_eq_decide.2 (by omega) | exact (decide_eq_false (by omega)).symm), rfl⟩
def meetB (p q : Piece) : Bool := decide (p.x < wrap64 (q.x + q.w) ∧ q.x < wrap64 (p.x + p.w) ∧ p.y < wrap64 (q.y + q.h) ∧ q.y < wrap64 (p.y + p.h))
theorem meets_any (p q : Piece) (w : World) : Calls Tryd.prog 64 #[.agg (pcs p), .agg (pcs q)] w fun e w' => e = .returned (.bool (meetB p q)) ∧ Below w.heap.size w w' := by
  go_enter Tryd.func64, Tryd.ntmps64
  go_wp2
  all_goals go_ret
  all_goals exact ⟨ret_bool (by unfold meetB; first | exact decide_eq_decide.2 (by omega) | exact (decide_eq_false (by omega)).symm), ((Below.refl _ _).alloc (Nat.le_refl _) _).alloc (by simp) _⟩
def nmEq (a b : ByteArray) : Bool := a.toList == b.toList
theorem same_any (p q : Piece) (b : Nat) (w : World) (hp : PAt w b 0 p) : Calls Tryd.prog 61 (#[.agg (pcs q)] ++ #[.pointer (some ⟨b, 0, none⟩)]) w fun e w' => e = .returned (.bool (nmEq q.name p.name)) ∧ Below w.heap.size w w' := by
  obtain ⟨c0, -, -, -, -, -⟩ := hp
  have hb := block_lt_of_cell c0
  go_enter Tryd.func61, Tryd.ntmps61
  go_wp2
  go_ret
  exact ⟨rfl, (Below.refl _ _).alloc (Nat.le_refl _) _⟩
theorem meets_fn (p q : Piece) (b : Nat) (w : World) (hp : PAt w b 0 p) : Calls Tryd.prog 63 (#[.agg (pcs q)] ++ #[.pointer (some ⟨b, 0, none⟩)]) w fun e w' => e = .returned (.bool (meetB p q)) ∧ Below w.heap.size w w' := by
  obtain ⟨c0, c1, c2, c3, c4, c5⟩ := hp
  have hb := block_lt_of_cell c0
  go_enter Tryd.func63, Tryd.ntmps63
  go_wp2_with (go_at_call 64; refine (meets_any p q _).mono ?_; rintro e w' ⟨rfl, hb'⟩)
  go_ret
  exact ⟨rfl, ((Below.refl _ _).alloc (Nat.le_refl _) _).trans (hb'.mono (by simp))⟩
def PredOn (g : Nat) (lb : Array Value) (ps : List Piece) (n : Nat) (pr : Piece → Bool) (w : World) : Prop :=
  ∀ (W : World) (j : Nat), Below w.heap.size w W → j < n → Calls Tryd.prog g (#[.agg (pcs (gp ps j))] ++ lb) W fun e w' => e = .returned (.bool (pr (gp ps j))) ∧ Below w.heap.size w w'
/-- The first of the first n that has the property, or -1. -/
def idx (pr : Nat → Bool) : Nat → Int
  | 0 => -1
  | n + 1 => if idx pr n = -1 then (if pr n then (n : Int) else -1) else idx pr n
theorem idx_none {pr : Nat → Bool} : ∀ {n : Nat}, (∀ j, j < n → pr j = false) → idx pr n = -1 := by
  intro n
  induction n with
  | zero => intro _; rfl
  | succ n ih => intro h; simp only [idx]; rw [if_pos (ih fun j hj => h j (by omega)), h n (by omega)]; rfl
theorem idx_hit {pr : Nat → Bool} {k : Nat} (hk : pr k = true) (h : ∀ j, j < k → pr j = false) : ∀ {n : Nat}, k < n → idx pr n = k := by
  intro n
  induction n with
  | zero => intro h; omega
  | succ n ih =>
    intro hn
    simp only [idx]
    by_cases e : k = n
    · subst e; rw [if_pos (idx_none h), if_pos hk]
    · rw [ih (by omega), if_neg (by omega)]
set_option maxHeartbeats 400000 in
theorem indexP_any (g : Nat) (lb : Array Value) (b off n c : Nat) (ps : List Piece) (pr : Piece → Bool) (w : World) (hp : PredOn g lb ps n pr w) (hn : n ≤ ps.length) (hbig : n ≤ 1000000) (hb : b < w.heap.size)
    (eg : ∀ args w, (callFunc g args).run Tryd.prog w = .ok (.enter g args) w)
    (hc : PsAt w b off ps) :
    Calls Tryd.prog 68 #[.slice (some ⟨b, off, none⟩) n c, .func (.func g) #[] lb] w fun e w' => e = .returned (.int .i64 (idx (fun j => pr (gp ps j)) n)) ∧ Below w.heap.size w w' := by
  go_enter Tryd.func68, Tryd.ntmps68
  go_wp2
  go_loopg [5, 8] n (fun gg _ s8 wr => ∃ kk : Nat, kk ≤ n ∧ n - kk ≤ gg ∧ s8 = .int .i64 kk ∧ Aside (Below w.heap.size w wr) ∧ Aside (∀ j, j < kk → pr (gp ps j) = false))
  case atStart => exact ⟨0, Nat.zero_le _, by omega, rfl, Below.refl _ w, fun j hj => absurd hj (Nat.not_lt_zero _)⟩
  case round =>
    obtain ⟨kk, hkk, hg, rfl, BW, A⟩ := hrel
    by_cases hlt : kk < n
    · have hltz : (kk : Int) < (n : Int) := by omega
      obtain ⟨c0, c1, c2, c3, c4, c5⟩ := (hc kk (by omega)).below BW.out hb
      have hcall := hp wr kk BW.out hlt
      clear hc hp
      generalize hy : gp ps kk = y at *
      have B := Lib.hid hy
      clear hy
      cases hq : pr y with
      | true =>
        rw [hq] at hcall
        have HQ := Lib.hid hq
        clear hq
        go_wp2_with ((with_reducible refine hcall.mono ?_); rintro e w' ⟨rfl, hb'⟩)
        go_ret
        refine ⟨?_, hb'⟩
        have h1 : pr (gp ps kk) = true := by rw [B.out]; exact HQ.out
        rw [idx_hit (pr := fun j => pr (gp ps j)) h1 A.out hlt]
        rfl
      | false =>
        rw [hq] at hcall
        have HQ := Lib.hid hq
        clear hq
        go_wp2_with ((with_reducible refine hcall.mono ?_); rintro e w' ⟨rfl, hb'⟩)
        go_roundg (n - (kk + 1))
        case measure => omega
        case rel =>
          refine ⟨kk + 1, by omega, by omega, by go_num, hb', (show Aside _ from fun j hj => ?_)⟩
          by_cases e : j = kk
          · subst e
            rw [B.out]; exact HQ.out
          · exact A.out j (by omega)
    · have hltz : ¬ (kk : Int) < (n : Int) := by omega
      have : kk = n := by omega
      subst this
      go_wp2
      go_ret
      refine ⟨?_, BW.out⟩
      rw [idx_none (pr := fun j => pr (gp ps j)) A.out]
      rfl
theorem containsP_any (g : Nat) (lb : Array Value) (b off n c : Nat) (ps : List Piece) (pr : Piece → Bool) (w : World) (hp : PredOn g lb ps n pr w) (hn : n ≤ ps.length) (hbig : n ≤ 1000000) (hb : b < w.heap.size)
    (eg : ∀ args w, (callFunc g args).run Tryd.prog w = .ok (.enter g args) w)
    (hc : PsAt w b off ps) :
    Calls Tryd.prog 60 #[.slice (some ⟨b, off, none⟩) n c, .func (.func g) #[] lb] w fun e w' => e = .returned (.bool (decide (0 ≤ idx (fun j => pr (gp ps j)) n))) ∧ Below w.heap.size w w' := by
  go_enter Tryd.func60, Tryd.ntmps60
  go_wp2_with (go_at_call 68; refine (indexP_any g lb b off n c ps pr w hp hn hbig hb eg hc).mono ?_; rintro e w' ⟨rfl, hb'⟩)
  go_ret
  exact ⟨rfl, hb'⟩
def nmb (s : ByteArray) (k : Nat) : Int := ((s.data.toList.getD k 0).toNat : Int)
theorem nmb_range (s : ByteArray) (k : Nat) : 0 ≤ nmb s k ∧ nmb s k ≤ 255 := by
  unfold nmb; have := (s.data.toList.getD k 0).toNat_lt; omega
def badc (k : Nat) (c : Int) : Prop := ¬ (97 ≤ c ∧ c ≤ 122) ∧ ¬ (65 ≤ c ∧ c ≤ 90) ∧ (k = 0 ∨ (c ≠ 45 ∧ (c < 48 ∨ 57 < c)))
instance (k : Nat) (c : Int) : Decidable (badc k c) := by unfold badc; exact inferInstance
def isNm (s : ByteArray) : Bool := decide ((∀ k, k < s.size → ¬ badc k (nmb s k)) ∧ 0 < s.size ∧ s.size ≤ 12)
theorem conv_bytes (s : ByteArray) (w : World) : ∃ (W : World) (c : Nat), (convert 9 83 (.string s)).run Tryd.prog w = .ok (.slice (some ⟨w.heap.size, 0, none⟩) s.size c) W ∧ Below w.heap.size w W ∧ w.heap.size < W.heap.size ∧
    ∀ j, j < s.size → W.cell? ⟨w.heap.size, j, none⟩ = some (.int .u8 (nmb s j)) := by
  refine ⟨_, _, Lib.run_convert_string_bytes w 9 83 5 s Tryd.underlying9 Tryd.underlying83 Tryd.underlying5, ⟨?_, ?_, ?_, ?_, ?_⟩, ?_, ?_⟩
  · unfold Lib.bytesWorld World.freeze; split <;> rfl
  · unfold Lib.bytesWorld World.freeze; split <;> rfl
  · unfold Lib.bytesWorld World.freeze; split <;> rfl
  · rw [Lib.bytesWorld_size]; omega
  · exact fun k hk => Lib.bytesWorld_at_old w 5 s k hk
  · rw [Lib.bytesWorld_size]; omega
  · intro j hj; rw [Lib.bytesWorld_cell w 5 s j hj]; rfl

theorem isNm_false {s : ByteArray} {k : Nat} (h : k < s.size) (hb : badc k (nmb s k)) : false = isNm s := by
  symm; unfold isNm; rw [decide_eq_false_iff_not]; exact fun hh => hh.1 k h hb
theorem isNm_all {s : ByteArray} (h : ∀ j, j < s.size → ¬ badc j (nmb s j)) : isNm s = decide (0 < s.size ∧ s.size ≤ 12) := by
  unfold isNm; rw [decide_eq_decide]; exact ⟨fun hh => hh.2, fun hh => ⟨h, hh⟩⟩
theorem bytes_nil {s : ByteArray} : s.toList = [] ↔ s.size = 0 := by
  rw [ByteArray.toList_eq, List.eq_nil_iff_length_eq_zero]; exact Iff.rfl
set_option maxHeartbeats 1000000 in
theorem isName_any (s : ByteArray) (w : World) (hs : s.size ≤ 9223372036854775807) : Calls Tryd.prog 59 #[.string s] w fun e w' => e = .returned (.bool (isNm s)) ∧ Below w.heap.size w w' := by
  obtain ⟨W, c, hconv, hb, hz, hcell⟩ := conv_bytes s w
  go_enter Tryd.func59, Tryd.ntmps59
  go_wp2_with fail
  have HC := Lib.hid hcell
  clear hcell hconv hz
  go_loopg [9] s.size (fun gg s9 wr => ∃ k : Nat, k ≤ s.size ∧ s.size - k ≤ gg ∧ s9 = .int .i64 k ∧ W = wr ∧ Aside (∀ j, j < k → ¬ badc j (nmb s j)))
  case atStart => exact ⟨0, Nat.zero_le _, by omega, rfl, rfl, fun j hj => absurd hj (Nat.not_lt_zero _)⟩
  case round =>
    obtain ⟨k, hk, hg, rfl, rfl, A⟩ := hrel
    by_cases hlt : k < s.size
    · have hltz : (k : Int) < (s.size : Int) := by omega
      have c1 := HC.out k hlt
      have hr := nmb_range s k
      clear HC
      generalize hch : nmb s k = ch at *
      have HCH := Lib.hid hch
      clear hch
      go_wp2
      all_goals try simp only [Bool.or_eq_true, Bool.and_eq_true, Bool.or_eq_false_iff, Bool.and_eq_false_iff, beq_iff_eq, beq_eq_false_iff_ne, bne_iff_ne, bne_eq_false_iff_eq, decide_eq_true_eq, decide_eq_false_iff_not, ne_eq, Bool.not_eq_true', Bool.not_eq_false'] at *
      all_goals first
        | (go_ret; exact ⟨ret_bool (isNm_false hlt (by rw [HCH.out]; unfold badc; omega)), hb⟩)
        | (go_roundg (s.size - (k + 1))
           case measure => omega
           case rel =>
             refine ⟨k + 1, by omega, by omega, by first | go_num | (congr 1; omega), rfl, (show Aside _ from fun j hj => ?_)⟩
             by_cases e : j = k
             · rw [e, HCH.out]; unfold badc; omega
             · exact A.out j (by omega))
    · have hltz : ¬ (k : Int) < (s.size : Int) := by omega
      have he : k = s.size := by omega
      have hall : Aside (isNm s = decide (0 < s.size ∧ s.size ≤ 12)) := isNm_all fun j hj => A.out j (by omega)
      clear A HC hlt hltz hk hg
      subst he
      by_cases h0 : s.size = 0
      · have h1 : s.toList = [] := bytes_nil.2 h0
        have H0 := Lib.hid h0
        clear h0
        go_wp2
        go_ret
        exact ⟨ret_bool (by rw [hall]; symm; rw [decide_eq_false_iff_not, H0.out]; omega), hb⟩
      · have h1 : s.toList.isEmpty = false := by rw [Bool.eq_false_iff]; intro hh; exact h0 (bytes_nil.1 (List.isEmpty_iff.1 hh))
        have h2 : ¬ s.toList = [] := fun hh => h0 (bytes_nil.1 hh)
        go_wp2
        all_goals go_ret
        all_goals exact ⟨ret_bool (by rw [hall]; first | exact decide_eq_decide.2 (by omega) | (simp only [h1, Bool.not_false, Bool.true_and]; exact decide_eq_decide.2 (by omega))), hb⟩

def pErr (f : Forme) (i : Nat) : Int :=
  if isNm (gp f.ps i).name = false then 4
  else if 0 ≤ idx (fun j => nmEq (gp f.ps j).name (gp f.ps i).name) i then 5
  else if win (gp f.ps i).kind 1 4 = false then 15
  else if insB (gp f.ps i).x (gp f.ps i).w f.W = false ∨ insB (gp f.ps i).y (gp f.ps i).h f.H = false then 26
  else if 0 ≤ idx (fun j => meetB (gp f.ps i) (gp f.ps j)) i then 28
  else 0
/-- The first of the first n that has an error, and its error. -/
def fstE (g : Nat → Int) : Nat → Int × Int
  | 0 => (0, 0)
  | n + 1 => if (fstE g n).2 = 0 then (if g n = 0 then (0, 0) else ((n : Int), g n)) else fstE g n
theorem fstE_none {g : Nat → Int} : ∀ {n : Nat}, (∀ j, j < n → g j = 0) → fstE g n = (0, 0) := by
  intro n
  induction n with
  | zero => intro _; rfl
  | succ n ih => intro h; simp only [fstE]; rw [ih fun j hj => h j (by omega), if_pos rfl, if_pos (h n (by omega))]
theorem fstE_hit {g : Nat → Int} {k : Nat} (hk : g k ≠ 0) (h : ∀ j, j < k → g j = 0) : ∀ {n : Nat}, k < n → fstE g n = ((k : Int), g k) := by
  intro n
  induction n with
  | zero => intro h; omega
  | succ n ih =>
    intro hn
    simp only [fstE]
    by_cases e : k = n
    · subst e; rw [fstE_none h, if_pos rfl, if_neg hk]
    · rw [ih (by omega), if_neg hk]
def checkF (f : Forme) : Int × Int :=
  if win f.W 1 4000 = false ∨ win f.H 1 4000 = false then (0, 2)
  else if 60 < f.ps.length then (0, 8)
  else fstE (pErr f) f.ps.length
end Go.Proofs.YtlfeoofchebbkaaDoor
