/- A piece is taken out of a full forme, and others side by side fill the gap (plain). -/
import Derived.Test.YtlfeoofchebbkaaRgt
import Derived.Laws.BytesArg
import Derived.Test.YtlfeoofchebbkaaFeq
import Derived.Deep.RegionHeld3
import Derived.Test.YtlfeoofchebbkaaCpf
import Derived.Deep.RegionLawGrows
import Derived.Deep.Upon
namespace Go.Proofs.Ytlfeoofchebbkaa
set_option linter.unusedSimpArgs false
set_option linter.unusedVariables false
open Go.RowKit
/-- The decimal digits of a number, ahead of others. -/
def decL : Nat → Nat → List UInt8 → List UInt8
  | 0, _, acc => acc
  | f + 1, n, acc => if n = 0 then acc else decL f (n / 10) (UInt8.ofNat (48 + n % 10) :: acc)
def decB (n : Nat) : ByteArray := if n = 0 then ⟨#[48]⟩ else ⟨(decL (n + 1) n []).toArray⟩
def zzN (k : Nat) : ByteArray := ⟨#[122, 122, 45]⟩ ++ decB k
theorem zz_all : (List.range 61).all (fun k => isNm (zzN k)) = true := by kernel_rfl
theorem zz_nm {k : Nat} (h : k ≤ 60) : isNm (zzN k) = true := List.all_eq_true.1 zz_all k (List.mem_range.2 (by omega))
theorem areas_append (l m : List Piece) : areas (l ++ m) = areas l + areas m := by
  induction l with
  | nil => simp [areas]
  | cons p l ih => simp only [List.cons_append, areas, ih]; omega
/-- Pieces of one height, side by side from x0 to x. -/
structure Strip (y h x0 : Int) (qs : List Piece) (x : Int) : Prop where
  at_ : ∀ i, i < qs.length → (gp qs i).name = zzN (i + 1) ∧ (gp qs i).kind = 2 ∧ (gp qs i).y = y ∧ (gp qs i).h = h ∧ 1 ≤ (gp qs i).w ∧ x0 ≤ (gp qs i).x ∧ (gp qs i).x + (gp qs i).w ≤ x
  apart : qs.Pairwise fun p q => p.x + p.w ≤ q.x
  area : areas qs = (x - x0) * h
  ge : x0 ≤ x
theorem Strip.nil {y h x0 : Int} : Strip y h x0 [] x0 := ⟨fun i hi => absurd hi (Nat.not_lt_zero _), .nil, by simp [areas], Int.le_refl _⟩
theorem gp_append_left {l m : List Piece} {i : Nat} (h : i < l.length) : gp (l ++ m) i = gp l i := by
  simp [gp, List.getD_eq_getElem?_getD, List.getElem?_append_left h]
theorem gp_append_right {l m : List Piece} {i : Nat} (h : l.length ≤ i) : gp (l ++ m) i = gp m (i - l.length) := by
  simp [gp, List.getD_eq_getElem?_getD, List.getElem?_append_right h]
theorem gp_mem {l : List Piece} {i : Nat} (h : i < l.length) : gp l i ∈ l := by rw [gp_get h]; exact List.getElem_mem h
theorem mem_gp {l : List Piece} {p : Piece} (h : p ∈ l) : ∃ i, i < l.length ∧ gp l i = p := by
  obtain ⟨i, hi, e⟩ := List.getElem_of_mem h
  exact ⟨i, hi, by rw [gp_get hi]; exact e⟩
theorem Strip.snoc {y h x0 x s : Int} {qs : List Piece} (hs : Strip y h x0 qs x) (h1 : 1 ≤ s) : Strip y h x0 (qs ++ [⟨zzN (qs.length + 1), 2, x, y, s, h⟩]) (x + s) := by
  refine ⟨fun i hi => ?_, ?_, ?_, by have := hs.ge; omega⟩
  · by_cases e : i < qs.length
    · rw [gp_append_left e]
      obtain ⟨a1, a2, a3, a4, a5, a6, a7⟩ := hs.at_ i e
      exact ⟨a1, a2, a3, a4, a5, a6, by omega⟩
    · have e2 : i = qs.length := by simp at hi; omega
      subst e2
      rw [gp_append_right (Nat.le_refl _), Nat.sub_self]
      have := hs.ge
      exact ⟨rfl, rfl, rfl, rfl, h1, this, Int.le_refl _⟩
  · refine List.pairwise_append.2 ⟨hs.apart, List.pairwise_singleton _ _, fun p hp q hq => ?_⟩
    obtain rfl := List.mem_singleton.1 hq
    obtain ⟨i, hi, rfl⟩ := mem_gp hp
    exact (hs.at_ i hi).2.2.2.2.2.2
  · rw [areas_append, hs.area]
    show _ + (s * h + 0) = _
    rw [Int.add_zero, ← Int.add_mul]
    congr 1
    omega
theorem fstE_or {g : Nat → Int} {e : Int} {Q : Prop} : ∀ {n : Nat}, (∀ i, i < n → g i = 0 ∨ (g i = e ∧ Q)) → (fstE g n).2 = 0 ∨ ((fstE g n).2 = e ∧ Q) := by
  intro n
  induction n with
  | zero => intro _; exact .inl rfl
  | succ n ih =>
    intro h
    simp only [fstE]
    rcases ih (fun i hi => h i (by omega)) with h1 | h1
    · rw [if_pos h1]
      rcases h n (by omega) with h2 | h2
      · rw [if_pos h2]; exact .inl rfl
      · by_cases h3 : g n = 0
        · rw [if_pos h3]; exact .inl rfl
        · rw [if_neg h3]; exact .inr h2
    · by_cases h2 : (fstE g n).2 = 0
      · rw [if_pos h2]
        rcases h n (by omega) with h3 | h3
        · rw [if_pos h3]; exact .inl rfl
        · by_cases h4 : g n = 0
          · rw [if_pos h4]; exact .inl rfl
          · rw [if_neg h4]; exact .inr h3
      · rw [if_neg h2]; exact .inr h1
theorem insB_of {b s d : Int} (h1 : 1 ≤ s) (h2 : 0 ≤ b) (h3 : b + s ≤ d) : insB b s d = true := by
  unfold insB
  rw [decide_eq_true_eq]
  omega
theorem meetB_of {W H : Int} {p q : Piece} (hW : W ≤ 4000) (hH : H ≤ 4000) (hp : p.inn W H) (hq : q.inn W H) (h : ¬ p.meet q) : meetB p q = false := by
  unfold meetB
  unfold Piece.inn at hp hq
  unfold Piece.meet at h
  rw [decide_eq_false_iff_not, IntWalk.wrap64_in _ (by omega), IntWalk.wrap64_in _ (by omega), IntWalk.wrap64_in _ (by omega), IntWalk.wrap64_in _ (by omega)]
  exact h
theorem idx_ex {pr : Nat → Bool} {n : Nat} (h : 0 ≤ idx pr n) : ∃ j, j < n ∧ pr j = true := by
  refine Classical.byContradiction fun hn => ?_
  rw [idx_none (fun j hj => by
    cases e : pr j with
    | false => rfl
    | true => exact absurd ⟨j, hj, e⟩ hn)] at h
  omega
theorem meet_symm {p q : Piece} (h : p.meet q) : q.meet p := ⟨h.2.1, h.1, h.2.2.2, h.2.2.1⟩
/-- Errors of pieces that are in their places: names alone may be wrong. -/
theorem pErr_or {f : Forme} {Q : Prop} {i : Nat} (hi : i < f.ps.length) (hW : f.W ≤ 4000) (hH : f.H ≤ 4000) (hnm : ∀ p ∈ f.ps, isNm p.name = true) (hk : ∀ p ∈ f.ps, 1 ≤ p.kind ∧ p.kind ≤ 4) (hin : ∀ p ∈ f.ps, p.inn f.W f.H)
    (hap : f.ps.Pairwise fun p q => ¬ p.meet q) (hd : ∀ j, j < i → nmEq (gp f.ps j).name (gp f.ps i).name = true → Q) : pErr f i = 0 ∨ (pErr f i = 5 ∧ Q) := by
  have hm := gp_mem hi
  have h1 := hin _ hm
  have h1' := h1
  unfold Piece.inn at h1'
  unfold pErr
  rw [hnm _ hm, if_neg (by decide)]
  by_cases h2 : 0 ≤ idx (fun j => nmEq (gp f.ps j).name (gp f.ps i).name) i
  · rw [if_pos h2]
    obtain ⟨j, hj, e⟩ := idx_ex h2
    exact .inr ⟨rfl, hd j hj e⟩
  · rw [if_neg h2, win_t.2 (hk _ hm), if_neg (by decide), insB_of (by omega) (by omega) (by omega), insB_of (by omega) (by omega) (by omega), if_neg (by decide), if_neg]
    · exact .inl rfl
    · intro h3
      obtain ⟨j, hj, e⟩ := idx_ex h3
      have hj' : j < f.ps.length := by omega
      have hpw := List.pairwise_iff_getElem.1 hap j i hj' hi hj
      rw [← gp_get hj', ← gp_get hi] at hpw
      rw [meetB_of hW hH h1 (hin _ (gp_mem hj')) (fun h => hpw (meet_symm h))] at e
      cases e
section
variable {f : Forme} {a : Nat} {qs : List Piece}
/-- The forme with the piece number a taken out, and others put in behind. -/
def Forme.fill (f : Forme) (a : Nat) (qs : List Piece) : Forme := { f with ps := f.ps.take a ++ f.ps.drop (a + 1) ++ qs }
theorem fill_split (ha : a < f.ps.length) : f.ps = f.ps.take a ++ gp f.ps a :: f.ps.drop (a + 1) := by
  rw [gp_get ha, ← List.drop_eq_getElem_cons ha, List.take_append_drop]
theorem fill_len (ha : a < f.ps.length) : (f.ps.take a ++ f.ps.drop (a + 1)).length = f.ps.length - 1 := by
  simp; omega
theorem fill_gp (ha : a < f.ps.length) {i : Nat} (hi : i < f.ps.length - 1) : gp (f.ps.take a ++ f.ps.drop (a + 1)) i = gp f.ps (if i < a then i else i + 1) := by
  unfold gp
  rw [List.getD_eq_getElem?_getD, List.getD_eq_getElem?_getD]
  congr 1
  by_cases h : i < a
  · rw [if_pos h, List.getElem?_append_left (by simp; omega), List.getElem?_take, if_pos h]
  · rw [if_neg h, List.getElem?_append_right (by simp; omega), List.getElem?_drop]
    congr 1
    simp
    omega
theorem fill_check (hr : f.Right) (hfull : areas f.ps = f.W * f.H) (ha : a < f.ps.length) (hs : Strip (gp f.ps a).y (gp f.ps a).h (gp f.ps a).x qs ((gp f.ps a).x + (gp f.ps a).w)) (hl : (f.fill a qs).ps.length ≤ 60) :
    ((checkF (f.fill a qs)).2 = 0 ∨ ((checkF (f.fill a qs)).2 = 5 ∧ (1 < qs.length ∨ ∃ j, j < f.ps.length ∧ nmEq (gp f.ps j).name (zzN 1) = true))) ∧ (f.fill a qs).W * (f.fill a qs).H - areas (f.fill a qs).ps = 0 := by
  have hsp := fill_split ha
  have hlen := fill_len ha
  have hout := hr.inn _ (gp_mem ha)
  have hout' := hout
  unfold Piece.inn at hout'
  have hl2 : f.ps.length - 1 + qs.length ≤ 60 := by
    have : (f.fill a qs).ps.length = (f.ps.take a ++ f.ps.drop (a + 1)).length + qs.length := by unfold Forme.fill; rw [List.length_append]
    omega
  have hsub : ∀ p ∈ f.ps.take a ++ f.ps.drop (a + 1), p ∈ f.ps := fun p hp => by
    rw [hsp]
    rcases List.mem_append.1 hp with h | h
    · exact List.mem_append.2 (.inl h)
    · exact List.mem_append.2 (.inr (List.mem_cons_of_mem _ h))
  have hq : ∀ q ∈ qs, q.kind = 2 ∧ isNm q.name = true ∧ q.inn f.W f.H ∧ (∀ p : Piece, p.meet q → p.meet (gp f.ps a)) := fun q hq => by
    obtain ⟨i, hi, rfl⟩ := mem_gp hq
    obtain ⟨a1, a2, a3, a4, a5, a6, a7⟩ := hs.at_ i hi
    refine ⟨a2, by rw [a1]; exact zz_nm (by omega), ?_, fun p hp => ?_⟩
    · unfold Piece.inn
      omega
    · unfold Piece.meet at hp ⊢
      omega
  have hap0 := hr.apart
  rw [hsp] at hap0
  obtain ⟨p1, p2, p3⟩ := List.pairwise_append.1 hap0
  obtain ⟨p4, p5⟩ := List.pairwise_cons.1 p2
  have hno : ∀ p ∈ f.ps.take a ++ f.ps.drop (a + 1), ¬ p.meet (gp f.ps a) := fun p hp => by
    rcases List.mem_append.1 hp with h | h
    · exact p3 p h _ (List.mem_cons_self ..)
    · exact fun hm => p4 p h (meet_symm hm)
  have hap : (f.fill a qs).ps.Pairwise fun p q => ¬ p.meet q := by
    refine List.pairwise_append.2 ⟨List.pairwise_append.2 ⟨p1, p5, fun p hp q hq => p3 p hp q (List.mem_cons_of_mem _ hq)⟩, ?_, fun p hp q hqm hm => hno p hp ((hq q hqm).2.2.2 p hm)⟩
    refine hs.apart.imp fun {p q} h hm => ?_
    have := hm.2.1
    omega
  have hmem : ∀ p ∈ (f.fill a qs).ps, isNm p.name = true ∧ (1 ≤ p.kind ∧ p.kind ≤ 4) ∧ p.inn f.W f.H := fun p hp => by
    rcases List.mem_append.1 hp with h | h
    · have := hsub p h
      exact ⟨hr.nm p this, hr.kind p this, hr.inn p this⟩
    · obtain ⟨h1, h2, h3, -⟩ := hq p h
      exact ⟨h2, by omega, h3⟩
  have hW1 := hr.w1
  have hW2 := hr.w2
  have hH1 := hr.h1
  have hH2 := hr.h2
  refine ⟨?_, ?_⟩
  · unfold checkF
    rw [if_neg (show ¬ (win (f.fill a qs).W 1 4000 = false ∨ win (f.fill a qs).H 1 4000 = false) by rw [show (f.fill a qs).W = f.W from rfl, show (f.fill a qs).H = f.H from rfl, win_t.2 ⟨hW1, hW2⟩, win_t.2 ⟨hH1, hH2⟩]; decide), if_neg (by omega)]
    refine fstE_or fun i hi => pErr_or hi hW2 hH2 (fun p hp => (hmem p hp).1) (fun p hp => (hmem p hp).2.1) (fun p hp => (hmem p hp).2.2) hap fun j hj he => ?_
    have hi' : i < f.ps.length - 1 + qs.length := by
      have : (f.fill a qs).ps.length = (f.ps.take a ++ f.ps.drop (a + 1)).length + qs.length := by unfold Forme.fill; rw [List.length_append]
      omega
    by_cases h1 : i < f.ps.length - 1
    · exfalso
      have e1 : gp (f.fill a qs).ps i = gp f.ps (if i < a then i else i + 1) := (gp_append_left (by omega)).trans (fill_gp ha h1)
      have e2 : gp (f.fill a qs).ps j = gp f.ps (if j < a then j else j + 1) := (gp_append_left (by omega)).trans (fill_gp ha (by omega))
      rw [e1, e2, hr.diff _ _ (by split <;> split <;> omega) (by split <;> omega)] at he
      cases he
    · by_cases h2 : 1 < qs.length
      · exact .inl h2
      · refine .inr ?_
        have e0 : i = f.ps.length - 1 := by omega
        have e1 : gp (f.fill a qs).ps i = gp qs 0 := (gp_append_right (by omega)).trans (by rw [hlen, e0, Nat.sub_self])
        have e2 : gp (f.fill a qs).ps j = gp f.ps (if j < a then j else j + 1) := (gp_append_left (by omega)).trans (fill_gp ha (by omega))
        rw [e1, (hs.at_ 0 (by omega)).1, e2] at he
        exact ⟨_, by split <;> omega, he⟩
  · have e1 : areas (f.fill a qs).ps = areas (f.ps.take a) + areas (f.ps.drop (a + 1)) + areas qs := by unfold Forme.fill; rw [areas_append, areas_append]
    have e2 : areas f.ps = areas (f.ps.take a) + ((gp f.ps a).w * (gp f.ps a).h + areas (f.ps.drop (a + 1))) := by
      rw [hsp, areas_append]
      rw [← hsp]
      rfl
    have e3 := hs.area
    rw [show (gp f.ps a).x + (gp f.ps a).w - (gp f.ps a).x = (gp f.ps a).w by omega] at e3
    show f.W * f.H - _ = 0
    omega
end
end Go.Proofs.Ytlfeoofchebbkaa
/- Decimal. -/
namespace Go.Proofs.Ytlfeoofchebbkaa
set_option linter.unusedSimpArgs false
set_option linter.unusedVariables false
open Go.RowKit
theorem size_any (n : Int) (w : World) (h0 : 0 ≤ n) (h1 : n ≤ 1000000) : Calls Try.prog 129 #[.int .i64 n] w fun e w' => e = .returned (.int .i64 n) ∧ w = w' := by
  go_enter Try.func129, Try.ntmps129
  go_wp2_with fail
  all_goals go_ret
  all_goals exact ⟨ret_int (by omega), rfl⟩
set_option maxRecDepth 100000 in
set_option maxHeartbeats 2000000 in
theorem dec_any (n : Nat) (w : World) (hn : n ≤ 1000000) : Calls Try.prog 77 #[.int .i64 (n : Int)] w fun e w' => e = .returned (.string (decB n)) ∧ Below w.heap.size w w' := by
  by_cases h0 : n = 0
  · subst h0
    go_enter Try.func77, Try.ntmps77
    go_wp2_with fail
    go_ret
    exact ⟨rfl, Below.refl _ _⟩
  · have hnb : ((n : Int) == 0) = false := by simp; omega
    have hlt : ¬ (n : Int) < 0 := by omega
    have HD : Hid (decB n = ⟨(decL (n + 1) n []).toArray⟩) := (show decB n = _ by unfold decB; rw [if_neg h0])
    generalize decB n = res at *
    go_enter Try.func77, Try.ntmps77
    go_wp2_with fail
    go_loopg [0, 3] n (fun gg s0 s3 wr => ∃ (k m : Nat) (acc : List UInt8), m < k ∧ m ≤ gg ∧ acc.length + m ≤ n ∧ s0 = .int .i64 (m : Int) ∧ s3 = .string ⟨acc.toArray⟩ ∧ Hid (decL k m acc = decL (n + 1) n []) ∧ Hid (Below w.heap.size w wr))
    case atStart => exact ⟨n + 1, n, [], by omega, by omega, by simp, rfl, rfl, rfl, Below.refl _ _⟩
    case round =>
      obtain ⟨k, m, acc, hk, hg, hmn, rfl, rfl, HE, HB⟩ := hrel
      by_cases hm : m = 0
      · subst hm
        obtain ⟨k, rfl⟩ : ∃ j, k = j + 1 := ⟨k - 1, by omega⟩
        have he : acc = decL (n + 1) n [] := HE.out
        have HR : Hid (⟨#[]⟩ ++ ⟨acc.toArray⟩ = res) := (show (⟨#[]⟩ : ByteArray) ++ ⟨acc.toArray⟩ = res by rw [HD.out, ← he]; exact ByteArray.ext (by simp))
        clear HE he HD
        generalize hs : (⟨acc.toArray⟩ : ByteArray) = s at *
        have hsz : s.size = acc.length := by rw [← hs]; simp [ByteArray.size]
        clear hs
        go_wp2_with fail
        go_ret
        exact ⟨congrArg (fun x => Ending.returned (.string x)) HR.out, HB.out⟩
      · have hmb : ((m : Int) != 0) = true := by simp; omega
        have hm0 : (0 : Int) ≤ (m : Int) := by omega
        have e1 : (m : Int) % 10 = ((m % 10 : Nat) : Int) := by omega
        have hd : m % 10 < 10 := Nat.mod_lt _ (by omega)
        obtain ⟨d, hdd⟩ : ∃ d, m % 10 = d := ⟨_, rfl⟩
        rw [hdd] at e1 hd
        have HDD := Lib.hid hdd
        clear hdd
        have hw8 : IntKind.u8.wrap (48 + (d : Int)) = 48 + (d : Int) := IntWalk.u8_in _ (by omega)
        obtain ⟨t, ht⟩ : ∃ t, strOfNums [48 + (d : Int)] = t := ⟨_, rfl⟩
        have hts : t.size = 1 := by rw [← ht, strOfNums_size]; rfl
        have HT : Hid (t ++ ⟨acc.toArray⟩ = ⟨(UInt8.ofNat (48 + d) :: acc).toArray⟩) := (show t ++ (⟨acc.toArray⟩ : ByteArray) = _ by
          rw [← ht]
          refine ByteArray.ext ?_
          have : (48 + (d : Int)).toNat = 48 + d := by omega
          simp [strOfNums, this])
        have hcv : Hid (∀ (W : World) b, W.cell? ⟨b, 0, none⟩ = some (.int .u8 (48 + (d : Int))) → (convert 148 9 (.slice (some ⟨b, 0, none⟩) 1 1)).run Try.prog W = .ok (.string t) W) := (show ∀ W b, _ from fun W b h => by
          rw [← ht]
          exact run_convert_bytes_arg W 148 5 Try.underlying148 Try.underlying5 b 0 1 1 [48 + (d : Int)] rfl (fun i hi => by
            obtain rfl : i = 0 := by omega
            exact h) 9 Try.underlying9)
        clear ht
        generalize hs : (⟨acc.toArray⟩ : ByteArray) = s at *
        have hsz : s.size = acc.length := by rw [← hs]; simp [ByteArray.size]
        clear hs
        go_wp2_with fail
        rw [e1]
        refine (size_any _ _ (by omega) (by omega)).mono ?_
        rintro e w' ⟨rfl, rfl⟩
        have hc1 := hcv.out (wr.alloc (Obj.cells #[.int .u8 (48 + (d : Int))] 5)) wr.heap.size (by simp [go_sem])
        go_wp2_with fail
        go_roundg (m / 10)
        case measure => omega
        case rel =>
          obtain ⟨k, rfl⟩ : ∃ j, k = j + 1 := ⟨k - 1, by omega⟩
          refine ⟨k, m / 10, UInt8.ofNat (48 + d) :: acc, by omega, Nat.le_refl _, by simp; omega, by first | go_num | rfl | (congr 1; omega), by rw [HT.out], (show _ = _ from ?_), HB.out.alloc (by have := HB.out.size; omega) _⟩
          rw [← HE.out, ← HDD.out]
          show _ = if m = 0 then acc else _
          rw [if_neg hm]
end Go.Proofs.Ytlfeoofchebbkaa
/- append([]T{}, l...) within a region that draws its order; what FillLength leaves, in one form. -/
namespace Go.Proofs.Ytlfeoofchebbkaa
set_option linter.unusedSimpArgs false
set_option linter.unusedVariables false
open Go.RowKit
theorem step_copy {P : Program} {ops : Array Oper} {o : Oper} {a : Act} {w w0 : World} {K : Act → World → Prop} {Q : Exit → Act → World → Prop} {E : Prop} (hgd : o.guard = none) (s x : Operand) (t : TypeId)
    (ho : o.op = .call { callee := .builtin .append, args := #[s, x], argTypes := #[t, t] })
    (e : TypeId) (i : TypeInfo) (z : Value) (size bytes : Nat) (ht : P.underlying t = some (.slice e)) (hi : P.info? e = some i) (hz : i.zero = some z)
    (hsize : i.size = size) (hby : i.bytes = bytes) (hzs : z.cells.size = size) (hsz : 0 < size)
    (hw : w = w0.alloc (.cells #[] e)) (hs : a.eval s = .slice (some ⟨w0.heap.size, 0, none⟩) 0 0)
    (A : Option Addr) (b off m c : Nat) (news : List Value) (hx : a.eval x = .slice A m c) (hl : news.length = m * size) (hA : Lies A m w0.heap.size b off) (hnews : ∀ j, j < m * size → w0.cell? ⟨b, off + j, none⟩ = news[j]?) (h1 : ∀ u ∈ news, u.oneCell' = true)
    (h63 : m ≤ maxLen) (hbytes : m * bytes ≤ 140737488355328)
    (h : ∀ v' w', w'.ownsRow w0.heap.size e size v' m news → Below w0.heap.size w0 w' → K (a.put o.dst v') w') : if Region.wanted o (yielded ops a.tmps) = true then Oper.wp P o a w K Q else E := by
  have hwt : Region.wanted o (yielded ops a.tmps) = true := by simp [Region.wanted, hgd]
  rw [if_pos hwt]
  subst hw
  obtain ⟨v', w', hr, h2, h3⟩ := run_copy (P := P) w0 t o.type e i z size bytes ht hi hz hsize hby hzs hsz A b off m c news hl hA hnews h1 h63 hbytes
  unfold Oper.wp execOp
  simp only [ho, resolve, invoke, builtin, Sem.run_bind, Sem.run_pure, Result.andThen_ok, List.map_toArray, List.map_cons, List.map_nil, hs, hx, hr]
  exact h v' w' h2 h3
/-- The same where the new slice's block, of no cells, lies somewhere. -/
theorem run_copyG {P : Program} {w : World} (t ty : TypeId) (e : TypeId) (i : TypeInfo) (z : Value) (size bytes : Nat) (ht : P.underlying t = some (.slice e)) (hi : P.info? e = some i) (hz : i.zero = some z)
    (hsize : i.size = size) (hby : i.bytes = bytes) (hzs : z.cells.size = size) (hsz : 0 < size) (g : Nat) (hg : w.heap[g]? = some (.cells #[] e (0, 0)))
    (A : Option Addr) (b off m c : Nat) (news : List Value) (hl : news.length = m * size) (hA : Lies A m w.heap.size b off) (hnews : ∀ j, j < m * size → w.cell? ⟨b, off + j, none⟩ = news[j]?) (h1 : ∀ u ∈ news, u.oneCell' = true)
    (h63 : m ≤ maxLen) (hbytes : m * bytes ≤ 140737488355328) :
    ∃ v' w', (Builtin.append_ #[t, t] ty #[.slice (some ⟨g, 0, none⟩) 0 0, .slice A m c]).run P w = .ok v' w' ∧ w'.ownsRow g e size v' m news ∧ w.grownBy w' (some g) := by
  have hgl : g < w.heap.size := (Array.getElem?_eq_some_iff.1 hg).1
  have hown : w.ownsRow g e size (.slice (some ⟨g, 0, none⟩) 0 0) 0 [] := ⟨by simp, .inr ⟨g, 0, #[], rfl, Nat.le_refl _, hg, Nat.le_refl _, by simp, by simp, by simp⟩⟩
  have hob : (Value.slice (some ⟨g, 0, none⟩) 0 0).ownBlock = some g := rfl
  by_cases hm : m = 0
  · subst hm
    have hn : news = [] := List.eq_nil_of_length_eq_zero (by simpa using hl)
    subst hn
    cases A with
    | none =>
      refine ⟨.slice (some ⟨g, 0, none⟩) 0 0, w, ?_, hown, World.grownBy.refl _ _⟩
      simp [Builtin.append_, run_underlying ht, sizeOf, typeInfo, hi, Builtin.lenOf, Builtin.firstCells, storeCells]
    | some ad =>
      obtain ⟨v', w', hrun, h2, h3, _⟩ := run_append_own (P := P) w g t ty e i z size bytes ht hi hz hsize hby hzs hsz _ 0 [] hown ad 0 c [] (by simp) (by simp) (by simp) (by omega) (by rw [Nat.zero_add]; exact hbytes) (by omega)
      exact ⟨v', w', hrun, by simpa using h2, h3⟩
  · obtain ⟨rfl, hbb⟩ := hA (by omega)
    have hcells : ∀ j u, news[j]? = some u → w.cell? ((⟨b, off, none⟩ : Addr).add j) = some u := fun j u hu => by
      have hj : j < m * size := by
        rcases Nat.lt_or_ge j (m * size) with h | h
        · exact h
        · rw [List.getElem?_eq_none (by omega)] at hu; cases hu
      have hadd : (⟨b, off, none⟩ : Addr).add j = ⟨b, off + j, none⟩ := by unfold Addr.add; split <;> simp_all
      rw [hadd, hnews j hj, hu]
    obtain ⟨v', w', hrun, h2, h3, _⟩ := run_append_own (P := P) w g t ty e i z size bytes ht hi hz hsize hby hzs hsz _ 0 [] hown ⟨b, off, none⟩ m c news hl hcells h1 (by omega) (by rw [Nat.zero_add]; exact hbytes) (by omega)
    exact ⟨v', w', hrun, by simpa using h2, h3⟩
theorem step_copyG {P : Program} {ops : Array Oper} {o : Oper} {a : Act} {w : World} {K : Act → World → Prop} {Q : Exit → Act → World → Prop} {E : Prop} (hgd : o.guard = none) (s x : Operand) (t : TypeId)
    (ho : o.op = .call { callee := .builtin .append, args := #[s, x], argTypes := #[t, t] })
    (e : TypeId) (i : TypeInfo) (z : Value) (size bytes : Nat) (ht : P.underlying t = some (.slice e)) (hi : P.info? e = some i) (hz : i.zero = some z)
    (hsize : i.size = size) (hby : i.bytes = bytes) (hzs : z.cells.size = size) (hsz : 0 < size) (g : Nat) (hg : w.heap[g]? = some (.cells #[] e (0, 0))) (hs : a.eval s = .slice (some ⟨g, 0, none⟩) 0 0)
    (A : Option Addr) (b off m c : Nat) (news : List Value) (hx : a.eval x = .slice A m c) (hl : news.length = m * size) (hA : Lies A m w.heap.size b off) (hnews : ∀ j, j < m * size → w.cell? ⟨b, off + j, none⟩ = news[j]?) (h1 : ∀ u ∈ news, u.oneCell' = true)
    (h63 : m ≤ maxLen) (hbytes : m * bytes ≤ 140737488355328)
    (h : ∀ v' w', w'.ownsRow g e size v' m news → w.grownBy w' (some g) → K (a.put o.dst v') w') : if Region.wanted o (yielded ops a.tmps) = true then Oper.wp P o a w K Q else E := by
  have hwt : Region.wanted o (yielded ops a.tmps) = true := by simp [Region.wanted, hgd]
  rw [if_pos hwt]
  obtain ⟨v', w', hr, h2, h3⟩ := run_copyG (P := P) (w := w) t o.type e i z size bytes ht hi hz hsize hby hzs hsz g hg A b off m c news hl hA hnews h1 h63 hbytes
  unfold Oper.wp execOp
  simp only [ho, resolve, invoke, builtin, Sem.run_bind, Sem.run_pure, Result.andThen_ok, List.map_toArray, List.map_cons, List.map_nil, hs, hx, hr]
  exact h v' w' h2 h3
/-- What FillLength found. -/
def Gcase (l : List (Int × Int)) (len : Int) (W : World) (vc : Value) (e0 : Int) : Prop :=
  (e0 = 12 ∧ vc = .slice none 0 0 ∧ gz (labF l len.toNat l.length) len.toNat = 1000000) ∨
  (e0 = 0 ∧ ∃ (cs : List Int) (c : Nat → Nat), IntsV W cs vc ∧ cs.length = l.length ∧ (∀ i, i < l.length → gz cs i = (c i : Int) ∧ c i ≤ stC l i) ∧ fS l c l.length = len.toNat)
theorem Gcase.below {l : List (Int × Int)} {len e0 : Int} {W W' : World} {vc : Value} (h : Gcase l len W vc e0) (hb : Below W.heap.size W W') : Gcase l len W' vc e0 := by
  rcases h with h | ⟨h1, cs, c, h2, h3⟩
  · exact .inl h
  · exact .inr ⟨h1, cs, c, h2.below hb, h3⟩
theorem fln_one {l : List (Int × Int)} {len : Int} {w w' : World} {e : Ending} (h : FlnPost l len.toNat w e w') : ∃ vc vl e0, e = .returned (.tuple #[vc, vl, .int .i64 e0]) ∧ Gcase l len w' vc e0 ∧ Below w.heap.size w w' := by
  obtain ⟨vl, hvl, b4, hcase⟩ := h
  rcases hcase with ⟨hlab, rfl⟩ | ⟨hlab, bs, vb, hbl, hvb, rfl, cc, hcc, hfs, hfn⟩
  · exact ⟨_, _, _, rfl, .inl ⟨rfl, rfl, hlab⟩, b4⟩
  · exact ⟨_, _, _, rfl, .inr ⟨rfl, bs, cc, hvb, hbl, hcc, hfs⟩, b4⟩
end Go.Proofs.Ytlfeoofchebbkaa
/- TopGapFilled: the memory of the forme whose gap is filled. -/
namespace Go.Proofs.Ytlfeoofchebbkaa
set_option linter.unusedSimpArgs false
set_option linter.unusedVariables false
open Go.RowKit
theorem own_keepG {W0 W : World} {base : Nat} {e : TypeId} {s n : Nat} {u : Value} {xs : List Value} (h : W0.ownsRow base e s u n xs) (hb : ∀ g, u.ownBlock = some g → W.heap[g]? = W0.heap[g]?) : W.ownsRow base e s u n xs := by
  refine ⟨h.1, ?_⟩
  rcases h.2 with hn | ⟨g, cap, cur, rfl, h1, h2, rest⟩
  · exact .inl hn
  · exact .inr ⟨g, cap, cur, rfl, h1, (hb g rfl).trans h2, rest⟩
theorem own_baseG {W : World} {base base' : Nat} {e : TypeId} {s n : Nat} {u : Value} {xs : List Value} (h : W.ownsRow base e s u n xs) (hb : base' ≤ base) : W.ownsRow base' e s u n xs := by
  refine ⟨h.1, ?_⟩
  rcases h.2 with hn | ⟨g, cap, cur, rfl, h1, rest⟩
  · exact .inl hn
  · exact .inr ⟨g, cap, cur, rfl, Nat.le_trans hb h1, rest⟩
theorem addr_add (b off j : Nat) : (⟨b, off, none⟩ : Addr).add j = ⟨b, off + j, none⟩ := by unfold Addr.add; split <;> simp_all
theorem pcells_append (l m : List Piece) : pcells (l ++ m) = pcells l ++ pcells m := by unfold pcells; rw [List.flatMap_append]
/-- The pieces of a slice: a row of the call's own, or one that is full. -/
def PV (W : World) (base : Nat) (v : Value) (ps : List Piece) : Prop :=
  W.ownsRow base 70 6 v ps.length (pcells ps) ∨ (∃ b', v = .slice (some ⟨b', 0, none⟩) ps.length ps.length ∧ base ≤ b' ∧ b' < W.heap.size ∧ PsAt W b' 0 ps)
theorem PV.lies {W : World} {base : Nat} {v : Value} {ps : List Piece} (h : PV W base v ps) : ∃ A' b' c', v = .slice A' ps.length c' ∧ ps.length ≤ c' ∧ Lies A' ps.length W.heap.size b' 0 ∧ PsAt W b' 0 ps := by
  rcases h with h | ⟨b', rfl, h1, h2, h3⟩
  · obtain ⟨A', b', c', e, h1, h2, h3, -⟩ := ps_own h
    exact ⟨A', b', c', e, h1, h2, h3⟩
  · exact ⟨_, b', _, rfl, Nat.le_refl _, fun _ => ⟨rfl, h2⟩, h3⟩
theorem PV.keep {W W' : World} {base : Nat} {v : Value} {ps : List Piece} (h : PV W base v ps) (hs : W.heap.size ≤ W'.heap.size) (hb : ∀ g, base ≤ g → g < W.heap.size → (v.ownBlock = some g ∨ ∃ nm, W.cell? ⟨g, 0, none⟩ = some (.string nm)) → W'.heap[g]? = W.heap[g]?) : PV W' base v ps := by
  rcases h with h | ⟨b', rfl, h1, h2, h3⟩
  · exact .inl (own_keepG h fun g e => hb g (h.lt g e).1 (h.lt g e).2 (.inl e))
  · refine .inr ⟨b', rfl, h1, Nat.lt_of_lt_of_le h2 hs, fun j hj => ?_⟩
    have h0 := (h3 0 (by omega)).1
    have e := hb b' h1 h2 (.inr ⟨_, h0⟩)
    obtain ⟨p0, p1, p2, p3, p4, p5⟩ := h3 j hj
    refine ⟨?_, ?_, ?_, ?_, ?_, ?_⟩
    all_goals rw [World.cell?_of_block e]
    all_goals assumption
theorem PV.below {W W' : World} {base : Nat} {v : Value} {ps : List Piece} (h : PV W base v ps) (hb : Below W.heap.size W W') : PV W' base v ps := h.keep hb.size fun g _ hg _ => hb.block g hg
theorem PV.setBox {W : World} {base nb i : Nat} {v u : Value} {x y : Int} {z : Value} {ps : List Piece} (h : W.ownsRow base 70 6 v ps.length (pcells ps)) (hx : Blk W nb 37 #[.int .i64 x, .int .i64 y, z]) : PV (W.setCell ⟨nb, i, none⟩ u) base v ps :=
  .inl (own_keepG h fun g e => Below.heap_setCell _ _ _ _ (fun he => own_blk_ne h hx (by decide) (by rw [e]; exact congrArg some he.symm)))
set_option maxRecDepth 100000 in
set_option maxHeartbeats 1000000 in
theorem step_append_pv {ops : Array Oper} {o : Oper} {a : Act} {w : World} {K : Act → World → Prop} {Q : Exit → Act → World → Prop} {E : Prop} (hgd : o.guard = none) (s x : Operand)
    (ho : o.op = .call { callee := .builtin .append, args := #[s, x], argTypes := #[35, 35] }) (i : TypeInfo) (z : Value) (hi : Try.prog.info? 70 = some i) (hz : i.zero = some z) (hsize : i.size = 6) (hby : i.bytes = 56) (hzs : z.cells.size = 6)
    (base : Nat) (v : Value) (ps : List Piece) (hs : a.eval s = v) (hpv : PV w base v ps) (hbase : base ≤ w.heap.size) (tb : Nat) (q : Piece) (hx : a.eval x = .slice (some ⟨tb, 0, none⟩) 1 1) (hq : w.heap[tb]? = some (.cells (pcs q) 70 (0, 0))) (hlen : ps.length ≤ 1000)
    (h : ∀ g cap w' row, w'.ownsRow base 70 6 (.slice (some ⟨g, 0, none⟩) (ps.length + 1) cap) (ps.length + 1) (pcells (ps ++ [q])) → w.grownBy w' row → (∀ k, row = some k → base ≤ k ∧ ∃ cs fr, w.heap[k]? = some (.cells cs 70 fr)) → K (a.put o.dst (.slice (some ⟨g, 0, none⟩) (ps.length + 1) cap)) w') :
    if Region.wanted o (yielded ops a.tmps) = true then Oper.wp Try.prog o a w K Q else E := by
  have hnews : ∀ j u, (pcs q).toList[j]? = some u → w.cell? ((⟨tb, 0, none⟩ : Addr).add j) = some u := fun j u hu => by
    rw [addr_add, Nat.zero_add]
    simp only [World.cell?, hq]
    rw [← Array.getElem?_toList]
    exact hu
  have hone : ∀ u ∈ (pcs q).toList, u.oneCell' = true := fun u hu => pcells_one [q] u (by unfold pcells; simpa using hu)
  have hpc : pcells (ps ++ [q]) = pcells ps ++ (pcs q).toList := by rw [pcells_append]; congr 1
  rcases hpv with hown | ⟨b', rfl, h1, h2, h3⟩
  · refine step_append_lies w hgd s x 35 ho base 70 i z 6 56 Try.underlying35 hi hz hsize hby hzs (by omega) v ps.length (pcells ps) hs hown ⟨tb, 0, none⟩ 1 1 (pcs q).toList hx rfl hnews hone (by omega) (by simp only [maxLen]; omega) (by omega) hbase w.heap.size rfl ?_
    intro g cap w' h4 h5 _ _
    refine h g cap w' v.ownBlock (by rw [hpc]; exact h4) h5 fun k hk => ⟨(hown.lt k hk).1, ?_⟩
    rcases hown.2 with ⟨rfl, _⟩ | ⟨g', cap', cur, rfl, hh1, hh2, _⟩
    · cases hk
    · injection hk with hk
      subst hk
      exact ⟨_, _, hh2⟩
  · refine step_append_grows hgd s x 35 ho 70 i z 6 56 Try.underlying35 hi hz hsize hby hzs (by omega) (some ⟨b', 0, none⟩) ps.length ps.length (pcells ps) hs (fun e => by cases e) (pcells_length ps) (fun b e j u hu => ?_) ⟨tb, 0, none⟩ 1 1 (pcs q).toList hx rfl hnews hone (by omega) (by simp only [maxLen]; omega) (by omega) ?_
    · injection e with e
      subst e
      rw [addr_add]
      have hj : j < ps.length * 6 := by
        rcases Nat.lt_or_ge j (ps.length * 6) with hlt | hge
        · exact hlt
        · rw [List.getElem?_eq_none (by rw [pcells_length]; exact hge)] at hu; cases hu
      rw [h3.all j hj, ← pcells_get ps j hj, hu]
    · intro v' w' h4 h5
      obtain ⟨g, cap, rfl, _, _⟩ := h4.form (by omega)
      exact h g cap w' none (by rw [hpc]; exact own_baseG h4 hbase) h5 (fun k hk => by cases hk)
theorem slice_cut {b n c k : Nat} (hk : k ≤ n) (hc : n ≤ c) (w : World) : (Instr.slice 35 (.slice (some ⟨b, 0, none⟩) n c) none (some (.int .i64 (k : Int))) (some (.int .i64 (k : Int)))).run Try.prog w = .ok (.slice (some ⟨b, 0, none⟩) k k) w := by
  have h2 : (0 : Int) ≤ (k : Int) := by omega
  have h3 : (k : Int) ≤ (c : Int) := by omega
  have ha : (⟨b, 0, none⟩ : Addr).add 0 = ⟨b, 0, none⟩ := by rw [addr_add]
  simp [go_sem, h2, h3, ha]
theorem wpList_of_step {P : Program} {ops : Array Oper} {o : Oper} {rest : List Oper} {a : Act} {w : World} {Q : Exit → Act → World → Prop} (hgd : o.guard = none)
    (h : ∀ K : Act → World → Prop, (∀ a w, wpList P ops Q rest a w → K a w) → if Region.wanted o (yielded ops a.tmps) = true then Oper.wp P o a w K Q else True) : wpList P ops Q (o :: rest) a w :=
  wpList_plain hgd fun K hK => by
    have := h K (fun a w x => hK a w x)
    rwa [if_pos (by simp [Region.wanted, hgd])] at this
theorem slice_from {b n c k : Nat} (hk : k + 1 ≤ n) (hc : n ≤ c) : ∃ ad : Addr, (k + 1 < n → ad = ⟨b, (k + 1) * 6, none⟩) ∧ ∀ w : World, (Instr.slice 35 (.slice (some ⟨b, 0, none⟩) n c) (some (.int .i64 ((k : Int) + 1))) none none).run Try.prog w = .ok (.slice (some ad) (n - (k + 1)) (c - (k + 1))) w := by
  refine ⟨if c = k + 1 then ⟨b, 0, none⟩ else ⟨b, (k + 1) * 6, none⟩, fun h => by rw [if_neg (by omega)], fun w => ?_⟩
  have e1 : ((k : Int) + 1).toNat = k + 1 := by omega
  have ha : (⟨b, 0, none⟩ : Addr).add ((k + 1) * 6) = ⟨b, (k + 1) * 6, none⟩ := by rw [addr_add, Nat.zero_add]
  have h2 : (0 : Int) ≤ (k : Int) + 1 := by omega
  have h3 : (k : Int) + 1 ≤ (n : Int) := by omega
  by_cases h : c = k + 1
  · simp [go_sem, e1, h, h2, h3]
  · simp [go_sem, e1, h, h2, h3, ha]
set_option maxRecDepth 100000 in
/-- append(s[:a:a], s[a+1:]...). -/
theorem step_cut_pv {ops : Array Oper} {o : Oper} {a : Act} {w : World} {K : Act → World → Prop} {Q : Exit → Act → World → Prop} {E : Prop} (hgd : o.guard = none) (s x : Operand)
    (ho : o.op = .call { callee := .builtin .append, args := #[s, x], argTypes := #[35, 35] }) (i : TypeInfo) (z : Value) (hi : Try.prog.info? 70 = some i) (hz : i.zero = some z) (hsize : i.size = 6) (hby : i.bytes = 56) (hzs : z.cells.size = 6)
    (base b' k c : Nat) (ad : Addr) (ps : List Piece) (hk : k < ps.length) (hs : a.eval s = .slice (some ⟨b', 0, none⟩) k k) (hx : a.eval x = .slice (some ad) (ps.length - (k + 1)) c) (had : k + 1 < ps.length → ad = ⟨b', (k + 1) * 6, none⟩) (hb : base ≤ b') (hbl : b' < w.heap.size) (hps : PsAt w b' 0 ps) (hbase : base ≤ w.heap.size) (hlen : ps.length ≤ 1000)
    (h : ∀ g cap w', PV w' base (.slice (some ⟨g, 0, none⟩) (ps.length - 1) cap) (ps.take k ++ ps.drop (k + 1)) → w.grownBy w' none → K (a.put o.dst (.slice (some ⟨g, 0, none⟩) (ps.length - 1) cap)) w') :
    if Region.wanted o (yielded ops a.tmps) = true then Oper.wp Try.prog o a w K Q else E := by
  have hall := hps.all
  have hL : (ps.take k ++ ps.drop (k + 1)).length = ps.length - 1 := fill_len (f := ⟨0, 0, ps⟩) hk
  have hpk : (pcells ps).take (k * 6) = pcells (ps.take k) := by
    have e : pcells ps = pcells (ps.take k) ++ pcells (ps.drop k) := by rw [← pcells_append, List.take_append_drop]
    rw [e, List.take_append_of_le_length (by rw [pcells_length, List.length_take]; omega), List.take_of_length_le (by rw [pcells_length, List.length_take]; omega)]
  have hdk : (pcells ps).drop ((k + 1) * 6) = pcells (ps.drop (k + 1)) := by
    have e : pcells ps = pcells (ps.take (k + 1)) ++ pcells (ps.drop (k + 1)) := by rw [← pcells_append, List.take_append_drop]
    rw [e, List.drop_append_of_le_length (by rw [pcells_length, List.length_take]; omega), List.drop_of_length_le (by rw [pcells_length, List.length_take]; omega), List.nil_append]
  by_cases hlast : k + 1 = ps.length
  · have hw : Region.wanted o (yielded ops a.tmps) = true := by simp [Region.wanted, hgd]
    rw [if_pos hw]
    have hm : ps.length - (k + 1) = 0 := by omega
    rw [hm] at hx
    have hrun := run_append_nothing (P := Try.prog) w 35 35 o.type 70 i Try.underlying35 hi (some ⟨b', 0, none⟩) k k (Nat.le_refl _) (.slice (some ad) 0 c) (Src.ofSlice w Try.underlying35 _ 0 c [] (by simp) (by simp) (by simp))
    unfold Oper.wp
    simp [execOp, ho, resolve, invoke, builtin, hs, hx, hrun, Result.andThen]
    have hkk : k = ps.length - 1 := by omega
    have := h b' k w (.inr ⟨b', by rw [hL, ← hkk], hb, hbl, pAt_all fun j hj => ?_⟩) (World.grownBy.refl _ _)
    · rw [← hkk] at this
      exact this
    · rw [hL] at hj
      rw [hall j (by omega), ← pcells_get ps j (by omega), ← pcells_get _ j (by rw [hL]; exact hj), pcells_append, ← hpk, ← hdk, List.getElem?_append_left (by rw [List.length_take, pcells_length]; omega), List.getElem?_take, if_pos (by omega)]
  · rw [had (by omega)] at hx
    refine step_append_grows hgd s x 35 ho 70 i z 6 56 Try.underlying35 hi hz hsize hby hzs (by omega) (some ⟨b', 0, none⟩) k k (pcells (ps.take k)) hs (fun e => by cases e) (by rw [pcells_length, List.length_take]; congr 1; omega) (fun b e j u hu => ?_) ⟨b', (k + 1) * 6, none⟩ (ps.length - (k + 1)) c (pcells (ps.drop (k + 1))) hx (by rw [pcells_length, List.length_drop]) (fun j u hu => ?_) (pcells_one _) (by omega) (by simp only [maxLen]; omega) (by omega) ?_
    · injection e with e
      subst e
      rw [addr_add]
      have hj : j < k * 6 := by
        rcases Nat.lt_or_ge j (k * 6) with hlt | hge
        · exact hlt
        · rw [List.getElem?_eq_none (by rw [pcells_length, List.length_take]; have : min k ps.length = k := by omega
                                        rw [this]; exact hge)] at hu; cases hu
      rw [hall j (by omega), ← pcells_get ps j (by omega), ← hu, ← hpk, List.getElem?_take, if_pos hj]
    · rw [addr_add]
      have hj : j < (ps.length - (k + 1)) * 6 := by
        rcases Nat.lt_or_ge j ((ps.length - (k + 1)) * 6) with hlt | hge
        · exact hlt
        · rw [List.getElem?_eq_none (by rw [pcells_length, List.length_drop]; exact hge)] at hu; cases hu
      have := hall ((k + 1) * 6 + j) (by omega)
      rw [Nat.zero_add] at this
      rw [this, ← pcells_get ps _ (by omega), ← hu, ← hdk, List.getElem?_drop]
    · intro v' w' h4 h5
      have hn : k + (ps.length - (k + 1)) = ps.length - 1 := by omega
      rw [hn, ← pcells_append] at h4
      obtain ⟨g, cap, rfl, _, _⟩ := h4.form (by omega)
      exact h g cap w' (.inl (by rw [hL]; exact own_baseG h4 hbase)) h5
theorem PV.setBox2 {W : World} {base nb : Nat} {v u : Value} {x y : Int} {z : Value} {ps : List Piece} (h : PV W base v ps) (hx : Blk W nb 37 #[.int .i64 x, .int .i64 y, z]) : PV (W.setCell ⟨nb, 2, none⟩ u) base v ps := by
  rcases h with h | ⟨b', rfl, h1, h2, h3⟩
  · exact PV.setBox h hx
  · refine .inr ⟨b', rfl, h1, by simpa [World.setCell] using h2, fun j hj => ?_⟩
    have hne : nb ≠ b' := fun e => by
      subst e
      have h0 := (h3 0 (by omega)).1
      have h00 := hx.cell 0
      rw [Nat.zero_mul, Nat.add_zero, h00] at h0
      cases h0
    obtain ⟨p0, p1, p2, p3, p4, p5⟩ := h3 j hj
    refine ⟨?_, ?_, ?_, ?_, ?_, ?_⟩
    all_goals refine (World.cell?_setCell_far _ _ _ _ hne).trans ?_
    all_goals assumption
theorem uncG_any (f : Forme) (A : Option Addr) (b off c : Nat) (w : World) (hA : Lies A f.ps.length w.heap.size b off) (hps : PsAt w b off f.ps) (hnm : NameOk f.ps) (hc : f.ps.length ≤ c) (hm : f.ps.length ≤ 1000) :
    Calls Try.prog 42 #[.agg #[.int .i64 f.W, .int .i64 f.H, .slice A f.ps.length c]] w fun e w' => e = .returned (.tuple #[.int .i64 (if (checkF f).2 = 0 then f.W * f.H - areas f.ps else 0), .int .i64 (checkF f).2]) ∧ Below w.heap.size w w' := by
  have hcall := fun W (hb : Below w.heap.size w W) => check_any f A b off c W (hA.mono hb.size) (fun j hj => (hps j hj).below hb (hA (by omega)).2) hnm hc (by omega)
  have hB := below_new w (Obj.cells #[Value.int IntKind.i64 f.W, Value.int IntKind.i64 f.H, Value.slice A f.ps.length c] 37)
  have hF := Blk.new w 37 #[Value.int IntKind.i64 f.W, Value.int IntKind.i64 f.H, Value.slice A f.ps.length c]
  by_cases hs : (checkF f).2 = 0
  · have hR := checkF_zero hs
    have hcall2 := fun W (hb : Below w.heap.size w W) => uncovered_any f A b off c W (hA.mono hb.size) (fun j hj => (hps j hj).below hb (hA (by omega)).2) hR.toLaid hc (by omega)
    rw [hs] at hcall
    rw [if_pos hs, hs]
    generalize f.W * f.H - areas f.ps = u at *
    generalize f.ps.length = n at *
    clear hs hps hA hR
    go_enter Try.func42, Try.ntmps42
    go_wp2_with fail
    generalize w.alloc (Obj.cells #[Value.int IntKind.i64 f.W, Value.int IntKind.i64 f.H, Value.slice A n c] 37) = W0 at *
    refine (hcall _ hB).mono ?_
    rintro e w1 ⟨rfl, b1⟩
    have hF1 := hF.below b1 hF.lt
    have a0 : w1.cell? ⟨w.heap.size, 0, none⟩ = some (.int .i64 f.W) := hF1.cell 0
    have a1 : w1.cell? ⟨w.heap.size, 1, none⟩ = some (.int .i64 f.H) := hF1.cell 1
    have a2 : w1.cell? ⟨w.heap.size, 2, none⟩ = some (.slice A n c) := hF1.cell 2
    have HB1 := Lib.hid (hB.trans (b1.mono hB.size))
    have HC2 := Lib.hid hcall2
    clear hcall hcall2 hB hF hF1 b1
    go_wp2_with fail
    refine (HC2.out _ HB1.out).mono ?_
    rintro e w2 ⟨rfl, b2⟩
    have HB2 := Lib.hid (HB1.out.trans (b2.mono HB1.out.size))
    clear b2
    go_wp2_with fail
    go_ret2
    exact ⟨rfl, HB2.out⟩
  · rw [if_neg hs]
    have hsb := bne_t hs
    generalize (checkF f).2 = s at *
    generalize f.ps.length = n at *
    clear hs hps hA
    go_enter Try.func42, Try.ntmps42
    go_wp2_with fail
    generalize w.alloc (Obj.cells #[Value.int IntKind.i64 f.W, Value.int IntKind.i64 f.H, Value.slice A n c] 37) = W0 at *
    refine (hcall _ hB).mono ?_
    rintro e w1 ⟨rfl, b1⟩
    have HB1 := Lib.hid (hB.trans (b1.mono hB.size))
    clear hcall hB hF b1
    go_wp2_with fail
    go_ret2
    exact ⟨rfl, HB1.out⟩
/-- The state of the filling. -/
structure GS (w8 W : World) (f : Forme) (a nb : Nat) (v : Value) (qs : List Piece) (x : Int) : Prop where
  B : Below w8.heap.size w8 W
  N : Blk W nb 37 #[.int .i64 f.W, .int .i64 f.H, v]
  hn : w8.heap.size ≤ nb
  pv : PV W w8.heap.size v (f.fill a qs).ps
  st : Strip (gp f.ps a).y (gp f.ps a).h (gp f.ps a).x qs x
theorem GS.below {w8 W W' : World} {f : Forme} {a nb : Nat} {v : Value} {qs : List Piece} {x : Int} (h : GS w8 W f a nb v qs x) (hb : Below W.heap.size W W') : GS w8 W' f a nb v qs x :=
  ⟨h.B.trans (hb.mono h.B.size), (hb.block nb h.N.lt).trans h.N, h.hn, h.pv.below hb, h.st⟩
theorem GS.push {w8 W W1 w' : World} {f : Forme} {a nb : Nat} {v v' : Value} {qs : List Piece} {x s : Int} {row : Option Nat} (h : GS w8 W f a nb v qs x) (hs : 1 ≤ s) (hb : Below W.heap.size W W1)
    (hown : w'.ownsRow w8.heap.size 70 6 v' ((f.fill a qs).ps.length + 1) (pcells ((f.fill a qs).ps ++ [⟨zzN (qs.length + 1), 2, x, (gp f.ps a).y, s, (gp f.ps a).h⟩]))) (hg : W1.grownBy w' row) (hrow : ∀ k, row = some k → w8.heap.size ≤ k ∧ ∃ cs fr, W1.heap[k]? = some (.cells cs 70 fr)) :
    GS w8 (w'.setCell ⟨nb, 2, none⟩ v') f a nb v' (qs ++ [⟨zzN (qs.length + 1), 2, x, (gp f.ps a).y, s, (gp f.ps a).h⟩]) (x + s) := by
  have h1 := h.below hb
  have hne : row ≠ some nb := fun e => by
    obtain ⟨_, cs, fr, hc⟩ := hrow nb e
    have := h1.N
    unfold Blk at this
    rw [hc] at this
    injection this with this
    injection this with _ ht
    cases ht
  have hN : Blk w' nb 37 #[.int .i64 f.W, .int .i64 f.H, v] := (hg.block nb h1.N.lt (fun e => hne e.symm)).trans h1.N
  have e1 : (f.fill a qs).ps ++ [⟨zzN (qs.length + 1), 2, x, (gp f.ps a).y, s, (gp f.ps a).h⟩] = (f.fill a (qs ++ [⟨zzN (qs.length + 1), 2, x, (gp f.ps a).y, s, (gp f.ps a).h⟩])).ps := by
    unfold Forme.fill; rw [List.append_assoc]
  have e2 : (f.fill a qs).ps.length + 1 = (f.fill a (qs ++ [⟨zzN (qs.length + 1), 2, x, (gp f.ps a).y, s, (gp f.ps a).h⟩])).ps.length := by rw [← e1]; simp
  rw [e1, e2] at hown
  exact ⟨(h1.B.grown hg h1.B.size (fun k e => (hrow k e).1)).setCell (p := ⟨nb, 2, none⟩) h.hn _, hN.set_ 2 _, h.hn, PV.setBox hown hN, h.st.snoc hs⟩
theorem GS.blk {w8 W W1 w' : World} {f : Forme} {a nb : Nat} {v : Value} {qs : List Piece} {x : Int} {row : Option Nat} (h : GS w8 W f a nb v qs x) (hb : Below W.heap.size W W1) (hg : W1.grownBy w' row) (hrow : ∀ k, row = some k → w8.heap.size ≤ k ∧ ∃ cs fr, W1.heap[k]? = some (.cells cs 70 fr)) : Blk w' nb 37 #[.int .i64 f.W, .int .i64 f.H, v] := by
  have h1 := h.below hb
  have hne : row ≠ some nb := fun e => by
    obtain ⟨_, cs, fr, hc⟩ := hrow nb e
    have := h1.N
    unfold Blk at this
    rw [hc] at this
    injection this with this
    injection this with _ ht
    cases ht
  exact (hg.block nb h1.N.lt (fun e => hne e.symm)).trans h1.N
theorem fS_mono {l : List (Int × Int)} {c : Nat → Nat} {k : Nat} : ∀ {n : Nat}, k ≤ n → fS l c k ≤ fS l c n := by
  intro n
  induction n with
  | zero => intro h; obtain rfl : k = 0 := by omega
            exact Nat.le_refl _
  | succ n ih =>
    intro h
    by_cases e : k = n + 1
    · subst e; exact Nat.le_refl _
    · exact Nat.le_trans (ih (by omega)) (Nat.le_add_right _ _)
theorem decL_len : ∀ (f n : Nat) (acc : List UInt8), (decL f n acc).length ≤ f + acc.length
  | 0, _, _ => by simp [decL]
  | f + 1, n, acc => by
    unfold decL
    split
    · omega
    · have := decL_len f (n / 10) (UInt8.ofNat (48 + n % 10) :: acc)
      simp only [List.length_cons] at this
      omega
theorem decB_size (n : Nat) : (decB n).size ≤ n + 1 := by
  unfold decB
  split
  · show 1 ≤ n + 1
    omega
  · have := decL_len (n + 1) n []
    simpa [ByteArray.size] using this
theorem isNm_size {s : ByteArray} (h : isNm s = true) : s.size ≤ 12 := by
  unfold isNm at h
  exact (of_decide_eq_true h).2.2
theorem fill_names {f : Forme} {a : Nat} {qs : List Piece} {y h x0 x : Int} (hr : f.Right) (hs : Strip y h x0 qs x) (hq : qs.length ≤ 60) : NameOk (f.fill a qs).ps := fun j hj => by
  have hm := gp_mem hj
  have : isNm (gp (f.fill a qs).ps j).name = true := by
    rcases List.mem_append.1 hm with h1 | h1
    · rcases List.mem_append.1 h1 with h2 | h2
      · exact hr.nm _ (List.mem_of_mem_take h2)
      · exact hr.nm _ (List.mem_of_mem_drop h2)
    · obtain ⟨i, hi, e⟩ := mem_gp h1
      rw [← e, (hs.at_ i hi).1]
      exact zz_nm (by omega)
  have := isNm_size this
  omega
theorem zz_one : zzN 1 = ⟨#[122, 122, 45, 49]⟩ := by kernel_rfl
end Go.Proofs.Ytlfeoofchebbkaa
