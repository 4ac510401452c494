/- TopLocked: two triples of rows, their boxes, what is kept. -/
import Derived.Test.YtlfeoofchebbkaaTlp
import Derived.Test.YtlfeoofchebbkaaLkd
import Derived.Test.YtlfeoofchebbkaaAp3
import Derived.Test.YtlfeoofchebbkaaSrl
namespace Go.Proofs.Ytlfeoofchebbkaa
set_option linter.unusedSimpArgs false
set_option linter.unusedVariables false
open Go.RowKit
/-- The box of a law of one forme, and its argument. -/
structure LT (w W : World) (f : Forme) (A : Option Addr) (b off c : Nat) : Prop where
  B : Below w.heap.size w W
  F : Blk W w.heap.size 37 #[.int .i64 f.W, .int .i64 f.H, .slice A f.ps.length c]
  la : Lies A f.ps.length w.heap.size b off
  ps : PsAt W b off f.ps
theorem LT.step {w W W' : World} {f : Forme} {A : Option Addr} {b off c : Nat} (h : LT w W f A b off c) (hb : Below W.heap.size W W') : LT w W' f A b off c :=
  ⟨h.B.trans (hb.mono h.B.size), h.F.below hb h.F.lt, h.la, fun j hj => (h.ps j hj).below (hb.mono h.B.size) (h.la (by omega)).2⟩
theorem LT.l {w W : World} {f : Forme} {A : Option Addr} {b off c : Nat} (h : LT w W f A b off c) : Lies A f.ps.length W.heap.size b off := h.la.mono h.B.size
theorem LT.blocks {w W W' : World} {f : Forme} {A : Option Addr} {b off c : Nat} (h : LT w W f A b off c) (ho : W'.os = W.os) (ht : W'.tape = W.tape) (hu : W'.output = W.output) (hs : W.heap.size ≤ W'.heap.size) (hb : ∀ k, k ≤ w.heap.size → W'.heap[k]? = W.heap[k]?) : LT w W' f A b off c :=
  have hB : Below w.heap.size W W' := ⟨ho, ht, hu, hs, fun k hk => hb k (Nat.le_of_lt hk)⟩
  ⟨h.B.trans hB, (hb _ (Nat.le_refl _)).trans h.F, h.la, fun j hj => (h.ps j hj).below hB (h.la (by omega)).2⟩
theorem LT.set {w W : World} {f : Forme} {A : Option Addr} {b off c : Nat} (h : LT w W f A b off c) {p : Addr} (hp : w.heap.size < p.block) (v : Value) : LT w (W.setCell p v) f A b off c :=
  h.blocks rfl rfl rfl (by simp [World.setCell]) fun k hk => Below.heap_setCell _ _ _ _ (by omega)
theorem LT.drew {w W : World} {f : Forme} {A : Option Addr} {b off c : Nat} (h : LT w W f A b off c) : LT w W.drew f A b off c := ⟨h.B.drew, h.F, h.la, h.ps⟩
def Has (v1 v2 v3 : Value) (g : Nat) : Prop := v1.ownBlock = some g ∨ v2.ownBlock = some g ∨ v3.ownBlock = some g
/-- Three rows of their own. -/
structure Tri (W : World) (base : Nat) (v1 v2 v3 : Value) (l1 l2 l3 : List Int) : Prop where
  r1 : W.ownsRow base 3 1 v1 l1.length (l1.map (Value.int .i64))
  r2 : W.ownsRow base 3 1 v2 l2.length (l2.map (Value.int .i64))
  r3 : W.ownsRow base 3 1 v3 l3.length (l3.map (Value.int .i64))
  d12 : v1.ownBlock = none ∨ v1.ownBlock ≠ v2.ownBlock
  d13 : v1.ownBlock = none ∨ v1.ownBlock ≠ v3.ownBlock
  d23 : v2.ownBlock = none ∨ v2.ownBlock ≠ v3.ownBlock
section
variable {W0 W : World} {base : Nat} {v1 v2 v3 u1 u2 u3 : Value} {l1 l2 l3 k1 k2 k3 : List Int} {x1 x2 x3 : Int}
theorem Tri.lt (h : Tri W base v1 v2 v3 l1 l2 l3) {g : Nat} (hg : Has v1 v2 v3 g) : base ≤ g ∧ g < W.heap.size := by
  rcases hg with e | e | e
  · exact h.r1.lt _ e
  · exact h.r2.lt _ e
  · exact h.r3.lt _ e
theorem Fr3.refl (W : World) : Fr3 W W v1 v2 v3 := ⟨rfl, rfl, rfl, Nat.le_refl _, fun _ _ _ _ _ => rfl⟩
theorem Fr3.bl (h : Fr3 W0 W v1 v2 v3) {b : Nat} (hb : b < W0.heap.size) (hn : ¬ Has v1 v2 v3 b) : W.heap[b]? = W0.heap[b]? :=
  h.blk b hb (fun e => hn (.inl e)) (fun e => hn (.inr (.inl e))) (fun e => hn (.inr (.inr e)))
theorem Tri.t3 (h : Tri W base v1 v2 v3 l1 l2 l3) : T3 W W base v1 v2 v3 v1 v2 v3 l1 l2 l3 false false false x1 x2 x3 undef undef undef :=
  ⟨Fr3.refl W, ⟨h.r1, .inl rfl⟩, ⟨h.r2, .inl rfl⟩, ⟨h.r3, .inl rfl⟩, h.d12, h.d13, h.d23, (fun h => by cases h), (fun h => by cases h), (fun h => by cases h)⟩
theorem own_block {u : Value} {n : Nat} {xs : List Value} (h : W0.ownsRow base 3 1 u n xs) (hb : ∀ g, u.ownBlock = some g → W.heap[g]? = W0.heap[g]?) : W.ownsRow base 3 1 u n xs := by
  refine ⟨h.1, ?_⟩
  rcases h.2 with hn | ⟨g, cap, cur, rfl, h1, h2, rest⟩
  · exact .inl hn
  · exact .inr ⟨g, cap, cur, rfl, h1, (hb g rfl).trans h2, rest⟩
theorem Tri.blocks (h : Tri W0 base v1 v2 v3 l1 l2 l3) (hb : ∀ g, Has v1 v2 v3 g → W.heap[g]? = W0.heap[g]?) : Tri W base v1 v2 v3 l1 l2 l3 :=
  ⟨own_block h.r1 fun g e => hb g (.inl e), own_block h.r2 fun g e => hb g (.inr (.inl e)), own_block h.r3 fun g e => hb g (.inr (.inr e)), h.d12, h.d13, h.d23⟩
theorem Tri.keep (h : Tri W0 base u1 u2 u3 k1 k2 k3) (hf : Fr3 W0 W v1 v2 v3) (hx : ∀ g, Has u1 u2 u3 g → ¬ Has v1 v2 v3 g) : Tri W base u1 u2 u3 k1 k2 k3 :=
  h.blocks fun g hg => hf.bl (h.lt hg).2 (hx g hg)
theorem Tri.step (h : Tri W0 base u1 u2 u3 k1 k2 k3) (hb : Below W0.heap.size W0 W) : Tri W base u1 u2 u3 k1 k2 k3 := h.blocks fun g hg => hb.block g (h.lt hg).2
theorem Tri.set (h : Tri W base u1 u2 u3 k1 k2 k3) {p : Addr} (hp : p.block < base) (v : Value) : Tri (W.setCell p v) base u1 u2 u3 k1 k2 k3 :=
  h.blocks fun g hg => Below.heap_setCell _ _ _ _ (by have := (h.lt hg).1; omega)
theorem Tri.drew (h : Tri W base u1 u2 u3 k1 k2 k3) : Tri W.drew base u1 u2 u3 k1 k2 k3 := h.blocks fun _ _ => rfl
/-- Behind the three appends. -/
theorem tri_of (r1 : Rw W0 W base v1 u1 l1) (r2 : Rw W0 W base v2 u2 l2) (r3 : Rw W0 W base v3 u3 l3) (d12 : u1.ownBlock = none ∨ u1.ownBlock ≠ u2.ownBlock) (d13 : u1.ownBlock = none ∨ u1.ownBlock ≠ u3.ownBlock) (d23 : u2.ownBlock = none ∨ u2.ownBlock ≠ u3.ownBlock) : Tri W base u1 u2 u3 l1 l2 l3 :=
  ⟨r1.own, r2.own, r3.own, d12, d13, d23⟩
theorem has_of (r1 : Rw W0 W base v1 u1 l1) (r2 : Rw W0 W base v2 u2 l2) (r3 : Rw W0 W base v3 u3 l3) {g : Nat} (h : Has u1 u2 u3 g) : Has v1 v2 v3 g ∨ W0.heap.size ≤ g := by
  rcases h with e | e | e
  · rcases r1.at_ with h | ⟨g', h1, h2⟩
    · exact .inl (.inl (h.symm.trans e))
    · rw [e] at h1; injection h1 with h1; exact .inr (by omega)
  · rcases r2.at_ with h | ⟨g', h1, h2⟩
    · exact .inl (.inr (.inl (h.symm.trans e)))
    · rw [e] at h1; injection h1 with h1; exact .inr (by omega)
  · rcases r3.at_ with h | ⟨g', h1, h2⟩
    · exact .inl (.inr (.inr (h.symm.trans e)))
    · rw [e] at h1; injection h1 with h1; exact .inr (by omega)
end
/-- Between two rounds: the two boxes with their rows. -/
structure LB (w W : World) (f : Forme) (A : Option Addr) (b off c jb base : Nat) (J1 J2 J3 U1 U2 U3 : Value) (a1 a2 a3 c1 c2 c3 : List Int) : Prop where
  lt : LT w W f A b off c
  bj : Blk W jb 39 #[J1, J2, J3]
  bl : Blk W (jb + 1) 39 #[U1, U2, U3]
  hj : w.heap.size < jb
  hb : base = jb + 2
  hz : base ≤ W.heap.size
  tj : Tri W base J1 J2 J3 a1 a2 a3
  tu : Tri W base U1 U2 U3 c1 c2 c3
  x : ∀ g, Has J1 J2 J3 g → ¬ Has U1 U2 U3 g
section
variable {w W W' : World} {f : Forme} {A : Option Addr} {b off c jb base : Nat} {J1 J2 J3 U1 U2 U3 u1 u2 u3 : Value} {a1 a2 a3 c1 c2 c3 b1 b2 b3 : List Int}
theorem LB.step (h : LB w W f A b off c jb base J1 J2 J3 U1 U2 U3 a1 a2 a3 c1 c2 c3) (hb : Below W.heap.size W W') : LB w W' f A b off c jb base J1 J2 J3 U1 U2 U3 a1 a2 a3 c1 c2 c3 :=
  ⟨h.lt.step hb, h.bj.below hb h.bj.lt, h.bl.below hb h.bl.lt, h.hj, h.hb, Nat.le_trans h.hz hb.size, h.tj.step hb, h.tu.step hb, h.x⟩
theorem LB.drew (h : LB w W f A b off c jb base J1 J2 J3 U1 U2 U3 a1 a2 a3 c1 c2 c3) : LB w W.drew f A b off c jb base J1 J2 J3 U1 U2 U3 a1 a2 a3 c1 c2 c3 :=
  ⟨h.lt.drew, h.bj, h.bl, h.hj, h.hb, h.hz, h.tj.drew, h.tu.drew, h.x⟩
def set3 (W : World) (p : Nat) (u1 u2 u3 : Value) : World := ((W.setCell ⟨p, 0, none⟩ u1).setCell ⟨p, 1, none⟩ u2).setCell ⟨p, 2, none⟩ u3
theorem Blk.set3 {t : TypeId} {p : Nat} {o1 o2 o3 : Value} (h : Blk W p t #[o1, o2, o3]) (u1 u2 u3 : Value) : Blk (set3 W p u1 u2 u3) p t #[u1, u2, u3] := by
  unfold Go.Proofs.Ytlfeoofchebbkaa.set3 Blk at *
  simp [World.setCell, Array.getElem?_modify, h]
theorem set3_other {p q : Nat} (hq : q ≠ p) (u1 u2 u3 : Value) : (set3 W p u1 u2 u3).heap[q]? = W.heap[q]? := by
  unfold set3
  rw [Below.heap_setCell _ _ _ _ (by exact hq), Below.heap_setCell _ _ _ _ (by exact hq), Below.heap_setCell _ _ _ _ (by exact hq)]
theorem set3_size {p : Nat} (u1 u2 u3 : Value) : (set3 W p u1 u2 u3).heap.size = W.heap.size := by simp [set3, World.setCell]
theorem LT.set3 {p : Nat} (h : LT w W f A b off c) (hp : w.heap.size < p) (u1 u2 u3 : Value) : LT w (set3 W p u1 u2 u3) f A b off c := ((h.set (p := ⟨p, 0, none⟩) hp _).set (p := ⟨p, 1, none⟩) hp _).set (p := ⟨p, 2, none⟩) hp _
theorem Tri.set3 {p : Nat} {v1 v2 v3 : Value} {l1 l2 l3 : List Int} (h : Tri W base v1 v2 v3 l1 l2 l3) (hp : p < base) (u1 u2 u3 : Value) : Tri (set3 W p u1 u2 u3) base v1 v2 v3 l1 l2 l3 := ((h.set (p := ⟨p, 0, none⟩) hp _).set (p := ⟨p, 1, none⟩) hp _).set (p := ⟨p, 2, none⟩) hp _
theorem LT.fr {v1 v2 v3 : Value} (h : LT w W f A b off c) (hf : Fr3 W W' v1 v2 v3) (hn : ∀ g, Has v1 v2 v3 g → w.heap.size < g) : LT w W' f A b off c :=
  h.blocks hf.os hf.tape hf.output hf.size fun k hk => hf.bl (by have := h.F.lt; omega) fun hh => by have := hn k hh; omega
/-- The first box is written: behind the three appends to its rows. -/
theorem LB.just (h : LB w W f A b off c jb base J1 J2 J3 U1 U2 U3 a1 a2 a3 c1 c2 c3) (hf : Fr3 W W' J1 J2 J3) (r1 : Rw W W' base J1 u1 b1) (r2 : Rw W W' base J2 u2 b2) (r3 : Rw W W' base J3 u3 b3)
    (d12 : u1.ownBlock = none ∨ u1.ownBlock ≠ u2.ownBlock) (d13 : u1.ownBlock = none ∨ u1.ownBlock ≠ u3.ownBlock) (d23 : u2.ownBlock = none ∨ u2.ownBlock ≠ u3.ownBlock) :
    LB w (set3 W' jb u1 u2 u3) f A b off c jb base u1 u2 u3 U1 U2 U3 b1 b2 b3 c1 c2 c3 := by
  have hj := h.hj
  have hbb := h.hb
  have hz := h.hz
  have hlow : ∀ g, Has J1 J2 J3 g → base ≤ g := fun g hg => (h.tj.lt hg).1
  have k1 := hf.bl (b := jb) h.bj.lt fun hh => by have := hlow _ hh; omega
  have k2 := hf.bl (b := jb + 1) h.bl.lt fun hh => by have := hlow _ hh; omega
  have hx' : ∀ g, Has U1 U2 U3 g → ¬ Has J1 J2 J3 g := fun g h1 h2 => h.x g h2 h1
  refine ⟨(h.lt.fr hf fun g hg => by have := hlow g hg; omega).set3 hj _ _ _, (show Blk W' jb 39 #[J1, J2, J3] from k1.trans h.bj).set3 _ _ _, (set3_other (by omega) _ _ _).trans (k2.trans h.bl), hj, hbb, by rw [set3_size]; exact Nat.le_trans hz hf.size, (tri_of r1 r2 r3 d12 d13 d23).set3 (by omega) _ _ _, (h.tu.keep hf hx').set3 (by omega) _ _ _, fun g hg hu => ?_⟩
  rcases has_of r1 r2 r3 hg with h1 | h1
  · exact h.x g h1 hu
  · have := (h.tu.lt hu).2; omega
/-- The second box is written. -/
theorem LB.loose (h : LB w W f A b off c jb base J1 J2 J3 U1 U2 U3 a1 a2 a3 c1 c2 c3) (hf : Fr3 W W' U1 U2 U3) (r1 : Rw W W' base U1 u1 b1) (r2 : Rw W W' base U2 u2 b2) (r3 : Rw W W' base U3 u3 b3)
    (d12 : u1.ownBlock = none ∨ u1.ownBlock ≠ u2.ownBlock) (d13 : u1.ownBlock = none ∨ u1.ownBlock ≠ u3.ownBlock) (d23 : u2.ownBlock = none ∨ u2.ownBlock ≠ u3.ownBlock) :
    LB w (set3 W' (jb + 1) u1 u2 u3) f A b off c jb base J1 J2 J3 u1 u2 u3 a1 a2 a3 b1 b2 b3 := by
  have hj := h.hj
  have hbb := h.hb
  have hz := h.hz
  have hlow : ∀ g, Has U1 U2 U3 g → base ≤ g := fun g hg => (h.tu.lt hg).1
  have k1 := hf.bl (b := jb) h.bj.lt fun hh => by have := hlow _ hh; omega
  have k2 := hf.bl (b := jb + 1) h.bl.lt fun hh => by have := hlow _ hh; omega
  refine ⟨(h.lt.fr hf fun g hg => by have := hlow g hg; omega).set3 (by omega) _ _ _, (set3_other (by omega) _ _ _).trans (k1.trans h.bj), (show Blk W' (jb + 1) 39 #[U1, U2, U3] from k2.trans h.bl).set3 _ _ _, hj, hbb, by rw [set3_size]; exact Nat.le_trans hz hf.size, (h.tj.keep hf h.x).set3 (by omega) _ _ _, (tri_of r1 r2 r3 d12 d13 d23).set3 (by omega) _ _ _, fun g hg hu => ?_⟩
  rcases has_of r1 r2 r3 hu with h1 | h1
  · exact h.x g hg h1
  · have := (h.tj.lt hg).2; omega
end
theorem mod_any (n b : Int) (w : World) (hb : 1 ≤ b) (hb' : b ≤ 1000000) : Calls Try.prog 76 #[.int .i64 n, .int .i64 b] w fun e w' => e = .returned (.int .i64 (n % b)) ∧ w = w' := by
  have h0 : ¬ b = 0 := by omega
  have h1 := Int.emod_nonneg n h0
  have h2 := Int.emod_lt_of_pos n (by omega : 0 < b)
  by_cases hn : 0 ≤ n
  · go_enter Try.func76, Try.ntmps76
    go_wp2_with fail
    go_ret
    exact ⟨rfl, rfl⟩
  · have h3 : n.tmod b = -((-n) % b) := by
      rw [← Int.neg_neg n, Int.neg_tmod, Int.tmod_eq_emod_of_nonneg (by omega), Int.neg_neg]
    have h4 := Int.emod_nonneg (-n) h0
    have h5 := Int.emod_lt_of_pos (-n) (by omega : 0 < b)
    have h6 := Int.mul_ediv_add_emod (-n) b
    have h7 : Hid (n % b = if (-n) % b = 0 then 0 else b - (-n) % b) := by
      show _ = _
      by_cases hz : (-n) % b = 0
      · rw [if_pos hz]
        rw [hz] at h6
        exact ((Int.ediv_emod_unique (by omega : 0 < b)).2 ⟨(show 0 + b * (-((-n) / b)) = n by rw [Int.mul_neg]; omega), by omega, by omega⟩).2
      · rw [if_neg hz]
        refine ((Int.ediv_emod_unique (by omega : 0 < b)).2 ⟨(show b - (-n) % b + b * (-((-n) / b) - 1) = n from ?_), by omega, by omega⟩).2
        rw [Int.mul_sub, Int.mul_neg, Int.mul_one]; omega
    have HM : Hid (∀ z, z = (-n) % b → n % b = if z = 0 then 0 else b - z) := (show ∀ z, _ from fun z hz => by rw [hz]; exact h7.out)
    clear h6 h7
    go_enter Try.func76, Try.ntmps76
    go_wp2_with fail
    all_goals go_ret
    all_goals refine ⟨ret_int ?_, rfl⟩
    all_goals rw [HM.out _ rfl]
    · rw [if_neg (by omega)]; omega
    · rw [if_pos (by omega)]; omega
end Go.Proofs.Ytlfeoofchebbkaa
