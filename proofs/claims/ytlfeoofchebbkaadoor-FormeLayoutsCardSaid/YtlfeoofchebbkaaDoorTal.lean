/- tail: the closure that works out the longest chain from a piece, and keeps what it knows. -/
import Derived.Test.YtlfeoofchebbkaaDoorDir
namespace Go.Proofs.YtlfeoofchebbkaaDoor
set_option linter.unusedSimpArgs false
set_option linter.unusedVariables false
open Go.RowKit
theorem enters146 : ∀ (args : Array Value) (w : World), (callFunc 65 args).run Tryd.prog w = .ok (.enter 65 args) w := enters_of' Tryd.func65 (by kernel_rfl) rfl
/-- What the closure 'tail' captures: the row of what is known, the direction, itself. -/
structure TEnv (w : World) (B g bo bd bt dg : Nat) (D : Dir) : Prop where
  co : w.cell? ⟨bo, 0, none⟩ = some (.slice (some ⟨g, 0, none⟩) D.n D.n)
  cd : w.cell? ⟨bd, 0, none⟩ = some (.pointer (some ⟨dg, 0, none⟩))
  ct : w.cell? ⟨bt, 0, none⟩ = some (.func (.func 65) #[] #[.pointer (some ⟨bo, 0, none⟩), .pointer (some ⟨bd, 0, none⟩), .pointer (some ⟨bt, 0, none⟩)])
  go : g ≠ bo
  gd : g ≠ bd
  gt : g ≠ bt
  gB : B ≤ g
  hw : B ≤ w.heap.size
theorem TEnv.keep {w w' : World} {B g bo bd bt dg : Nat} {D : Dir} (h : TEnv w B g bo bd bt dg D) (hg : w.grownBy w' (some g)) : TEnv w' B g bo bd bt dg D where
  co := (World.cell?_of_block (hg.block bo (block_lt_of_cell h.co) (by simpa using Ne.symm h.go))).trans h.co
  cd := (World.cell?_of_block (hg.block bd (block_lt_of_cell h.cd) (by simpa using Ne.symm h.gd))).trans h.cd
  ct := (World.cell?_of_block (hg.block bt (block_lt_of_cell h.ct) (by simpa using Ne.symm h.gt))).trans h.ct
  go := h.go
  gd := h.gd
  gt := h.gt
  gB := h.gB
  hw := Nat.le_trans h.hw hg.size
theorem grown_of_below {a w : World} (h : Below a.heap.size a w) (row : Option Nat) : a.grownBy w row := ⟨h.os, h.tape, h.output, h.size, fun i hi _ => h.block i hi⟩
theorem grown_trans' {a b c : World} {row : Option Nat} (h : a.grownBy b row) (k : b.grownBy c row) : a.grownBy c row :=
  ⟨k.os.trans h.os, k.tape.trans h.tape, k.output.trans h.output, Nat.le_trans h.size k.size, fun i hi hne => (k.block i (Nat.lt_of_lt_of_le hi h.size) hne).trans (h.block i hi hne)⟩
theorem DAt.grown {w w' : World} {B g : Nat} {D : Dir} {Aa Ab Az : Option Addr} {ca cb cz ba oa bb ob bz oz : Nat} (h : DAt w B g D Aa Ab Az ca cb cz ba oa bb ob bz oz) {r : Nat} (hg : w.grownBy w' (some r)) (hr : B ≤ r) (hw : B ≤ w.heap.size) :
    DAt w' B g D Aa Ab Az ca cb cz ba oa bb ob bz oz :=
  h.keep fun b o hb => World.cell?_of_block (a := ⟨b, o, none⟩) (hg.block b (by omega) (by simp; omega))
theorem grown_setCell' {a w : World} {g : Nat} (h : a.grownBy w (some g)) (i : Nat) (u : Value) : a.grownBy (w.setCell ⟨g, i, none⟩ u) (some g) :=
  ⟨h.os, h.tape, h.output, by simpa [World.setCell] using h.size, fun k hk hne => (Below.heap_setCell w ⟨g, i, none⟩ u k (by rintro rfl; exact hne rfl)).trans (h.block k hk hne)⟩
theorem grown_drew' {a w : World} {row : Option Nat} (h : a.grownBy w row) : a.grownBy w.drew row := ⟨h.os, h.tape, h.output, h.size, h.block⟩
/-- What is known of the tails: each is 0 or right. -/
def Memo (D : Dir) (m : Nat → Int) : Prop := ∀ k, k < D.n → m k = 0 ∨ m k = D.T k
def TailPost (w : World) (g : Nat) (D : Dir) (m : Nat → Int) (i : Nat) (e : Ending) (w' : World) : Prop :=
  e = .returned (.int .i64 (D.T i)) ∧ w.grownBy w' (some g) ∧ ∃ m' : Nat → Int, w'.rowIs g 3 D.n (fun j => .int .i64 (m' j)) ∧ Memo D m' ∧ m' i = D.T i ∧ ∀ k, k < D.n → m k ≠ 0 → m' k = m k
set_option maxRecDepth 100000 in
set_option maxHeartbeats 1000000 in
theorem tail_any (D : Dir) (wf : D.WF) (hn : D.n ≤ 1000000) (hT : ∀ i, i < D.n → D.T i ≤ 1000000000000) (B g bo bd bt dg : Nat) (Aa Ab Az : Option Addr) (ca cb cz ba oa bb ob bz oz : Nat) : ∀ (fuel i : Nat), i < D.n → (D.side - D.b i).toNat < fuel →
    ∀ (w : World) (m : Nat → Int), TEnv w B g bo bd bt dg D → DAt w B dg D Aa Ab Az ca cb cz ba oa bb ob bz oz → w.rowIs g 3 D.n (fun j => .int .i64 (m j)) → Memo D m →
    Calls Tryd.prog 65 #[.int .i64 i, .pointer (some ⟨bo, 0, none⟩), .pointer (some ⟨bd, 0, none⟩), .pointer (some ⟨bt, 0, none⟩)] w (TailPost w g D m i) := by
  intro fuel
  induction fuel with
  | zero => intro i _ h; omega
  | succ fuel ih =>
    intro i hi hf w m hE hD hrow hm
    obtain ⟨co, cd, ct, -, -, -, -, hw⟩ := id hE
    have r0 := hrow.cell hi
    have hi0 : (0 : Int) ≤ (i : Int) := by omega
    have hi1 : (i : Int) < (D.n : Int) := by omega
    by_cases h0 : m i = 0
    · have h0' : (m i == 0) = true := by simp [h0]
      have HE := Lib.hid hE
      have HD := Lib.hid hD
      have HR := Lib.hid hrow
      have H0 := Lib.hid h0
      have c2 := hD.c2
      clear hE hD hrow h0
      go_enter Tryd.func65, Tryd.ntmps65
      go_wp2_with fail
      generalize hG : (fun j => if D.leads i j = true then D.T j else 0) = G at *
      have hG1 : ∀ j, D.leads i j = true → G j = D.T j := fun j h => by rw [← hG]; simp only [h, if_true]
      have hG0 : ∀ j, D.leads i j = false → G j = 0 := fun j h => by rw [← hG]; simp only [h]; rfl
      have HG1 := Lib.hid hG1
      have HG0 := Lib.hid hG0
      have HGG := Lib.hid hG
      clear hG hG1 hG0
      have HI := Lib.hid ih
      have HM := Lib.hid hm
      have HT := Lib.hid hT
      clear ih hm hT c2 co cd ct r0 h0'
      go_loopg [6, 18] D.n (fun gg s6 s18 wr => ∃ (k : Nat) (mr : Nat → Int), k ≤ D.n ∧ D.n - k ≤ gg ∧ s18 = .int .i64 k ∧ s6 = .int .i64 (maxTo k G) ∧ Hid (w.grownBy wr (some g)) ∧ Hid (wr.rowIs g 3 D.n (fun j => .int .i64 (mr j))) ∧ Hid (Memo D mr) ∧ Hid (∀ j, j < D.n → m j ≠ 0 → mr j = m j))
      case atStart => exact ⟨0, m, Nat.zero_le _, by omega, rfl, rfl, World.grownBy.refl w _, HR.out, HM.out, fun _ _ _ => rfl⟩
      case round =>
        obtain ⟨k, mr, hk, hg, rfl, rfl, G0, R0, M0, N0⟩ := hrel
        have E1 := HE.out.keep G0.out
        have D1 := HD.out.grown G0.out HE.out.gB HE.out.hw
        by_cases hlt : k < D.n
        · have hltz : (k : Int) < (D.n : Int) := by omega
          have HE1 := Lib.hid E1
          have HD1 := Lib.hid D1
          obtain ⟨co, cd, ct, -, -, -, -, hwr⟩ := E1
          clear D1 HE HD HR
          go_wp2_with fail
          refine (leads_any D B dg Aa Ab Az ca cb cz ba oa bb ob bz oz i k _ HD1.out hwr hi hlt hn).mono ?_
          rintro e w1 ⟨rfl, b1⟩
          have g1 := grown_of_below b1 (some g)
          have E1 := HE1.out.keep g1
          have D1 := HD1.out.grown g1 HE1.out.gB hwr
          have R1 := Lib.hid (R0.out.of_block (b1.block g R0.out.lt))
          have G1 := Lib.hid (grown_trans' G0.out g1)
          clear HE1 HD1 g1 b1 co cd ct R0 G0 hwr
          have HE1 := Lib.hid E1
          have HD1 := Lib.hid D1
          obtain ⟨co, cd, ct, -, -, -, -, hwr⟩ := E1
          clear D1
          cases hl : D.leads i k with
          | false =>
            have hGk := Lib.hid (HG0.out k hl)
            clear HE1 HD1 HI co cd ct
            go_wp2_with fail
            go_roundg (D.n - (k + 1))
            case measure => omega
            case rel =>
              refine ⟨k + 1, mr, by omega, by omega, by go_num, ?_, G1, R1, M0, N0⟩
              simp only [maxTo]; rw [hGk.out]; congr 1; have := maxTo_nonneg k G; omega
          | true =>
            have hGk := Lib.hid (HG1.out k hl)
            have hlb := Dir.leads_b hl
            have h1 := wf.be1 i hi
            have h2 := wf.be1 k hlt
            have h3 := wf.e1 k hlt
            have hcall := HI.out k hlt (by omega) w1 mr HE1.out HD1.out R1.out M0.out
            clear hlb h1 h2 h3 HI HE1 HD1
            go_wp2_with fail
            refine hcall.mono ?_
            rintro e w2 ⟨rfl, g2, m2, R2, M2, e2, n2⟩
            have G2 := Lib.hid (grown_trans' G1.out g2)
            have R2h := Lib.hid R2
            have M2h := Lib.hid M2
            have N2h : Hid (∀ j, j < D.n → m j ≠ 0 → m2 j = m j) := fun j hj hne => by rw [n2 j hj (by rw [N0.out j hj hne]; exact hne), N0.out j hj hne]
            clear g2 R2 M2 e2 n2 hcall R1 M0 N0 co cd ct
            go_wp2_with fail
            all_goals
              go_roundg (D.n - (k + 1))
              case measure => omega
              case rel =>
                refine ⟨k + 1, m2, by omega, by omega, by go_num, ?_, G2, R2h, M2h, N2h⟩
                simp only [maxTo]; rw [hGk.out]; congr 1; omega
        · have hltz : ¬ (k : Int) < (D.n : Int) := by omega
          have he : k = D.n := by omega
          have ht := Dir.T_eq wf i hi
          rw [HGG.out] at ht
          have hs := D1.pz i hi
          obtain ⟨rfl, hbz⟩ := D1.lz (by omega)
          have c2 := D1.c2
          obtain ⟨co, cd, ct, hgo, hgd, hgt, hgB, hwr⟩ := E1
          have r1 := R0.out.cell hi
          have r2 := R0.out.frozen i
          have hb1 := HT.out i hi
          have hb2 := Dir.T_pos wf i hi
          have hb3 := wf.s1 i hi
          have hb4 := maxTo_nonneg D.n G
          have HK := Lib.hid he
          clear D1 HE HD HR HI HM HG0 HG1
          rw [he]
          clear he
          generalize D.s i = si at *
          generalize hTi : D.T i = ti at *
          have HTI := Lib.hid hTi
          generalize maxTo D.n G = mx at *
          have HTT := Lib.hid ht
          have ht1 : mx + si ≤ 1000000000000 := by omega
          clear ht hTi
          go_wp2_with fail
          go_still_tail 12, (by kernel_rfl)
          change wpList _ _ _ _ _ wr.drew
          go_wp2_with fail
          go_ret
          refine ⟨ret_int (by rw [HTI.out]; have := HTT.out; omega), grown_drew' (grown_setCell' G0.out _ _), fun j => if j = i then ti else mr j, ?_, ?_, ?_, ?_⟩
          · have h5 := (R0.out.set i (.int .i64 (mx + si))).drew
            refine h5.congr fun j hj => ?_
            by_cases e : j = i
            · simp only [e, if_true]; rw [← HTT.out]
            · simp only [e, if_false]
          · intro j hj
            by_cases e : j = i
            · right; rw [e]; simp only [if_true]; exact HTI.out.symm
            · simp only [e, if_false]; exact M0.out j hj
          · simp only [if_true]; exact HTI.out.symm
          · intro j hj hne
            by_cases e : j = i
            · exfalso; rw [e] at hne; exact hne H0.out
            · simp only [e, if_false]; exact N0.out j hj hne
    · have h0' : (m i == 0) = false := by simp [h0]
      have he : m i = D.T i := by
        rcases hm i hi with h | h
        · exact absurd h h0
        · exact h
      clear ih hE hD
      have HE := Lib.hid he
      have HR := Lib.hid hrow
      clear he h0 hrow
      go_enter Tryd.func65, Tryd.ntmps65
      go_wp2_with fail
      go_ret
      exact ⟨ret_int HE.out, World.grownBy.refl w _, m, HR.out, hm, HE.out, fun _ _ _ => rfl⟩
end Go.Proofs.YtlfeoofchebbkaaDoor
