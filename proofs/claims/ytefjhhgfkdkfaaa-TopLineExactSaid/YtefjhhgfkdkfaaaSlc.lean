/- slices.Clone, Grow, Concat of lists of numbers; append of a whole slice. -/
import Derived.Test.YtefjhhgfkdkfaaaPlc
import Derived.Lib.AppendZerosOnto
import Derived.Maps.AppendAt
import Derived.WalkSpells
namespace Go.Proofs.Ytefjhhgfkdkfaaa
set_option linter.unusedSimpArgs false
set_option linter.unusedVariables false
open Go.RowKit
/-- append([]T{}, l...): the new slice's block, of no cells, is at the end of the memory. -/
theorem run_copy {P : Program} (w : World) (t ty : TypeId) (e : TypeId) (i : TypeInfo) (z : Value) (size bytes : Nat) (ht : P.underlying t = some (.slice e)) (hi : P.info? e = some i) (hz : i.zero = some z)
    (hsize : i.size = size) (hby : i.bytes = bytes) (hzs : z.cells.size = size) (hsz : 0 < size)
    (A : Option Addr) (b off m c : Nat) (news : List Value) (hl : news.length = m * size) (hA : Lies A m w.heap.size b off) (hnews : ∀ j, j < m * size → w.cell? ⟨b, off + j, none⟩ = news[j]?) (h1 : ∀ u ∈ news, u.oneCell' = true)
    (h63 : m ≤ maxLen) (hbytes : m * bytes ≤ 140737488355328) :
    ∃ v' w', (Builtin.append_ #[t, t] ty #[.slice (some ⟨w.heap.size, 0, none⟩) 0 0, .slice A m c]).run P (w.alloc (.cells #[] e)) = .ok v' w' ∧ w'.ownsRow w.heap.size e size v' m news ∧ Below w.heap.size w w' := by
  have hown : (w.alloc (.cells #[] e)).ownsRow w.heap.size e size (.slice (some ⟨w.heap.size, 0, none⟩) 0 0) 0 [] := by
    refine ⟨by simp, .inr ⟨w.heap.size, 0, #[], rfl, Nat.le_refl _, ?_, Nat.le_refl _, by simp, by simp, by simp⟩⟩
    show (w.heap.push _)[w.heap.size]? = _
    simp
  have hb0 : Below w.heap.size w (w.alloc (.cells #[] e)) := (Below.refl _ _).alloc (Nat.le_refl _) _
  by_cases hm : m = 0
  · subst hm
    have hn : news = [] := List.eq_nil_of_length_eq_zero (by simpa using hl)
    subst hn
    cases A with
    | none =>
      refine ⟨.slice (some ⟨w.heap.size, 0, none⟩) 0 0, w.alloc (.cells #[] e), ?_, hown, hb0⟩
      simp [Builtin.append_, run_underlying ht, sizeOf, typeInfo, hi, Builtin.lenOf, Builtin.firstCells, storeCells]
    | some ad =>
      obtain ⟨v', w', hrun, h2, h3, _, h5⟩ := run_append_own_at (P := P) _ w.heap.size t ty e i z size bytes ht hi hz hsize hby hzs hsz _ 0 [] hown ad 0 c [] (by simp) (by simp) (by simp) (by omega) (by rw [Nat.zero_add]; exact hbytes) (by simp)
      refine ⟨v', w', hrun, by simpa using h2, hb0.grown h3 (by simp) fun k hk => ?_⟩
      simp [Value.ownBlock] at hk
      omega
  · obtain ⟨rfl, hbb⟩ := hA (by omega)
    have hcells : ∀ j u, news[j]? = some u → (w.alloc (.cells #[] e)).cell? ((⟨b, off, none⟩ : Addr).add j) = some u := fun j u hu => by
      have hj : j < m * size := by
        rcases Nat.lt_or_ge j (m * size) with h | h
        · exact h
        · rw [List.getElem?_eq_none (by omega)] at hu; cases hu
      have hadd : (⟨b, off, none⟩ : Addr).add j = ⟨b, off + j, none⟩ := by unfold Addr.add; split <;> simp_all
      rw [hadd, hb0.cell (p := ⟨b, off + j, none⟩) hbb, hnews j hj, hu]
    obtain ⟨v', w', hrun, h2, h3, _, h5⟩ := run_append_own_at (P := P) _ w.heap.size t ty e i z size bytes ht hi hz hsize hby hzs hsz _ 0 [] hown ⟨b, off, none⟩ m c news hl hcells h1 (by omega) (by rw [Nat.zero_add]; exact hbytes) (by simp)
    refine ⟨v', w', hrun, by simpa using h2, hb0.grown h3 (by simp) fun k hk => ?_⟩
    simp [Value.ownBlock] at hk
    omega
theorem wpList_copy {P : Program} {ops : Array Oper} {rest : List Oper} {o : Oper} {a : Act} {w w0 : World} {Q : Exit → Act → World → Prop} (hgd : o.guard = none) (s x : Operand) (t : TypeId)
    (ho : o.op = .call { callee := .builtin .append, args := #[s, x], argTypes := #[t, t] })
    (e : TypeId) (i : TypeInfo) (z : Value) (size bytes : Nat) (ht : P.underlying t = some (.slice e)) (hi : P.info? e = some i) (hz : i.zero = some z)
    (hsize : i.size = size) (hby : i.bytes = bytes) (hzs : z.cells.size = size) (hsz : 0 < size)
    (hw : w = w0.alloc (.cells #[] e)) (hs : a.eval s = .slice (some ⟨w0.heap.size, 0, none⟩) 0 0)
    (A : Option Addr) (b off m c : Nat) (news : List Value) (hx : a.eval x = .slice A m c) (hl : news.length = m * size) (hA : Lies A m w0.heap.size b off) (hnews : ∀ j, j < m * size → w0.cell? ⟨b, off + j, none⟩ = news[j]?) (h1 : ∀ u ∈ news, u.oneCell' = true)
    (h63 : m ≤ maxLen) (hbytes : m * bytes ≤ 140737488355328)
    (h : ∀ v' w', w'.ownsRow w0.heap.size e size v' m news → Below w0.heap.size w0 w' → wpList P ops Q rest (a.put o.dst v') w') : wpList P ops Q (o :: rest) a w := by
  subst hw
  refine wpList_plain hgd fun _ hK => ?_
  obtain ⟨v', w', hr, h2, h3⟩ := run_copy (P := P) w0 t o.type e i z size bytes ht hi hz hsize hby hzs hsz A b off m c news hl hA hnews h1 h63 hbytes
  unfold Oper.wp execOp
  simp only [ho, resolve, invoke, builtin, Sem.run_bind, Sem.run_pure, Result.andThen_ok, List.map_toArray, List.map_cons, List.map_nil, hs, hx, hr]
  exact hK _ _ (h v' w' h2 h3)
theorem info3 : (Try.prog.info? 3).map (fun i => (i.zero, i.size, i.bytes)) = some (some (.int .i64 0), 1, 8) := by kernel_rfl
set_option maxRecDepth 100000 in
theorem grow_any (n : Nat) (w : World) (h0 : 0 < n) (hn : n ≤ 1000000) : Calls Try.prog 124 #[.slice none 0 0, .int .i64 n] w fun e w' => ∃ v, e = .returned v ∧ w'.ownsRow w.heap.size 3 1 v 0 [] ∧ Below w.heap.size w w' := by
  obtain ⟨i0, hi0, hz0, hz1, hz2⟩ := info_parts info3
  have hrz := fun ty => Lib.run_append_nil_zeros w 30 3 ty 3 i0 (.int .i64 0) .i64 .i64 Try.underlying30 Try.underlying3 hi0 hz0 n h0 (by omega) (by omega) (by rw [hz2]; omega)
  have hGn : n ≤ grownCap w n 0 3 := grownCap_ge w _ _ _
  have hG63 : grownCap w n 0 3 ≤ maxLen := grownCap_le_maxLen w n 0 3 (by unfold maxLen; omega)
  generalize grownCap w n 0 3 = G at *
  have hs : (Builtin.zeroCells (Value.int IntKind.i64 0).cells n ++ Builtin.zeroCells (Value.int IntKind.i64 0).cells (G - n)).size = G * 1 := by
    rw [Array.size_append, size_zeroCells, size_zeroCells]
    simp [Value.cells]
    omega
  generalize Builtin.zeroCells (Value.int IntKind.i64 0).cells n ++ Builtin.zeroCells (Value.int IntKind.i64 0).cells (G - n) = cur at *
  have hown : (w.drew.alloc (.cells cur 3)).ownsRow w.heap.size 3 1 (.slice (some ⟨w.heap.size, 0, none⟩) 0 G) 0 [] := ⟨rfl, .inr ⟨w.heap.size, G, cur, rfl, Nat.le_refl _, heap_alloc_new w.drew _, Nat.zero_le _, hG63, hs, by simp⟩⟩
  have hB : Below w.heap.size w (w.drew.alloc (.cells cur 3)) := (Below.refl _ _).drew.alloc (Nat.le_refl _) _
  have HO := Lib.hid hown
  have HB := Lib.hid hB
  clear hown hB hs
  have hnp : ¬ ((n : Int) < 0) := by omega
  have hnq : (n : Int) > 0 := by omega
  unfold maxLen at hG63
  go_enter Try.func124, Try.ntmps124
  go_wp2_with (at_builtin; refine Lib.wpList_append_run _ rfl _ _ _ _ rfl _ _ rfl rfl _ _ (hrz _) ?_)
  go_ret
  exact ⟨_, rfl, HO.out, HB.out⟩
def GrowPost (w : World) (e : Ending) (w' : World) : Prop := ∃ v, e = .returned v ∧ w'.ownsRow w.heap.size 3 1 v 0 [] ∧ Below w.heap.size w w'
theorem grow_all (n : Nat) (w : World) (hn : n ≤ 1000000) : Calls Try.prog 124 #[.slice none 0 0, .int .i64 (n : Int)] w (GrowPost w) := by
  by_cases h0 : n = 0
  · subst h0
    go_enter Try.func124, Try.ntmps124
    go_wp2_with fail
    go_ret
    exact ⟨_, rfl, World.ownsRow_nil _ _ _ _, Below.refl _ _⟩
  · exact grow_any n w (by omega) hn
/-- append(v, l...), v a row that the call owns, l whatever slice, nil too. -/
theorem run_app {P : Program} (w : World) (base : Nat) (t ty e : TypeId) (i : TypeInfo) (z : Value) (size bytes : Nat) (ht : P.underlying t = some (.slice e)) (hi : P.info? e = some i) (hz : i.zero = some z)
    (hsize : i.size = size) (hby : i.bytes = bytes) (hzs : z.cells.size = size) (hsz : 0 < size)
    (v : Value) (n : Nat) (xs : List Value) (hown : w.ownsRow base e size v n xs)
    (A : Option Addr) (b off m c : Nat) (news : List Value) (hl : news.length = m * size) (hA : Lies A m w.heap.size b off) (hnews : ∀ j, j < m * size → w.cell? ⟨b, off + j, none⟩ = news[j]?) (h1 : ∀ u ∈ news, u.oneCell' = true)
    (h63 : n + m ≤ maxLen) (hbytes : (n + m) * bytes ≤ 140737488355328) (hbase : base ≤ w.heap.size) :
    ∃ v' w', (Builtin.append_ #[t, t] ty #[v, .slice A m c]).run P w = .ok v' w' ∧ w'.ownsRow base e size v' (n + m) (xs ++ news) ∧ w.grownBy w' v.ownBlock ∧ (v'.ownBlock = v.ownBlock ∨ v'.ownBlock = some w.heap.size) := by
  by_cases hm : m = 0
  · subst hm
    have hn : news = [] := List.eq_nil_of_length_eq_zero (by simpa using hl)
    subst hn
    cases A with
    | none =>
      refine ⟨v, w, ?_, by simpa using hown, ⟨rfl, rfl, rfl, Nat.le_refl _, fun _ _ _ => rfl⟩, .inl rfl⟩
      rcases hown.2 with ⟨rfl, rfl⟩ | ⟨g, cap, cur, rfl, _, hg, hnc, _, hcs, _⟩
      · simp [Builtin.append_, run_underlying ht, sizeOf, typeInfo, hi, Builtin.lenOf, Builtin.firstCells, storeCells]
      · simp [Builtin.append_, run_underlying ht, sizeOf, typeInfo, hi, Builtin.lenOf, Builtin.firstCells, storeCells, hnc]
    | some ad =>
      obtain ⟨v', w', hrun, h2, h3, _, h5⟩ := run_append_own_at (P := P) w base t ty e i z size bytes ht hi hz hsize hby hzs hsz v n xs hown ad 0 c [] (by simp) (by simp) (by simp) h63 hbytes hbase
      exact ⟨v', w', hrun, h2, h3, h5⟩
  · obtain ⟨rfl, hbb⟩ := hA (by omega)
    have hcells : ∀ j u, news[j]? = some u → w.cell? ((⟨b, off, none⟩ : Addr).add j) = some u := fun j u hu => by
      have hj : j < m * size := by
        rcases Nat.lt_or_ge j (m * size) with h | h
        · exact h
        · rw [List.getElem?_eq_none (by omega)] at hu; cases hu
      have hadd : (⟨b, off, none⟩ : Addr).add j = ⟨b, off + j, none⟩ := by unfold Addr.add; split <;> simp_all
      rw [hadd, hnews j hj, hu]
    obtain ⟨v', w', hrun, h2, h3, _, h5⟩ := run_append_own_at (P := P) w base t ty e i z size bytes ht hi hz hsize hby hzs hsz v n xs hown ⟨b, off, none⟩ m c news hl hcells h1 h63 hbytes hbase
    exact ⟨v', w', hrun, h2, h3, h5⟩
theorem wpList_app {P : Program} {ops : Array Oper} {rest : List Oper} {o : Oper} {a : Act} {w : World} {Q : Exit → Act → World → Prop} (hgd : o.guard = none) (s x : Operand) (t : TypeId)
    (ho : o.op = .call { callee := .builtin .append, args := #[s, x], argTypes := #[t, t] })
    (base : Nat) (e : TypeId) (i : TypeInfo) (z : Value) (size bytes : Nat) (ht : P.underlying t = some (.slice e)) (hi : P.info? e = some i) (hz : i.zero = some z)
    (hsize : i.size = size) (hby : i.bytes = bytes) (hzs : z.cells.size = size) (hsz : 0 < size)
    (v : Value) (n : Nat) (xs : List Value) (hs : a.eval s = v) (hown : w.ownsRow base e size v n xs)
    (A : Option Addr) (b off m c : Nat) (news : List Value) (hx : a.eval x = .slice A m c) (hl : news.length = m * size) (hA : Lies A m w.heap.size b off) (hnews : ∀ j, j < m * size → w.cell? ⟨b, off + j, none⟩ = news[j]?) (h1 : ∀ u ∈ news, u.oneCell' = true)
    (h63 : n + m ≤ maxLen) (hbytes : (n + m) * bytes ≤ 140737488355328) (hbase : base ≤ w.heap.size)
    (h : ∀ v' w', w'.ownsRow base e size v' (n + m) (xs ++ news) → w.grownBy w' v.ownBlock → (v'.ownBlock = v.ownBlock ∨ v'.ownBlock = some w.heap.size) → wpList P ops Q rest (a.put o.dst v') w') : wpList P ops Q (o :: rest) a w := by
  refine wpList_plain hgd fun _ hK => ?_
  obtain ⟨v', w', hr, h2, h3, h4⟩ := run_app (P := P) w base t o.type e i z size bytes ht hi hz hsize hby hzs hsz v n xs hown A b off m c news hl hA hnews h1 h63 hbytes hbase
  unfold Oper.wp execOp
  simp only [ho, resolve, invoke, builtin, Sem.run_bind, Sem.run_pure, Result.andThen_ok, List.map_toArray, List.map_cons, List.map_nil, hs, hx, hr]
  exact hK _ _ (h v' w' h2 h3 h4)
def zv (zs : List Int) : List Value := zs.map (Value.int .i64)
theorem zv_len (zs : List Int) : (zv zs).length = zs.length * 1 := by simp [zv]
theorem zv_app (a b : List Int) : zv (a ++ b) = zv a ++ zv b := by simp [zv]
theorem zv_one (zs : List Int) : ∀ u ∈ zv zs, u.oneCell' = true := fun u hu => by obtain ⟨x, _, rfl⟩ := List.mem_map.1 hu; rfl
theorem zv_get {zs : List Int} {j : Nat} (h : j < zs.length) : (zv zs)[j]? = some (.int .i64 (gz zs j)) := by
  simp [zv, gz, List.getD_eq_getElem?_getD, List.getElem?_eq_getElem h]
/-- A row of numbers that the call owns. -/
def IO (W : World) (B : Nat) (zs : List Int) (v : Value) : Prop := W.ownsRow B 3 1 v zs.length (zv zs)
theorem IO.iv {W : World} {B : Nat} {zs : List Int} {v : Value} (h : IO W B zs v) : IV W zs v := by
  refine (rv_of_own h (zv_len zs)).congr fun j hj => ?_
  have := zv_get (zs := zs) (j := j) (by omega)
  rw [List.getD_eq_getElem?_getD, this]
  rfl
theorem IO.below {W W' : World} {B : Nat} {zs : List Int} {v : Value} (h : IO W B zs v) (hb : Below W.heap.size W W') : IO W' B zs v := World.ownsRow.kept h (grown_of_below hb none) (Classical.em _)
def CloPost (w : World) (zs : List Int) (e : Ending) (w' : World) : Prop := ∃ v, e = .returned v ∧ IO w' w.heap.size zs v ∧ Below w.heap.size w w'
theorem ZsAt.news {w : World} {b off : Nat} {zs : List Int} (h : ZsAt w b off zs) : ∀ j, j < zs.length * 1 → w.cell? ⟨b, off + j, none⟩ = (zv zs)[j]? := fun j hj => by rw [h j (by omega), zv_get (by omega)]
set_option maxRecDepth 100000 in
theorem cloneI_any (zs : List Int) (A : Option Addr) (b off c : Nat) (w : World) (hA : Lies A zs.length w.heap.size b off) (hz : ZsAt w b off zs) (hm : zs.length ≤ 1000000) :
    Calls Try.prog 95 #[.slice A zs.length c] w (CloPost w zs) := by
  have HP : Hid (∀ v w', w'.ownsRow w.heap.size 3 1 v zs.length (zv zs) → Below w.heap.size w w' → CloPost w zs (.returned v) w') := (show ∀ v w', _ from fun v w' h hb => ⟨v, rfl, h, hb⟩)
  cases A with
  | none =>
    have hn : zs.length = 0 := by
      rcases Nat.eq_zero_or_pos zs.length with h | h
      · exact h
      · have := (hA h).1; cases this
    obtain rfl : zs = [] := List.eq_nil_of_length_eq_zero hn
    have heq : ∀ W, (binOp .eql 30 (.slice none 0 c) (.slice none 0 0)).run Try.prog W = .ok (.bool true) W := fun W => by
      have := Lib.run_eql_slice_nil W 30 3 none 0 c 0 0 Try.underlying30
      simpa using this
    clear hA hz hn
    go_enter Try.func95, Try.ntmps95
    go_wp2_with fail
    go_ret
    exact HP.out _ _ (World.ownsRow_nil _ _ _ _) (Below.refl _ _)
  | some a =>
    obtain ⟨i0, hi0, hz0, hz1, hz2⟩ := info_parts info3
    have HH := Lib.hid hz.news
    clear hz
    have heq : ∀ W, (binOp .eql 30 (.slice (some a) zs.length c) (.slice none 0 0)).run Try.prog W = .ok (.bool false) W := fun W => by
      have := Lib.run_eql_slice_nil W 30 3 (some a) zs.length c 0 0 Try.underlying30
      simpa using this
    have HL := Lib.hid (zv_len zs)
    have HO1 := Lib.hid (zv_one zs)
    go_enter Try.func95, Try.ntmps95
    go_wp2_with ((at_builtin
                  refine wpList_copy rfl (.tmp 5) (.tmp 6) 30 rfl 3 i0 _ 1 8 Try.underlying30 hi0 hz0 hz1 hz2 rfl (by omega) rfl rfl (some a) b off zs.length c _ rfl HL.out hA HH.out HO1.out (by simp only [maxLen]; omega) (by omega) ?_
                  intro v1 w1 hown1 hg1
                  have HO := Lib.hid hown1
                  have HG := Lib.hid hg1
                  clear hown1 hg1))
    go_ret
    exact HP.out _ _ HO.out HG.out
/-- How many numbers the first k lists have. -/
def sumL (ls : List (List Int)) (k : Nat) : Nat := (ls.take k).flatten.length
theorem take_flat {ls : List (List Int)} {k : Nat} (h : k < ls.length) : (ls.take (k + 1)).flatten = (ls.take k).flatten ++ gl ls k := by
  rw [List.take_succ_eq_append_getElem h, List.flatten_append]
  simp [gl, List.getD_eq_getElem?_getD, h]
theorem sumL_succ {ls : List (List Int)} {k : Nat} (h : k < ls.length) : sumL ls (k + 1) = sumL ls k + (gl ls k).length := by unfold sumL; rw [take_flat h, List.length_append]
theorem sumL_mono {ls : List (List Int)} {k : Nat} : k ≤ ls.length → sumL ls k ≤ ls.flatten.length := fun h => by
  unfold sumL
  have := congrArg (fun l : List (List Int) => l.flatten.length) (List.take_append_drop k ls)
  simp only [List.flatten_append, List.length_append] at this
  omega
theorem LV.shape {W : World} {ls : List (List Int)} {v : Value} (h : LV W ls v) : ∃ A c, v = .slice A ls.length c ∧ ls.length ≤ c ∧ c ≤ 9223372036854775807 := by
  obtain ⟨hs, ⟨A, b, off, c, rfl, -, -, h1, h2⟩, -⟩ := h
  exact ⟨A, c, rfl, h1, h2⟩
theorem LV.at {W : World} {ls : List (List Int)} {A : Option Addr} {c k : Nat} (h : LV W ls (.slice A ls.length c)) (hk : k < ls.length) :
    ∃ b off A' b' o' c', A = some ⟨b, off, none⟩ ∧ b < W.heap.size ∧ W.cell? ⟨b, off + k, none⟩ = some (.slice A' (gl ls k).length c') ∧ Lies A' (gl ls k).length W.heap.size b' o' ∧ ZsAt W b' o' (gl ls k) := by
  obtain ⟨hs, ⟨A0, b, off, c0, he, h1, h2, -⟩, h3⟩ := h
  injection he with hA hn hc
  subst hA
  obtain ⟨rfl, hb⟩ := h1 (by omega)
  obtain ⟨A', b', o', c', e1, e2, e3, -⟩ := (h3 k hk).open
  exact ⟨b, off, A', b', o', c', rfl, hb, by rw [h2 k (by omega), e1], e2, e3⟩
set_option maxRecDepth 100000 in
set_option maxHeartbeats 4000000 in
theorem concat_any (ls : List (List Int)) (v : Value) (w : World) (hv : LV w ls v) (hm : ls.length ≤ 1000) (hs : ls.flatten.length ≤ 100000) :
    Calls Try.prog 93 #[v] w (CloPost w ls.flatten) := by
  obtain ⟨i0, hi0, hz0, hz1, hz2⟩ := info_parts info3
  have HV := Lib.hid hv
  obtain ⟨A, c, rfl, -, -⟩ := hv.shape
  have HP : Hid (∀ v w', w'.ownsRow w.heap.size 3 1 v ls.flatten.length (zv ls.flatten) → Below w.heap.size w w' → CloPost w ls.flatten (.returned v) w') := (show ∀ v w', _ from fun v w' h hb => ⟨v, rfl, h, hb⟩)
  have HSM : Hid (∀ k, k ≤ ls.length → sumL ls k ≤ ls.flatten.length) := (show ∀ k, _ from fun k => sumL_mono)
  have HSS : Hid (∀ k, k < ls.length → sumL ls (k + 1) = sumL ls k + (gl ls k).length) := (show ∀ k, _ from fun k => sumL_succ)
  have HSE : Hid (sumL ls ls.length = ls.flatten.length) := by show _ = _; unfold sumL; rw [List.take_length]
  clear hv
  generalize hn : ls.length = n at *
  have HN := Lib.hid hn
  generalize hft : ls.flatten.length = T at *
  have HT := Lib.hid hft
  clear hn hft
  go_enter Try.func93, Try.ntmps93
  go_wp2_with fail
  go_loopg [11, 3, 5] n (fun gg s11 s3 _ wr => ∃ k : Nat, k ≤ n ∧ n - k ≤ gg ∧ s11 = .int .i64 k ∧ s3 = .int .i64 (sumL ls k) ∧ w = wr)
  case atStart => exact ⟨0, by omega, by omega, rfl, rfl, rfl⟩
  case round =>
    obtain ⟨k, hk, hg, rfl, rfl, rfl⟩ := hrel
    have hsk := HSM.out k hk
    by_cases hlt : k < n
    · have hltz : (k : Int) < (n : Int) := by omega
      have hV := HV.out
      rw [← HN.out] at hV
      obtain ⟨b, off, A', b', o', c', rfl, hbw, hc, -, -⟩ := hV.at (k := k) (by rw [HN.out]; exact hlt)
      have HS1 := Lib.hid (HSS.out k hlt)
      have hs1 := HSM.out (k + 1) (by omega)
      rw [HS1.out] at hs1
      clear hV
      generalize (gl ls k).length = m at *
      generalize sumL ls k = s at *
      have e1 : IntKind.i64.wrap ((s : Int) + (m : Int)) = (s : Int) + (m : Int) := IntWalk.i64_in _ (by omega)
      have e2 : ¬ ((s : Int) + (m : Int) < 0) := by omega
      go_wp2_with fail
      go_roundg (n - (k + 1))
      case measure => omega
      case rel => exact ⟨k + 1, by omega, by omega, by go_num, by rw [HS1.out]; go_num, rfl⟩
    · have hltz : ¬ (k : Int) < (n : Int) := by omega
      have hke : k = n := by omega
      subst hke
      rw [HSE.out]
      clear hsk
      have HG := Lib.hid (grow_all T w (by omega))
      clear hlt hltz
      have HF0 : Hid (zv (ls.take 0).flatten = []) := by show _ = _; rfl
      have HS0 : Hid (sumL ls 0 = 0) := by show _ = _; rfl
      have HFS : Hid (∀ j, j < ls.length → zv (ls.take (j + 1)).flatten = zv (ls.take j).flatten ++ zv (gl ls j)) := (show ∀ j, _ from fun j hj => by rw [take_flat hj, zv_app])
      have HFE : Hid (zv (ls.take ls.length).flatten = zv ls.flatten) := by show _ = _; rw [List.take_length]
      rw [HN.out] at HFS HFE
      go_wp2_with fail
      refine HG.out.mono ?_
      rintro e w1 ⟨v1, rfl, hown, hb⟩
      have HO1 := Lib.hid hown
      have HB1 := Lib.hid hb
      clear hown hb HG
      go_wp2_with fail
      go_loopg [27, 6, 8] k (fun gg s27 s6 _ wr => ∃ (j : Nat) (vo : Value), j ≤ k ∧ k - j ≤ gg ∧ s27 = .int .i64 j ∧ vo = s6 ∧ Hid (wr.ownsRow w.heap.size 3 1 vo (sumL ls j) (zv (ls.take j).flatten)) ∧ Hid (Below w.heap.size w wr))
      case atStart => exact ⟨0, v1, by omega, by omega, rfl, rfl, by rw [HS0.out, HF0.out]; exact HO1.out, HB1.out⟩
      case round =>
        obtain ⟨j, vo, hj, hg2, rfl, rfl, HO, HB⟩ := hrel
        have hsj := HSM.out j hj
        have hbz := HB.out.size
        by_cases hlt : j < k
        · have hltz : (j : Int) < (k : Int) := by omega
          have hV := HV.out.below HB.out
          rw [← HN.out] at hV
          obtain ⟨b, off, A', b', o', c', rfl, hbw, hc, hl, hz⟩ := hV.at (k := j) (by rw [HN.out]; exact hlt)
          have HS1 := Lib.hid (HSS.out j hlt)
          have hs1 := HSM.out (j + 1) (by omega)
          rw [HS1.out] at hs1
          have HF1 := Lib.hid (HFS.out j hlt)
          have HZ := Lib.hid hz.news
          have HL := Lib.hid (zv_len (gl ls j))
          have HO2 := Lib.hid (zv_one (gl ls j))
          have HLT := Lib.hid HO.out.lt
          clear hV hz
          generalize (gl ls j).length = m at *
          generalize sumL ls j = sj at *
          go_wp2_with ((at_builtin
                        refine wpList_app rfl (.tmp 31) (.tmp 32) 30 rfl w.heap.size 3 i0 _ 1 8 Try.underlying30 hi0 hz0 hz1 hz2 rfl (by omega) vo sj _ rfl HO.out A' b' o' m c' _ rfl HL.out hl HZ.out HO2.out (by simp only [maxLen]; omega) (by omega) hbz ?_
                        intro v2 w2 hown2 hg2 hat2
                        have HOW2 := Lib.hid hown2
                        have HGW2 := Lib.hid hg2
                        clear hown2 hg2 hat2))
          have HB2 := Lib.hid (HB.out.grown HGW2.out hbz (fun t ht => (HLT.out t ht).1))
          go_roundg (k - (j + 1))
          case measure => omega
          case rel => exact ⟨j + 1, _, by omega, by omega, by go_num, rfl, by rw [HS1.out, HF1.out]; exact HOW2.out, HB2.out⟩
        · have hltz : ¬ (j : Int) < (k : Int) := by omega
          have hje : j = k := by omega
          have HFIN : Hid (wr.ownsRow w.heap.size 3 1 vo T (zv ls.flatten)) := by
            show World.ownsRow _ _ _ _ _ _ _
            rw [← HFE.out, ← HSE.out, ← hje]
            exact HO.out
          clear hje
          go_wp2_with fail
          go_ret
          exact HP.out _ _ HFIN.out HB.out
end Go.Proofs.Ytefjhhgfkdkfaaa
