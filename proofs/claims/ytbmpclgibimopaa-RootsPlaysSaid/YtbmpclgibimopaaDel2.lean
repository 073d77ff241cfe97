/- Layer 18: slices.DeleteFunc over spaces whose unused ones stand last; walked. -/
import Derived.Test.YtbmpclgibimopaaDel
import Derived.Deep.LoopGhost
import Derived.Lib.SlBy
import Derived.Laws.IdiomCopy
namespace Go.Proofs.Ytbmpclgibimopaa.Walk
open Go.RowKit Go.Lib Go.Shelf Go.Sort Go.Proofs.Ytbmpclgibimopaa.Blks
/-- Kept aside from the walk's rewriting. -/
structure Aside0 (P : Prop) : Prop where
  out : P
/-- A row of spaces in a block of its own. -/
def Row (w : World) (g cap : Nat) (l : List Value) : Prop := ∃ cur : Array Value, w.heap[g]? = some (.cells cur 39 (0, 0)) ∧ cur.size = cap * 2 ∧ l.length ≤ cap * 2 ∧ cur.toList.take l.length = l
section
variable {w w' : World} {g cap B : Nat} {l : List Value}
theorem Row.lt (h : Row w g cap l) : g < w.heap.size := by
  obtain ⟨cur, h, _⟩ := h
  rcases Nat.lt_or_ge g w.heap.size with hlt | hge
  · exact hlt
  · rw [Array.getElem?_eq_none hge] at h; cases h
theorem Row.below (h : Row w g cap l) (hb : Below w.heap.size w w') : Row w' g cap l := by
  have hlt := h.lt
  obtain ⟨cur, h, h2⟩ := h
  exact ⟨cur, (hb.block g hlt).trans h, h2⟩
theorem Row.cell (h : Row w g cap l) (j : Nat) (hj : j < l.length) : w.cell? ⟨g, j, none⟩ = some (l[j]) := by
  obtain ⟨cur, h, hs, hl, ht⟩ := h
  rw [cell_of_row w g j cur 39 (0, 0) h]
  have : (cur.toList.take l.length)[j]? = some l[j] := by rw [ht]; exact List.getElem?_eq_getElem hj
  rw [List.getElem?_take, if_pos hj] at this
  simpa using this
theorem Row.frozen (h : Row w g cap l) (j : Nat) : w.frozen? ⟨g, j, none⟩ = false := by
  obtain ⟨cur, h, _⟩ := h
  simp [World.frozen?, h]
end
theorem setCells_heap (b : Nat) : ∀ (vs : List Value) (o : Nat) (w : World) (cur : Array Value), w.heap[b]? = some (.cells cur 39 (0, 0)) → ∃ cur', (w.setCells b o vs).heap[b]? = some (.cells cur' 39 (0, 0)) ∧ cur'.size = cur.size ∧ (∀ j, j < o → cur'[j]? = cur[j]?) := by
  intro vs
  induction vs with
  | nil => intro o w cur h; exact ⟨cur, h, rfl, fun _ _ => rfl⟩
  | cons v r ih =>
    intro o w cur h
    have h1 : (w.setCell ⟨b, o, none⟩ v).heap[b]? = some (.cells (cur.setIfInBounds o v) 39 (0, 0)) := Blk.set_ (t := 39) (cs := cur) h o v
    obtain ⟨cur', h2, hs, hj⟩ := ih (o + 1) _ _ h1
    refine ⟨cur', h2, by rw [hs, Array.size_setIfInBounds], fun j hlt => ?_⟩
    rw [hj j (by omega), Array.getElem?_setIfInBounds_ne (by omega)]
theorem only_setCells (b : Nat) : ∀ (vs : List Value) (o : Nat) (w0 w : World), Only w0 w b → Only w0 (w.setCells b o vs) b := by
  intro vs
  induction vs with
  | nil => intro o w0 w h; exact h
  | cons v r ih => intro o w0 w h; exact ih (o + 1) w0 _ (h.setCell o v)
theorem run_clear2 (w : World) (ty : TypeId) (b o n c : Nat) (hn : 0 < n) (hc : ∀ j, j < n * 2 → (w.cell? ⟨b, o + j, none⟩).isSome = true) (hf : ∀ j, j < n * 2 → w.frozen? ⟨b, o + j, none⟩ = false) :
    (Builtin.clear_ #[49] ty #[.slice (some ⟨b, o, none⟩) n c]).run Try.prog w = .ok (.tuple #[]) (w.setCells b o (List.replicate (n * 2) (.int .i64 0))) := by
  have hv : ∀ w, (zeroValue 39).run Try.prog w = .ok (.agg #[.int .i64 0, .int .i64 0]) w := fun w => by kernel_rfl
  have hzc : (Builtin.zeroCells #[.int .i64 0, .int .i64 0] n).toList = List.replicate (n * 2) (.int .i64 0) := by
    unfold Builtin.zeroCells
    rw [Array.toList_map, Array.toList_range]
    show List.map _ (List.range (n * 2)) = _
    apply List.ext_getElem
    · simp
    · intro i h1 h2
      simp only [List.getElem_map, List.getElem_range, List.getElem_replicate]
      have : i % 2 = 0 ∨ i % 2 = 1 := by omega
      rcases this with e | e
      · show (#[Value.int .i64 0, .int .i64 0] : Array Value)[i % 2]! = _
        rw [e]; rfl
      · show (#[Value.int .i64 0, .int .i64 0] : Array Value)[i % 2]! = _
        rw [e]; rfl
  have hst := run_storeCells_cells (P := Try.prog) b o (List.replicate (n * 2) (.int .i64 0)) 0 w (by simpa using hc) (by simpa using hf) (by intro v hv'; rw [List.eq_of_mem_replicate hv']; rfl)
  simp only [Nat.add_zero] at hst
  obtain ⟨m, rfl⟩ : ∃ m, n = m + 1 := ⟨n - 1, by omega⟩
  simp [Builtin.clear_, run_underlying Try.underlying49, hv, Value.cells, hzc, hst]
theorem idx_none (p : Sp → Bool) : ∀ (l : List Sp) (i : Nat), (∀ x ∈ l, p x = false) → Lib.idxByFrom (fun _ y => p y) default l i = -1 := by
  intro l
  induction l with
  | nil => intro i _; rfl
  | cons x l ih =>
    intro i h
    unfold Lib.idxByFrom
    rw [h x List.mem_cons_self, if_neg (by decide)]
    exact ih (i + 1) (fun y hy => h y (List.mem_cons_of_mem _ hy))
theorem cellsS_len (d : List Sp) : (d.flatMap encS).length = d.length * 2 := by
  induction d with
  | nil => rfl
  | cons x d ih => rw [List.flatMap_cons, List.length_append, ih, List.length_cons]; simp [encS]; omega
theorem cellsS_at (d : List Sp) : ∀ j (h : j < d.length), (d.flatMap encS)[j * 2]? = some (.int .i64 (d[j]).val.1) ∧ (d.flatMap encS)[j * 2 + 1]? = some (.int .i64 (d[j]).val.2) := by
  induction d with
  | nil => intro j h; simp at h
  | cons x d ih =>
    intro j h
    have e : (x :: d).flatMap encS = .int .i64 x.val.1 :: .int .i64 x.val.2 :: d.flatMap encS := by simp [encS]
    rw [e]
    cases j with
    | zero => exact ⟨rfl, rfl⟩
    | succ j =>
      have := ih j (by simpa using h)
      rw [show (j + 1) * 2 = j * 2 + 1 + 1 by omega]
      simpa using this
theorem row_at {w : World} {g cap : Nat} {d : List Sp} (h : Row w g cap (d.flatMap encS)) (j : Nat) (hj : j < d.length) : w.cell? ⟨g, j * 2, none⟩ = some (.int .i64 (d[j]).val.1) ∧ w.cell? ⟨g, j * 2 + 1, none⟩ = some (.int .i64 (d[j]).val.2) := by
  have hl := cellsS_len d
  have h1 := h.cell (j * 2) (by omega)
  have h2 := h.cell (j * 2 + 1) (by omega)
  have := cellsS_at d j hj
  rw [List.getElem?_eq_getElem (by omega)] at this
  rw [List.getElem?_eq_getElem (by omega)] at this
  rw [h1, h2]
  exact this
theorem row_take {w : World} {g cap : Nat} {d : List Sp} (h : Row w g cap (d.flatMap encS)) (k : Nat) (hk : k ≤ d.length) : Row w g cap ((d.take k).flatMap encS) := by
  obtain ⟨cur, h, hs, hl, ht⟩ := h
  have h1 := cellsS_len d
  have h2 := cellsS_len (d.take k)
  rw [List.length_take, Nat.min_eq_left hk] at h2
  have e : d.flatMap encS = (d.take k).flatMap encS ++ (d.drop k).flatMap encS := by rw [← List.flatMap_append, List.take_append_drop]
  refine ⟨cur, h, hs, by omega, ?_⟩
  have : (cur.toList.take (d.flatMap encS).length).take ((d.take k).flatMap encS).length = (d.take k).flatMap encS := by
    rw [ht, e, List.take_left]
  rw [List.take_take, Nat.min_eq_left (by omega)] at this
  exact this
theorem row_cleared {w : World} {g cap : Nat} {d : List Sp} (h : Row w g cap (d.flatMap encS)) (k : Nat) (hk : k ≤ d.length) (vs : List Value) : Row (w.setCells g (k * 2) vs) g cap ((d.take k).flatMap encS) := by
  have h2 := cellsS_len (d.take k)
  rw [List.length_take, Nat.min_eq_left hk] at h2
  obtain ⟨cur, h, hs, hl, ht⟩ := row_take h k hk
  obtain ⟨cur', h', hs', hj⟩ := setCells_heap g vs (k * 2) w cur h
  refine ⟨cur', h', by rw [hs', hs], hl, ?_⟩
  rw [h2] at ht ⊢
  rw [← ht]
  apply List.ext_getElem?
  intro i
  rw [List.getElem?_take, List.getElem?_take]
  by_cases hi : i < k * 2
  · rw [if_pos hi, if_pos hi]
    have := hj i hi
    simpa using this
  · rw [if_neg hi, if_neg hi]
set_option maxHeartbeats 4000000 in
theorem delete_any (g cap : Nat) (d : List Sp) (k : Nat) (w : World) (ho : Row w g cap (d.flatMap encS)) (hc : d.length ≤ cap) (h8 : d.length ≤ 8) (hk : k ≤ d.length) (hu : ∀ i (h : i < d.length), ((d[i]).val.2 == 0) = decide (k ≤ i)) :
    Calls Try.prog 21 #[.slice (some ⟨g, 0, none⟩) d.length cap, .func (.func 22) #[] #[]] w fun e w' => e = .returned (.slice (some ⟨g, 0, none⟩) k cap) ∧ Row w' g cap ((d.take k).flatMap encS) ∧ Only w w' g := by
  have hb0 := ho.lt
  have eg : ∀ args w, (callFunc 22 args).run Try.prog w = .ok (.enter 22 args) w := enters_of Try.func22 (by kernel_rfl) rfl
  have hcon := AnyQ.slices_IndexFunc Try.indexSp 2 Try.isAgg39 Try.sizeOf39 encS (fun _ => rfl) (fun x : Sp => x.val.2 == 0) 22 #[] eg g 0 d.length cap d w (pred_below w) (Nat.le_refl _) (by omega) hb0 (by
    intro j hj i v hv
    rw [getElem!_pos d j hj] at hv
    have := row_at ho j hj
    match i, hv with
    | 0, hv => simp [encS] at hv; subst hv; rw [Nat.zero_add, Nat.add_zero]; exact this.1
    | 1, hv => simp [encS] at hv; subst hv; rw [Nat.zero_add]; exact this.2
    | n + 2, hv => simp [encS] at hv)
  rw [List.take_of_length_le (Nat.le_refl _)] at hcon
  change Calls Try.prog 25 _ _ _ at hcon
  have HO : Hid (Row w g cap (d.flatMap encS)) := Lib.hid ho
  have HU : Hid (∀ i (h : i < d.length), ((d[i]).val.2 == 0) = decide (k ≤ i)) := Lib.hid hu
  clear ho eg
  obtain ⟨n, hn⟩ : ∃ n, d.length = n := ⟨_, rfl⟩
  have HN : Hid (d.length = n) := Lib.hid hn
  by_cases hkn : k = n
  · have e1 : Lib.idxBy (fun _ (y : Sp) => y.val.2 == 0) d default = -1 := idx_none _ d 0 fun x hx => by
      obtain ⟨i, hi, rfl⟩ := List.getElem_of_mem hx
      rw [hu i hi]; exact decide_eq_false (by omega)
    rw [e1] at hcon
    subst hkn
    clear hu e1
    rw [hn] at hcon ⊢
    clear hn
    go_enter Try.func21, Try.ntmps21
    go_wp2_with (go_at_call 25; refine hcon.mono ?_; rintro e w' ⟨rfl, hb⟩)
    go_ret
    exact ⟨rfl, row_take (HO.out.below hb) _ (Nat.le_of_eq HN.out.symm), Only.of_below hb g⟩
  · have hlt : k < n := by omega
    have e1 : Lib.idxBy (fun _ (y : Sp) => y.val.2 == 0) d default = (k : Int) := by
      unfold Lib.idxBy
      rw [Lib.idxByFrom_hit _ _ d k 0 (by omega) (by rw [getElem!_pos d k (by omega), hu k (by omega)]; exact decide_eq_true (Nat.le_refl _)) (fun j hj => by rw [getElem!_pos d j (by omega), hu j (by omega)]; exact decide_eq_false (by omega))]
      simp
    rw [e1] at hcon
    have hne1 : ((k : Int) == -1) = false := beq_eq_false_iff_ne.2 (by omega)
    have hne2 : ((k : Int) = -1) = False := eq_false (by omega)
    clear hu e1 hkn
    rw [hn] at hcon hc h8 ⊢
    clear hn hk
    go_enter Try.func21, Try.ntmps21
    go_wp2_with (go_at_call 25; refine hcon.mono ?_; rintro e w' ⟨rfl, hb⟩)
    go_loopg [5, 6, 7] n (fun gg v5 v6 _ wr => ∃ j : Nat, v5 = .int .i64 k ∧ v6 = .int .i64 j ∧ k < j ∧ j ≤ n ∧ n - j ≤ gg ∧ Aside0 (Below w.heap.size w wr))
    case atStart => exact ⟨k + 1, rfl, by go_num, by omega, by omega, by omega, ⟨hb⟩⟩
    case round =>
      clear hb
      obtain ⟨j, rfl, rfl, hkj, hjn, hgg, HB⟩ := hrel
      have hl2 : j < n ∨ j = n := by omega
      rcases hl2 with hl2 | hl2
      · have hr := HO.out.below HB.out
        obtain ⟨cr, cu⟩ := row_at hr j (by rw [HN.out]; exact hl2)
        have hz : (d[j]'(by rw [HN.out]; exact hl2)).val.2 = 0 := by
          have := HU.out j (by rw [HN.out]; exact hl2)
          rw [decide_eq_true (by omega)] at this
          exact eq_of_beq this
        rw [hz] at cu
        clear hr hz
        generalize (d[j]'(by rw [HN.out]; exact hl2)).val.1 = rt at cr
        have hcl := fun W => unused_any rt 0 W
        have hd : decide ((j : Int) < (n : Int)) = true := decide_eq_true (by omega)
        go_wp2_with (go_at_call 22; refine (hcl _).mono ?_; rintro e w2 ⟨rfl, os, rfl⟩)
        go_roundg (n - (j + 1))
        case measure => omega
        case rel => exact ⟨j + 1, rfl, by go_num, by omega, by omega, Nat.le_refl _, ⟨below_grow (HB.out.alloc HB.out.size _) (by have := HB.out.size; simp; omega) os⟩⟩
      · subst hl2
        have hr := HO.out.below HB.out
        have hlen : (d.flatMap encS).length = j * 2 := by rw [cellsS_len, HN.out]
        have hclr : ∀ ty, (Builtin.clear_ #[49] ty #[.slice (some ⟨g, k * 2, none⟩) (j - k) (cap - k)]).run Try.prog wr = .ok (.tuple #[]) (wr.setCells g (k * 2) (List.replicate ((j - k) * 2) (.int .i64 0))) :=
          fun ty => run_clear2 wr ty g (k * 2) (j - k) (cap - k) (by omega) (fun i hi => by rw [hr.cell (k * 2 + i) (by omega)]; rfl) (fun i _ => hr.frozen _)
        have hck : ¬ cap = k := by omega
        have HR : Hid (Row wr g cap (d.flatMap encS)) := Lib.hid hr
        clear hr hlen
        go_wp2
        go_ret
        exact ⟨rfl, row_cleared HR.out k (by rw [HN.out]; omega) _, only_setCells g _ _ _ _ (Only.of_below HB.out g)⟩
end Go.Proofs.Ytbmpclgibimopaa.Walk
