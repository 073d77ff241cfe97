/- Layer 18: roots.Roots.Use and New, walked; what they compute on the cells. -/
import Derived.Test.YtbmpclgibimopaaSpace
namespace Go.Proofs.Ytbmpclgibimopaa.Walk
open Go.RowKit Go.Proofs.Ytbmpclgibimopaa.Blks
/-- Use's loop: the one that was used least lately, of those from a place on. -/
def least (s : RS) : Nat → Nat → Nat → Nat
  | 0, _, i => i
  | m + 1, n, i => least s m (n + 1) (if s.us n < s.us i then n else i)
/-- The place, whether it is taken from another one. -/
def RS.place (s : RS) (x : Int) : Nat × Bool := if (s.space x).2 = true then ((s.space x).1.toNat, false) else (least s s.many 0 0, decide (0 < s.us (least s s.many 0 0)))
def RS.put (s : RS) (i : Nat) (x : Int) : RS := ⟨s.many, s.clock + 1, s.sp.set i (x, s.clock + 1)⟩
theorem look_lt (s : RS) (x : Int) : ∀ m i, (look s x m i).2 = true → ∃ j : Nat, (look s x m i).1 = j ∧ i ≤ j ∧ j < i + m := by
  intro m
  induction m with
  | zero => intro i h; simp [look] at h
  | succ m ih =>
    intro i h
    unfold look at h ⊢
    by_cases h1 : 0 < s.us i
    · by_cases h2 : s.rt i = x
      · rw [if_pos h1, if_pos h2]; exact ⟨i, rfl, by omega, by omega⟩
      · rw [if_pos h1, if_neg h2] at h ⊢
        obtain ⟨j, e, a, b⟩ := ih (i + 1) h
        exact ⟨j, e, by omega, by omega⟩
    · rw [if_neg h1] at h ⊢
      obtain ⟨j, e, a, b⟩ := ih (i + 1) h
      exact ⟨j, e, by omega, by omega⟩
theorem look_no (s : RS) (x : Int) : ∀ m i, (look s x m i).2 = false → (look s x m i).1 = 0 := by
  intro m
  induction m with
  | zero => intro i h; rfl
  | succ m ih =>
    intro i h
    unfold look at h ⊢
    by_cases h1 : 0 < s.us i
    · by_cases h2 : s.rt i = x
      · rw [if_pos h1, if_pos h2] at h; cases h
      · rw [if_pos h1, if_neg h2] at h ⊢; exact ih (i + 1) h
    · rw [if_neg h1] at h ⊢; exact ih (i + 1) h
theorem least_lt (s : RS) : ∀ m n i b, n + m ≤ b → i < b → least s m n i < b := by
  intro m
  induction m with
  | zero => intro n i b _ h; exact h
  | succ m ih =>
    intro n i b hb h
    unfold least
    refine ih _ _ _ (by omega) ?_
    split <;> omega
theorem place_lt (s : RS) (hk : s.Ok) (x : Int) : (s.place x).1 < s.many := by
  obtain ⟨m1, m8, _⟩ := hk
  unfold RS.place
  cases h : (s.space x).2 with
  | true =>
    rw [if_pos rfl]
    obtain ⟨j, e, a, b⟩ := look_lt s x s.many 0 h
    show (s.space x).1.toNat < s.many
    unfold RS.space
    rw [e]
    omega
  | false => rw [if_neg (by decide)]; exact least_lt s s.many 0 0 s.many (by omega) (by omega)
theorem put_ok {s : RS} (hk : s.Ok) (i : Nat) (x : Int) : (s.put i x).Ok := ⟨hk.m1, hk.m8, by show (s.sp.set i _).length = 8; rw [List.length_set, hk.len]⟩
theorem pairs_set (l : List (Int × Int)) : ∀ i p, i < l.length → pairs (l.set i p) = ((pairs l).set (2 * i) (.int .i64 p.1)).set (2 * i + 1) (.int .i64 p.2) := by
  induction l with
  | nil => intro i p h; simp at h
  | cons q l ih =>
    intro i p h
    have e : ∀ (q : Int × Int) l, pairs (q :: l) = .int .i64 q.1 :: .int .i64 q.2 :: pairs l := fun q l => by simp [pairs]
    cases i with
    | zero => rw [List.set_cons_zero, e, e]; rfl
    | succ i =>
      rw [List.set_cons_succ, e, e, ih i p (by simpa using h), show 2 * (i + 1) = 2 * i + 1 + 1 by omega]
      rfl
theorem pairs_len (l : List (Int × Int)) : (pairs l).length = 2 * l.length := by
  induction l with
  | nil => rfl
  | cons p l ih => rw [show pairs (p :: l) = .int .i64 p.1 :: .int .i64 p.2 :: pairs l by simp [pairs]]; simp only [List.length_cons, ih]; omega
theorem cells_put (s : RS) (i : Nat) (x : Int) (h : i < s.sp.length) : ((s.cells.setIfInBounds 1 (.int .i64 (s.clock + 1))).setIfInBounds (2 + i * 2) (.int .i64 x)).setIfInBounds (2 + i * 2 + 1) (.int .i64 (s.clock + 1)) = (s.put i x).cells := by
  have e : (s.put i x).cells = (.int .i64 s.many :: .int .i64 (s.clock + 1) :: ((pairs s.sp).set (2 * i) (.int .i64 x)).set (2 * i + 1) (.int .i64 (s.clock + 1))).toArray := by
    unfold RS.cells
    show (_ :: _ :: pairs (s.sp.set i (x, s.clock + 1))).toArray = _
    rw [pairs_set _ _ _ h]
    rfl
  rw [e, show 2 + i * 2 = 2 * i + 1 + 1 by omega]
  unfold RS.cells
  simp only [List.setIfInBounds_toArray, List.set_cons_succ, List.set_cons_zero]
theorem Blk.put {w : World} {g : Nat} {s : RS} (h : Blk w g 42 s.cells) (hk : s.Ok) (i : Nat) (hi : i < 8) (x : Int) (n : Nat) : Blk ((((w.setCell ⟨g, 1, none⟩ (.int .i64 (s.clock + 1))).drewN n).setCell ⟨g, 2 + i * 2, none⟩ (.int .i64 x)).setCell ⟨g, 2 + i * 2 + 1, none⟩ (.int .i64 (s.clock + 1))) g 42 (s.put i x).cells := by
  rw [← cells_put s i x (by rw [hk.len]; exact hi)]
  exact (((h.set_ 1 _).drewN n).set_ _ _).set_ _ _
theorem put_done {w W1 : World} {g j n m : Nat} {s : RS} {x : Int} {ck : Int} (h : Blk W1 g 42 (s.cells.setIfInBounds 1 (.int .i64 ck)) ∧ Only w W1 g ∧ s.sp.length = 8 ∧ ck = s.clock + 1) (hj : j < n) (hn : n ≤ 8) :
    Blk (((W1.drewN m).setCell ⟨g, 2 + j * 2, none⟩ (.int .i64 x)).setCell ⟨g, 2 + j * 2 + 1, none⟩ (.int .i64 ck)) g 42 (s.put j x).cells := by
  obtain ⟨h1, _, h2, rfl⟩ := h
  rw [← cells_put s j x (by omega)]
  exact ((h1.drewN m).set_ _ _).set_ _ _
set_option maxHeartbeats 4000000 in
theorem use_any (g : Nat) (s : RS) (x : Int) (w : World) (hB : Blk w g 42 s.cells) (hk : s.Ok) (hc : 0 ≤ s.clock ∧ s.clock < 1000000000) :
    Calls Try.prog 12 #[.pointer (some ⟨g, 0, none⟩), .int .i64 x] w fun e w' => e = .returned (.tuple #[.int .i64 ((s.place x).1 : Nat), .bool (s.place x).2]) ∧ Blk w' g 42 (s.put (s.place x).1 x).cells ∧ Only w w' g := by
  have c0 := cell_many hB
  have hcon := space_any g s x w hB hk
  have hplt := place_lt s hk x
  have HBr : Hid (Blk w g 42 s.cells ∧ s.Ok) := Lib.hid ⟨hB, hk⟩
  obtain ⟨m1, m8, hl⟩ := hk
  clear hB hl
  obtain ⟨hc0, hc1⟩ := hc
  have hplace : s.place x = if (s.space x).2 = true then ((s.space x).1.toNat, false) else (least s s.many 0 0, decide (0 < s.us (least s s.many 0 0))) := rfl
  have hno := look_no s x s.many 0
  have hyes := look_lt s x s.many 0
  obtain ⟨r, hr⟩ : ∃ r, s.space x = r := ⟨_, rfl⟩
  have hr' : look s x s.many 0 = r := hr
  rw [hr] at hcon hplace
  rw [hr'] at hno hyes
  obtain ⟨r1, r2⟩ := r
  obtain ⟨N, hN⟩ : ∃ N, s.many = N := ⟨_, rfl⟩
  have HN : Hid (s.many = N) := Lib.hid hN
  rw [hN] at c0 m1 m8 hplt hplace hyes
  clear hr hr' hN
  cases r2 with
  | true =>
    obtain ⟨j, hj, _, hjn⟩ := hyes rfl
    have hj' : r1 = (j : Int) := hj
    subst hj'
    rw [if_pos rfl] at hplace
    have hplace' : s.place x = (j, false) := by rw [hplace]; rfl
    rw [hplace']
    clear hplace hplace' hplt hyes hno hj
    rw [Nat.zero_add] at hjn
    show Calls Try.prog 12 #[.pointer (some ⟨g, 0, none⟩), .int .i64 x] w fun e w' => e = .returned (.tuple #[.int .i64 (j : Nat), .bool false]) ∧ Blk w' g 42 (s.put j x).cells ∧ Only w w' g
    have hi8 : (j : Int) < 8 := by omega
    have hi0 : (0 : Int) ≤ j := by omega
    go_enter Try.func12, Try.ntmps12
    go_wp2_with (go_at_call 14; refine hcon.mono ?_; rintro e w' ⟨rfl, rfl⟩)
    go_loopw [6, 8, 20] (fun v6 _ v wr => ∃ n q : Nat, n ≤ N ∧ v6 = .int .i64 j ∧ v = .int .i64 n ∧ wr = w.drewN q) (fun _ _ v _ => N - (intOf v).toNat)
    case atStart => exact ⟨0, 0, by omega, rfl, rfl, rfl⟩
    case round =>
      obtain ⟨n, q, hn, rfl, rfl, rfl⟩ := hrel
      by_cases hlt : n < N
      · have hd : decide (n < N) = true := decide_eq_true hlt
        go_wp2
        go_quiet (fail)
        go_wp2
        go_roundw
        case rel => exact ⟨n + 1, _, by omega, rfl, by go_num, rfl⟩
        case measure => simp [intOf]; omega
      · obtain rfl : n = N := by omega
        clear hlt hn
        have W0 : Blk (w.drewN q) g 42 s.cells := HBr.out.1.drewN q
        have O0 : Hid (Only w (w.drewN q) g) := Lib.hid ((Only.refl w g).drewN q)
        generalize w.drewN q = W at W0 O0
        have c1 := cell_clock W0
        have f1 := W0.frozen 1
        have HW : Hid (Blk W g 42 s.cells) := Lib.hid W0
        clear W0
        have hwr : IntKind.i64.wrap (s.clock + 1) = s.clock + 1 := by rw [IntKind.wrap_i64]; omega
        go_upto_region 10 with (fail)
        have hn8 : s.sp.length = 8 := HBr.out.2.len
        have B1 := HW.out.set_ 1 (.int .i64 (s.clock + 1))
        have O1 := Only.setCell O0.out 1 (.int .i64 (s.clock + 1))
        clear c1 f1 HW O0 hwr c0
        generalize W.setCell ⟨g, 1, none⟩ (.int .i64 (s.clock + 1)) = W1 at B1 O1
        have sz : (s.cells.setIfInBounds 1 (.int .i64 (s.clock + 1))).size = 18 := by rw [Array.size_setIfInBounds]; simp [RS.cells, pairs_len, hn8]
        have c1 : W1.cell? ⟨g, 1, none⟩ = some (.int .i64 (s.clock + 1)) := by rw [B1.cell]; simp [RS.cells]
        have cj : ∃ v, W1.cell? ⟨g, 2 + j * 2, none⟩ = some v := by rw [B1.cell]; exact ⟨_, Array.getElem?_eq_getElem (by omega)⟩
        have ck : ∃ v, W1.cell? ⟨g, 2 + j * 2 + 1, none⟩ = some v := by rw [B1.cell]; exact ⟨_, Array.getElem?_eq_getElem (by omega)⟩
        have f0 := B1.frozen (2 + j * 2)
        have f1 := B1.frozen (2 + j * 2 + 1)
        obtain ⟨vj, cj⟩ := cj
        obtain ⟨vk, ck⟩ := ck
        have HP : Hid (Blk W1 g 42 (s.cells.setIfInBounds 1 (.int .i64 (s.clock + 1))) ∧ Only w W1 g ∧ s.sp.length = 8 ∧ s.clock + 1 = s.clock + 1) := Lib.hid ⟨B1, O1, hn8, rfl⟩
        clear B1 O1 hn8 sz
        obtain ⟨ck1, hck⟩ : ∃ c, c = s.clock + 1 := ⟨_, rfl⟩
        rw [← hck] at c1
        have HP' : Hid (Blk W1 g 42 (s.cells.setIfInBounds 1 (.int .i64 ck1)) ∧ Only w W1 g ∧ s.sp.length = 8 ∧ ck1 = s.clock + 1) := Lib.hid (by rw [hck]; exact HP.out)
        clear hck HP
        go_region
        go_wp2
        go_ret2
        exact ⟨rfl, put_done HP'.out hjn m8, Only.setCell (Only.setCell (Only.drewN HP'.out.2.1 _) _ _) _ _⟩
  | false =>
    have hr1 : r1 = 0 := hno rfl
    subst hr1
    rw [if_neg (by decide)] at hplace
    clear hyes hno
    obtain ⟨j, hj⟩ : ∃ j, least s N 0 0 = j := ⟨_, rfl⟩
    rw [hj] at hplace
    rw [hplace] at hplt
    rw [hplace]
    have hjn : j < N := hplt
    have HL : Hid (least s (N - 0) 0 0 = j) := Lib.hid (by rw [← hj]; rfl)
    clear hplace hplt hj
    show Calls Try.prog 12 #[.pointer (some ⟨g, 0, none⟩), .int .i64 x] w fun e w' => e = .returned (.tuple #[.int .i64 (j : Nat), .bool (decide (0 < s.us j))]) ∧ Blk w' g 42 (s.put j x).cells ∧ Only w w' g
    have hi8 : (j : Int) < 8 := by omega
    have hi0 : (0 : Int) ≤ j := by omega
    go_enter Try.func12, Try.ntmps12
    go_wp2_with (go_at_call 14; refine hcon.mono ?_; rintro e w' ⟨rfl, rfl⟩)
    go_loopw [6, 8, 20] (fun v6 _ v wr => ∃ n i q : Nat, n ≤ N ∧ i < N ∧ v6 = .int .i64 i ∧ v = .int .i64 n ∧ wr = w.drewN q ∧ Hid (least s (N - n) n i = j)) (fun _ _ v _ => N - (intOf v).toNat)
    case atStart => exact ⟨0, 0, 0, by omega, by omega, rfl, rfl, rfl, HL⟩
    case round =>
      clear HL
      obtain ⟨n, i, q, hn, hiN, rfl, rfl, rfl, HL⟩ := hrel
      by_cases hlt : n < N
      · have hd : decide (n < N) = true := decide_eq_true hlt
        have cn := cell_us HBr.out.1 HBr.out.2 n (by omega)
        have ci := cell_us HBr.out.1 HBr.out.2 i (by omega)
        obtain ⟨d, hd2⟩ : ∃ d, N - n = d + 1 := ⟨N - n - 1, by omega⟩
        have H1 := HL.out
        rw [hd2] at H1
        unfold least at H1
        have hgo : ∀ z : Nat, z = n + 1 → N - z = d := by omega
        have hn8 : (n : Int) < 8 := by omega
        have hn0 : (0 : Int) ≤ n := by omega
        have hii8 : (i : Int) < 8 := by omega
        have hii0 : (0 : Int) ≤ i := by omega
        clear HL
        generalize s.us n = un at cn H1
        generalize s.us i = ui at ci H1
        by_cases hu : un < ui
        · rw [if_pos hu] at H1
          have H2 := Lib.hid H1
          clear H1
          have hd3 : decide (un < ui) = true := decide_eq_true hu
          go_wp2
          go_quiet (fail)
          go_wp2
          go_roundw
          case rel => exact ⟨n + 1, n, _, by omega, by omega, rfl, by go_num, rfl, by rw [hgo _ rfl]; exact H2⟩
          case measure => simp [intOf]; omega
        · rw [if_neg hu] at H1
          have H2 := Lib.hid H1
          clear H1
          have hd3 : decide (un < ui) = false := decide_eq_false hu
          go_wp2
          go_quiet (fail)
          go_wp2
          go_roundw
          case rel => exact ⟨n + 1, i, _, by omega, by omega, rfl, by go_num, rfl, by rw [hgo _ rfl]; exact H2⟩
          case measure => simp [intOf]; omega
      · obtain rfl : n = N := by omega
        have H1 := HL.out
        rw [Nat.sub_self] at H1
        obtain rfl : i = j := H1
        clear HL hlt hn hiN
        have W0 : Blk (w.drewN q) g 42 s.cells := HBr.out.1.drewN q
        have O0 : Hid (Only w (w.drewN q) g) := Lib.hid ((Only.refl w g).drewN q)
        generalize w.drewN q = W at W0 O0
        have c1 := cell_clock W0
        have cu := cell_us W0 HBr.out.2 i (by omega)
        obtain ⟨ui, hui⟩ : ∃ u, s.us i = u := ⟨_, rfl⟩
        rw [hui] at cu
        have HU := Lib.hid hui
        clear hui
        have f1 := W0.frozen 1
        have HW : Hid (Blk W g 42 s.cells) := Lib.hid W0
        clear W0
        have hwr : IntKind.i64.wrap (s.clock + 1) = s.clock + 1 := by rw [IntKind.wrap_i64]; omega
        go_upto_region 10 with (fail)
        have hn8 : s.sp.length = 8 := HBr.out.2.len
        have B1 := HW.out.set_ 1 (.int .i64 (s.clock + 1))
        have O1 := Only.setCell O0.out 1 (.int .i64 (s.clock + 1))
        clear c1 cu f1 HW O0 hwr c0
        generalize W.setCell ⟨g, 1, none⟩ (.int .i64 (s.clock + 1)) = W1 at B1 O1
        have sz : (s.cells.setIfInBounds 1 (.int .i64 (s.clock + 1))).size = 18 := by rw [Array.size_setIfInBounds]; simp [RS.cells, pairs_len, hn8]
        have c1 : W1.cell? ⟨g, 1, none⟩ = some (.int .i64 (s.clock + 1)) := by rw [B1.cell]; simp [RS.cells]
        have cj : ∃ v, W1.cell? ⟨g, 2 + i * 2, none⟩ = some v := by rw [B1.cell]; exact ⟨_, Array.getElem?_eq_getElem (by omega)⟩
        have ck : ∃ v, W1.cell? ⟨g, 2 + i * 2 + 1, none⟩ = some v := by rw [B1.cell]; exact ⟨_, Array.getElem?_eq_getElem (by omega)⟩
        have f0 := B1.frozen (2 + i * 2)
        have f1 := B1.frozen (2 + i * 2 + 1)
        obtain ⟨vj, cj⟩ := cj
        obtain ⟨vk, ck⟩ := ck
        have HP : Hid (Blk W1 g 42 (s.cells.setIfInBounds 1 (.int .i64 (s.clock + 1))) ∧ Only w W1 g ∧ s.sp.length = 8 ∧ s.clock + 1 = s.clock + 1) := Lib.hid ⟨B1, O1, hn8, rfl⟩
        clear B1 O1 hn8 sz
        obtain ⟨ck1, hck⟩ : ∃ c, c = s.clock + 1 := ⟨_, rfl⟩
        rw [← hck] at c1
        have HP' : Hid (Blk W1 g 42 (s.cells.setIfInBounds 1 (.int .i64 ck1)) ∧ Only w W1 g ∧ s.sp.length = 8 ∧ ck1 = s.clock + 1) := Lib.hid (by rw [hck]; exact HP.out)
        clear hck HP
        go_region
        go_wp2
        go_ret2
        exact ⟨by rw [HU.out]; rfl, put_done HP'.out hjn m8, Only.setCell (Only.setCell (Only.drewN HP'.out.2.1 _) _ _) _ _⟩
end Go.Proofs.Ytbmpclgibimopaa.Walk
