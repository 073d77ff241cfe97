/- Layer 18: roots.New, Space and Use, walked; what they compute on the cells. -/
import Derived.Test.YtbmpclgibimopaaBlk
import Derived.Test.YtbmpclgibimopaaProg
import Derived.WalkKit
import Derived.KernelRfl
import Derived.Outline
import Derived.Lib.Hide
import Derived.Deep.DeepCutAuto
import Derived.BigRegion
import Derived.RegionTactic
import Derived.Deep.QuietTactic
import Derived.BigQuiet
namespace Go.Proofs.Ytbmpclgibimopaa.Walk
open Go.RowKit Go.Proofs.Ytbmpclgibimopaa.Blks
/-- A machine's spaces: how many, the clock, and of each the root and when it was used. -/
structure RS where
  many : Nat
  clock : Int
  sp : List (Int × Int)
def pairs (l : List (Int × Int)) : List Value := l.flatMap fun p => [.int .i64 p.1, .int .i64 p.2]
def RS.cells (s : RS) : Array Value := (.int .i64 s.many :: .int .i64 s.clock :: pairs s.sp).toArray
/-- It is of a size that may be. -/
structure RS.Ok (s : RS) : Prop where
  m1 : 1 ≤ s.many
  m8 : s.many ≤ 8
  len : s.sp.length = 8
def RS.rt (s : RS) (i : Nat) : Int := (s.sp.getD i (0, 0)).1
def RS.us (s : RS) (i : Nat) : Int := (s.sp.getD i (0, 0)).2
theorem pairs_at (l : List (Int × Int)) : ∀ i, i < l.length → (pairs l)[2 * i]? = some (.int .i64 (l.getD i (0, 0)).1) ∧ (pairs l)[2 * i + 1]? = some (.int .i64 (l.getD i (0, 0)).2) := by
  induction l with
  | nil => intro i h; simp at h
  | cons p l ih =>
    intro i h
    have e : pairs (p :: l) = .int .i64 p.1 :: .int .i64 p.2 :: pairs l := by simp [pairs]
    cases i with
    | zero => rw [e]; exact ⟨rfl, rfl⟩
    | succ i =>
      have := ih i (by simpa using h)
      rw [e, show 2 * (i + 1) = 2 * i + 1 + 1 by omega]
      simpa using this
section
variable {w : World} {g : Nat} {s : RS}
theorem cell_many (h : Blk w g 42 s.cells) : w.cell? ⟨g, 0, none⟩ = some (.int .i64 s.many) := h.cell 0
theorem cell_clock (h : Blk w g 42 s.cells) : w.cell? ⟨g, 1, none⟩ = some (.int .i64 s.clock) := h.cell 1
theorem cell_rt (h : Blk w g 42 s.cells) (hk : s.Ok) (i : Nat) (hi : i < 8) : w.cell? ⟨g, 2 + i * 2, none⟩ = some (.int .i64 (s.rt i)) := by
  rw [h.cell, show 2 + i * 2 = 2 * i + 1 + 1 by omega]
  have := (pairs_at s.sp i (by rw [hk.len]; exact hi)).1
  simpa [RS.cells, RS.rt] using this
theorem cell_us (h : Blk w g 42 s.cells) (hk : s.Ok) (i : Nat) (hi : i < 8) : w.cell? ⟨g, 2 + i * 2 + 1, none⟩ = some (.int .i64 (s.us i)) := by
  rw [h.cell, show 2 + i * 2 + 1 = (2 * i + 1) + 1 + 1 by omega]
  have := (pairs_at s.sp i (by rw [hk.len]; exact hi)).2
  simpa [RS.cells, RS.us] using this
end
/-- Space's loop: as many are left, from a place on. -/
def look (s : RS) (x : Int) : Nat → Nat → Int × Bool
  | 0, _ => (0, false)
  | m + 1, i => if 0 < s.us i then (if s.rt i = x then ((i : Int), true) else look s x m (i + 1)) else look s x m (i + 1)
def RS.space (s : RS) (x : Int) : Int × Bool := look s x s.many 0
set_option maxHeartbeats 2000000 in
theorem space_any (g : Nat) (s : RS) (x : Int) (w : World) (hB : Blk w g 42 s.cells) (hk : s.Ok) :
    Calls Try.prog 14 #[.pointer (some ⟨g, 0, none⟩), .int .i64 x] w fun e w' => e = .returned (.tuple #[.int .i64 (s.space x).1, .bool (s.space x).2]) ∧ w = w' := by
  have c0 := cell_many hB
  obtain ⟨m1, m8, hl⟩ := hk
  have HB : Hid (Blk w g 42 s.cells) := Lib.hid hB
  have HK : Hid s.Ok := Lib.hid ⟨m1, m8, hl⟩
  obtain ⟨n, hn⟩ : ∃ n, s.many = n := ⟨_, rfl⟩
  obtain ⟨r, hr⟩ : ∃ r, s.space x = r := ⟨_, rfl⟩
  obtain ⟨r1, r2⟩ := r
  rw [hr]
  have HR : Hid (look s x (n - 0) 0 = (r1, r2)) := Lib.hid (by rw [← hr, ← hn]; rfl)
  rw [hn] at c0 m1 m8
  clear hr hB hl hn
  go_enter Try.func14, Try.ntmps14
  go_wp2
  go_loop [6, 11] (fun _ v => ∃ i : Nat, i ≤ n ∧ v = .int .i64 i ∧ Hid (look s x (n - i) i = (r1, r2))) (fun _ v => n - (intOf v).toNat)
  case atStart => exact ⟨0, by omega, rfl, HR⟩
  case round =>
    clear HR
    obtain ⟨i, hi, rfl, H⟩ := hrel
    by_cases hlt : i < n
    · have hrt := cell_rt HB.out HK.out i (by omega)
      have hus := cell_us HB.out HK.out i (by omega)
      obtain ⟨d, hd⟩ : ∃ d, n - i = d + 1 := ⟨n - i - 1, by omega⟩
      have H1 := H.out
      rw [hd] at H1
      unfold look at H1
      clear H
      have hi8 : i < 8 := by omega
      have hi8' : (i : Int) < 8 := by omega
      have hi0 : (0 : Int) ≤ i := by omega
      have hgo : ∀ q : Nat, q = i + 1 → n - q = d := by omega
      generalize s.us i = u at hus H1
      generalize s.rt i = rt at hrt H1
      by_cases h1 : 0 < u
      · rw [if_pos h1] at H1
        by_cases h2 : rt = x
        · rw [if_pos h2] at H1
          simp only [Prod.mk.injEq] at H1
          obtain ⟨rfl, rfl⟩ := H1
          subst h2
          go_wp2
          go_ret2
          exact ⟨rfl, rfl⟩
        · rw [if_neg h2] at H1
          have H2 := Lib.hid H1
          clear H1
          have h2' : (rt == x) = false := beq_eq_false_iff_ne.2 h2
          go_wp2
          go_round
          case rel => exact ⟨i + 1, by omega, by go_num, by rw [hgo _ rfl]; exact H2⟩
          case measure => simp [intOf]; omega
      · rw [if_neg h1] at H1
        have H2 := Lib.hid H1
        clear H1
        have h1' : decide (0 < u) = false := decide_eq_false h1
        go_wp2
        go_round
        case rel => exact ⟨i + 1, by omega, by go_num, by rw [hgo _ rfl]; exact H2⟩
        case measure => simp [intOf]; omega
    · obtain rfl : i = n := by omega
      have H1 := H.out
      rw [Nat.sub_self] at H1
      simp only [look, Prod.mk.injEq] at H1
      obtain ⟨rfl, rfl⟩ := H1
      clear H
      go_wp2
      go_ret2
      exact ⟨rfl, rfl⟩
end Go.Proofs.Ytbmpclgibimopaa.Walk
