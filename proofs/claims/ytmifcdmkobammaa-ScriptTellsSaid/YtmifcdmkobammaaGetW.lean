/- Layer 12: script.get, walked; for bytes of every length but none. -/
import Derived.Test.YtmifcdmkobammaaGetB
import Derived.Outline
import Derived.RegionTactic
import Derived.BigRegion
import Derived.Deep.RegionHeld3
import Derived.Deep.DeepCutAuto
import Derived.Deep.LoopGhost
namespace Go.Proofs.Ytmifcdmkobammaa.ScriptWalk
open Go.RowKit Go.Proofs.Ytmifcdmkobammaa.Parts Go.Proofs.Ytmifcdmkobammaa.Blks
open Go.Proofs.YtmifcdmkobammaaW.PrintWords (Aside0)
attribute [local go_sem high] eqA31
set_option maxHeartbeats 8000000 in
set_option maxRecDepth 100000 in
theorem get_more (blk off c : Nat) (sp : Option Nat) (x : Int) (xs : List Int) (hc1 : ¬ c = 1) (w : World) (hx0 : 0 ≤ x) (hx1 : x < 256) (hc0 : w.cell? ⟨blk, off, sp⟩ = some (.int .u8 x)) (_hcap : 1 ≤ c) (V1 : View w blk (off + 1) xs (c - 1)) :
    Calls Try.prog 18 #[.slice (some ⟨blk, off, sp⟩) (xs.length + 1) c] w fun e w' => Below w.heap.size w w' ∧
      ((readAll (letters (x % 128)) five0 xs = none ∧ e = .returned (.tuple #[.agg #[.int .i64 0, .bool false, .int .u64 0, .int .u64 0, .int .i64 0, .int .i64 0, .int .i64 0], .slice none 0 0, .bool false])) ∨
       (∃ f ys o' cq sp', readAll (letters (x % 128)) five0 xs = some (f, ys) ∧ View w blk o' ys cq ∧ (0 < ys.length → sp' = none) ∧ e = .returned (.tuple #[.agg (f.arr (x % 128) (decide (128 ≤ x))), .slice (some ⟨blk, o', sp'⟩) ys.length cq, .bool (rightB (x % 128) (decide (128 ≤ x)) f.a f.v f.g f.i f.n)]))) := by
  have hlt := V1.lt
  have hn' : (0 : Int) < ((xs.length + 1 : Nat) : Int) := by omega
  have hn2 : (0 : Int) < (xs.length : Int) + 1 := by omega
  go_enter Try.func18, Try.ntmps18
  go_wp2_with fail
  have B2 := Blk.new w 31 #[.int .i64 0, .bool false, .int .u64 0, .int .u64 0, .int .i64 0, .int .i64 0, .int .i64 0]
  have B2b : Below w.heap.size w (w.alloc (.cells #[.int .i64 0, .bool false, .int .u64 0, .int .u64 0, .int .i64 0, .int .i64 0, .int .i64 0] 31)) := (Below.refl _ _).alloc (Nat.le_refl _) _
  have hcl : (w.alloc (.cells #[.int .i64 0, .bool false, .int .u64 0, .int .u64 0, .int .i64 0, .int .i64 0, .int .i64 0] 31)).cell? ⟨blk, off, sp⟩ = some (.int .u8 x) := by rw [B2b.cell hlt]; exact hc0
  have hsz : (w.alloc (.cells #[.int .i64 0, .bool false, .int .u64 0, .int .u64 0, .int .i64 0, .int .i64 0, .int .i64 0] 31)).heap.size = w.heap.size + 1 := by simp
  generalize (w.alloc (.cells #[.int .i64 0, .bool false, .int .u64 0, .int .u64 0, .int .i64 0, .int .i64 0, .int .i64 0] 31)) = W0 at *
  have hlt1 : blk < W0.heap.size := by omega
  clear hc0
  go_region
  go_wp2_with fail
  simp only [kind_of hx0 hx1, user_of hx0 hx1]
  generalize hk : x % 128 = k at *
  generalize hu : decide (128 ≤ x) = u at *
  refine (parts_any _ _).mono ?_; rintro e w' ⟨rfl, rfl⟩
  go_wp2_with fail
  have S := St.start2 B2 B2b (Nat.le_refl _) (five0.arr k u) (pt k)
  rw [hsz] at S
  unfold Five.arr five0 at S
  generalize (W0.alloc (.cells #[.int .i64 k, .bool u, .int .u64 0, .int .u64 0, .int .i64 0, .int .i64 0, .int .i64 0] 31)).drew.iter (pt k) 0 = W1 at *
  clear B2 B2b hcl hlt1 hsz
  go_loopw [0] (fun v0 wr => ∃ (pos : Nat) (f : Five) (ys : List Int) (o' cq : Nat) (sp' : Option Nat), pos ≤ (pt k).size ∧ v0 = .slice (some ⟨blk, o', sp'⟩) ys.length cq ∧ (0 < ys.length → sp' = none) ∧ Aside0 (readAll ((letters k).drop pos) f ys = readAll (letters k) five0 xs) ∧ View w blk o' ys cq ∧ St w w.heap.size (w.heap.size + 1) (w.heap.size + 1 + 1) #[.int .i64 0, .bool false, .int .u64 0, .int .u64 0, .int .i64 0, .int .i64 0, .int .i64 0] (f.arr k u) (pt k) pos wr) (fun v0 wr => (pt k).size - wr.iterPos (w.heap.size + 1 + 1))
  case atStart => exact ⟨0, five0, xs, _, _, _, by omega, rfl, (by first | exact SPX | exact fun _ => rfl), ⟨rfl⟩, V1, S⟩
  case round =>
    obtain ⟨pos, f, ys, o', cq, sp', hpos, rfl, SP', ⟨HR⟩, V, S'⟩ := hrel
    clear S V1
    have hpos0 : wr.iterPos (w.heap.size + 1 + 1) = pos := iterPos_of S'.hi
    by_cases hp : pos < (pt k).size
    · have hlt' : ((pt k)[pos]'hp).toNat < 128 := by rcases letter_cases k pos hp with h | h | h | h | h | h <;> rw [h] <;> decide
      have hnx : ∀ ty, (Instr.next (.pointer (some ⟨w.heap.size + 1 + 1, 0, none⟩)) true ty).run Try.prog wr = _ := fun ty => Lib.run_next_ascii_at wr (w.heap.size + 1 + 1) (pt k) pos ty S'.hi hp hlt'
      have hs := readAll_step hp f ys
      rw [HR] at hs
      clear HR
      have S1 := S'.next
      clear S'
      generalize wr.iterAt (w.heap.size + 1 + 1) (pt k) (pos + 1) = W2 at *
      rcases letter_cases k pos hp with h | h | h | h | h | h
      · rw [h] at hnx hs
        go_wp2_with fail
        refine (part_St (part_u _ _) S1).mono ?_; rintro e w' ⟨rfl, S2⟩
        clear S1
        have hc0 : (0 : Int) ≤ (ys.length : Int) := by omega
        go_wp2_with fail
        go_loopw [53] (fun v53 wr => v53 = .int .i64 0 ∧ St w w.heap.size (w.heap.size + 1) (w.heap.size + 1 + 1) #[.int .i64 0, .bool false, .int .u64 0, .int .u64 0, .int .i64 0, .int .i64 0, .int .i64 0] (Five.arr k u (f)) (pt k) (pos + 1) wr) (fun v53 wr => 0)
        case atStart => exact ⟨rfl, S2⟩
        case round =>
          obtain ⟨rfl, S3⟩ := hrel
          rw [show width 117 = 0 from rfl, if_neg (Nat.not_lt_zero _)] at hs
          go_wp2_with fail
          go_roundw
          case rel => exact ⟨pos + 1, f, ys, o', cq, sp', hp, rfl, SP', ⟨hs.symm⟩, V, S3⟩
          case measure => rw [iterPos_of S3.hi, hpos0]; omega
      · rw [h] at hnx hs
        go_wp2_with fail
        refine (part_St (part_A _ _) S1).mono ?_; rintro e w' ⟨rfl, S2⟩
        clear S1
        by_cases hw : ys.length < 8
        · have hw1 : (8 : Int) > (ys.length : Int) := by omega
          have hw2 : decide ((ys.length : Int) < 8) = true := decide_eq_true hw1
          rw [show width 65 = 8 from rfl, if_pos hw] at hs
          have o0 : w'.cell? ⟨w.heap.size, 0, none⟩ = some _ := S2.ho.cell 0
          have z0 := S2.ho.frozen 0
          have o1 : w'.cell? ⟨w.heap.size, 1, none⟩ = some _ := S2.ho.cell 1
          have z1 := S2.ho.frozen 1
          have o2 : w'.cell? ⟨w.heap.size, 2, none⟩ = some _ := S2.ho.cell 2
          have z2 := S2.ho.frozen 2
          have o3 : w'.cell? ⟨w.heap.size, 3, none⟩ = some _ := S2.ho.cell 3
          have z3 := S2.ho.frozen 3
          have o4 : w'.cell? ⟨w.heap.size, 4, none⟩ = some _ := S2.ho.cell 4
          have z4 := S2.ho.frozen 4
          have o5 : w'.cell? ⟨w.heap.size, 5, none⟩ = some _ := S2.ho.cell 5
          have z5 := S2.ho.frozen 5
          have o6 : w'.cell? ⟨w.heap.size, 6, none⟩ = some _ := S2.ho.cell 6
          have z6 := S2.ho.frozen 6
          go_wp2_with fail
          refine bodyPost_ret (results_get _ _ w.heap.size #[.int .i64 0, .bool false, .int .u64 0, .int .u64 0, .int .i64 0, .int .i64 0, .int .i64 0] rfl ((((((((S2.ho.set_ 0 _).set_ 1 _).set_ 2 _).set_ 3 _).set_ 4 _).set_ 5 _).set_ 6 _)) rfl) rfl ?_
          exact ⟨((((((S2.below.setCell S2.l1 _).setCell S2.l1 _).setCell S2.l1 _).setCell S2.l1 _).setCell S2.l1 _).setCell S2.l1 _).setCell S2.l1 _, .inl ⟨by rw [hk]; exact hs, rfl⟩⟩
        · have hw1 : (8 : Int) ≤ (ys.length : Int) := by omega
          have hw2 : decide ((ys.length : Int) < 8) = false := decide_eq_false (by omega)
          have hw3 : 8 ≤ ys.length := by omega
          have hw4 : 8 ≤ cq := by have := V.cap; omega
          have hsp : sp' = none := SP' (by omega)
          subst hsp
          rw [show width 65 = 8 from rfl, if_neg hw] at hs
          go_wp2_with fail
          go_loopw [53] (fun v53 wr => ∃ (j : Nat), j ≤ 8 ∧ v53 = .int .i64 (j : Int) ∧ St w w.heap.size (w.heap.size + 1) (w.heap.size + 1 + 1) #[.int .i64 0, .bool false, .int .u64 0, .int .u64 0, .int .i64 0, .int .i64 0, .int .i64 0] (Five.arr k u ({ f with a := many f.a (ys.take j) })) (pt k) (pos + 1) wr) (fun v53 wr => (8 - intOf v53).toNat)
          case atStart => exact ⟨0, by omega, rfl, S2⟩
          case round =>
            obtain ⟨j, hj, rfl, S3⟩ := hrel
            clear S2
            by_cases hj8 : j < 8
            · obtain ⟨y, hy, hy0, hy1, hcell⟩ := V.at S3.below (j := j) (by omega)
              have hlt8 : decide ((j : Int) < 8) = true := decide_eq_true (by omega)
              have c1 : wr.cell? ⟨w.heap.size + 1, 2, none⟩ = some (.int .u64 (many f.a (ys.take j))) := S3.hb.cell 2
              have c3 := S3.hb.frozen 2
              have ht : ys.take (j + 1) = ys.take j ++ [y] := by rw [List.take_add_one, hy]; rfl
              go_wp2_with fail
              go_roundw
              case rel => exact ⟨j + 1, by omega, rfl, by rw [ht, many_snoc, ← or8 _ y hy0 hy1]; exact S3.put 2 _⟩
              case measure => simp [intOf]; omega
            · have hj9 : j = 8 := by omega
              subst hj9
              go_wp2_with fail
              obtain ⟨o2, ho2, V2⟩ := V.cut 8 hw3
              rw [ho2]
              go_roundw
              case rel => exact ⟨pos + 1, _, ys.drop 8, o2, cq - 8, none, hp, by rw [List.length_drop], fun _ => rfl, ⟨hs.symm⟩, V2, S3⟩
              case measure => rw [iterPos_of S3.hi, hpos0]; omega
      · rw [h] at hnx hs
        go_wp2_with fail
        refine (part_St (part_V _ _) S1).mono ?_; rintro e w' ⟨rfl, S2⟩
        clear S1
        by_cases hw : ys.length < 8
        · have hw1 : (8 : Int) > (ys.length : Int) := by omega
          have hw2 : decide ((ys.length : Int) < 8) = true := decide_eq_true hw1
          rw [show width 86 = 8 from rfl, if_pos hw] at hs
          have o0 : w'.cell? ⟨w.heap.size, 0, none⟩ = some _ := S2.ho.cell 0
          have z0 := S2.ho.frozen 0
          have o1 : w'.cell? ⟨w.heap.size, 1, none⟩ = some _ := S2.ho.cell 1
          have z1 := S2.ho.frozen 1
          have o2 : w'.cell? ⟨w.heap.size, 2, none⟩ = some _ := S2.ho.cell 2
          have z2 := S2.ho.frozen 2
          have o3 : w'.cell? ⟨w.heap.size, 3, none⟩ = some _ := S2.ho.cell 3
          have z3 := S2.ho.frozen 3
          have o4 : w'.cell? ⟨w.heap.size, 4, none⟩ = some _ := S2.ho.cell 4
          have z4 := S2.ho.frozen 4
          have o5 : w'.cell? ⟨w.heap.size, 5, none⟩ = some _ := S2.ho.cell 5
          have z5 := S2.ho.frozen 5
          have o6 : w'.cell? ⟨w.heap.size, 6, none⟩ = some _ := S2.ho.cell 6
          have z6 := S2.ho.frozen 6
          go_wp2_with fail
          refine bodyPost_ret (results_get _ _ w.heap.size #[.int .i64 0, .bool false, .int .u64 0, .int .u64 0, .int .i64 0, .int .i64 0, .int .i64 0] rfl ((((((((S2.ho.set_ 0 _).set_ 1 _).set_ 2 _).set_ 3 _).set_ 4 _).set_ 5 _).set_ 6 _)) rfl) rfl ?_
          exact ⟨((((((S2.below.setCell S2.l1 _).setCell S2.l1 _).setCell S2.l1 _).setCell S2.l1 _).setCell S2.l1 _).setCell S2.l1 _).setCell S2.l1 _, .inl ⟨by rw [hk]; exact hs, rfl⟩⟩
        · have hw1 : (8 : Int) ≤ (ys.length : Int) := by omega
          have hw2 : decide ((ys.length : Int) < 8) = false := decide_eq_false (by omega)
          have hw3 : 8 ≤ ys.length := by omega
          have hw4 : 8 ≤ cq := by have := V.cap; omega
          have hsp : sp' = none := SP' (by omega)
          subst hsp
          rw [show width 86 = 8 from rfl, if_neg hw] at hs
          go_wp2_with fail
          go_loopw [53] (fun v53 wr => ∃ (j : Nat), j ≤ 8 ∧ v53 = .int .i64 (j : Int) ∧ St w w.heap.size (w.heap.size + 1) (w.heap.size + 1 + 1) #[.int .i64 0, .bool false, .int .u64 0, .int .u64 0, .int .i64 0, .int .i64 0, .int .i64 0] (Five.arr k u ({ f with v := many f.v (ys.take j) })) (pt k) (pos + 1) wr) (fun v53 wr => (8 - intOf v53).toNat)
          case atStart => exact ⟨0, by omega, rfl, S2⟩
          case round =>
            obtain ⟨j, hj, rfl, S3⟩ := hrel
            clear S2
            by_cases hj8 : j < 8
            · obtain ⟨y, hy, hy0, hy1, hcell⟩ := V.at S3.below (j := j) (by omega)
              have hlt8 : decide ((j : Int) < 8) = true := decide_eq_true (by omega)
              have c1 : wr.cell? ⟨w.heap.size + 1, 3, none⟩ = some (.int .u64 (many f.v (ys.take j))) := S3.hb.cell 3
              have c3 := S3.hb.frozen 3
              have ht : ys.take (j + 1) = ys.take j ++ [y] := by rw [List.take_add_one, hy]; rfl
              go_wp2_with fail
              go_roundw
              case rel => exact ⟨j + 1, by omega, rfl, by rw [ht, many_snoc, ← or8 _ y hy0 hy1]; exact S3.put 3 _⟩
              case measure => simp [intOf]; omega
            · have hj9 : j = 8 := by omega
              subst hj9
              go_wp2_with fail
              obtain ⟨o2, ho2, V2⟩ := V.cut 8 hw3
              rw [ho2]
              go_roundw
              case rel => exact ⟨pos + 1, _, ys.drop 8, o2, cq - 8, none, hp, by rw [List.length_drop], fun _ => rfl, ⟨hs.symm⟩, V2, S3⟩
              case measure => rw [iterPos_of S3.hi, hpos0]; omega
      · rw [h] at hnx hs
        go_wp2_with fail
        refine (part_St (part_G _ _) S1).mono ?_; rintro e w' ⟨rfl, S2⟩
        clear S1
        by_cases hw : ys.length < 1
        · have hw1 : (1 : Int) > (ys.length : Int) := by omega
          have hw2 : decide ((ys.length : Int) < 1) = true := decide_eq_true hw1
          rw [show width 71 = 1 from rfl, if_pos hw] at hs
          have o0 : w'.cell? ⟨w.heap.size, 0, none⟩ = some _ := S2.ho.cell 0
          have z0 := S2.ho.frozen 0
          have o1 : w'.cell? ⟨w.heap.size, 1, none⟩ = some _ := S2.ho.cell 1
          have z1 := S2.ho.frozen 1
          have o2 : w'.cell? ⟨w.heap.size, 2, none⟩ = some _ := S2.ho.cell 2
          have z2 := S2.ho.frozen 2
          have o3 : w'.cell? ⟨w.heap.size, 3, none⟩ = some _ := S2.ho.cell 3
          have z3 := S2.ho.frozen 3
          have o4 : w'.cell? ⟨w.heap.size, 4, none⟩ = some _ := S2.ho.cell 4
          have z4 := S2.ho.frozen 4
          have o5 : w'.cell? ⟨w.heap.size, 5, none⟩ = some _ := S2.ho.cell 5
          have z5 := S2.ho.frozen 5
          have o6 : w'.cell? ⟨w.heap.size, 6, none⟩ = some _ := S2.ho.cell 6
          have z6 := S2.ho.frozen 6
          go_wp2_with fail
          refine bodyPost_ret (results_get _ _ w.heap.size #[.int .i64 0, .bool false, .int .u64 0, .int .u64 0, .int .i64 0, .int .i64 0, .int .i64 0] rfl ((((((((S2.ho.set_ 0 _).set_ 1 _).set_ 2 _).set_ 3 _).set_ 4 _).set_ 5 _).set_ 6 _)) rfl) rfl ?_
          exact ⟨((((((S2.below.setCell S2.l1 _).setCell S2.l1 _).setCell S2.l1 _).setCell S2.l1 _).setCell S2.l1 _).setCell S2.l1 _).setCell S2.l1 _, .inl ⟨by rw [hk]; exact hs, rfl⟩⟩
        · have hw1 : (1 : Int) ≤ (ys.length : Int) := by omega
          have hw2 : decide ((ys.length : Int) < 1) = false := decide_eq_false (by omega)
          have hw3 : 1 ≤ ys.length := by omega
          have hw4 : 1 ≤ cq := by have := V.cap; omega
          have hsp : sp' = none := SP' (by omega)
          subst hsp
          rw [show width 71 = 1 from rfl, if_neg hw] at hs
          go_wp2_with fail
          go_loopw [53] (fun v53 wr => ∃ (j : Nat), j ≤ 1 ∧ v53 = .int .i64 (j : Int) ∧ St w w.heap.size (w.heap.size + 1) (w.heap.size + 1 + 1) #[.int .i64 0, .bool false, .int .u64 0, .int .u64 0, .int .i64 0, .int .i64 0, .int .i64 0] (Five.arr k u (if j = 0 then f else { f with g := ys.headD 0 })) (pt k) (pos + 1) wr) (fun v53 wr => (8 - intOf v53).toNat)
          case atStart => exact ⟨0, by omega, rfl, S2⟩
          case round =>
            obtain ⟨j, hj, rfl, S3⟩ := hrel
            clear S2
            by_cases hj8 : j < 1
            · have hj0 : j = 0 := by omega
              subst hj0
              obtain ⟨y, hy, hy0, hy1, hcell⟩ := V.at S3.below (j := 0) (by omega)
              have hcell2 : wr.cell? ⟨blk, o', none⟩ = some (.int .u8 y) := hcell
              have hyh : ys.headD 0 = y := by cases ys with | nil => cases hy | cons a t => exact Option.some.inj hy
              rw [if_pos rfl] at S3
              have c1 : wr.cell? ⟨w.heap.size + 1, 4, none⟩ = some (.int .i64 f.g) := S3.hb.cell 4
              have c3 := S3.hb.frozen 4
              have hyw : IntKind.i64.wrap y = y := by rw [IntKind.wrap_i64]; omega
              go_wp2_with fail
              go_roundw
              case rel => exact ⟨1, by omega, rfl, by rw [if_neg (by decide), hyh]; exact S3.put 4 _⟩
              case measure => simp [intOf]
            · have hj9 : j = 1 := by omega
              subst hj9
              rw [if_neg (by decide)] at S3
              go_wp2_with fail
              obtain ⟨o2, ho2, V2⟩ := V.cut 1 hw3
              rw [ho2]
              go_roundw
              case rel => exact ⟨pos + 1, _, ys.drop 1, o2, cq - 1, none, hp, by rw [List.length_drop], fun _ => rfl, ⟨hs.symm⟩, V2, S3⟩
              case measure => rw [iterPos_of S3.hi, hpos0]; omega
      · rw [h] at hnx hs
        go_wp2_with fail
        refine (part_St (part_I _ _) S1).mono ?_; rintro e w' ⟨rfl, S2⟩
        clear S1
        by_cases hw : ys.length < 1
        · have hw1 : (1 : Int) > (ys.length : Int) := by omega
          have hw2 : decide ((ys.length : Int) < 1) = true := decide_eq_true hw1
          rw [show width 73 = 1 from rfl, if_pos hw] at hs
          have o0 : w'.cell? ⟨w.heap.size, 0, none⟩ = some _ := S2.ho.cell 0
          have z0 := S2.ho.frozen 0
          have o1 : w'.cell? ⟨w.heap.size, 1, none⟩ = some _ := S2.ho.cell 1
          have z1 := S2.ho.frozen 1
          have o2 : w'.cell? ⟨w.heap.size, 2, none⟩ = some _ := S2.ho.cell 2
          have z2 := S2.ho.frozen 2
          have o3 : w'.cell? ⟨w.heap.size, 3, none⟩ = some _ := S2.ho.cell 3
          have z3 := S2.ho.frozen 3
          have o4 : w'.cell? ⟨w.heap.size, 4, none⟩ = some _ := S2.ho.cell 4
          have z4 := S2.ho.frozen 4
          have o5 : w'.cell? ⟨w.heap.size, 5, none⟩ = some _ := S2.ho.cell 5
          have z5 := S2.ho.frozen 5
          have o6 : w'.cell? ⟨w.heap.size, 6, none⟩ = some _ := S2.ho.cell 6
          have z6 := S2.ho.frozen 6
          go_wp2_with fail
          refine bodyPost_ret (results_get _ _ w.heap.size #[.int .i64 0, .bool false, .int .u64 0, .int .u64 0, .int .i64 0, .int .i64 0, .int .i64 0] rfl ((((((((S2.ho.set_ 0 _).set_ 1 _).set_ 2 _).set_ 3 _).set_ 4 _).set_ 5 _).set_ 6 _)) rfl) rfl ?_
          exact ⟨((((((S2.below.setCell S2.l1 _).setCell S2.l1 _).setCell S2.l1 _).setCell S2.l1 _).setCell S2.l1 _).setCell S2.l1 _).setCell S2.l1 _, .inl ⟨by rw [hk]; exact hs, rfl⟩⟩
        · have hw1 : (1 : Int) ≤ (ys.length : Int) := by omega
          have hw2 : decide ((ys.length : Int) < 1) = false := decide_eq_false (by omega)
          have hw3 : 1 ≤ ys.length := by omega
          have hw4 : 1 ≤ cq := by have := V.cap; omega
          have hsp : sp' = none := SP' (by omega)
          subst hsp
          rw [show width 73 = 1 from rfl, if_neg hw] at hs
          go_wp2_with fail
          go_loopw [53] (fun v53 wr => ∃ (j : Nat), j ≤ 1 ∧ v53 = .int .i64 (j : Int) ∧ St w w.heap.size (w.heap.size + 1) (w.heap.size + 1 + 1) #[.int .i64 0, .bool false, .int .u64 0, .int .u64 0, .int .i64 0, .int .i64 0, .int .i64 0] (Five.arr k u (if j = 0 then f else { f with i := ys.headD 0 })) (pt k) (pos + 1) wr) (fun v53 wr => (8 - intOf v53).toNat)
          case atStart => exact ⟨0, by omega, rfl, S2⟩
          case round =>
            obtain ⟨j, hj, rfl, S3⟩ := hrel
            clear S2
            by_cases hj8 : j < 1
            · have hj0 : j = 0 := by omega
              subst hj0
              obtain ⟨y, hy, hy0, hy1, hcell⟩ := V.at S3.below (j := 0) (by omega)
              have hcell2 : wr.cell? ⟨blk, o', none⟩ = some (.int .u8 y) := hcell
              have hyh : ys.headD 0 = y := by cases ys with | nil => cases hy | cons a t => exact Option.some.inj hy
              rw [if_pos rfl] at S3
              have c1 : wr.cell? ⟨w.heap.size + 1, 5, none⟩ = some (.int .i64 f.i) := S3.hb.cell 5
              have c3 := S3.hb.frozen 5
              have hyw : IntKind.i64.wrap y = y := by rw [IntKind.wrap_i64]; omega
              go_wp2_with fail
              go_roundw
              case rel => exact ⟨1, by omega, rfl, by rw [if_neg (by decide), hyh]; exact S3.put 5 _⟩
              case measure => simp [intOf]
            · have hj9 : j = 1 := by omega
              subst hj9
              rw [if_neg (by decide)] at S3
              go_wp2_with fail
              obtain ⟨o2, ho2, V2⟩ := V.cut 1 hw3
              rw [ho2]
              go_roundw
              case rel => exact ⟨pos + 1, _, ys.drop 1, o2, cq - 1, none, hp, by rw [List.length_drop], fun _ => rfl, ⟨hs.symm⟩, V2, S3⟩
              case measure => rw [iterPos_of S3.hi, hpos0]; omega
      · rw [h] at hnx hs
        go_wp2_with fail
        refine (part_St (part_N _ _) S1).mono ?_; rintro e w' ⟨rfl, S2⟩
        clear S1
        by_cases hw : ys.length < 1
        · have hw1 : (1 : Int) > (ys.length : Int) := by omega
          have hw2 : decide ((ys.length : Int) < 1) = true := decide_eq_true hw1
          rw [show width 78 = 1 from rfl, if_pos hw] at hs
          have o0 : w'.cell? ⟨w.heap.size, 0, none⟩ = some _ := S2.ho.cell 0
          have z0 := S2.ho.frozen 0
          have o1 : w'.cell? ⟨w.heap.size, 1, none⟩ = some _ := S2.ho.cell 1
          have z1 := S2.ho.frozen 1
          have o2 : w'.cell? ⟨w.heap.size, 2, none⟩ = some _ := S2.ho.cell 2
          have z2 := S2.ho.frozen 2
          have o3 : w'.cell? ⟨w.heap.size, 3, none⟩ = some _ := S2.ho.cell 3
          have z3 := S2.ho.frozen 3
          have o4 : w'.cell? ⟨w.heap.size, 4, none⟩ = some _ := S2.ho.cell 4
          have z4 := S2.ho.frozen 4
          have o5 : w'.cell? ⟨w.heap.size, 5, none⟩ = some _ := S2.ho.cell 5
          have z5 := S2.ho.frozen 5
          have o6 : w'.cell? ⟨w.heap.size, 6, none⟩ = some _ := S2.ho.cell 6
          have z6 := S2.ho.frozen 6
          go_wp2_with fail
          refine bodyPost_ret (results_get _ _ w.heap.size #[.int .i64 0, .bool false, .int .u64 0, .int .u64 0, .int .i64 0, .int .i64 0, .int .i64 0] rfl ((((((((S2.ho.set_ 0 _).set_ 1 _).set_ 2 _).set_ 3 _).set_ 4 _).set_ 5 _).set_ 6 _)) rfl) rfl ?_
          exact ⟨((((((S2.below.setCell S2.l1 _).setCell S2.l1 _).setCell S2.l1 _).setCell S2.l1 _).setCell S2.l1 _).setCell S2.l1 _).setCell S2.l1 _, .inl ⟨by rw [hk]; exact hs, rfl⟩⟩
        · have hw1 : (1 : Int) ≤ (ys.length : Int) := by omega
          have hw2 : decide ((ys.length : Int) < 1) = false := decide_eq_false (by omega)
          have hw3 : 1 ≤ ys.length := by omega
          have hw4 : 1 ≤ cq := by have := V.cap; omega
          have hsp : sp' = none := SP' (by omega)
          subst hsp
          rw [show width 78 = 1 from rfl, if_neg hw] at hs
          go_wp2_with fail
          go_loopw [53] (fun v53 wr => ∃ (j : Nat), j ≤ 1 ∧ v53 = .int .i64 (j : Int) ∧ St w w.heap.size (w.heap.size + 1) (w.heap.size + 1 + 1) #[.int .i64 0, .bool false, .int .u64 0, .int .u64 0, .int .i64 0, .int .i64 0, .int .i64 0] (Five.arr k u (if j = 0 then f else { f with n := ys.headD 0 })) (pt k) (pos + 1) wr) (fun v53 wr => (8 - intOf v53).toNat)
          case atStart => exact ⟨0, by omega, rfl, S2⟩
          case round =>
            obtain ⟨j, hj, rfl, S3⟩ := hrel
            clear S2
            by_cases hj8 : j < 1
            · have hj0 : j = 0 := by omega
              subst hj0
              obtain ⟨y, hy, hy0, hy1, hcell⟩ := V.at S3.below (j := 0) (by omega)
              have hcell2 : wr.cell? ⟨blk, o', none⟩ = some (.int .u8 y) := hcell
              have hyh : ys.headD 0 = y := by cases ys with | nil => cases hy | cons a t => exact Option.some.inj hy
              rw [if_pos rfl] at S3
              have c1 : wr.cell? ⟨w.heap.size + 1, 6, none⟩ = some (.int .i64 f.n) := S3.hb.cell 6
              have c3 := S3.hb.frozen 6
              have hyw : IntKind.i64.wrap y = y := by rw [IntKind.wrap_i64]; omega
              go_wp2_with fail
              go_roundw
              case rel => exact ⟨1, by omega, rfl, by rw [if_neg (by decide), hyh]; exact S3.put 6 _⟩
              case measure => simp [intOf]
            · have hj9 : j = 1 := by omega
              subst hj9
              rw [if_neg (by decide)] at S3
              go_wp2_with fail
              obtain ⟨o2, ho2, V2⟩ := V.cut 1 hw3
              rw [ho2]
              go_roundw
              case rel => exact ⟨pos + 1, _, ys.drop 1, o2, cq - 1, none, hp, by rw [List.length_drop], fun _ => rfl, ⟨hs.symm⟩, V2, S3⟩
              case measure => rw [iterPos_of S3.hi, hpos0]; omega
    · have hnx : ∀ ty, (Instr.next (.pointer (some ⟨w.heap.size + 1 + 1, 0, none⟩)) true ty).run Try.prog wr = _ := fun ty => Lib.run_next_end_at wr (w.heap.size + 1 + 1) (pt k) pos ty S'.hi hp
      rw [show (letters k).drop pos = [] from List.drop_of_length_le (by rw [← pt_size]; omega)] at HR
      have b0 : wr.cell? ⟨w.heap.size + 1, 0, none⟩ = some (.int .i64 k) := S'.hb.cell 0
      have b1 : wr.cell? ⟨w.heap.size + 1, 1, none⟩ = some (.bool u) := S'.hb.cell 1
      have b2 : wr.cell? ⟨w.heap.size + 1, 2, none⟩ = some (.int .u64 f.a) := S'.hb.cell 2
      have b3 : wr.cell? ⟨w.heap.size + 1, 3, none⟩ = some (.int .u64 f.v) := S'.hb.cell 3
      have b4 : wr.cell? ⟨w.heap.size + 1, 4, none⟩ = some (.int .i64 f.g) := S'.hb.cell 4
      have b5 : wr.cell? ⟨w.heap.size + 1, 5, none⟩ = some (.int .i64 f.i) := S'.hb.cell 5
      have b6 : wr.cell? ⟨w.heap.size + 1, 6, none⟩ = some (.int .i64 f.n) := S'.hb.cell 6
      have o0 : wr.cell? ⟨w.heap.size, 0, none⟩ = some (.int .i64 0) := S'.ho.cell 0
      have z0 := S'.ho.frozen 0
      have o1 : wr.cell? ⟨w.heap.size, 1, none⟩ = some (.bool false) := S'.ho.cell 1
      have z1 := S'.ho.frozen 1
      have o2 : wr.cell? ⟨w.heap.size, 2, none⟩ = some (.int .u64 0) := S'.ho.cell 2
      have z2 := S'.ho.frozen 2
      have o3 : wr.cell? ⟨w.heap.size, 3, none⟩ = some (.int .u64 0) := S'.ho.cell 3
      have z3 := S'.ho.frozen 3
      have o4 : wr.cell? ⟨w.heap.size, 4, none⟩ = some (.int .i64 0) := S'.ho.cell 4
      have z4 := S'.ho.frozen 4
      have o5 : wr.cell? ⟨w.heap.size, 5, none⟩ = some (.int .i64 0) := S'.ho.cell 5
      have z5 := S'.ho.frozen 5
      have o6 : wr.cell? ⟨w.heap.size, 6, none⟩ = some (.int .i64 0) := S'.ho.cell 6
      have z6 := S'.ho.frozen 6
      go_wp2_with fail
      go_region_with (first | (go_at_call 13; refine (right_any _ _ _ _ _ _ _ _).mono ?_; rintro e w' ⟨rfl, hb⟩; have kb0 := keepC hb b0; have kb1 := keepC hb b1; have kb2 := keepC hb b2; have kb3 := keepC hb b3; have kb4 := keepC hb b4; have kb5 := keepC hb b5; have kb6 := keepC hb b6; have ko0 := keepC hb o0; have ko1 := keepC hb o1; have ko2 := keepC hb o2; have ko3 := keepC hb o3; have ko4 := keepC hb o4; have ko5 := keepC hb o5; have ko6 := keepC hb o6; have kz0 := keepF hb S'.ho.lt z0; have kz1 := keepF hb S'.ho.lt z1; have kz2 := keepF hb S'.ho.lt z2; have kz3 := keepF hb S'.ho.lt z3; have kz4 := keepF hb S'.ho.lt z4; have kz5 := keepF hb S'.ho.lt z5; have kz6 := keepF hb S'.ho.lt z6))
      all_goals have hblk : Blk w' w.heap.size 31 _ := Blk.below_ (w := wr.drew) S'.ho.drew hb
      all_goals have hbel : Below w.heap.size w w' := Blks.below_then (w1 := wr.drew) S'.below.drew S'.below.size hb
      all_goals go_wp2_with fail
      all_goals refine bodyPost_ret (results_get _ _ w.heap.size (Five.arr k u f) rfl ((((((((hblk.set_ 0 _).set_ 1 _).set_ 2 _).set_ 3 _).set_ 4 _).set_ 5 _).set_ 6 _)) rfl) rfl ?_
      all_goals exact ⟨((((((hbel.setCell (Nat.le_refl _) _).setCell (Nat.le_refl _) _).setCell (Nat.le_refl _) _).setCell (Nat.le_refl _) _).setCell (Nat.le_refl _) _).setCell (Nat.le_refl _) _).setCell (Nat.le_refl _) _, .inr ⟨f, ys, o', cq, sp', by rw [hk]; exact HR.symm, V, SP', by rw [hk, hu]; rfl⟩⟩
set_option maxHeartbeats 8000000 in
set_option maxRecDepth 100000 in
theorem get_one (blk off : Nat) (sp : Option Nat) (x : Int) (w : World) (hx0 : 0 ≤ x) (hx1 : x < 256) (hc0 : w.cell? ⟨blk, off, sp⟩ = some (.int .u8 x)) (hlt : blk < w.heap.size) :
    Calls Try.prog 18 #[.slice (some ⟨blk, off, sp⟩) 1 1] w fun e w' => Below w.heap.size w w' ∧
      ((readAll (letters (x % 128)) five0 [] = none ∧ e = .returned (.tuple #[.agg #[.int .i64 0, .bool false, .int .u64 0, .int .u64 0, .int .i64 0, .int .i64 0, .int .i64 0], .slice none 0 0, .bool false])) ∨
       (∃ f ys o' cq sp', readAll (letters (x % 128)) five0 [] = some (f, ys) ∧ View w blk o' ys cq ∧ (0 < ys.length → sp' = none) ∧ e = .returned (.tuple #[.agg (f.arr (x % 128) (decide (128 ≤ x))), .slice (some ⟨blk, o', sp'⟩) ys.length cq, .bool (rightB (x % 128) (decide (128 ≤ x)) f.a f.v f.g f.i f.n)]))) := by
  have V1 : View w blk off [] 0 := ⟨hlt, fun i hi => absurd hi (by simp), fun y hy => absurd hy (by simp), by simp⟩
  have SPX : 0 < ([] : List Int).length → sp = none := fun h => absurd h (by simp)
  go_enter Try.func18, Try.ntmps18
  go_wp2_with fail
  have B2 := Blk.new w 31 #[.int .i64 0, .bool false, .int .u64 0, .int .u64 0, .int .i64 0, .int .i64 0, .int .i64 0]
  have B2b : Below w.heap.size w (w.alloc (.cells #[.int .i64 0, .bool false, .int .u64 0, .int .u64 0, .int .i64 0, .int .i64 0, .int .i64 0] 31)) := (Below.refl _ _).alloc (Nat.le_refl _) _
  have hcl : (w.alloc (.cells #[.int .i64 0, .bool false, .int .u64 0, .int .u64 0, .int .i64 0, .int .i64 0, .int .i64 0] 31)).cell? ⟨blk, off, sp⟩ = some (.int .u8 x) := by rw [B2b.cell hlt]; exact hc0
  have hsz : (w.alloc (.cells #[.int .i64 0, .bool false, .int .u64 0, .int .u64 0, .int .i64 0, .int .i64 0, .int .i64 0] 31)).heap.size = w.heap.size + 1 := by simp
  generalize (w.alloc (.cells #[.int .i64 0, .bool false, .int .u64 0, .int .u64 0, .int .i64 0, .int .i64 0, .int .i64 0] 31)) = W0 at *
  have hlt1 : blk < W0.heap.size := by omega
  clear hc0
  go_region
  go_wp2_with fail
  simp only [kind_of hx0 hx1, user_of hx0 hx1]
  generalize hk : x % 128 = k at *
  generalize hu : decide (128 ≤ x) = u at *
  refine (parts_any _ _).mono ?_; rintro e w' ⟨rfl, rfl⟩
  go_wp2_with fail
  have S := St.start2 B2 B2b (Nat.le_refl _) (five0.arr k u) (pt k)
  rw [hsz] at S
  unfold Five.arr five0 at S
  generalize (W0.alloc (.cells #[.int .i64 k, .bool u, .int .u64 0, .int .u64 0, .int .i64 0, .int .i64 0, .int .i64 0] 31)).drew.iter (pt k) 0 = W1 at *
  clear B2 B2b hcl hlt1 hsz
  go_loopw [0] (fun v0 wr => ∃ (pos : Nat) (f : Five) (ys : List Int) (o' cq : Nat) (sp' : Option Nat), pos ≤ (pt k).size ∧ v0 = .slice (some ⟨blk, o', sp'⟩) ys.length cq ∧ (0 < ys.length → sp' = none) ∧ Aside0 (readAll ((letters k).drop pos) f ys = readAll (letters k) five0 []) ∧ View w blk o' ys cq ∧ St w w.heap.size (w.heap.size + 1) (w.heap.size + 1 + 1) #[.int .i64 0, .bool false, .int .u64 0, .int .u64 0, .int .i64 0, .int .i64 0, .int .i64 0] (f.arr k u) (pt k) pos wr) (fun v0 wr => (pt k).size - wr.iterPos (w.heap.size + 1 + 1))
  case atStart => exact ⟨0, five0, [], _, _, _, by omega, rfl, (by first | exact SPX | exact fun _ => rfl), ⟨rfl⟩, V1, S⟩
  case round =>
    obtain ⟨pos, f, ys, o', cq, sp', hpos, rfl, SP', ⟨HR⟩, V, S'⟩ := hrel
    clear S V1
    have hpos0 : wr.iterPos (w.heap.size + 1 + 1) = pos := iterPos_of S'.hi
    by_cases hp : pos < (pt k).size
    · have hlt' : ((pt k)[pos]'hp).toNat < 128 := by rcases letter_cases k pos hp with h | h | h | h | h | h <;> rw [h] <;> decide
      have hnx : ∀ ty, (Instr.next (.pointer (some ⟨w.heap.size + 1 + 1, 0, none⟩)) true ty).run Try.prog wr = _ := fun ty => Lib.run_next_ascii_at wr (w.heap.size + 1 + 1) (pt k) pos ty S'.hi hp hlt'
      have hs := readAll_step hp f ys
      rw [HR] at hs
      clear HR
      have S1 := S'.next
      clear S'
      generalize wr.iterAt (w.heap.size + 1 + 1) (pt k) (pos + 1) = W2 at *
      rcases letter_cases k pos hp with h | h | h | h | h | h
      · rw [h] at hnx hs
        go_wp2_with fail
        refine (part_St (part_u _ _) S1).mono ?_; rintro e w' ⟨rfl, S2⟩
        clear S1
        have hc0 : (0 : Int) ≤ (ys.length : Int) := by omega
        go_wp2_with fail
        go_loopw [53] (fun v53 wr => v53 = .int .i64 0 ∧ St w w.heap.size (w.heap.size + 1) (w.heap.size + 1 + 1) #[.int .i64 0, .bool false, .int .u64 0, .int .u64 0, .int .i64 0, .int .i64 0, .int .i64 0] (Five.arr k u (f)) (pt k) (pos + 1) wr) (fun v53 wr => 0)
        case atStart => exact ⟨rfl, S2⟩
        case round =>
          obtain ⟨rfl, S3⟩ := hrel
          rw [show width 117 = 0 from rfl, if_neg (Nat.not_lt_zero _)] at hs
          go_wp2_with fail
          go_roundw
          case rel => exact ⟨pos + 1, f, ys, o', cq, sp', hp, rfl, SP', ⟨hs.symm⟩, V, S3⟩
          case measure => rw [iterPos_of S3.hi, hpos0]; omega
      · rw [h] at hnx hs
        go_wp2_with fail
        refine (part_St (part_A _ _) S1).mono ?_; rintro e w' ⟨rfl, S2⟩
        clear S1
        by_cases hw : ys.length < 8
        · have hw1 : (8 : Int) > (ys.length : Int) := by omega
          have hw2 : decide ((ys.length : Int) < 8) = true := decide_eq_true hw1
          rw [show width 65 = 8 from rfl, if_pos hw] at hs
          have o0 : w'.cell? ⟨w.heap.size, 0, none⟩ = some _ := S2.ho.cell 0
          have z0 := S2.ho.frozen 0
          have o1 : w'.cell? ⟨w.heap.size, 1, none⟩ = some _ := S2.ho.cell 1
          have z1 := S2.ho.frozen 1
          have o2 : w'.cell? ⟨w.heap.size, 2, none⟩ = some _ := S2.ho.cell 2
          have z2 := S2.ho.frozen 2
          have o3 : w'.cell? ⟨w.heap.size, 3, none⟩ = some _ := S2.ho.cell 3
          have z3 := S2.ho.frozen 3
          have o4 : w'.cell? ⟨w.heap.size, 4, none⟩ = some _ := S2.ho.cell 4
          have z4 := S2.ho.frozen 4
          have o5 : w'.cell? ⟨w.heap.size, 5, none⟩ = some _ := S2.ho.cell 5
          have z5 := S2.ho.frozen 5
          have o6 : w'.cell? ⟨w.heap.size, 6, none⟩ = some _ := S2.ho.cell 6
          have z6 := S2.ho.frozen 6
          go_wp2_with fail
          refine bodyPost_ret (results_get _ _ w.heap.size #[.int .i64 0, .bool false, .int .u64 0, .int .u64 0, .int .i64 0, .int .i64 0, .int .i64 0] rfl ((((((((S2.ho.set_ 0 _).set_ 1 _).set_ 2 _).set_ 3 _).set_ 4 _).set_ 5 _).set_ 6 _)) rfl) rfl ?_
          exact ⟨((((((S2.below.setCell S2.l1 _).setCell S2.l1 _).setCell S2.l1 _).setCell S2.l1 _).setCell S2.l1 _).setCell S2.l1 _).setCell S2.l1 _, .inl ⟨by rw [hk]; exact hs, rfl⟩⟩
        · have hw1 : (8 : Int) ≤ (ys.length : Int) := by omega
          have hw2 : decide ((ys.length : Int) < 8) = false := decide_eq_false (by omega)
          have hw3 : 8 ≤ ys.length := by omega
          have hw4 : 8 ≤ cq := by have := V.cap; omega
          have hsp : sp' = none := SP' (by omega)
          subst hsp
          rw [show width 65 = 8 from rfl, if_neg hw] at hs
          go_wp2_with fail
          go_loopw [53] (fun v53 wr => ∃ (j : Nat), j ≤ 8 ∧ v53 = .int .i64 (j : Int) ∧ St w w.heap.size (w.heap.size + 1) (w.heap.size + 1 + 1) #[.int .i64 0, .bool false, .int .u64 0, .int .u64 0, .int .i64 0, .int .i64 0, .int .i64 0] (Five.arr k u ({ f with a := many f.a (ys.take j) })) (pt k) (pos + 1) wr) (fun v53 wr => (8 - intOf v53).toNat)
          case atStart => exact ⟨0, by omega, rfl, S2⟩
          case round =>
            obtain ⟨j, hj, rfl, S3⟩ := hrel
            clear S2
            by_cases hj8 : j < 8
            · obtain ⟨y, hy, hy0, hy1, hcell⟩ := V.at S3.below (j := j) (by omega)
              have hlt8 : decide ((j : Int) < 8) = true := decide_eq_true (by omega)
              have c1 : wr.cell? ⟨w.heap.size + 1, 2, none⟩ = some (.int .u64 (many f.a (ys.take j))) := S3.hb.cell 2
              have c3 := S3.hb.frozen 2
              have ht : ys.take (j + 1) = ys.take j ++ [y] := by rw [List.take_add_one, hy]; rfl
              go_wp2_with fail
              go_roundw
              case rel => exact ⟨j + 1, by omega, rfl, by rw [ht, many_snoc, ← or8 _ y hy0 hy1]; exact S3.put 2 _⟩
              case measure => simp [intOf]; omega
            · have hj9 : j = 8 := by omega
              subst hj9
              go_wp2_with fail
              obtain ⟨o2, ho2, V2⟩ := V.cut 8 hw3
              rw [ho2]
              go_roundw
              case rel => exact ⟨pos + 1, _, ys.drop 8, o2, cq - 8, none, hp, by rw [List.length_drop], fun _ => rfl, ⟨hs.symm⟩, V2, S3⟩
              case measure => rw [iterPos_of S3.hi, hpos0]; omega
      · rw [h] at hnx hs
        go_wp2_with fail
        refine (part_St (part_V _ _) S1).mono ?_; rintro e w' ⟨rfl, S2⟩
        clear S1
        by_cases hw : ys.length < 8
        · have hw1 : (8 : Int) > (ys.length : Int) := by omega
          have hw2 : decide ((ys.length : Int) < 8) = true := decide_eq_true hw1
          rw [show width 86 = 8 from rfl, if_pos hw] at hs
          have o0 : w'.cell? ⟨w.heap.size, 0, none⟩ = some _ := S2.ho.cell 0
          have z0 := S2.ho.frozen 0
          have o1 : w'.cell? ⟨w.heap.size, 1, none⟩ = some _ := S2.ho.cell 1
          have z1 := S2.ho.frozen 1
          have o2 : w'.cell? ⟨w.heap.size, 2, none⟩ = some _ := S2.ho.cell 2
          have z2 := S2.ho.frozen 2
          have o3 : w'.cell? ⟨w.heap.size, 3, none⟩ = some _ := S2.ho.cell 3
          have z3 := S2.ho.frozen 3
          have o4 : w'.cell? ⟨w.heap.size, 4, none⟩ = some _ := S2.ho.cell 4
          have z4 := S2.ho.frozen 4
          have o5 : w'.cell? ⟨w.heap.size, 5, none⟩ = some _ := S2.ho.cell 5
          have z5 := S2.ho.frozen 5
          have o6 : w'.cell? ⟨w.heap.size, 6, none⟩ = some _ := S2.ho.cell 6
          have z6 := S2.ho.frozen 6
          go_wp2_with fail
          refine bodyPost_ret (results_get _ _ w.heap.size #[.int .i64 0, .bool false, .int .u64 0, .int .u64 0, .int .i64 0, .int .i64 0, .int .i64 0] rfl ((((((((S2.ho.set_ 0 _).set_ 1 _).set_ 2 _).set_ 3 _).set_ 4 _).set_ 5 _).set_ 6 _)) rfl) rfl ?_
          exact ⟨((((((S2.below.setCell S2.l1 _).setCell S2.l1 _).setCell S2.l1 _).setCell S2.l1 _).setCell S2.l1 _).setCell S2.l1 _).setCell S2.l1 _, .inl ⟨by rw [hk]; exact hs, rfl⟩⟩
        · have hw1 : (8 : Int) ≤ (ys.length : Int) := by omega
          have hw2 : decide ((ys.length : Int) < 8) = false := decide_eq_false (by omega)
          have hw3 : 8 ≤ ys.length := by omega
          have hw4 : 8 ≤ cq := by have := V.cap; omega
          have hsp : sp' = none := SP' (by omega)
          subst hsp
          rw [show width 86 = 8 from rfl, if_neg hw] at hs
          go_wp2_with fail
          go_loopw [53] (fun v53 wr => ∃ (j : Nat), j ≤ 8 ∧ v53 = .int .i64 (j : Int) ∧ St w w.heap.size (w.heap.size + 1) (w.heap.size + 1 + 1) #[.int .i64 0, .bool false, .int .u64 0, .int .u64 0, .int .i64 0, .int .i64 0, .int .i64 0] (Five.arr k u ({ f with v := many f.v (ys.take j) })) (pt k) (pos + 1) wr) (fun v53 wr => (8 - intOf v53).toNat)
          case atStart => exact ⟨0, by omega, rfl, S2⟩
          case round =>
            obtain ⟨j, hj, rfl, S3⟩ := hrel
            clear S2
            by_cases hj8 : j < 8
            · obtain ⟨y, hy, hy0, hy1, hcell⟩ := V.at S3.below (j := j) (by omega)
              have hlt8 : decide ((j : Int) < 8) = true := decide_eq_true (by omega)
              have c1 : wr.cell? ⟨w.heap.size + 1, 3, none⟩ = some (.int .u64 (many f.v (ys.take j))) := S3.hb.cell 3
              have c3 := S3.hb.frozen 3
              have ht : ys.take (j + 1) = ys.take j ++ [y] := by rw [List.take_add_one, hy]; rfl
              go_wp2_with fail
              go_roundw
              case rel => exact ⟨j + 1, by omega, rfl, by rw [ht, many_snoc, ← or8 _ y hy0 hy1]; exact S3.put 3 _⟩
              case measure => simp [intOf]; omega
            · have hj9 : j = 8 := by omega
              subst hj9
              go_wp2_with fail
              obtain ⟨o2, ho2, V2⟩ := V.cut 8 hw3
              rw [ho2]
              go_roundw
              case rel => exact ⟨pos + 1, _, ys.drop 8, o2, cq - 8, none, hp, by rw [List.length_drop], fun _ => rfl, ⟨hs.symm⟩, V2, S3⟩
              case measure => rw [iterPos_of S3.hi, hpos0]; omega
      · rw [h] at hnx hs
        go_wp2_with fail
        refine (part_St (part_G _ _) S1).mono ?_; rintro e w' ⟨rfl, S2⟩
        clear S1
        by_cases hw : ys.length < 1
        · have hw1 : (1 : Int) > (ys.length : Int) := by omega
          have hw2 : decide ((ys.length : Int) < 1) = true := decide_eq_true hw1
          rw [show width 71 = 1 from rfl, if_pos hw] at hs
          have o0 : w'.cell? ⟨w.heap.size, 0, none⟩ = some _ := S2.ho.cell 0
          have z0 := S2.ho.frozen 0
          have o1 : w'.cell? ⟨w.heap.size, 1, none⟩ = some _ := S2.ho.cell 1
          have z1 := S2.ho.frozen 1
          have o2 : w'.cell? ⟨w.heap.size, 2, none⟩ = some _ := S2.ho.cell 2
          have z2 := S2.ho.frozen 2
          have o3 : w'.cell? ⟨w.heap.size, 3, none⟩ = some _ := S2.ho.cell 3
          have z3 := S2.ho.frozen 3
          have o4 : w'.cell? ⟨w.heap.size, 4, none⟩ = some _ := S2.ho.cell 4
          have z4 := S2.ho.frozen 4
          have o5 : w'.cell? ⟨w.heap.size, 5, none⟩ = some _ := S2.ho.cell 5
          have z5 := S2.ho.frozen 5
          have o6 : w'.cell? ⟨w.heap.size, 6, none⟩ = some _ := S2.ho.cell 6
          have z6 := S2.ho.frozen 6
          go_wp2_with fail
          refine bodyPost_ret (results_get _ _ w.heap.size #[.int .i64 0, .bool false, .int .u64 0, .int .u64 0, .int .i64 0, .int .i64 0, .int .i64 0] rfl ((((((((S2.ho.set_ 0 _).set_ 1 _).set_ 2 _).set_ 3 _).set_ 4 _).set_ 5 _).set_ 6 _)) rfl) rfl ?_
          exact ⟨((((((S2.below.setCell S2.l1 _).setCell S2.l1 _).setCell S2.l1 _).setCell S2.l1 _).setCell S2.l1 _).setCell S2.l1 _).setCell S2.l1 _, .inl ⟨by rw [hk]; exact hs, rfl⟩⟩
        · have hw1 : (1 : Int) ≤ (ys.length : Int) := by omega
          have hw2 : decide ((ys.length : Int) < 1) = false := decide_eq_false (by omega)
          have hw3 : 1 ≤ ys.length := by omega
          have hw4 : 1 ≤ cq := by have := V.cap; omega
          have hsp : sp' = none := SP' (by omega)
          subst hsp
          rw [show width 71 = 1 from rfl, if_neg hw] at hs
          go_wp2_with fail
          go_loopw [53] (fun v53 wr => ∃ (j : Nat), j ≤ 1 ∧ v53 = .int .i64 (j : Int) ∧ St w w.heap.size (w.heap.size + 1) (w.heap.size + 1 + 1) #[.int .i64 0, .bool false, .int .u64 0, .int .u64 0, .int .i64 0, .int .i64 0, .int .i64 0] (Five.arr k u (if j = 0 then f else { f with g := ys.headD 0 })) (pt k) (pos + 1) wr) (fun v53 wr => (8 - intOf v53).toNat)
          case atStart => exact ⟨0, by omega, rfl, S2⟩
          case round =>
            obtain ⟨j, hj, rfl, S3⟩ := hrel
            clear S2
            by_cases hj8 : j < 1
            · have hj0 : j = 0 := by omega
              subst hj0
              obtain ⟨y, hy, hy0, hy1, hcell⟩ := V.at S3.below (j := 0) (by omega)
              have hcell2 : wr.cell? ⟨blk, o', none⟩ = some (.int .u8 y) := hcell
              have hyh : ys.headD 0 = y := by cases ys with | nil => cases hy | cons a t => exact Option.some.inj hy
              rw [if_pos rfl] at S3
              have c1 : wr.cell? ⟨w.heap.size + 1, 4, none⟩ = some (.int .i64 f.g) := S3.hb.cell 4
              have c3 := S3.hb.frozen 4
              have hyw : IntKind.i64.wrap y = y := by rw [IntKind.wrap_i64]; omega
              go_wp2_with fail
              go_roundw
              case rel => exact ⟨1, by omega, rfl, by rw [if_neg (by decide), hyh]; exact S3.put 4 _⟩
              case measure => simp [intOf]
            · have hj9 : j = 1 := by omega
              subst hj9
              rw [if_neg (by decide)] at S3
              go_wp2_with fail
              obtain ⟨o2, ho2, V2⟩ := V.cut 1 hw3
              rw [ho2]
              go_roundw
              case rel => exact ⟨pos + 1, _, ys.drop 1, o2, cq - 1, none, hp, by rw [List.length_drop], fun _ => rfl, ⟨hs.symm⟩, V2, S3⟩
              case measure => rw [iterPos_of S3.hi, hpos0]; omega
      · rw [h] at hnx hs
        go_wp2_with fail
        refine (part_St (part_I _ _) S1).mono ?_; rintro e w' ⟨rfl, S2⟩
        clear S1
        by_cases hw : ys.length < 1
        · have hw1 : (1 : Int) > (ys.length : Int) := by omega
          have hw2 : decide ((ys.length : Int) < 1) = true := decide_eq_true hw1
          rw [show width 73 = 1 from rfl, if_pos hw] at hs
          have o0 : w'.cell? ⟨w.heap.size, 0, none⟩ = some _ := S2.ho.cell 0
          have z0 := S2.ho.frozen 0
          have o1 : w'.cell? ⟨w.heap.size, 1, none⟩ = some _ := S2.ho.cell 1
          have z1 := S2.ho.frozen 1
          have o2 : w'.cell? ⟨w.heap.size, 2, none⟩ = some _ := S2.ho.cell 2
          have z2 := S2.ho.frozen 2
          have o3 : w'.cell? ⟨w.heap.size, 3, none⟩ = some _ := S2.ho.cell 3
          have z3 := S2.ho.frozen 3
          have o4 : w'.cell? ⟨w.heap.size, 4, none⟩ = some _ := S2.ho.cell 4
          have z4 := S2.ho.frozen 4
          have o5 : w'.cell? ⟨w.heap.size, 5, none⟩ = some _ := S2.ho.cell 5
          have z5 := S2.ho.frozen 5
          have o6 : w'.cell? ⟨w.heap.size, 6, none⟩ = some _ := S2.ho.cell 6
          have z6 := S2.ho.frozen 6
          go_wp2_with fail
          refine bodyPost_ret (results_get _ _ w.heap.size #[.int .i64 0, .bool false, .int .u64 0, .int .u64 0, .int .i64 0, .int .i64 0, .int .i64 0] rfl ((((((((S2.ho.set_ 0 _).set_ 1 _).set_ 2 _).set_ 3 _).set_ 4 _).set_ 5 _).set_ 6 _)) rfl) rfl ?_
          exact ⟨((((((S2.below.setCell S2.l1 _).setCell S2.l1 _).setCell S2.l1 _).setCell S2.l1 _).setCell S2.l1 _).setCell S2.l1 _).setCell S2.l1 _, .inl ⟨by rw [hk]; exact hs, rfl⟩⟩
        · have hw1 : (1 : Int) ≤ (ys.length : Int) := by omega
          have hw2 : decide ((ys.length : Int) < 1) = false := decide_eq_false (by omega)
          have hw3 : 1 ≤ ys.length := by omega
          have hw4 : 1 ≤ cq := by have := V.cap; omega
          have hsp : sp' = none := SP' (by omega)
          subst hsp
          rw [show width 73 = 1 from rfl, if_neg hw] at hs
          go_wp2_with fail
          go_loopw [53] (fun v53 wr => ∃ (j : Nat), j ≤ 1 ∧ v53 = .int .i64 (j : Int) ∧ St w w.heap.size (w.heap.size + 1) (w.heap.size + 1 + 1) #[.int .i64 0, .bool false, .int .u64 0, .int .u64 0, .int .i64 0, .int .i64 0, .int .i64 0] (Five.arr k u (if j = 0 then f else { f with i := ys.headD 0 })) (pt k) (pos + 1) wr) (fun v53 wr => (8 - intOf v53).toNat)
          case atStart => exact ⟨0, by omega, rfl, S2⟩
          case round =>
            obtain ⟨j, hj, rfl, S3⟩ := hrel
            clear S2
            by_cases hj8 : j < 1
            · have hj0 : j = 0 := by omega
              subst hj0
              obtain ⟨y, hy, hy0, hy1, hcell⟩ := V.at S3.below (j := 0) (by omega)
              have hcell2 : wr.cell? ⟨blk, o', none⟩ = some (.int .u8 y) := hcell
              have hyh : ys.headD 0 = y := by cases ys with | nil => cases hy | cons a t => exact Option.some.inj hy
              rw [if_pos rfl] at S3
              have c1 : wr.cell? ⟨w.heap.size + 1, 5, none⟩ = some (.int .i64 f.i) := S3.hb.cell 5
              have c3 := S3.hb.frozen 5
              have hyw : IntKind.i64.wrap y = y := by rw [IntKind.wrap_i64]; omega
              go_wp2_with fail
              go_roundw
              case rel => exact ⟨1, by omega, rfl, by rw [if_neg (by decide), hyh]; exact S3.put 5 _⟩
              case measure => simp [intOf]
            · have hj9 : j = 1 := by omega
              subst hj9
              rw [if_neg (by decide)] at S3
              go_wp2_with fail
              obtain ⟨o2, ho2, V2⟩ := V.cut 1 hw3
              rw [ho2]
              go_roundw
              case rel => exact ⟨pos + 1, _, ys.drop 1, o2, cq - 1, none, hp, by rw [List.length_drop], fun _ => rfl, ⟨hs.symm⟩, V2, S3⟩
              case measure => rw [iterPos_of S3.hi, hpos0]; omega
      · rw [h] at hnx hs
        go_wp2_with fail
        refine (part_St (part_N _ _) S1).mono ?_; rintro e w' ⟨rfl, S2⟩
        clear S1
        by_cases hw : ys.length < 1
        · have hw1 : (1 : Int) > (ys.length : Int) := by omega
          have hw2 : decide ((ys.length : Int) < 1) = true := decide_eq_true hw1
          rw [show width 78 = 1 from rfl, if_pos hw] at hs
          have o0 : w'.cell? ⟨w.heap.size, 0, none⟩ = some _ := S2.ho.cell 0
          have z0 := S2.ho.frozen 0
          have o1 : w'.cell? ⟨w.heap.size, 1, none⟩ = some _ := S2.ho.cell 1
          have z1 := S2.ho.frozen 1
          have o2 : w'.cell? ⟨w.heap.size, 2, none⟩ = some _ := S2.ho.cell 2
          have z2 := S2.ho.frozen 2
          have o3 : w'.cell? ⟨w.heap.size, 3, none⟩ = some _ := S2.ho.cell 3
          have z3 := S2.ho.frozen 3
          have o4 : w'.cell? ⟨w.heap.size, 4, none⟩ = some _ := S2.ho.cell 4
          have z4 := S2.ho.frozen 4
          have o5 : w'.cell? ⟨w.heap.size, 5, none⟩ = some _ := S2.ho.cell 5
          have z5 := S2.ho.frozen 5
          have o6 : w'.cell? ⟨w.heap.size, 6, none⟩ = some _ := S2.ho.cell 6
          have z6 := S2.ho.frozen 6
          go_wp2_with fail
          refine bodyPost_ret (results_get _ _ w.heap.size #[.int .i64 0, .bool false, .int .u64 0, .int .u64 0, .int .i64 0, .int .i64 0, .int .i64 0] rfl ((((((((S2.ho.set_ 0 _).set_ 1 _).set_ 2 _).set_ 3 _).set_ 4 _).set_ 5 _).set_ 6 _)) rfl) rfl ?_
          exact ⟨((((((S2.below.setCell S2.l1 _).setCell S2.l1 _).setCell S2.l1 _).setCell S2.l1 _).setCell S2.l1 _).setCell S2.l1 _).setCell S2.l1 _, .inl ⟨by rw [hk]; exact hs, rfl⟩⟩
        · have hw1 : (1 : Int) ≤ (ys.length : Int) := by omega
          have hw2 : decide ((ys.length : Int) < 1) = false := decide_eq_false (by omega)
          have hw3 : 1 ≤ ys.length := by omega
          have hw4 : 1 ≤ cq := by have := V.cap; omega
          have hsp : sp' = none := SP' (by omega)
          subst hsp
          rw [show width 78 = 1 from rfl, if_neg hw] at hs
          go_wp2_with fail
          go_loopw [53] (fun v53 wr => ∃ (j : Nat), j ≤ 1 ∧ v53 = .int .i64 (j : Int) ∧ St w w.heap.size (w.heap.size + 1) (w.heap.size + 1 + 1) #[.int .i64 0, .bool false, .int .u64 0, .int .u64 0, .int .i64 0, .int .i64 0, .int .i64 0] (Five.arr k u (if j = 0 then f else { f with n := ys.headD 0 })) (pt k) (pos + 1) wr) (fun v53 wr => (8 - intOf v53).toNat)
          case atStart => exact ⟨0, by omega, rfl, S2⟩
          case round =>
            obtain ⟨j, hj, rfl, S3⟩ := hrel
            clear S2
            by_cases hj8 : j < 1
            · have hj0 : j = 0 := by omega
              subst hj0
              obtain ⟨y, hy, hy0, hy1, hcell⟩ := V.at S3.below (j := 0) (by omega)
              have hcell2 : wr.cell? ⟨blk, o', none⟩ = some (.int .u8 y) := hcell
              have hyh : ys.headD 0 = y := by cases ys with | nil => cases hy | cons a t => exact Option.some.inj hy
              rw [if_pos rfl] at S3
              have c1 : wr.cell? ⟨w.heap.size + 1, 6, none⟩ = some (.int .i64 f.n) := S3.hb.cell 6
              have c3 := S3.hb.frozen 6
              have hyw : IntKind.i64.wrap y = y := by rw [IntKind.wrap_i64]; omega
              go_wp2_with fail
              go_roundw
              case rel => exact ⟨1, by omega, rfl, by rw [if_neg (by decide), hyh]; exact S3.put 6 _⟩
              case measure => simp [intOf]
            · have hj9 : j = 1 := by omega
              subst hj9
              rw [if_neg (by decide)] at S3
              go_wp2_with fail
              obtain ⟨o2, ho2, V2⟩ := V.cut 1 hw3
              rw [ho2]
              go_roundw
              case rel => exact ⟨pos + 1, _, ys.drop 1, o2, cq - 1, none, hp, by rw [List.length_drop], fun _ => rfl, ⟨hs.symm⟩, V2, S3⟩
              case measure => rw [iterPos_of S3.hi, hpos0]; omega
    · have hnx : ∀ ty, (Instr.next (.pointer (some ⟨w.heap.size + 1 + 1, 0, none⟩)) true ty).run Try.prog wr = _ := fun ty => Lib.run_next_end_at wr (w.heap.size + 1 + 1) (pt k) pos ty S'.hi hp
      rw [show (letters k).drop pos = [] from List.drop_of_length_le (by rw [← pt_size]; omega)] at HR
      have b0 : wr.cell? ⟨w.heap.size + 1, 0, none⟩ = some (.int .i64 k) := S'.hb.cell 0
      have b1 : wr.cell? ⟨w.heap.size + 1, 1, none⟩ = some (.bool u) := S'.hb.cell 1
      have b2 : wr.cell? ⟨w.heap.size + 1, 2, none⟩ = some (.int .u64 f.a) := S'.hb.cell 2
      have b3 : wr.cell? ⟨w.heap.size + 1, 3, none⟩ = some (.int .u64 f.v) := S'.hb.cell 3
      have b4 : wr.cell? ⟨w.heap.size + 1, 4, none⟩ = some (.int .i64 f.g) := S'.hb.cell 4
      have b5 : wr.cell? ⟨w.heap.size + 1, 5, none⟩ = some (.int .i64 f.i) := S'.hb.cell 5
      have b6 : wr.cell? ⟨w.heap.size + 1, 6, none⟩ = some (.int .i64 f.n) := S'.hb.cell 6
      have o0 : wr.cell? ⟨w.heap.size, 0, none⟩ = some (.int .i64 0) := S'.ho.cell 0
      have z0 := S'.ho.frozen 0
      have o1 : wr.cell? ⟨w.heap.size, 1, none⟩ = some (.bool false) := S'.ho.cell 1
      have z1 := S'.ho.frozen 1
      have o2 : wr.cell? ⟨w.heap.size, 2, none⟩ = some (.int .u64 0) := S'.ho.cell 2
      have z2 := S'.ho.frozen 2
      have o3 : wr.cell? ⟨w.heap.size, 3, none⟩ = some (.int .u64 0) := S'.ho.cell 3
      have z3 := S'.ho.frozen 3
      have o4 : wr.cell? ⟨w.heap.size, 4, none⟩ = some (.int .i64 0) := S'.ho.cell 4
      have z4 := S'.ho.frozen 4
      have o5 : wr.cell? ⟨w.heap.size, 5, none⟩ = some (.int .i64 0) := S'.ho.cell 5
      have z5 := S'.ho.frozen 5
      have o6 : wr.cell? ⟨w.heap.size, 6, none⟩ = some (.int .i64 0) := S'.ho.cell 6
      have z6 := S'.ho.frozen 6
      go_wp2_with fail
      go_region_with (first | (go_at_call 13; refine (right_any _ _ _ _ _ _ _ _).mono ?_; rintro e w' ⟨rfl, hb⟩; have kb0 := keepC hb b0; have kb1 := keepC hb b1; have kb2 := keepC hb b2; have kb3 := keepC hb b3; have kb4 := keepC hb b4; have kb5 := keepC hb b5; have kb6 := keepC hb b6; have ko0 := keepC hb o0; have ko1 := keepC hb o1; have ko2 := keepC hb o2; have ko3 := keepC hb o3; have ko4 := keepC hb o4; have ko5 := keepC hb o5; have ko6 := keepC hb o6; have kz0 := keepF hb S'.ho.lt z0; have kz1 := keepF hb S'.ho.lt z1; have kz2 := keepF hb S'.ho.lt z2; have kz3 := keepF hb S'.ho.lt z3; have kz4 := keepF hb S'.ho.lt z4; have kz5 := keepF hb S'.ho.lt z5; have kz6 := keepF hb S'.ho.lt z6))
      all_goals have hblk : Blk w' w.heap.size 31 _ := Blk.below_ (w := wr.drew) S'.ho.drew hb
      all_goals have hbel : Below w.heap.size w w' := Blks.below_then (w1 := wr.drew) S'.below.drew S'.below.size hb
      all_goals go_wp2_with fail
      all_goals refine bodyPost_ret (results_get _ _ w.heap.size (Five.arr k u f) rfl ((((((((hblk.set_ 0 _).set_ 1 _).set_ 2 _).set_ 3 _).set_ 4 _).set_ 5 _).set_ 6 _)) rfl) rfl ?_
      all_goals exact ⟨((((((hbel.setCell (Nat.le_refl _) _).setCell (Nat.le_refl _) _).setCell (Nat.le_refl _) _).setCell (Nat.le_refl _) _).setCell (Nat.le_refl _) _).setCell (Nat.le_refl _) _).setCell (Nat.le_refl _) _, .inr ⟨f, ys, o', cq, sp', by rw [hk]; exact HR.symm, V, SP', by rw [hk, hu]; rfl⟩⟩
theorem get_any (blk off c : Nat) (sp : Option Nat) (x : Int) (xs : List Int) (w : World) (hx0 : 0 ≤ x) (hx1 : x < 256) (hc0 : w.cell? ⟨blk, off, sp⟩ = some (.int .u8 x)) (V0 : c ≠ 1 → View w blk (off + 1) xs (c - 1)) (hcap : xs.length + 1 ≤ c) :
    Calls Try.prog 18 #[.slice (some ⟨blk, off, sp⟩) (xs.length + 1) c] w fun e w' => Below w.heap.size w w' ∧
      ((readAll (letters (x % 128)) five0 xs = none ∧ e = .returned (.tuple #[.agg #[.int .i64 0, .bool false, .int .u64 0, .int .u64 0, .int .i64 0, .int .i64 0, .int .i64 0], .slice none 0 0, .bool false])) ∨
       (∃ f ys o' cq sp', readAll (letters (x % 128)) five0 xs = some (f, ys) ∧ View w blk o' ys cq ∧ (0 < ys.length → sp' = none) ∧ e = .returned (.tuple #[.agg (f.arr (x % 128) (decide (128 ≤ x))), .slice (some ⟨blk, o', sp'⟩) ys.length cq, .bool (rightB (x % 128) (decide (128 ≤ x)) f.a f.v f.g f.i f.n)]))) := by
  by_cases hc : c = 1
  · subst hc
    cases xs with
    | nil => exact get_one blk off sp x w hx0 hx1 hc0 (World.block_lt_of_cell? w _ hc0)
    | cons a t => simp only [List.length_cons] at hcap; omega
  · exact get_more blk off c sp x xs hc w hx0 hx1 hc0 (by omega) (V0 hc)
end Go.Proofs.Ytmifcdmkobammaa.ScriptWalk
