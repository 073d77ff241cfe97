/- Layer 12: script.Get, walked; for every bytes. -/
import Derived.Test.YtmifcdmkobammaaGetL
import Derived.Test.YtmifcdmkobammaaGetW
import Derived.Outline
import Derived.RegionTactic
import Derived.Deep.DeepCutAuto
import Derived.Deep.LoopGhost
namespace Go.Proofs.Ytmifcdmkobammaa.ScriptWalk
open Go.RowKit Go.Proofs.Ytmifcdmkobammaa.Parts Go.Proofs.Ytmifcdmkobammaa.Blks Go.Proofs.YtmifcdmkobammaaW.PrintWords Go.Proofs.YtmifcdmkobammaaW.PrintLast Go.Proofs.YtmifcdmkobammaaW.PrintMore Go.Proofs.Ytmifcdmkobammaa.Q
set_option maxHeartbeats 8000000 in
set_option maxRecDepth 100000 in
theorem Get_any (k : Nat) (A0 : Option Addr) (c0 : Nat) (l0 : List Int) (r1 : List (S31)) (r2 : Int) (r3 : Int) (w : World) (hr0 : Kd.C (Kd.int .u8) w A0 l0.length l0) (hc0 : l0.length ≤ c0) (hb : ∀ y ∈ l0, 0 ≤ y ∧ y < 256) (hl : l0.length ≤ 1000000000) (h : getL l0.length k [] l0 = some (r1, r2, r3)) :
    Calls Try.prog 11 #[.slice A0 l0.length c0] w fun e w' => ∃ v0_ : Value, e = .returned (.tuple #[v0_, .int .i64 r2, .int .i64 r3]) ∧ Kd.R k31 31 w' w.heap.size (fun _ => True) v0_ r1 ∧ Below w.heap.size w w' := by
  have H0 := HV.of_C hr0 hc0 hb
  have A1 := Aside0.mk h
  clear h hr0 hb
  go_enter Try.func11, Try.ntmps11
  go_wp2_with fail
  go_loopg [5, 6] k (fun kq v5 v6 w' => ∃ (out : List S31) (ys : List Int) (A : Option Addr) (cq : Nat), v6 = .slice A ys.length cq ∧ HV w A ys cq ∧ Aside0 (getL l0.length kq out ys = some (r1, r2, r3)) ∧ Aside0 (kq ≤ k) ∧ Aside0 (ys.length ≤ l0.length) ∧ Aside0 (out.length + ys.length ≤ l0.length) ∧ Aside0 (Kd.R k31 31 w' w.heap.size (fun _ => True) v5 out) ∧ Aside0 (Below w.heap.size w w'))
  case atStart => exact ⟨[], l0, A0, c0, rfl, H0, A1, ⟨Nat.le_refl _⟩, ⟨Nat.le_refl _⟩, ⟨by simp⟩, ⟨Kd.R_nil _ _ _ _ _⟩, ⟨Below.refl _ _⟩⟩
  case round =>
    clear A1 H0
    obtain ⟨out, ys, A, cq, rfl, HVv, HA, HK, HL, HLo, HO, HB⟩ := hrel
    cases gk with
    | zero => exact absurd HA.out (by simp [getL])
    | succ k1 =>
      cases ys with
      | nil =>
        have H := HA.out
        clear HA
        simp only [getL, Option.some.injEq, Prod.mk.injEq] at H
        obtain ⟨rfl, rfl, rfl⟩ := H
        go_wp2_with fail
        go_ret3
        exact ⟨_, rfl, HO.out, HB.out⟩
      | cons x xs =>
        obtain ⟨blk, off, sp, rfl, hx0, hx1, hcx, hV⟩ := HVv.2 x xs rfl
        have hcap : xs.length + 1 ≤ cq := HVv.1
        rw [List.length_cons]
        have hn2 : (0 : Int) < (xs.length : Int) + 1 := by omega
        have hn1 : (0 : Int) < ((xs.length + 1 : Nat) : Int) := by omega
        have hbig : xs.length + 1 ≤ l0.length := HL.out
        clear HVv
        go_wp2_with fail
        have hblk : blk < w.heap.size := World.block_lt_of_cell? w _ hcx
        refine (get_any blk off cq sp x xs wr hx0 hx1 (keepC HB.out hcx) (fun hn => (hV hn).below HB.out) hcap).mono ?_
        rintro e w' ⟨hb, (⟨hn, rfl⟩ | ⟨f, ys2, o2, cq2, sp2, hf, V2, SP2, rfl⟩)⟩
        · have H := HA.out
          clear HA
          simp only [getL, hn, Option.some.injEq, Prod.mk.injEq] at H
          obtain ⟨rfl, rfl, rfl⟩ := H
          go_wp2_with fail
          go_ret3
          exact ⟨_, rfl, Kd.R_alloc (Kd.R_below HO.out hb) _, (Blks.below_then HB.out HB.out.size hb).alloc (Nat.le_trans HB.out.size hb.size) _⟩
        · have HW : Below w.heap.size w w' := Blks.below_then HB.out HB.out.size hb
          have HO2 := Kd.R_below HO.out hb
          have HV2 := HV.of_view (V2.back HB.out hblk) SP2
          have hylen := readAll_len _ _ _ _ _ hf
          have H := HA.out
          clear HA HO HB V2
          simp only [getL, hf] at H
          have hrr : right31 (mk31 x f) = rightB (x % 128) (decide (128 ≤ x)) f.a f.v f.g f.i f.n := rfl
          rw [hrr] at H
          unfold Five.arr
          cases hr : rightB (x % 128) (decide (128 ≤ x)) f.a f.v f.g f.i f.n with
          | false =>
            rw [hr] at H
            simp only [Bool.false_eq_true, if_false, Option.some.injEq, Prod.mk.injEq] at H
            obtain ⟨rfl, rfl, rfl⟩ := H
            generalize x % 128 = kk at *
            generalize decide (128 ≤ x) = uu at *
            go_wp2_with fail
            go_ret3
            exact ⟨_, rfl, Kd.R_alloc HO2 _, HW.alloc HW.size _⟩
          | true =>
            rw [hr, if_pos rfl] at H
            have hmk : mk31 x f = ⟨x % 128, decide (128 ≤ x), f.a, f.v, f.g, f.i, f.n⟩ := rfl
            rw [hmk] at H
            clear hmk hrr hf
            generalize x % 128 = kk at *
            generalize decide (128 ≤ x) = uu at *
            have HA1 := Aside0.mk H
            clear H
            go_upto_region 7 with (fail)
            have BK := Blk.new w' 31 #[.int .i64 kk, .bool uu, .int .u64 f.a, .int .u64 f.v, .int .i64 f.g, .int .i64 f.i, .int .i64 f.n]
            have HB1 := HW.alloc HW.size (.cells #[.int .i64 kk, .bool uu, .int .u64 f.a, .int .u64 f.v, .int .i64 f.g, .int .i64 f.i, .int .i64 f.n] 31)
            have HO1 := Kd.R_alloc HO2 (.cells #[.int .i64 kk, .bool uu, .int .u64 f.a, .int .u64 f.v, .int .i64 f.g, .int .i64 f.i, .int .i64 f.n] 31)
            generalize w'.alloc (.cells #[.int .i64 kk, .bool uu, .int .u64 f.a, .int .u64 f.v, .int .i64 f.g, .int .i64 f.i, .int .i64 f.n] 31) = W1 at *
            have b0 : W1.cell? ⟨w'.heap.size, 0, none⟩ = some (.int .i64 kk) := BK.cell 0
            have b1 : W1.cell? ⟨w'.heap.size, 1, none⟩ = some (.bool uu) := BK.cell 1
            have b2 : W1.cell? ⟨w'.heap.size, 2, none⟩ = some (.int .u64 f.a) := BK.cell 2
            have b3 : W1.cell? ⟨w'.heap.size, 3, none⟩ = some (.int .u64 f.v) := BK.cell 3
            have b4 : W1.cell? ⟨w'.heap.size, 4, none⟩ = some (.int .i64 f.g) := BK.cell 4
            have b5 : W1.cell? ⟨w'.heap.size, 5, none⟩ = some (.int .i64 f.i) := BK.cell 5
            have b6 : W1.cell? ⟨w'.heap.size, 6, none⟩ = some (.int .i64 f.n) := BK.cell 6
            have hlen : out.length + 1 ≤ 1000000000 := by have := HLo.out; simp only [List.length_cons] at this; omega
            go_wp2_with ((with_reducible refine gate_builtin (b := .append) (xs := #[.tmp 28, .tmp 30]) rfl ?_); at_builtin; refine Kd.R_append k31 (w0 := w) w.heap.size rfl (.tmp 28) (.tmp 30) 22 31 (.agg #[(.int .i64 0), (.bool false), (.int .u64 0), (.int .u64 0), (.int .i64 0), (.int .i64 0), (.int .i64 0)]) 56 rfl Try.underlying22 info31 rfl (by decide) (by omega) u5 out (⟨kk, uu, f.a, f.v, f.g, f.i, f.n⟩ : S31) [.int .i64 kk, .bool uu, .int .u64 f.a, .int .u64 f.v, .int .i64 f.g, .int .i64 f.i, .int .i64 f.n] (fun _ => True) (fun _ => False) rfl rfl ?aP (fun _ hk => hk.elim) ?aF ?aO ?aB ?aS ?aL ?_; (case aP => exact k31_mkM _ _ _ (⟨kk, uu, f.a, f.v, f.g, f.i, f.n⟩ : S31)); (case aB => exact HB1); (case aF => exact (fun _ _ => trivial)); (case aO => exact HO1); (case aS => exact HB1.size); (case aL => omega); intro v111 w6 ho hb6 hg hat)
            clear HB1 HO1 BK hg hat
            go_roundg k1
            case measure => have := HK.out; omega
            case rel => exact ⟨_, ys2, _, cq2, rfl, HV2, HA1, ⟨by have := HK.out; omega⟩, ⟨by omega⟩, ⟨by have := HLo.out; simp only [List.length_cons, List.length_append, List.length_nil] at this ⊢; omega⟩, ⟨ho⟩, ⟨hb6⟩⟩
/-- script.Get of bytes. -/
def script_Get.f (k : Nat) (l0 : List Int) : Option (List S31 × Int × Int) := if (∀ y ∈ l0, 0 ≤ y ∧ y < 256) ∧ l0.length ≤ 1000000000 then getL l0.length k [] l0 else none
theorem script_Get.mono : ∀ l0 k, LeO (script_Get.f k l0) (script_Get.f (k + 1) l0) := by
  intro l0 k
  unfold script_Get.f
  exact LeO.ite (getL_mono _ _ _ _) (LeO.refl _)
theorem script_Get.calls (k : Nat) (A0 : Option Addr) (c0 : Nat) (l0 : List Int) (r1 : List (S31)) (r2 : Int) (r3 : Int) (w : World) (hr0 : Kd.C (Kd.int .u8) w A0 l0.length l0) (hc0 : l0.length ≤ c0) (h : script_Get.f k l0 = some (r1, r2, r3)) :
    Calls Try.prog 11 #[.slice A0 l0.length c0] w fun e w' => ∃ v0_ : Value, e = .returned (.tuple #[v0_, .int .i64 r2, .int .i64 r3]) ∧ Kd.R k31 31 w' w.heap.size (fun _ => True) v0_ r1 ∧ Below w.heap.size w w' := by
  unfold script_Get.f at h
  by_cases hc : (∀ y ∈ l0, 0 ≤ y ∧ y < 256) ∧ l0.length ≤ 1000000000
  · rw [if_pos hc] at h
    exact Get_any k A0 c0 l0 r1 r2 r3 w hr0 hc0 hc.1 hc.2 h
  · rw [if_neg hc] at h; cases h
/-- script.Right, in the print's words. -/
def script_Right.f (a0_0 : Int) (a0_1 : Bool) (a0_2 : Int) (a0_3 : Int) (a0_4 : Int) (a0_5 : Int) (a0_6 : Int) : Option Bool := some (rightB a0_0 a0_1 a0_2 a0_3 a0_4 a0_5 a0_6)
theorem script_Right.calls (a0_0 : Int) (a0_1 : Bool) (a0_2 : Int) (a0_3 : Int) (a0_4 : Int) (a0_5 : Int) (a0_6 : Int) (r : Bool) (w : World) (h : script_Right.f a0_0 a0_1 a0_2 a0_3 a0_4 a0_5 a0_6 = some r) :
    Calls Try.prog 13 #[.agg #[.int .i64 a0_0, .bool a0_1, .int .u64 a0_2, .int .u64 a0_3, .int .i64 a0_4, .int .i64 a0_5, .int .i64 a0_6]] w fun e w' => e = .returned (.bool r) ∧ Below w.heap.size w w' := by
  obtain rfl := Option.some.inj h
  exact right_any a0_0 a0_1 a0_2 a0_3 a0_4 a0_5 a0_6 w
end Go.Proofs.Ytmifcdmkobammaa.ScriptWalk
