/- Layer 18: RootsFew, walked. -/
import Derived.Test.YtbmpclgibimopaaRowW
namespace Go.Proofs.Ytbmpclgibimopaa.Walk
open Go.RowKit Go.Proofs.Ytbmpclgibimopaa.Blks Go.Proofs.YtbmpclgibimopaaW.PrintWords
/-- The place of a number in a list; its length, if it isn't there. -/
def pos (x : Int) : List Int → Nat
  | [] => 0
  | y :: r => if y = x then 0 else pos x r + 1
theorem pos_le (x : Int) (l : List Int) : pos x l ≤ l.length := by
  induction l with
  | nil => exact Nat.le_refl _
  | cons y r ih => unfold pos; split <;> simp <;> omega
theorem pos_mem (x : Int) (l : List Int) : pos x l < l.length ↔ x ∈ l := by
  induction l with
  | nil => simp [pos]
  | cons y r ih =>
    unfold pos
    by_cases h : y = x
    · rw [if_pos h]; simp [h]
    · rw [if_neg h, List.length_cons, List.mem_cons]
      constructor
      · intro hh; exact .inr (ih.1 (by omega))
      · intro hh
        rcases hh with e | e
        · exact absurd e.symm h
        · have := ih.2 e; omega
theorem pos_at (x : Int) (l : List Int) (h : pos x l < l.length) : l[pos x l] = x := by
  induction l with
  | nil => simp at h
  | cons y r ih =>
    unfold pos at h ⊢
    by_cases hy : y = x
    · simp only [hy, if_true]; rfl
    · simp only [hy, if_false] at h ⊢
      rw [List.getElem_cons_succ]
      exact ih (by simpa using h)
theorem pos_uniq (x : Int) (l : List Int) (hd : l.Nodup) (k : Nat) (hk : k < l.length) (e : l[k] = x) : pos x l = k := by
  have hp : pos x l < l.length := (pos_mem x l).2 (by rw [← e]; exact List.getElem_mem hk)
  exact (List.getElem_inj hd).1 ((pos_at x l hp).trans e.symm)
/-- The roots that were seen, each in the space that bears its place. -/
structure Seen (L : Lru) (S : List Int) : Prop where
  nd : S.Nodup
  len : L.length = S.length
  at_ : ∀ p ∈ L, ∃ h : p.2 < S.length, S[p.2] = p.1
  mem : ∀ x, x ∈ S ↔ x ∈ L.map Prod.fst
theorem Seen.nil : Seen [] [] := ⟨List.nodup_nil, rfl, (fun p hp => by cases hp), (fun x => Iff.rfl)⟩
/-- Use of a root that was seen, or of one for which there is a space left. -/
theorem Seen.use {L : Lru} {S : List Int} (h : Seen L S) (x : Int) (N : Nat) (hnd : L.Pairwise (fun a b => a.1 ≠ b.1)) (hN : x ∈ S ∨ S.length < N) : Seen (useL N L x).1 (if x ∈ S then S else S ++ [x]) ∧ (useL N L x).2.1 = pos x S ∧ (useL N L x).2.2 = false := by
  unfold useL
  cases hf : L.find? (fun p => p.1 == x) with
  | some p =>
    have hp := List.mem_of_find?_eq_some hf
    have hx : p.1 = x := by have := List.find?_some hf; simpa using this
    subst hx
    have hin : p.1 ∈ S := (h.mem _).2 (List.mem_map_of_mem hp)
    rw [if_pos hin]
    obtain ⟨h1, h2⟩ := h.at_ p hp
    have hpm := filter_perm L p hnd hp
    refine ⟨⟨h.nd, ?_, fun q hq => ?_, fun y => ?_⟩, (pos_uniq p.1 S h.nd p.2 h1 h2).symm, rfl⟩
    · have := hpm.length_eq
      rw [List.length_cons] at this
      rw [List.length_append, List.length_singleton, ← this, h.len]
    · rcases List.mem_append.1 hq with hq | hq
      · exact h.at_ q (List.mem_filter.1 hq).1
      · rw [List.mem_singleton.1 hq]; exact ⟨h1, h2⟩
    · rw [h.mem y, (hpm.map Prod.fst).mem_iff, List.map_append, List.map_cons, List.mem_cons, List.mem_append]
      simp only [List.map_cons, List.map_nil, List.mem_singleton]
      exact Or.comm
  | none =>
    have hno : ∀ p ∈ L, p.1 ≠ x := fun p hp => by have := List.find?_eq_none.1 hf p hp; simpa using this
    have hout : x ∉ S := fun hin => by
      obtain ⟨p, hp, e⟩ := List.mem_map.1 ((h.mem x).1 hin)
      exact hno p hp e
    have hlt : S.length < N := by
      rcases hN with a | a
      · exact absurd a hout
      · exact a
    have hpos : pos x S = S.length := by
      have h1 := pos_le x S
      have h2 := mt (pos_mem x S).1 hout
      omega
    rw [if_neg hout, hpos]
    dsimp only
    rw [if_pos (by rw [h.len]; exact hlt)]
    refine ⟨⟨?_, ?_, fun q hq => ?_, fun y => ?_⟩, h.len, rfl⟩
    · rw [List.nodup_append]
      exact ⟨h.nd, by simp, fun a ha b hb e => hout (by rw [List.mem_singleton.1 hb] at e; rwa [← e])⟩
    · simp [h.len]
    · rcases List.mem_append.1 hq with hq | hq
      · obtain ⟨h1, h2⟩ := h.at_ q hq
        exact ⟨by rw [List.length_append]; omega, by rw [List.getElem_append_left h1]; exact h2⟩
      · rw [List.mem_singleton.1 hq]
        have hlt2 : L.length < (S ++ [x]).length := by rw [h.len, List.length_append, List.length_singleton]; omega
        refine ⟨hlt2, ?_⟩
        show (S ++ [x])[L.length]'hlt2 = x
        rw [List.getElem_append_right (by rw [h.len]; exact Nat.le_refl _)]
        simp [h.len]
    · rw [List.mem_append, List.map_append, List.mem_append, h.mem y]
      simp
theorem R_only {w w' : World} {g base : Nat} {ok : Nat → Prop} {v : Value} {xs : List Int} {cs : Array Value} (h : Kd.R (Kd.int .i64) 3 w base ok v xs) (hB : w.heap[g]? = some (.cells cs 42 (0, 0))) (ho : Only w w' g) : Kd.R (Kd.int .i64) 3 w' base ok v xs := by
  refine Kd.R_mono (Kd.R_move (Kd.R_bound h) (fun k hk => ?_)) (fun _ hk => hk.1)
  obtain ⟨_, _, hlt, q, hq, cells, hc⟩ := hk
  refine ho.block k hlt ?_
  rintro rfl
  rw [hB] at hc
  have e : q = 42 := by cases hc; rfl
  subst e
  exact absurd hq (by decide)
theorem St.blk {w : World} {g N c : Nat} {L : Lru} (h : St w g N L c) : ∃ cs : Array Value, w.heap[g]? = some (.cells cs 42 (0, 0)) := by
  obtain ⟨s, hB, _⟩ := h; exact ⟨_, hB⟩
theorem St.grown {w w' : World} {g N c : Nat} {L : Lru} {row : Option Nat} (h : St w g N L c) (hg : w.grownBy w' row) (hne : some g ≠ row) : St w' g N L c := by
  obtain ⟨s, hB, h⟩ := h; exact ⟨s, hB.grown hg hne, h⟩
/-- Where the search for a root stands. -/
def atK (x : Int) (S : List Int) (k : Nat) : Nat := if x ∈ S.take k then pos x S else S.length
theorem atK_zero (x : Int) (S : List Int) : atK x S 0 = S.length := by simp [atK]
theorem atK_all (x : Int) (S : List Int) : atK x S S.length = pos x S := by
  unfold atK
  rw [List.take_length]
  by_cases h : x ∈ S
  · rw [if_pos h]
  · rw [if_neg h]
    have h1 := pos_le x S
    have h2 := mt (pos_mem x S).1 h
    omega
theorem atK_hit (x : Int) (S : List Int) (hd : S.Nodup) (k : Nat) (hk : k < S.length) (e : S[k] = x) : atK x S (k + 1) = k := by
  unfold atK
  rw [if_pos (by rw [List.take_succ_eq_append_getElem hk, e]; simp)]
  exact pos_uniq x S hd k hk e
theorem atK_miss (x : Int) (S : List Int) (k : Nat) (hk : k < S.length) (e : S[k] ≠ x) : atK x S (k + 1) = atK x S k := by
  unfold atK
  rw [List.take_succ_eq_append_getElem hk]
  have : x ∈ S.take k ++ [S[k]] ↔ x ∈ S.take k := by
    rw [List.mem_append, List.mem_singleton]
    exact ⟨fun h => h.elim id (fun h => absurd h.symm e), .inl⟩
  by_cases h : x ∈ S.take k
  · rw [if_pos (this.2 h), if_pos h]
  · rw [if_neg (fun hh => h (this.1 hh)), if_neg h]
set_option maxHeartbeats 4000000 in
set_option maxRecDepth 100000 in
theorem few_any (A : Option Addr) (c : Nat) (a : Int) (l : List Int) (w : World) (ha : (Lit.int .u8 a).wf = true) (hC : Kd.C (Kd.int .i64) w A l.length l) :
    Calls Try.prog 6 #[.int .u8 a, .slice A l.length c] w fun e w' => e = .returned (.bool true) ∧ RowKit.Below w.heap.size w w' := by
  have HC := Aside0.mk hC
  obtain ⟨n, hn⟩ : ∃ n, l.length = n := ⟨_, rfl⟩
  have HN := Aside0.mk hn
  rw [hn]
  have ha2 : 0 ≤ a ∧ a < 256 := by simp [Lit.wf, IntKind.min, IntKind.max, IntKind.bits, IntKind.signed] at ha; omega
  obtain ⟨ha0, ha1⟩ := ha2
  obtain ⟨N, hN⟩ : ∃ N : Nat, (N : Int) = 1 + a % 8 := ⟨(1 + a % 8).toNat, by omega⟩
  have hnew : ∀ w : World, Calls Try.prog 10 #[.int .i64 (1 + a % 8)] w fun e w' => e = .returned (.pointer (some ⟨w.heap.size, 0, none⟩)) ∧ St w' w.heap.size N [] 0 ∧ RowKit.Below w.heap.size w w' := fun w => by rw [← hN]; exact new_St N (by omega) (by omega) w
  have HM := Aside0.mk hN
  have HM1 := Aside0.mk (show 1 ≤ N ∧ N ≤ 8 by omega)
  clear hn hC ha hN
  go_enter Try.func6, Try.ntmps6
  go_wp2_with fail
  with_reducible refine (head_any w).mono ?_
  rintro e w1 ⟨rfl, hb⟩
  have HB1 := Aside0.mk hb
  clear hb
  go_wp2_with fail
  with_reducible refine (hnew w1).mono ?_
  rintro e w2 ⟨rfl, hS, hb⟩
  have HS := Aside0.mk hS
  have HB2 := Aside0.mk (below_step HB1.out hb)
  have hge : w.heap.size ≤ w1.heap.size := HB1.out.size
  obtain ⟨g, hg⟩ : ∃ g, w1.heap.size = g := ⟨_, rfl⟩
  rw [hg] at HS hge
  rw [hg]
  have HG := Aside0.mk hge
  clear hS hb hge hg HB1 hnew
  by_cases hbig : 600 < n
  · have h1 : decide ((600 : Int) < (n : Int)) = true := decide_eq_true (by omega)
    have h2 : decide (600 < n) = true := decide_eq_true hbig
    go_wp2
    go_ret
    exact ⟨rfl, HB2.out⟩
  · have h1 : decide ((600 : Int) < (n : Int)) = false := decide_eq_false (by omega)
    have h2 : decide (600 < n) = false := decide_eq_false hbig
    have hsmall : n ≤ 600 := by omega
    clear hbig
    go_wp2
    go_loopg [8, 9, 10, 11, 12, 13] n (fun gg v8 v9 _ _ _ _ wr => ∃ (i : Nat) (L : Lru) (S : List Int), v9 = .int .i64 i ∧ i ≤ n ∧ n - i ≤ gg ∧ Aside0 (St wr g N L i) ∧ Aside0 (RowKit.Below w.heap.size w wr) ∧ Aside0 (Seen L S ∧ S.length ≤ N) ∧ Aside0 (Kd.R (Kd.int .i64) 3 wr w.heap.size (fun _ => True) v8 S))
    case atStart => exact ⟨0, [], [], rfl, by omega, by omega, HS, HB2, ⟨Seen.nil, by simp⟩, ⟨Kd.R_nil _ _ _ _ _⟩⟩
    case round =>
      clear HS HB2
      obtain ⟨i, L, S, rfl, hin, hgg, HS, HB, HSE, HR⟩ := hrel
      have hl2 : i < n ∨ i = n := by omega
      rcases hl2 with hl2 | hl2
      · obtain ⟨ad, rfl, hx⟩ := int_at HC.out HB.out i (by have := HN.out; omega)
        have hd1 : decide ((i : Int) < (n : Int)) = true := decide_eq_true (by omega)
        obtain ⟨x, hxe⟩ : ∃ x, l[i]'(by have := HN.out; omega) = x := ⟨_, rfl⟩
        rw [hxe] at hx
        have HXE := Aside0.mk hxe
        clear hxe
        obtain ⟨AS, cS, rfl⟩ := Kd.R_slice HR.out
        have HCS := Aside0.mk (Kd.R_reads' HR.out).2.2
        have hSl : S.length ≤ 8 := by have := HSE.out.2; have := HM1.out.2; omega
        obtain ⟨wo, hwo⟩ : ∃ wo : World, wo = wr := ⟨_, rfl⟩
        subst hwo
        go_wp2
        go_loopw [10, 11] (fun v10 v11 w' => ∃ (k q at_ : Nat), v10 = .int .i64 at_ ∧ v11 = .int .i64 k ∧ k ≤ S.length ∧ Aside0 (at_ = atK x S k) ∧ w' = wo.drewN q) (fun _ v11 _ => S.length - (intOf v11).toNat)
        case atStart => exact ⟨0, 0, S.length, rfl, rfl, Nat.zero_le _, ⟨(atK_zero x S).symm⟩, rfl⟩
        case round =>
          obtain ⟨k, q, at_, rfl, rfl, hk, HA, rfl⟩ := hrel
          have hk2 : k < S.length ∨ k = S.length := by omega
          rcases hk2 with hk2 | hk2
          · obtain ⟨ad2, e2, hy⟩ := int_at HCS.out (RowKit.Below.refl _ _) k hk2
            subst e2
            have hd2 : decide ((k : Int) < (S.length : Int)) = true := decide_eq_true (by omega)
            obtain ⟨y, hye⟩ : ∃ y, S[k] = y := ⟨_, rfl⟩
            rw [hye] at hy
            by_cases hyx : y = x
            · subst hyx
              have HA2 := Aside0.mk (atK_hit y S HSE.out.1.nd k hk2 hye).symm
              clear hye
              go_wp2
              go_quiet (fail)
              go_wp2
              go_roundw
              case rel => exact ⟨k + 1, _, k, rfl, by go_num, by omega, HA2, rfl⟩
              case measure => simp [intOf]; omega
            · have HA2 := Aside0.mk (HA.out.trans (atK_miss x S k hk2 (by rw [hye]; exact hyx)).symm)
              have hyx2 : (y == x) = false := beq_eq_false_iff_ne.2 hyx
              clear hye hyx
              go_wp2
              go_quiet (fail)
              go_wp2
              go_roundw
              case rel => exact ⟨k + 1, _, at_, rfl, by go_num, by omega, HA2, rfl⟩
              case measure => simp [intOf]; omega
          · subst hk2
            have hat : at_ = pos x S := HA.out.trans (atK_all x S)
            have HSq := Aside0.mk (HS.out.drewN q)
            have HBq := Aside0.mk (below_drewN HB.out q)
            have HRq := Aside0.mk (Kd.R_drewN HR.out q)
            obtain ⟨ad3, e3, hx3⟩ := int_at HC.out HBq.out i (by have := HN.out; omega)
            cases e3
            clear HS HB HR HCS HA hx
            generalize wo.drewN q = wq at HSq HBq HRq hx3 ⊢
            rw [HXE.out] at hx3
            have hpl := pos_le x S
            have hNN : (N : Int) = 1 + a % 8 := HM.out
            have hSN := HSE.out.2
            by_cases hin2 : x ∈ S
            · have hp := (pos_mem x S).2 hin2
              have q1 : ((at_ : Int) == (S.length : Int)) = false := beq_eq_false_iff_ne.2 (by omega)
              have q2 : decide (1 + a % 8 < (S.length : Int)) = false := decide_eq_false (by omega)
              obtain ⟨hse, hi2, ht2⟩ := HSE.out.1.use x N HSq.out.nd (.inl hin2)
              rw [if_pos hin2] at hse
              have hu := use_lit HSq.out (by omega) x (at_ : Int) (useL N L x).1 at_ false (by rw [hat, ← hi2, ← ht2]) rfl
              have HSE2 := Aside0.mk (And.intro hse hSN)
              obtain ⟨cs, hcs⟩ := HSq.out.blk
              have HCS := Aside0.mk hcs
              clear hat hse hi2 ht2 hNN hin2 hp hcs hSN
              go_wp2_with fail
              with_reducible refine hu.mono ?_
              rintro e w3 ⟨rfl, hS, ho⟩
              have HS3 := Aside0.mk hS
              have HB3 := Aside0.mk (Only.below HBq.out HBq.out.size HG.out ho)
              have HR3 := Aside0.mk (R_only HRq.out HCS.out ho)
              clear hS ho hu
              go_wp2
              go_roundg (n - (i + 1))
              case measure => omega
              case rel => exact ⟨i + 1, _, S, by go_num, by omega, Nat.le_refl _, HS3, HB3, HSE2, HR3⟩
            · have q1 : ((at_ : Int) == (S.length : Int)) = true := beq_iff_eq.2 (by have h1 := pos_le x S; have h2 := mt (pos_mem x S).1 hin2; omega)
              have hatS : at_ = S.length := by have h1 := pos_le x S; have h2 := mt (pos_mem x S).1 hin2; omega
              obtain ⟨cs, hcs⟩ := HSq.out.blk
              have HCS := Aside0.mk hcs
              clear hpl hcs
              by_cases hfull : S.length = N
              · have q3 : decide (1 + a % 8 < (S.length : Int) + 1) = true := decide_eq_true (by omega)
                clear hfull hNN hSN
                go_wp2_with ((with_reducible refine gate_builtin (b := .append) (xs := #[.tmp 61, .tmp 66]) rfl ?_); at_builtin; refine Kd.R_append (Kd.int .i64) (w0 := w) w.heap.size rfl (.tmp 61) (.tmp 66) 22 3 (.int .i64 0) 8 rfl Try.underlying22 info3 rfl (by decide) (by omega) (.slice AS S.length cS) S x [.int .i64 x] (fun _ => True) (fun _ => False) rfl rfl ?aP (fun _ hk => hk.elim) ?aF ?aO ?aB ?aS ?aL ?_; (case aP => exact rfl); (case aF => exact (fun _ _ => trivial)); (case aO => exact HRq.out); (case aB => exact HBq.out); (case aS => exact HBq.out.size); (case aL => omega); intro v111 w6 ho hb6 hg6 hat6; have HR6 := Aside0.mk ho; have HB6 := Aside0.mk hb6; have HS6 := Aside0.mk (HSq.out.grown hg6 (Kd.R_ne HRq.out HCS.out (by decide))); obtain ⟨A6, c6, rfl⟩ := Kd.R_slice ho; rw [List.length_append, List.length_singleton]; clear ho hb6 hg6 hat6)
                go_ret
                exact ⟨rfl, HB6.out⟩
              · have q3 : decide (1 + a % 8 < (S.length : Int) + 1) = false := decide_eq_false (by omega)
                have hlt : S.length < N := by omega
                obtain ⟨hse, hi2, ht2⟩ := HSE.out.1.use x N HSq.out.nd (.inr hlt)
                rw [if_neg hin2] at hse
                have HSE2 := Aside0.mk (show Seen (useL N L x).1 (S ++ [x]) ∧ (S ++ [x]).length ≤ N from ⟨hse, by rw [List.length_append, List.length_singleton]; omega⟩)
                have HU := Aside0.mk (show useL N L x = ((useL N L x).1, at_, false) by rw [hat, ← hi2, ← ht2])
                clear hfull hNN hSN hse hi2 ht2 hin2
                go_wp2_with ((with_reducible refine gate_builtin (b := .append) (xs := #[.tmp 61, .tmp 66]) rfl ?_); at_builtin; refine Kd.R_append (Kd.int .i64) (w0 := w) w.heap.size rfl (.tmp 61) (.tmp 66) 22 3 (.int .i64 0) 8 rfl Try.underlying22 info3 rfl (by decide) (by omega) (.slice AS S.length cS) S x [.int .i64 x] (fun _ => True) (fun _ => False) rfl rfl ?aP (fun _ hk => hk.elim) ?aF ?aO ?aB ?aS ?aL ?_; (case aP => exact rfl); (case aF => exact (fun _ _ => trivial)); (case aO => exact HRq.out); (case aB => exact HBq.out); (case aS => exact HBq.out.size); (case aL => omega); intro v111 w6 ho hb6 hg6 hat6; have HR6 := Aside0.mk ho; have HB6 := Aside0.mk hb6; have HS6 := Aside0.mk (HSq.out.grown hg6 (Kd.R_ne HRq.out HCS.out (by decide))); obtain ⟨A6, c6, rfl⟩ := Kd.R_slice ho; rw [List.length_append, List.length_singleton]; obtain ⟨ad7, e7, hx7⟩ := int_at HC.out HB6.out i (by have := HN.out; omega); cases e7; rw [HXE.out] at hx7; clear ho hb6 hg6 hat6)
                have hu := use_lit HS6.out (by omega) x (at_ : Int) (useL N L x).1 at_ false HU.out rfl
                with_reducible refine hu.mono ?_
                rintro e w3 ⟨rfl, hS, ho⟩
                have HS3 := Aside0.mk hS
                have HB3 := Aside0.mk (Only.below HB6.out HB6.out.size HG.out ho)
                obtain ⟨cs7, hcs7⟩ := HS6.out.blk
                have HR3 := Aside0.mk (R_only HR6.out hcs7 ho)
                clear hS ho hu hcs7
                go_wp2
                go_roundg (n - (i + 1))
                case measure => omega
                case rel => exact ⟨i + 1, _, S ++ [x], by go_num, by omega, Nat.le_refl _, HS3, HB3, HSE2, by simpa using HR3⟩
      · subst hl2
        go_wp2
        go_ret
        exact ⟨rfl, HB.out⟩
end Go.Proofs.Ytbmpclgibimopaa.Walk
