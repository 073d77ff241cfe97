/- Layer 18: RootsOne, walked. -/
import Derived.Test.YtbmpclgibimopaaUsedW
namespace Go.Proofs.Ytbmpclgibimopaa.Walk
open Go.RowKit Go.Proofs.Ytbmpclgibimopaa.Blks Go.Proofs.YtbmpclgibimopaaW.PrintWords
/-- What the law keeps: whose each space is, and whether it is anybody's. -/
structure Own (L : Lru) (O : List Int) (B : List Bool) : Prop where
  ol : O.length = 8
  bl : B.length = 8
  b : ∀ k, k < 8 → B[k]? = some (decide (k < L.length))
  o : ∀ p ∈ L, O[p.2]? = some p.1
theorem Own.nil : Own [] (List.replicate 8 0) (List.replicate 8 false) :=
  ⟨by simp, by simp, (fun k hk => by rw [List.getElem?_replicate, if_pos hk]; simp), (fun p hp => by cases hp)⟩
theorem perm_nodup {L : Lru} (h : (L.map Prod.snd).Perm (List.range L.length)) : (L.map Prod.snd).Nodup := h.nodup_iff.2 List.nodup_range
theorem use_sub (N : Nat) (L : Lru) (x : Int) (hN : 1 ≤ N) : ∃ K : Lru, (useL N L x).1 = K ++ [(x, (useL N L x).2.1)] ∧ K.Sublist L := by
  unfold useL
  cases hf : L.find? (fun p => p.1 == x) with
  | some p => exact ⟨_, rfl, List.filter_sublist⟩
  | none =>
    dsimp only
    by_cases hl : L.length < N
    · rw [if_pos hl]; exact ⟨L, rfl, List.Sublist.refl _⟩
    · rw [if_neg hl]
      match L, hl with
      | [], hl => simp at hl; omega
      | p :: L', _ => exact ⟨L', rfl, List.sublist_cons_self _ _⟩
/-- What Use answers, held against Space ahead of it. -/
theorem use_ans (N : Nat) (L : Lru) (x : Int) (hN : 1 ≤ N) (hle : L.length ≤ N) (hp : (L.map Prod.snd).Perm (List.range L.length)) (hnd : L.Pairwise (fun a b => a.1 ≠ b.1)) :
    (useL N L x).2.1 < N ∧ (∀ was, spaceL L x = (was, true) → was = ((useL N L x).2.1 : Int) ∧ (useL N L x).2.2 = false) ∧ (∀ was, spaceL L x = (was, false) → (useL N L x).2.2 = decide ((useL N L x).2.1 < L.length)) ∧
    ((useL N L x).1.length = L.length ∧ (useL N L x).2.1 < L.length ∨ (useL N L x).1.length = L.length + 1 ∧ (useL N L x).2.1 = L.length) := by
  have hsl : ∀ p ∈ L, p.2 < L.length := fun p hpL => by
    have : p.2 ∈ List.range L.length := hp.mem_iff.1 (List.mem_map_of_mem hpL)
    simpa using this
  unfold useL spaceL
  cases hf : L.find? (fun p => p.1 == x) with
  | some p =>
    have hpL := List.mem_of_find?_eq_some hf
    have hx : p.1 = x := by have := List.find?_some hf; simpa using this
    have h1 := hsl p hpL
    refine ⟨by show p.2 < N; omega, fun was h => ?_, fun was h => ?_, .inl ⟨?_, h1⟩⟩
    · simp only [Prod.mk.injEq, and_true] at h; exact ⟨h.symm, rfl⟩
    · simp at h
    · have := (filter_perm L p hnd hpL).length_eq
      rw [List.length_cons, hx] at this
      show (L.filter (fun q => q.1 != x) ++ [(x, p.2)]).length = L.length
      rw [List.length_append, List.length_singleton]; omega
  | none =>
    dsimp only
    by_cases hl : L.length < N
    · rw [if_pos hl]
      refine ⟨hl, fun was h => ?_, fun was h => ?_, .inr ⟨by simp, rfl⟩⟩
      · simp at h
      · show false = decide (L.length < L.length)
        simp
    · rw [if_neg hl]
      match L, hl, hle, hsl with
      | [], hl, _, _ => simp at hl; omega
      | p :: L', hl, hle, hsl =>
        have h1 := hsl p List.mem_cons_self
        refine ⟨by show p.2 < N; omega, fun was h => ?_, fun was h => ?_, .inl ⟨by simp, h1⟩⟩
        · simp at h
        · show true = decide (p.2 < (p :: L').length)
          exact (decide_eq_true h1).symm
theorem Own.use {L : Lru} {O : List Int} {B : List Bool} (h : Own L O B) (N : Nat) (x : Int) (hN : 1 ≤ N) (hN8 : N ≤ 8) (hle : L.length ≤ N) (hp : (L.map Prod.snd).Perm (List.range L.length)) (hnd : L.Pairwise (fun a b => a.1 ≠ b.1))
    (hp' : ((useL N L x).1.map Prod.snd).Perm (List.range (useL N L x).1.length)) : Own (useL N L x).1 (O.set (useL N L x).2.1 x) (B.set (useL N L x).2.1 true) := by
  obtain ⟨h1, _, _, h4⟩ := use_ans N L x hN hle hp hnd
  obtain ⟨K, hK, hKs⟩ := use_sub N L x hN
  have hnd2 := perm_nodup hp'
  obtain ⟨s, hs⟩ : ∃ s, (useL N L x).2.1 = s := ⟨_, rfl⟩
  obtain ⟨L', hL'⟩ : ∃ L', (useL N L x).1 = L' := ⟨_, rfl⟩
  rw [hs] at h1 h4 hK ⊢
  rw [hL'] at h4 hK hnd2 ⊢
  refine ⟨by rw [List.length_set, h.ol], by rw [List.length_set, h.bl], fun k hk => ?_, fun p hp => ?_⟩
  · rw [List.getElem?_set]
    by_cases e : s = k
    · subst e
      rw [if_pos rfl, if_pos (by rw [h.bl]; omega), decide_eq_true (by omega)]
    · rw [if_neg e, h.b k hk]
      congr 1
      refine decide_eq_decide.2 ?_
      omega
  · rw [hK] at hp
    rcases List.mem_append.1 hp with hp | hp
    · have hne : s ≠ p.2 := by
        rw [hK, List.map_append, List.nodup_append] at hnd2
        exact fun e => hnd2.2.2 p.2 (List.mem_map_of_mem hp) s (by simp) e.symm
      rw [List.getElem?_set, if_neg hne]
      exact h.o p (hKs.subset hp)
    · rw [List.mem_singleton.1 hp]
      show (O.set s x)[s]? = some x
      rw [List.getElem?_set, if_pos rfl, if_pos (by rw [h.ol]; omega)]
/-- Each space's root has it. -/
theorem Own.back {L : Lru} {O : List Int} {B : List Bool} (h : Own L O B) (hp : (L.map Prod.snd).Perm (List.range L.length)) (hnd : L.Pairwise (fun a b => a.1 ≠ b.1)) (k : Nat) (hk : k < L.length) (x : Int) (hx : O[k]? = some x) : spaceL L x = ((k : Int), true) := by
  have : k ∈ L.map Prod.snd := hp.mem_iff.2 (by simpa using hk)
  obtain ⟨p, hpL, rfl⟩ := List.mem_map.1 this
  have e : p.1 = x := by
    have := h.o p hpL
    rw [hx] at this
    exact (Option.some.inj this).symm
  unfold spaceL
  cases hf : L.find? (fun p => p.1 == x) with
  | some q =>
    have hq := List.mem_of_find?_eq_some hf
    have hqx : q.1 = x := by have := List.find?_some hf; simpa using this
    have := pw_ne hnd hq hpL (by rw [hqx, e])
    rw [this]
  | none =>
    have := List.find?_eq_none.1 hf p hpL
    rw [e] at this
    simp at this
theorem arr_set {α : Type} (f : α → Value) (l : List α) (s : Nat) (x : α) : (l.map f).toArray.setIfInBounds s (f x) = ((l.set s x).map f).toArray := by
  rw [List.setIfInBounds_toArray, List.map_set]
set_option maxHeartbeats 8000000 in
set_option maxRecDepth 100000 in
theorem one_any (A : Option Addr) (c : Nat) (a : Int) (l : List Int) (w : World) (ha : (Lit.int .u8 a).wf = true) (hC : Kd.C (Kd.int .i64) w A l.length l) :
    Calls Try.prog 4 #[.int .u8 a, .slice A l.length c] w fun e w' => e = .returned (.bool true) ∧ RowKit.Below w.heap.size w w' := by
  have HC := Aside0.mk hC
  obtain ⟨n, hn⟩ : ∃ n, l.length = n := ⟨_, rfl⟩
  have HN := Aside0.mk hn
  rw [hn]
  have ha2 : 0 ≤ a ∧ a < 256 := by simp [Lit.wf, IntKind.min, IntKind.max, IntKind.bits, IntKind.signed] at ha; omega
  obtain ⟨ha0, ha1⟩ := ha2
  obtain ⟨N, hN⟩ : ∃ N : Nat, (N : Int) = 1 + a % 8 := ⟨(1 + a % 8).toNat, by omega⟩
  have hnew : ∀ w : World, Calls Try.prog 10 #[.int .i64 (1 + a % 8)] w fun e w' => e = .returned (.pointer (some ⟨w.heap.size, 0, none⟩)) ∧ St w' w.heap.size N [] 0 ∧ RowKit.Below w.heap.size w w' := fun w => by rw [← hN]; exact new_St N (by omega) (by omega) w
  have HM := Aside0.mk hN
  have HM1 := Aside0.mk (show 1 ≤ N ∧ N ≤ 8 by omega)
  clear hn hC ha hN
  go_enter Try.func4, Try.ntmps4
  go_wp2_with fail
  with_reducible refine (head_any w).mono ?_
  rintro e w1 ⟨rfl, hb⟩
  have HB1 := Aside0.mk hb
  clear hb
  go_wp2_with fail
  with_reducible refine (hnew w1).mono ?_
  rintro e w2 ⟨rfl, hS, hb⟩
  have HS := Aside0.mk hS
  have HB2 := Aside0.mk (below_step HB1.out hb)
  have hge : w.heap.size ≤ w1.heap.size := HB1.out.size
  obtain ⟨g, hg⟩ : ∃ g, w1.heap.size = g := ⟨_, rfl⟩
  rw [hg] at HS hge
  rw [hg]
  have HG := Aside0.mk hge
  clear hS hb hge hg HB1 hnew
  by_cases hbig : 600 < n
  · have h1 : decide ((600 : Int) < (n : Int)) = true := decide_eq_true (by omega)
    have h2 : decide (600 < n) = true := decide_eq_true hbig
    go_wp2
    go_ret
    exact ⟨rfl, HB2.out⟩
  · have h1 : decide ((600 : Int) < (n : Int)) = false := decide_eq_false (by omega)
    have h2 : decide (600 < n) = false := decide_eq_false hbig
    have hsmall : n ≤ 600 := by omega
    clear hbig
    go_upto_region 8 with (fail)
    have K8 := Blk.new w2 33 ((List.replicate 8 (0 : Int)).map (Value.int .i64)).toArray
    have HS3 := Aside0.mk (HS.out.below (((RowKit.Below.refl w2.heap.size w2).alloc (Nat.le_refl _) (.cells ((List.replicate 8 (0 : Int)).map (Value.int .i64)).toArray 33)).alloc (by simp) (.cells ((List.replicate 8 false).map Value.bool).toArray 34)))
    have HB3 := Aside0.mk ((HB2.out.alloc HB2.out.size (.cells ((List.replicate 8 (0 : Int)).map (Value.int .i64)).toArray 33)).alloc (by have := HB2.out.size; simp; omega) (.cells ((List.replicate 8 false).map Value.bool).toArray 34))
    have H8 := Aside0.mk (K8.alloc (.cells ((List.replicate 8 false).map Value.bool).toArray 34))
    have K9 := Blk.new (w2.alloc (.cells ((List.replicate 8 (0 : Int)).map (Value.int .i64)).toArray 33)) 34 ((List.replicate 8 false).map Value.bool).toArray
    have hgl : g < w2.heap.size := HS.out.lt
    have hsz : (w2.alloc (.cells ((List.replicate 8 (0 : Int)).map (Value.int .i64)).toArray 33)).heap.size = w2.heap.size + 1 := by simp
    have hwl : w.heap.size ≤ w2.heap.size := HB2.out.size
    rw [hsz] at K9
    have H9 := Aside0.mk K9
    clear K8 K9 hsz HS HB2
    obtain ⟨W3, hW3⟩ : ∃ W3 : World, W3 = (w2.alloc (.cells #[.int .i64 0, .int .i64 0, .int .i64 0, .int .i64 0, .int .i64 0, .int .i64 0, .int .i64 0, .int .i64 0] 33)).alloc (.cells #[.bool false, .bool false, .bool false, .bool false, .bool false, .bool false, .bool false, .bool false] 34) := ⟨_, rfl⟩
    rw [← hW3]
    have HS := Aside0.mk (show St W3 g N [] 0 by rw [hW3]; exact HS3.out)
    have HB := Aside0.mk (show RowKit.Below w.heap.size w W3 by rw [hW3]; exact HB3.out)
    have HO := Aside0.mk (show Blk W3 w2.heap.size 33 ((List.replicate 8 (0 : Int)).map (Value.int .i64)).toArray by rw [hW3]; exact H8.out)
    have HD := Aside0.mk (show Blk W3 (w2.heap.size + 1) 34 ((List.replicate 8 false).map Value.bool).toArray by rw [hW3]; exact H9.out)
    clear HS3 HB3 H8 H9 hW3
    obtain ⟨g8, hg8⟩ : ∃ g8, w2.heap.size = g8 := ⟨_, rfl⟩
    rw [hg8] at HO HD hgl hwl ⊢
    obtain ⟨g9, hg9⟩ : ∃ g9, g8 + 1 = g9 := ⟨_, rfl⟩
    rw [hg9] at HD ⊢
    have HGG := Aside0.mk (show w.heap.size ≤ g8 ∧ w.heap.size ≤ g9 ∧ g ≠ g8 ∧ g ≠ g9 ∧ g8 ≠ g9 by omega)
    clear hg8 hg9 hgl hwl
    go_wp2
    go_loopg [10, 11, 12, 13, 14, 15, 16, 17] n (fun gg v10 _ _ _ _ _ _ _ wr => ∃ (i : Nat) (L : Lru) (O : List Int) (B : List Bool), v10 = .int .i64 i ∧ i ≤ n ∧ n - i ≤ gg ∧ Aside0 (St wr g N L i) ∧ Aside0 (RowKit.Below w.heap.size w wr) ∧ Aside0 (Own L O B) ∧ Aside0 (Blk wr g8 33 (O.map (Value.int .i64)).toArray) ∧ Aside0 (Blk wr g9 34 (B.map Value.bool).toArray))
    case atStart => exact ⟨0, [], _, _, rfl, by omega, by omega, HS, HB, ⟨Own.nil⟩, HO, HD⟩
    case round =>
      clear HS HB HO HD
      obtain ⟨i, L, O, B, rfl, hin, hgg, HS, HB, HW, HO, HD⟩ := hrel
      have hl2 : i < n ∨ i = n := by omega
      rcases hl2 with hl2 | hl2
      · obtain ⟨ad, rfl, hx⟩ := int_at HC.out HB.out i (by have := HN.out; omega)
        have hd1 : decide ((i : Int) < (n : Int)) = true := decide_eq_true (by omega)
        obtain ⟨x, hxe⟩ : ∃ x, l[i]'(by have := HN.out; omega) = x := ⟨_, rfl⟩
        rw [hxe] at hx
        have HXE := Aside0.mk hxe
        clear hxe
        obtain ⟨a1, a2, a3, a4⟩ := use_ans N L x HM1.out.1 HS.out.le HS.out.sp HS.out.nd
        obtain ⟨s, hs⟩ : ∃ s, (useL N L x).2.1 = s := ⟨_, rfl⟩
        obtain ⟨tk, htk⟩ : ∃ tk, (useL N L x).2.2 = tk := ⟨_, rfl⟩
        obtain ⟨L', hL'⟩ : ∃ L', (useL N L x).1 = L' := ⟨_, rfl⟩
        have hown := fun hp' => HW.out.use N x HM1.out.1 HM1.out.2 HS.out.le HS.out.sp HS.out.nd hp'
        rw [hs] at a1 a2 a3 a4 hown
        rw [htk] at a2 a3
        rw [hL'] at a4 hown
        have hb8 := HW.out.b s (by have := HM1.out.2; omega)
        have hu := use_lit HS.out (by omega) x (s : Int) L' s tk (by rw [← hs, ← htk, ← hL']) rfl
        have HOWN := Aside0.mk hown
        have HA4 := Aside0.mk a4
        have HS1 := Aside0.mk a1
        obtain ⟨was, had, hsp⟩ : ∃ was had, spaceL L x = (was, had) := ⟨_, _, rfl⟩
        have hspc := space_lit HS.out x was had hsp
        clear hs htk hL' hown a4
        cases had with
        | true =>
          obtain ⟨e1, e2⟩ := a2 was hsp
          subst e1
          subst e2
          obtain ⟨tk0, htk0⟩ : ∃ t, decide (s < L.length) = t := ⟨_, rfl⟩
          rw [htk0] at hb8
          clear hsp htk0
          go_wp2_with fail
          with_reducible refine hspc.mono ?_
          rintro e w4 ⟨rfl, rfl⟩
          clear hspc
          go_wp2_with fail
          with_reducible refine hu.mono ?_
          rintro e w3 ⟨rfl, hS, ho⟩
          have HS3 := Aside0.mk hS
          have HB3 := Aside0.mk (Only.below HB.out HB.out.size HG.out ho)
          have HO3 := Aside0.mk (ho.blk HO.out (Ne.symm HGG.out.2.2.1))
          have HD3 := Aside0.mk (ho.blk HD.out (Ne.symm HGG.out.2.2.2.1))
          clear hS ho hu hx
          obtain ⟨ad4, e4, hx⟩ := int_at HC.out HB3.out i (by have := HN.out; omega)
          cases e4
          rw [HXE.out] at hx
          have hs8 : s < 8 := by have := HS1.out; have := HM1.out.2; omega
          have hsi0 : (0 : Int) ≤ s := by omega
          have hsi8 : (s : Int) < 8 := by omega
          have q1 : decide ((s : Int) < 0) = false := decide_eq_false (by omega)
          have q2 : decide (1 + a % 8 ≤ (s : Int)) = false := decide_eq_false (by have := HS1.out; have := HM.out; omega)
          have co : w3.cell? ⟨g8, s, none⟩ = some (.int .i64 (O[s]'(by rw [HW.out.ol]; exact hs8))) := by rw [HO3.out.cell]; simp [HW.out.ol, hs8]
          have cd : w3.cell? ⟨g9, s, none⟩ = some (.bool tk0) := by rw [HD3.out.cell, List.getElem?_toArray, List.getElem?_map, hb8]; rfl
          generalize (O[s]'(by rw [HW.out.ol]; exact hs8)) = oo at co
          have fo := HO3.out.frozen s
          have fd := HD3.out.frozen s
          have hne98 : g9 ≠ g8 := Ne.symm HGG.out.2.2.2.2
          have hne89 : g8 ≠ g9 := HGG.out.2.2.2.2
          clear hb8 a2 a3 HS HB HO HD
          go_upto_region 17 with (fail)
          have HO5 := Aside0.mk (((HO3.out.set_ s (.int .i64 x)).far (p := ⟨g9, s, none⟩) hne89 (.bool true)))
          have HD5 := Aside0.mk ((HD3.out.far (p := ⟨g8, s, none⟩) hne98 (.int .i64 x)).set_ s (.bool true))
          have HB5 := Aside0.mk ((HB3.out.setCell (p := ⟨g8, s, none⟩) HGG.out.1 (.int .i64 x)).setCell (p := ⟨g9, s, none⟩) HGG.out.2.1 (.bool true))
          have HS5 := Aside0.mk ((HS3.out.only ((Only.refl w3 g8).setCell s (.int .i64 x)) HGG.out.2.2.1).only ((Only.refl _ g9).setCell s (.bool true)) HGG.out.2.2.2.1)
          clear co cd fo fd HO3 HD3 HB3 HS3 hx
          generalize (w3.setCell ⟨g8, s, none⟩ (.int .i64 x)).setCell ⟨g9, s, none⟩ (.bool true) = W5 at HO5 HD5 HB5 HS5 ⊢
          rw [arr_set] at HO5 HD5
          have HW5 := Aside0.mk (HOWN.out HS5.out.sp)
          go_wp2
          go_loop [15, 16, 17] (fun v15 _ _ => ∃ k : Nat, k ≤ N ∧ v15 = .int .i64 k) (fun v15 _ _ => N - (intOf v15).toNat)
          case atStart => exact ⟨0, Nat.zero_le _, rfl⟩
          case round =>
            obtain ⟨k, hk, rfl⟩ := hrel
            have hk2 : k < N ∨ k = N := by omega
            rcases hk2 with hk2 | hk2
            · have hk8 : k < 8 := by have := HM1.out.2; omega
              have d1 : decide ((k : Int) < 1 + a % 8) = true := decide_eq_true (by rw [← HM.out]; omega)
              have ki0 : (0 : Int) ≤ k := by omega
              have ki8 : (k : Int) < 8 := by omega
              obtain ⟨ok, hok⟩ : ∃ o, (O.set s x)[k]? = some o := ⟨_, List.getElem?_eq_getElem (by rw [HW5.out.ol]; exact hk8)⟩
              have co : W5.cell? ⟨g8, k, none⟩ = some (.int .i64 ok) := by rw [HO5.out.cell, List.getElem?_toArray, List.getElem?_map, hok]; rfl
              have cd : W5.cell? ⟨g9, k, none⟩ = some (.bool (decide (k < L'.length))) := by rw [HD5.out.cell, List.getElem?_toArray, List.getElem?_map, HW5.out.b k hk8]; rfl
              by_cases hkl : k < L'.length
              · have hs2 := space_lit HS5.out ok (k : Int) true (HW5.out.back HS5.out.sp HS5.out.nd k hkl ok hok)
                rw [decide_eq_true hkl] at cd
                clear hkl hok
                go_wp2_with fail
                with_reducible refine hs2.mono ?_
                rintro e w6 ⟨rfl, rfl⟩
                clear hs2
                go_wp2
                go_round
                case rel => exact ⟨k + 1, by omega, by go_num⟩
                case measure => simp [intOf]; omega
              · obtain ⟨z, b, hz⟩ : ∃ z b, spaceL L' ok = (z, b) := ⟨_, _, rfl⟩
                have hs2 := space_lit HS5.out ok z b hz
                rw [decide_eq_false hkl] at cd
                clear hkl hok hz
                go_wp2_with fail
                with_reducible refine hs2.mono ?_
                rintro e w6 ⟨rfl, rfl⟩
                clear hs2
                go_wp2
                go_round
                case rel => exact ⟨k + 1, by omega, by go_num⟩
                case measure => simp [intOf]; omega
            · subst hk2
              have d1 : decide ((k : Int) < 1 + a % 8) = false := decide_eq_false (by rw [← HM.out]; omega)
              go_wp2
              go_roundg (n - (i + 1))
              case measure => omega
              case rel => exact ⟨i + 1, L', _, _, by go_num, by omega, Nat.le_refl _, HS5, HB5, HW5, HO5, HD5⟩
        | false =>
          have e2 := a3 was hsp
          obtain ⟨tk0, htk0⟩ : ∃ t, decide (s < L.length) = t := ⟨_, rfl⟩
          rw [htk0] at hb8 e2
          subst e2
          clear hsp htk0
          go_wp2_with fail
          with_reducible refine hspc.mono ?_
          rintro e w4 ⟨rfl, rfl⟩
          clear hspc
          go_wp2_with fail
          with_reducible refine hu.mono ?_
          rintro e w3 ⟨rfl, hS, ho⟩
          have HS3 := Aside0.mk hS
          have HB3 := Aside0.mk (Only.below HB.out HB.out.size HG.out ho)
          have HO3 := Aside0.mk (ho.blk HO.out (Ne.symm HGG.out.2.2.1))
          have HD3 := Aside0.mk (ho.blk HD.out (Ne.symm HGG.out.2.2.2.1))
          clear hS ho hu hx
          obtain ⟨ad4, e4, hx⟩ := int_at HC.out HB3.out i (by have := HN.out; omega)
          cases e4
          rw [HXE.out] at hx
          have hs8 : s < 8 := by have := HS1.out; have := HM1.out.2; omega
          have hsi0 : (0 : Int) ≤ s := by omega
          have hsi8 : (s : Int) < 8 := by omega
          have q1 : decide ((s : Int) < 0) = false := decide_eq_false (by omega)
          have q2 : decide (1 + a % 8 ≤ (s : Int)) = false := decide_eq_false (by have := HS1.out; have := HM.out; omega)
          have co : w3.cell? ⟨g8, s, none⟩ = some (.int .i64 (O[s]'(by rw [HW.out.ol]; exact hs8))) := by rw [HO3.out.cell]; simp [HW.out.ol, hs8]
          have cd : w3.cell? ⟨g9, s, none⟩ = some (.bool tk) := by rw [HD3.out.cell, List.getElem?_toArray, List.getElem?_map, hb8]; rfl
          generalize (O[s]'(by rw [HW.out.ol]; exact hs8)) = oo at co
          have fo := HO3.out.frozen s
          have fd := HD3.out.frozen s
          have hne98 : g9 ≠ g8 := Ne.symm HGG.out.2.2.2.2
          have hne89 : g8 ≠ g9 := HGG.out.2.2.2.2
          clear hb8 a2 a3 HS HB HO HD
          have q3 : (tk != tk) = false := by simp
          go_upto_region 17 with (fail)
          have HO5 := Aside0.mk (((HO3.out.set_ s (.int .i64 x)).far (p := ⟨g9, s, none⟩) hne89 (.bool true)))
          have HD5 := Aside0.mk ((HD3.out.far (p := ⟨g8, s, none⟩) hne98 (.int .i64 x)).set_ s (.bool true))
          have HB5 := Aside0.mk ((HB3.out.setCell (p := ⟨g8, s, none⟩) HGG.out.1 (.int .i64 x)).setCell (p := ⟨g9, s, none⟩) HGG.out.2.1 (.bool true))
          have HS5 := Aside0.mk ((HS3.out.only ((Only.refl w3 g8).setCell s (.int .i64 x)) HGG.out.2.2.1).only ((Only.refl _ g9).setCell s (.bool true)) HGG.out.2.2.2.1)
          clear co cd fo fd HO3 HD3 HB3 HS3 hx
          generalize (w3.setCell ⟨g8, s, none⟩ (.int .i64 x)).setCell ⟨g9, s, none⟩ (.bool true) = W5 at HO5 HD5 HB5 HS5 ⊢
          rw [arr_set] at HO5 HD5
          have HW5 := Aside0.mk (HOWN.out HS5.out.sp)
          go_wp2
          go_loop [15, 16, 17] (fun v15 _ _ => ∃ k : Nat, k ≤ N ∧ v15 = .int .i64 k) (fun v15 _ _ => N - (intOf v15).toNat)
          case atStart => exact ⟨0, Nat.zero_le _, rfl⟩
          case round =>
            obtain ⟨k, hk, rfl⟩ := hrel
            have hk2 : k < N ∨ k = N := by omega
            rcases hk2 with hk2 | hk2
            · have hk8 : k < 8 := by have := HM1.out.2; omega
              have d1 : decide ((k : Int) < 1 + a % 8) = true := decide_eq_true (by rw [← HM.out]; omega)
              have ki0 : (0 : Int) ≤ k := by omega
              have ki8 : (k : Int) < 8 := by omega
              obtain ⟨ok, hok⟩ : ∃ o, (O.set s x)[k]? = some o := ⟨_, List.getElem?_eq_getElem (by rw [HW5.out.ol]; exact hk8)⟩
              have co : W5.cell? ⟨g8, k, none⟩ = some (.int .i64 ok) := by rw [HO5.out.cell, List.getElem?_toArray, List.getElem?_map, hok]; rfl
              have cd : W5.cell? ⟨g9, k, none⟩ = some (.bool (decide (k < L'.length))) := by rw [HD5.out.cell, List.getElem?_toArray, List.getElem?_map, HW5.out.b k hk8]; rfl
              by_cases hkl : k < L'.length
              · have hs2 := space_lit HS5.out ok (k : Int) true (HW5.out.back HS5.out.sp HS5.out.nd k hkl ok hok)
                rw [decide_eq_true hkl] at cd
                clear hkl hok
                go_wp2_with fail
                with_reducible refine hs2.mono ?_
                rintro e w6 ⟨rfl, rfl⟩
                clear hs2
                go_wp2
                go_round
                case rel => exact ⟨k + 1, by omega, by go_num⟩
                case measure => simp [intOf]; omega
              · obtain ⟨z, b, hz⟩ : ∃ z b, spaceL L' ok = (z, b) := ⟨_, _, rfl⟩
                have hs2 := space_lit HS5.out ok z b hz
                rw [decide_eq_false hkl] at cd
                clear hkl hok hz
                go_wp2_with fail
                with_reducible refine hs2.mono ?_
                rintro e w6 ⟨rfl, rfl⟩
                clear hs2
                go_wp2
                go_round
                case rel => exact ⟨k + 1, by omega, by go_num⟩
                case measure => simp [intOf]; omega
            · subst hk2
              have d1 : decide ((k : Int) < 1 + a % 8) = false := decide_eq_false (by rw [← HM.out]; omega)
              go_wp2
              go_roundg (n - (i + 1))
              case measure => omega
              case rel => exact ⟨i + 1, L', _, _, by go_num, by omega, Nat.le_refl _, HS5, HB5, HW5, HO5, HD5⟩
      · subst hl2
        go_wp2
        go_ret
        exact ⟨rfl, HB.out⟩
end Go.Proofs.Ytbmpclgibimopaa.Walk
