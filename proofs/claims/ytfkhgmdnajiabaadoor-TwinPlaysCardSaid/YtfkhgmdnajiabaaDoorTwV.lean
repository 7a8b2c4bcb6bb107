/-
  Walks: the document's pages: New.
-/
import Derived.Test.YtfkhgmdnajiabaaDoorTwU
namespace Go.Proofs.YtfkhgmdnajiabaaDoor
set_option linter.unusedSimpArgs false
set_option linter.unusedVariables false
open Go.RowKit Go.Maps

theorem new9_results (tmps : Array Value) (rb : Nat) (W : World) {v0 v1 : Value} (h2 : tmps.getD 2 undef = .pointer (some ⟨rb, 0, none⟩)) (h : Blk W rb 58 #[v0, v1]) :
    (results Tryd.f21 tmps).run Tryd.prog W = .ok (.agg #[v0, v1]) W := by
  have c0 := h.cell 0
  have c1 := h.cell 1
  have h2' : tmps[2]?.getD undef = .pointer (some ⟨rb, 0, none⟩) := by simpa using h2
  simp [results, Tryd.results21, go_sem, c0, c1, h2']
set_option maxHeartbeats 6400000 in
set_option maxRecDepth 100000 in
theorem new9_any (w : World) :
    Calls Tryd.prog 21 #[.int .i64 8] w fun e w' => ∃ u v, e = .returned (.agg #[u, v]) ∧ Two w.heap.size w' u v (List.replicate 8 (List.replicate 512 0)) (List.replicate 8 []) ∧ Below w.heap.size w w' := by
  obtain ⟨z, hz⟩ : ∃ z, z = List.replicate 512 (0 : UInt8) := ⟨_, rfl⟩
  rw [← hz]
  have hmk := fun W : World => run_make_bytes W 512 (by decide) (by decide)
  rw [show (512 : Int).toNat = 512 from rfl, ← hz] at hmk
  have hzl : z.length = 512 := by rw [hz]; exact List.length_replicate
  have HMK := Lib.hid hmk; have HZL := Lib.hid hzl
  clear hz hmk hzl
  go_enter Tryd.func21, Tryd.ntmps21
  go_wp2_with fail
  have hP0 := Blk.made (w.alloc (.cells #[.slice none 0 0, .slice none 0 0] 58)) #[.slice none 0 0, .slice none 0 0] 58
  go_loopg [4] 8 (fun gh i wr => ∃ k : Nat, k ≤ 8 ∧ gh = 8 - k ∧ i = .int .i64 k ∧ ∃ u v, Blk wr (w.heap.size + 1) 58 #[u, v] ∧ Blk wr w.heap.size 58 #[.slice none 0 0, .slice none 0 0] ∧ Two w.heap.size wr u v (List.replicate k z) (List.replicate k []) ∧ Below w.heap.size w wr)
  case atStart =>
    refine ⟨0, Nat.zero_le _, rfl, rfl, _, _, ?_, ?_, ⟨World.ownsRow_nil _ _ _ _, World.ownsRow_nil _ _ _ _, Or.inl rfl, ?_⟩, ?_⟩
    · simpa using hP0
    · exact (Blk.made w _ _).alloc _
    · simp; omega
    · exact ((Below.refl _ _).alloc (Nat.le_refl _) _).alloc (by simp) _
  case round =>
    obtain ⟨k, hk, rfl, rfl, u, v, hP, hR, hTw, hB⟩ := hrel
    by_cases hlt : k < 8
    · have hks : List.replicate (k + 1) z = List.replicate k z ++ [z] := List.replicate_succ'
      have hke : List.replicate (k + 1) ([] : List UInt8) = List.replicate k [] ++ [[]] := List.replicate_succ'
      have hkl : (List.replicate k z).length ≤ 1000000 := by rw [List.length_replicate]; omega
      have hkl2 : (List.replicate k ([] : List UInt8)).length ≤ 1000000 := by rw [List.length_replicate]; omega
      have hlt2 : (k : Int) < 8 := by omega
      have HKS := Lib.hid hks; have HKE := Lib.hid hke
      clear hks hke
      generalize List.replicate k z = xs at *
      generalize List.replicate k ([] : List UInt8) = ys at *
      generalize hpbe : w.heap.size + 1 = pb at *
      have hpb : w.heap.size ≤ pb := by omega
      have hne : w.heap.size ≠ pb := by omega
      clear hpbe
      go_wp2_with fail
      have hTd := hTw.up ((Below.refl _ wr).drew)
      have hPd := hP.up ((Below.refl _ wr).drew)
      have hRd := hR.up ((Below.refl _ wr).drew)
      have hBd := hB.drew
      clear hTw hP hR hB
      refine wp_region_late 9 (fun W => W.cell? ⟨pb, 0, none⟩ = some u ∧ W.cell? ⟨pb, 1, none⟩ = some v) (by kernel_rfl) ?_
      show wpAnyK _ _ _ _ _ 9 14 #[false,false,false,false,false,false,false,false,false,false,false,false,false,false] _ (World.drew _)
      generalize wr.drew = W0 at *
      refine wpAnyK_takeAny (i := 0) (oi := ⟨some 11, _, _, _, _, _⟩) (v := ?_) rfl (by kernel_rfl) (by kernel_rfl) (by kernel_rfl) (by kernel_rfl) (fun _ _ _ h => h) (Or.inl ⟨by kernel_rfl, ?_⟩) (fun _ => ⟨hPd.cell 0, hPd.cell 1⟩) ?_
      rotate_left
      · intro w'; go_simp; rfl
      try simp only [Act.put, List.setIfInBounds_toArray, List.set_cons_zero, List.set_cons_succ]
      refine wpAnyK_takeAny (i := 6) (oi := ⟨some 17, _, _, _, _, _⟩) (v := ?_) rfl (by kernel_rfl) (by kernel_rfl) (by kernel_rfl) (by kernel_rfl) (fun _ _ _ h => h) (Or.inl ⟨by kernel_rfl, ?_⟩) (fun _ => ⟨hPd.cell 0, hPd.cell 1⟩) ?_
      rotate_left
      · intro w'; go_simp; rfl
      try simp only [Act.put, List.setIfInBounds_toArray, List.set_cons_zero, List.set_cons_succ]
      refine wpAnyK_take (i := 1) (oi := ⟨some 12, _, _, _, _, _⟩) (L := [5, 9, 10, 11, 12, 13]) (v := ?_) rfl (by kernel_rfl) (by kernel_rfl) (by kernel_rfl) (by kernel_rfl) (fun _ _ _ h => h) (Or.inl ⟨by kernel_rfl, ?_⟩) ⟨hPd.cell 0, hPd.cell 1⟩ ?_
      rotate_left
      · rintro w' ⟨e0, e1⟩; go_simp; rfl
      try simp only [Act.put, List.setIfInBounds_toArray, List.set_cons_zero, List.set_cons_succ]
      refine wpAnyK_take (i := 7) (oi := ⟨some 18, _, _, _, _, _⟩) (L := [9, 10, 11, 12, 13]) (v := ?_) rfl (by kernel_rfl) (by kernel_rfl) (by kernel_rfl) (by kernel_rfl) (fun _ _ _ h => h) (Or.inl ⟨by kernel_rfl, ?_⟩) ⟨hPd.cell 0, hPd.cell 1⟩ ?_
      rotate_left
      · rintro w' ⟨e0, e1⟩; go_simp; rfl
      try simp only [Act.put, List.setIfInBounds_toArray, List.set_cons_zero, List.set_cons_succ]
      refine wpAnyK_ready (rs := [2, 8]) (by kernel_rfl) (by simp) ?_
      refine AllReadyK.cons (o := ⟨some 13, _, _, _, _, _⟩) rfl (fun K hK => ?_) (AllReadyK.cons (o := ⟨some 19, _, _, _, _, _⟩) rfl (fun K hK => ?_) AllReadyK.nil)
      · -- 2
        have hb1 : Below W0.heap.size W0 (W0.alloc (.cells (Lib.byteCells z).toArray 5)) := (Below.refl _ _).alloc (Nat.le_refl _) _
        have hTw1 := hTd.up hb1
        have hP1 := hPd.up hb1
        have hR1 := hRd.up hb1
        have hB1 := hBd.trans (hb1.mono hTd.at0)
        have hY1 : RowB (W0.alloc (.cells (Lib.byteCells z).toArray 5)) W0.heap.size z := by unfold RowB; exact Blk.made _ _ _
        have hm1 := HMK.out W0
        go_simp
        refine hK _ _ (fun _ => ⟨hP1.cell 0, hP1.cell 1⟩) ?_
        clear hK K
        generalize W0.alloc (.cells (Lib.byteCells z).toArray 5) = W1 at *
        clear hm1 hb1
        refine wpAnyK_ready (rs := [3, 8]) (by kernel_rfl) (by simp) ?_
        refine AllReadyK.cons (o := ⟨some 14, _, _, _, _, _⟩) rfl (fun K hK => ?_) (AllReadyK.cons (o := ⟨some 19, _, _, _, _, _⟩) rfl (fun K hK => ?_) AllReadyK.nil)
        · -- 3
          have hc2 := hY1.conv 512 512 HZL.out.symm
          go_simp
          clear hc2
          refine hK _ _ (fun _ => ⟨hP1.cell 0, hP1.cell 1⟩) ?_
          clear hK K
          refine wpAnyK_ready (rs := [4, 8]) (by kernel_rfl) (by simp) ?_
          refine AllReadyK.cons (o := ⟨some 15, _, _, _, _, _⟩) rfl (fun K hK => ?_) (AllReadyK.cons (o := ⟨some 19, _, _, _, _, _⟩) rfl (fun K hK => ?_) AllReadyK.nil)
          · -- 4
            have hb3 : Below W1.heap.size W1 (W1.alloc (.cells #[.string (bs z)] 9)) := (Below.refl _ _).alloc (Nat.le_refl _) _
            have hTw3 := hTw1.up hb3
            have hP3 := hP1.up hb3
            have hR3 := hR1.up hb3
            have hB3 := hB1.trans (hb3.mono hTw1.at0)
            have hZ3 : Blk (W1.alloc (.cells #[.string (bs z)] 9)) W1.heap.size 9 #[.string (bs z)] := Blk.made _ _ _
            go_simp
            refine hK _ _ (fun _ => ⟨hP3.cell 0, hP3.cell 1⟩) ?_
            clear hK K
            generalize W1.alloc (.cells #[.string (bs z)] 9) = W3 at *
            refine wpAnyK_ready (rs := [5, 8]) (by kernel_rfl) (by simp) ?_
            refine AllReadyK.cons (o := ⟨some 16, _, _, _, _, _⟩) rfl (fun K hK => ?_) (AllReadyK.cons (o := ⟨some 19, _, _, _, _, _⟩) rfl (fun K hK => ?_) AllReadyK.nil)
            · -- 5
              obtain ⟨u1, W4, hr4, hs4, hg4⟩ := hTw3.append hZ3 hkl
              obtain ⟨A4, n4, c4, he4⟩ := hs4.one.form
              subst he4
              rw [if_pos (by kernel_rfl)]
              refine Lib.wp_append_run _ (.tmp 12) (.tmp 15) 56 56 rfl _ _ rfl rfl _ _ hr4 ?_
              try simp only [Act.put, List.setIfInBounds_toArray, List.set_cons_zero, List.set_cons_succ]
              have hTw4 := hs4
              have hP4 := hTw3.blk hg4 hP3 (by decide)
              have hR4 := hTw3.blk hg4 hR3 (by decide)
              have hB4 := hTw3.below hg4 hB3 (Nat.le_refl _)
              refine hK _ _ (fun _ => ⟨hP4.cell 0, hP4.cell 1⟩) ?_
              clear hK K
              refine wpAnyK_takeAny (i := 10) (oi := ⟨some 21, _, _, _, _, _⟩) (v := ?_) rfl (by kernel_rfl) (by kernel_rfl) (by kernel_rfl) (by kernel_rfl) (fun _ _ _ h => h) (Or.inl ⟨by kernel_rfl, ?_⟩) (fun _ => ⟨hP4.cell 0, hP4.cell 1⟩) ?_
              rotate_left
              · intro w'; go_simp; rfl
              try simp only [Act.put, List.setIfInBounds_toArray, List.set_cons_zero, List.set_cons_succ]
              refine wpAnyK_ready (rs := [8]) (by kernel_rfl) (by simp) ?_
              refine AllReadyK.cons (o := ⟨some 19, _, _, _, _, _⟩) rfl (fun K hK => ?_) AllReadyK.nil
              have hb5 : Below W4.heap.size W4 (W4.alloc (.cells #[.string ⟨#[]⟩] 9)) := (Below.refl _ _).alloc (Nat.le_refl _) _
              have hTw5 := hTw4.up hb5
              have hP5 := hP4.up hb5
              have hR5 := hR4.up hb5
              have hB5 := hB4.trans (hb5.mono hTw4.at0)
              have hE5 : Blk (W4.alloc (.cells #[.string ⟨#[]⟩] 9)) W4.heap.size 9 #[.string (bs [])] := Blk.made _ _ _
              have hn5 := hTw4.fresh
              go_simp
              refine hK _ _ (fun _ => ⟨hP5.cell 0, hP5.cell 1⟩) ?_
              clear hK K
              generalize W4.alloc (.cells #[.string ⟨#[]⟩] 9) = W5 at *
              refine wpAnyK_ready (rs := [9]) (by kernel_rfl) (by simp) ?_
              refine AllReadyK.cons (o := ⟨some 20, _, _, _, _, _⟩) rfl (fun K hK => ?_) AllReadyK.nil
              obtain ⟨v1, W6, hr6, hs6, hg6⟩ := hTw5.swap.append hE5 hkl2
              obtain ⟨A6, n6, c6, he6⟩ := hs6.one.form
              subst he6
              rw [if_pos (by kernel_rfl)]
              refine Lib.wp_append_run _ (.tmp 18) (.tmp 19) 56 56 rfl _ _ rfl rfl _ _ hr6 ?_
              try simp only [Act.put, List.setIfInBounds_toArray, List.set_cons_zero, List.set_cons_succ]
              have hTw6 := hs6.swap
              have hP6 := hTw5.swap.blk hg6 hP5 (by decide)
              have hR6 := hTw5.swap.blk hg6 hR5 (by decide)
              have hB6 := hTw5.swap.below hg6 hB5 (Nat.le_refl _)
              refine hK _ _ (fun h => by cases h) ?_
              clear hK K
              refine wpAnyK_ready (rs := [11]) (by kernel_rfl) (by simp) ?_
              refine AllReadyK.cons (o := ⟨none, _, _, _, _, _⟩) rfl (fun K hK => ?_) AllReadyK.nil
              have f7 := hP6.frozen 0
              have cc7 := hP6.cell 0
              go_simp
              refine hK _ _ (fun h => by cases h) ?_
              clear hK K
              have hTw7 := hTw6.setBlk hP6 (by decide) 0 (.slice A4 n4 c4)
              have hR7 := hR6.setOther hne 0 (.slice A4 n4 c4)
              have hB7 := hB6.setCell (p := ⟨pb, 0, none⟩) hpb (.slice A4 n4 c4)
              have hP7 := hP6.set 0 (.slice A4 n4 c4)
              clear f7 cc7
              generalize W6.setCell ⟨pb, 0, none⟩ (.slice A4 n4 c4) = W7 at *
              refine wpAnyK_takeAny (i := 12) (oi := ⟨some 22, _, _, _, _, _⟩) (v := ?_) rfl (by kernel_rfl) (by kernel_rfl) (by kernel_rfl) (by kernel_rfl) (fun _ _ _ h => h) (Or.inl ⟨by kernel_rfl, ?_⟩) (fun h => by cases h) ?_
              rotate_left
              · intro w'; go_simp; rfl
              try simp only [Act.put, List.setIfInBounds_toArray, List.set_cons_zero, List.set_cons_succ]
              refine wpAnyK_ready (rs := [13]) (by kernel_rfl) (by simp) ?_
              refine AllReadyK.cons (o := ⟨none, _, _, _, _, _⟩) rfl (fun K hK => ?_) AllReadyK.nil
              have f8 := hP7.frozen 1
              have cc8 := hP7.cell 1
              go_simp
              refine hK _ _ (fun h => by cases h) ?_
              clear hK K
              have hTw8 := hTw7.setBlk hP7 (by decide) 1 (.slice A6 n6 c6)
              have hR8 := hR7.setOther hne 1 (.slice A6 n6 c6)
              have hB8 := hB7.setCell (p := ⟨pb, 1, none⟩) hpb (.slice A6 n6 c6)
              have hP8 := hP7.set 1 (.slice A6 n6 c6)
              clear f8 cc8
              generalize W7.setCell ⟨pb, 1, none⟩ (.slice A6 n6 c6) = W8 at *
              refine wpAnyK_done (by kernel_rfl) ?_ _
              go_wp2_with fail
              go_roundg (8 - (k + 1))
              case measure => omega
              case rel => exact ⟨k + 1, by omega, rfl, by go_num, _, _, hP8, hR8, HKS.out ▸ HKE.out ▸ hTw8, hB8⟩
            · -- 8
              have hb9 : Below W3.heap.size W3 (W3.alloc (.cells #[.string ⟨#[]⟩] 9)) := (Below.refl _ _).alloc (Nat.le_refl _) _
              have hTw9 := hTw3.up hb9
              have hP9 := hP3.up hb9
              have hR9 := hR3.up hb9
              have hB9 := hB3.trans (hb9.mono hTw3.at0)
              have hZ9 := hZ3.up hb9
              have hE9 : Blk (W3.alloc (.cells #[.string ⟨#[]⟩] 9)) W3.heap.size 9 #[.string (bs [])] := Blk.made _ _ _
              have hn9 := hTw3.fresh
              go_simp
              refine hK _ _ (fun _ => ⟨hP9.cell 0, hP9.cell 1⟩) ?_
              clear hK K
              generalize W3.alloc (.cells #[.string ⟨#[]⟩] 9) = W9 at *
              refine wpAnyK_ready (rs := [5]) (by kernel_rfl) (by simp) ?_
              refine AllReadyK.cons (o := ⟨some 16, _, _, _, _, _⟩) rfl (fun K hK => ?_) AllReadyK.nil
              obtain ⟨u1, W10, hr10, hs10, hg10⟩ := hTw9.append hZ9 hkl
              obtain ⟨A10, n10, c10, he10⟩ := hs10.one.form
              subst he10
              rw [if_pos (by kernel_rfl)]
              refine Lib.wp_append_run _ (.tmp 12) (.tmp 15) 56 56 rfl _ _ rfl rfl _ _ hr10 ?_
              try simp only [Act.put, List.setIfInBounds_toArray, List.set_cons_zero, List.set_cons_succ]
              have hTw10 := hs10
              have hP10 := hTw9.blk hg10 hP9 (by decide)
              have hR10 := hTw9.blk hg10 hR9 (by decide)
              have hB10 := hTw9.below hg10 hB9 (Nat.le_refl _)
              have hE10 := hTw9.blkAt hg10 hE9 hn9
              refine hK _ _ (fun _ => ⟨hP10.cell 0, hP10.cell 1⟩) ?_
              clear hK K
              refine wpAnyK_takeAny (i := 10) (oi := ⟨some 21, _, _, _, _, _⟩) (v := ?_) rfl (by kernel_rfl) (by kernel_rfl) (by kernel_rfl) (by kernel_rfl) (fun _ _ _ h => h) (Or.inl ⟨by kernel_rfl, ?_⟩) (fun _ => ⟨hP10.cell 0, hP10.cell 1⟩) ?_
              rotate_left
              · intro w'; go_simp; rfl
              try simp only [Act.put, List.setIfInBounds_toArray, List.set_cons_zero, List.set_cons_succ]
              refine wpAnyK_ready (rs := [9]) (by kernel_rfl) (by simp) ?_
              refine AllReadyK.cons (o := ⟨some 20, _, _, _, _, _⟩) rfl (fun K hK => ?_) AllReadyK.nil
              obtain ⟨v1, W11, hr11, hs11, hg11⟩ := hTw10.swap.append hE10 hkl2
              obtain ⟨A11, n11, c11, he11⟩ := hs11.one.form
              subst he11
              rw [if_pos (by kernel_rfl)]
              refine Lib.wp_append_run _ (.tmp 18) (.tmp 19) 56 56 rfl _ _ rfl rfl _ _ hr11 ?_
              try simp only [Act.put, List.setIfInBounds_toArray, List.set_cons_zero, List.set_cons_succ]
              have hTw11 := hs11.swap
              have hP11 := hTw10.swap.blk hg11 hP10 (by decide)
              have hR11 := hTw10.swap.blk hg11 hR10 (by decide)
              have hB11 := hTw10.swap.below hg11 hB10 (Nat.le_refl _)
              refine hK _ _ (fun h => by cases h) ?_
              clear hK K
              refine wpAnyK_ready (rs := [11]) (by kernel_rfl) (by simp) ?_
              refine AllReadyK.cons (o := ⟨none, _, _, _, _, _⟩) rfl (fun K hK => ?_) AllReadyK.nil
              have f12 := hP11.frozen 0
              have cc12 := hP11.cell 0
              go_simp
              refine hK _ _ (fun h => by cases h) ?_
              clear hK K
              have hTw12 := hTw11.setBlk hP11 (by decide) 0 (.slice A10 n10 c10)
              have hR12 := hR11.setOther hne 0 (.slice A10 n10 c10)
              have hB12 := hB11.setCell (p := ⟨pb, 0, none⟩) hpb (.slice A10 n10 c10)
              have hP12 := hP11.set 0 (.slice A10 n10 c10)
              clear f12 cc12
              generalize W11.setCell ⟨pb, 0, none⟩ (.slice A10 n10 c10) = W12 at *
              refine wpAnyK_takeAny (i := 12) (oi := ⟨some 22, _, _, _, _, _⟩) (v := ?_) rfl (by kernel_rfl) (by kernel_rfl) (by kernel_rfl) (by kernel_rfl) (fun _ _ _ h => h) (Or.inl ⟨by kernel_rfl, ?_⟩) (fun h => by cases h) ?_
              rotate_left
              · intro w'; go_simp; rfl
              try simp only [Act.put, List.setIfInBounds_toArray, List.set_cons_zero, List.set_cons_succ]
              refine wpAnyK_ready (rs := [13]) (by kernel_rfl) (by simp) ?_
              refine AllReadyK.cons (o := ⟨none, _, _, _, _, _⟩) rfl (fun K hK => ?_) AllReadyK.nil
              have f13 := hP12.frozen 1
              have cc13 := hP12.cell 1
              go_simp
              refine hK _ _ (fun h => by cases h) ?_
              clear hK K
              have hTw13 := hTw12.setBlk hP12 (by decide) 1 (.slice A11 n11 c11)
              have hR13 := hR12.setOther hne 1 (.slice A11 n11 c11)
              have hB13 := hB12.setCell (p := ⟨pb, 1, none⟩) hpb (.slice A11 n11 c11)
              have hP13 := hP12.set 1 (.slice A11 n11 c11)
              clear f13 cc13
              generalize W12.setCell ⟨pb, 1, none⟩ (.slice A11 n11 c11) = W13 at *
              refine wpAnyK_done (by kernel_rfl) ?_ _
              go_wp2_with fail
              go_roundg (8 - (k + 1))
              case measure => omega
              case rel => exact ⟨k + 1, by omega, rfl, by go_num, _, _, hP13, hR13, HKS.out ▸ HKE.out ▸ hTw13, hB13⟩
          · -- 8
            have hb14 : Below W1.heap.size W1 (W1.alloc (.cells #[.string ⟨#[]⟩] 9)) := (Below.refl _ _).alloc (Nat.le_refl _) _
            have hTw14 := hTw1.up hb14
            have hP14 := hP1.up hb14
            have hR14 := hR1.up hb14
            have hB14 := hB1.trans (hb14.mono hTw1.at0)
            have hE14 : Blk (W1.alloc (.cells #[.string ⟨#[]⟩] 9)) W1.heap.size 9 #[.string (bs [])] := Blk.made _ _ _
            have hn14 := hTw1.fresh
            have hY14 : RowB (W1.alloc (.cells #[.string ⟨#[]⟩] 9)) _ z := (show Blk W1 _ _ _ from hY1).up hb14
            go_simp
            refine hK _ _ (fun _ => ⟨hP14.cell 0, hP14.cell 1⟩) ?_
            clear hK K
            generalize W1.alloc (.cells #[.string ⟨#[]⟩] 9) = W14 at *
            refine wpAnyK_ready (rs := [4]) (by kernel_rfl) (by simp) ?_
            refine AllReadyK.cons (o := ⟨some 15, _, _, _, _, _⟩) rfl (fun K hK => ?_) AllReadyK.nil
            have hb15 : Below W14.heap.size W14 (W14.alloc (.cells #[.string (bs z)] 9)) := (Below.refl _ _).alloc (Nat.le_refl _) _
            have hTw15 := hTw14.up hb15
            have hP15 := hP14.up hb15
            have hR15 := hR14.up hb15
            have hB15 := hB14.trans (hb15.mono hTw14.at0)
            have hE15 := hE14.up hb15
            have hZ15 : Blk (W14.alloc (.cells #[.string (bs z)] 9)) W14.heap.size 9 #[.string (bs z)] := Blk.made _ _ _
            go_simp
            refine hK _ _ (fun _ => ⟨hP15.cell 0, hP15.cell 1⟩) ?_
            clear hK K
            generalize W14.alloc (.cells #[.string (bs z)] 9) = W15 at *
            refine wpAnyK_ready (rs := [5]) (by kernel_rfl) (by simp) ?_
            refine AllReadyK.cons (o := ⟨some 16, _, _, _, _, _⟩) rfl (fun K hK => ?_) AllReadyK.nil
            obtain ⟨u1, W16, hr16, hs16, hg16⟩ := hTw15.append hZ15 hkl
            obtain ⟨A16, n16, c16, he16⟩ := hs16.one.form
            subst he16
            rw [if_pos (by kernel_rfl)]
            refine Lib.wp_append_run _ (.tmp 12) (.tmp 15) 56 56 rfl _ _ rfl rfl _ _ hr16 ?_
            try simp only [Act.put, List.setIfInBounds_toArray, List.set_cons_zero, List.set_cons_succ]
            have hTw16 := hs16
            have hP16 := hTw15.blk hg16 hP15 (by decide)
            have hR16 := hTw15.blk hg16 hR15 (by decide)
            have hB16 := hTw15.below hg16 hB15 (Nat.le_refl _)
            have hE16 := hTw15.blkAt hg16 hE15 hn14
            refine hK _ _ (fun _ => ⟨hP16.cell 0, hP16.cell 1⟩) ?_
            clear hK K
            refine wpAnyK_takeAny (i := 10) (oi := ⟨some 21, _, _, _, _, _⟩) (v := ?_) rfl (by kernel_rfl) (by kernel_rfl) (by kernel_rfl) (by kernel_rfl) (fun _ _ _ h => h) (Or.inl ⟨by kernel_rfl, ?_⟩) (fun _ => ⟨hP16.cell 0, hP16.cell 1⟩) ?_
            rotate_left
            · intro w'; go_simp; rfl
            try simp only [Act.put, List.setIfInBounds_toArray, List.set_cons_zero, List.set_cons_succ]
            refine wpAnyK_ready (rs := [9]) (by kernel_rfl) (by simp) ?_
            refine AllReadyK.cons (o := ⟨some 20, _, _, _, _, _⟩) rfl (fun K hK => ?_) AllReadyK.nil
            obtain ⟨v1, W17, hr17, hs17, hg17⟩ := hTw16.swap.append hE16 hkl2
            obtain ⟨A17, n17, c17, he17⟩ := hs17.one.form
            subst he17
            rw [if_pos (by kernel_rfl)]
            refine Lib.wp_append_run _ (.tmp 18) (.tmp 19) 56 56 rfl _ _ rfl rfl _ _ hr17 ?_
            try simp only [Act.put, List.setIfInBounds_toArray, List.set_cons_zero, List.set_cons_succ]
            have hTw17 := hs17.swap
            have hP17 := hTw16.swap.blk hg17 hP16 (by decide)
            have hR17 := hTw16.swap.blk hg17 hR16 (by decide)
            have hB17 := hTw16.swap.below hg17 hB16 (Nat.le_refl _)
            refine hK _ _ (fun h => by cases h) ?_
            clear hK K
            refine wpAnyK_ready (rs := [11]) (by kernel_rfl) (by simp) ?_
            refine AllReadyK.cons (o := ⟨none, _, _, _, _, _⟩) rfl (fun K hK => ?_) AllReadyK.nil
            have f18 := hP17.frozen 0
            have cc18 := hP17.cell 0
            go_simp
            refine hK _ _ (fun h => by cases h) ?_
            clear hK K
            have hTw18 := hTw17.setBlk hP17 (by decide) 0 (.slice A16 n16 c16)
            have hR18 := hR17.setOther hne 0 (.slice A16 n16 c16)
            have hB18 := hB17.setCell (p := ⟨pb, 0, none⟩) hpb (.slice A16 n16 c16)
            have hP18 := hP17.set 0 (.slice A16 n16 c16)
            clear f18 cc18
            generalize W17.setCell ⟨pb, 0, none⟩ (.slice A16 n16 c16) = W18 at *
            refine wpAnyK_takeAny (i := 12) (oi := ⟨some 22, _, _, _, _, _⟩) (v := ?_) rfl (by kernel_rfl) (by kernel_rfl) (by kernel_rfl) (by kernel_rfl) (fun _ _ _ h => h) (Or.inl ⟨by kernel_rfl, ?_⟩) (fun h => by cases h) ?_
            rotate_left
            · intro w'; go_simp; rfl
            try simp only [Act.put, List.setIfInBounds_toArray, List.set_cons_zero, List.set_cons_succ]
            refine wpAnyK_ready (rs := [13]) (by kernel_rfl) (by simp) ?_
            refine AllReadyK.cons (o := ⟨none, _, _, _, _, _⟩) rfl (fun K hK => ?_) AllReadyK.nil
            have f19 := hP18.frozen 1
            have cc19 := hP18.cell 1
            go_simp
            refine hK _ _ (fun h => by cases h) ?_
            clear hK K
            have hTw19 := hTw18.setBlk hP18 (by decide) 1 (.slice A17 n17 c17)
            have hR19 := hR18.setOther hne 1 (.slice A17 n17 c17)
            have hB19 := hB18.setCell (p := ⟨pb, 1, none⟩) hpb (.slice A17 n17 c17)
            have hP19 := hP18.set 1 (.slice A17 n17 c17)
            clear f19 cc19
            generalize W18.setCell ⟨pb, 1, none⟩ (.slice A17 n17 c17) = W19 at *
            refine wpAnyK_done (by kernel_rfl) ?_ _
            go_wp2_with fail
            go_roundg (8 - (k + 1))
            case measure => omega
            case rel => exact ⟨k + 1, by omega, rfl, by go_num, _, _, hP19, hR19, HKS.out ▸ HKE.out ▸ hTw19, hB19⟩
        · -- 8
          have hb20 : Below W1.heap.size W1 (W1.alloc (.cells #[.string ⟨#[]⟩] 9)) := (Below.refl _ _).alloc (Nat.le_refl _) _
          have hTw20 := hTw1.up hb20
          have hP20 := hP1.up hb20
          have hR20 := hR1.up hb20
          have hB20 := hB1.trans (hb20.mono hTw1.at0)
          have hE20 : Blk (W1.alloc (.cells #[.string ⟨#[]⟩] 9)) W1.heap.size 9 #[.string (bs [])] := Blk.made _ _ _
          have hn20 := hTw1.fresh
          have hY20 : RowB (W1.alloc (.cells #[.string ⟨#[]⟩] 9)) _ z := (show Blk W1 _ _ _ from hY1).up hb20
          go_simp
          refine hK _ _ (fun _ => ⟨hP20.cell 0, hP20.cell 1⟩) ?_
          clear hK K
          generalize W1.alloc (.cells #[.string ⟨#[]⟩] 9) = W20 at *
          refine wpAnyK_ready (rs := [3]) (by kernel_rfl) (by simp) ?_
          refine AllReadyK.cons (o := ⟨some 14, _, _, _, _, _⟩) rfl (fun K hK => ?_) AllReadyK.nil
          have hc21 := hY20.conv 512 512 HZL.out.symm
          go_simp
          clear hc21
          refine hK _ _ (fun _ => ⟨hP20.cell 0, hP20.cell 1⟩) ?_
          clear hK K
          refine wpAnyK_ready (rs := [4]) (by kernel_rfl) (by simp) ?_
          refine AllReadyK.cons (o := ⟨some 15, _, _, _, _, _⟩) rfl (fun K hK => ?_) AllReadyK.nil
          have hb22 : Below W20.heap.size W20 (W20.alloc (.cells #[.string (bs z)] 9)) := (Below.refl _ _).alloc (Nat.le_refl _) _
          have hTw22 := hTw20.up hb22
          have hP22 := hP20.up hb22
          have hR22 := hR20.up hb22
          have hB22 := hB20.trans (hb22.mono hTw20.at0)
          have hE22 := hE20.up hb22
          have hZ22 : Blk (W20.alloc (.cells #[.string (bs z)] 9)) W20.heap.size 9 #[.string (bs z)] := Blk.made _ _ _
          go_simp
          refine hK _ _ (fun _ => ⟨hP22.cell 0, hP22.cell 1⟩) ?_
          clear hK K
          generalize W20.alloc (.cells #[.string (bs z)] 9) = W22 at *
          refine wpAnyK_ready (rs := [5]) (by kernel_rfl) (by simp) ?_
          refine AllReadyK.cons (o := ⟨some 16, _, _, _, _, _⟩) rfl (fun K hK => ?_) AllReadyK.nil
          obtain ⟨u1, W23, hr23, hs23, hg23⟩ := hTw22.append hZ22 hkl
          obtain ⟨A23, n23, c23, he23⟩ := hs23.one.form
          subst he23
          rw [if_pos (by kernel_rfl)]
          refine Lib.wp_append_run _ (.tmp 12) (.tmp 15) 56 56 rfl _ _ rfl rfl _ _ hr23 ?_
          try simp only [Act.put, List.setIfInBounds_toArray, List.set_cons_zero, List.set_cons_succ]
          have hTw23 := hs23
          have hP23 := hTw22.blk hg23 hP22 (by decide)
          have hR23 := hTw22.blk hg23 hR22 (by decide)
          have hB23 := hTw22.below hg23 hB22 (Nat.le_refl _)
          have hE23 := hTw22.blkAt hg23 hE22 hn20
          refine hK _ _ (fun _ => ⟨hP23.cell 0, hP23.cell 1⟩) ?_
          clear hK K
          refine wpAnyK_takeAny (i := 10) (oi := ⟨some 21, _, _, _, _, _⟩) (v := ?_) rfl (by kernel_rfl) (by kernel_rfl) (by kernel_rfl) (by kernel_rfl) (fun _ _ _ h => h) (Or.inl ⟨by kernel_rfl, ?_⟩) (fun _ => ⟨hP23.cell 0, hP23.cell 1⟩) ?_
          rotate_left
          · intro w'; go_simp; rfl
          try simp only [Act.put, List.setIfInBounds_toArray, List.set_cons_zero, List.set_cons_succ]
          refine wpAnyK_ready (rs := [9]) (by kernel_rfl) (by simp) ?_
          refine AllReadyK.cons (o := ⟨some 20, _, _, _, _, _⟩) rfl (fun K hK => ?_) AllReadyK.nil
          obtain ⟨v1, W24, hr24, hs24, hg24⟩ := hTw23.swap.append hE23 hkl2
          obtain ⟨A24, n24, c24, he24⟩ := hs24.one.form
          subst he24
          rw [if_pos (by kernel_rfl)]
          refine Lib.wp_append_run _ (.tmp 18) (.tmp 19) 56 56 rfl _ _ rfl rfl _ _ hr24 ?_
          try simp only [Act.put, List.setIfInBounds_toArray, List.set_cons_zero, List.set_cons_succ]
          have hTw24 := hs24.swap
          have hP24 := hTw23.swap.blk hg24 hP23 (by decide)
          have hR24 := hTw23.swap.blk hg24 hR23 (by decide)
          have hB24 := hTw23.swap.below hg24 hB23 (Nat.le_refl _)
          refine hK _ _ (fun h => by cases h) ?_
          clear hK K
          refine wpAnyK_ready (rs := [11]) (by kernel_rfl) (by simp) ?_
          refine AllReadyK.cons (o := ⟨none, _, _, _, _, _⟩) rfl (fun K hK => ?_) AllReadyK.nil
          have f25 := hP24.frozen 0
          have cc25 := hP24.cell 0
          go_simp
          refine hK _ _ (fun h => by cases h) ?_
          clear hK K
          have hTw25 := hTw24.setBlk hP24 (by decide) 0 (.slice A23 n23 c23)
          have hR25 := hR24.setOther hne 0 (.slice A23 n23 c23)
          have hB25 := hB24.setCell (p := ⟨pb, 0, none⟩) hpb (.slice A23 n23 c23)
          have hP25 := hP24.set 0 (.slice A23 n23 c23)
          clear f25 cc25
          generalize W24.setCell ⟨pb, 0, none⟩ (.slice A23 n23 c23) = W25 at *
          refine wpAnyK_takeAny (i := 12) (oi := ⟨some 22, _, _, _, _, _⟩) (v := ?_) rfl (by kernel_rfl) (by kernel_rfl) (by kernel_rfl) (by kernel_rfl) (fun _ _ _ h => h) (Or.inl ⟨by kernel_rfl, ?_⟩) (fun h => by cases h) ?_
          rotate_left
          · intro w'; go_simp; rfl
          try simp only [Act.put, List.setIfInBounds_toArray, List.set_cons_zero, List.set_cons_succ]
          refine wpAnyK_ready (rs := [13]) (by kernel_rfl) (by simp) ?_
          refine AllReadyK.cons (o := ⟨none, _, _, _, _, _⟩) rfl (fun K hK => ?_) AllReadyK.nil
          have f26 := hP25.frozen 1
          have cc26 := hP25.cell 1
          go_simp
          refine hK _ _ (fun h => by cases h) ?_
          clear hK K
          have hTw26 := hTw25.setBlk hP25 (by decide) 1 (.slice A24 n24 c24)
          have hR26 := hR25.setOther hne 1 (.slice A24 n24 c24)
          have hB26 := hB25.setCell (p := ⟨pb, 1, none⟩) hpb (.slice A24 n24 c24)
          have hP26 := hP25.set 1 (.slice A24 n24 c24)
          clear f26 cc26
          generalize W25.setCell ⟨pb, 1, none⟩ (.slice A24 n24 c24) = W26 at *
          refine wpAnyK_done (by kernel_rfl) ?_ _
          go_wp2_with fail
          go_roundg (8 - (k + 1))
          case measure => omega
          case rel => exact ⟨k + 1, by omega, rfl, by go_num, _, _, hP26, hR26, HKS.out ▸ HKE.out ▸ hTw26, hB26⟩
      · -- 8
        have hb27 : Below W0.heap.size W0 (W0.alloc (.cells #[.string ⟨#[]⟩] 9)) := (Below.refl _ _).alloc (Nat.le_refl _) _
        have hTw27 := hTd.up hb27
        have hP27 := hPd.up hb27
        have hR27 := hRd.up hb27
        have hB27 := hBd.trans (hb27.mono hTd.at0)
        have hE27 : Blk (W0.alloc (.cells #[.string ⟨#[]⟩] 9)) W0.heap.size 9 #[.string (bs [])] := Blk.made _ _ _
        have hn27 := hTd.fresh
        go_simp
        refine hK _ _ (fun _ => ⟨hP27.cell 0, hP27.cell 1⟩) ?_
        clear hK K
        generalize W0.alloc (.cells #[.string ⟨#[]⟩] 9) = W27 at *
        refine wpAnyK_ready (rs := [2]) (by kernel_rfl) (by simp) ?_
        refine AllReadyK.cons (o := ⟨some 13, _, _, _, _, _⟩) rfl (fun K hK => ?_) AllReadyK.nil
        have hb28 : Below W27.heap.size W27 (W27.alloc (.cells (Lib.byteCells z).toArray 5)) := (Below.refl _ _).alloc (Nat.le_refl _) _
        have hTw28 := hTw27.up hb28
        have hP28 := hP27.up hb28
        have hR28 := hR27.up hb28
        have hB28 := hB27.trans (hb28.mono hTw27.at0)
        have hE28 := hE27.up hb28
        have hY28 : RowB (W27.alloc (.cells (Lib.byteCells z).toArray 5)) W27.heap.size z := by unfold RowB; exact Blk.made _ _ _
        have hm28 := HMK.out W27
        go_simp
        refine hK _ _ (fun _ => ⟨hP28.cell 0, hP28.cell 1⟩) ?_
        clear hK K
        generalize W27.alloc (.cells (Lib.byteCells z).toArray 5) = W28 at *
        clear hm28 hb28
        refine wpAnyK_ready (rs := [3]) (by kernel_rfl) (by simp) ?_
        refine AllReadyK.cons (o := ⟨some 14, _, _, _, _, _⟩) rfl (fun K hK => ?_) AllReadyK.nil
        have hc29 := hY28.conv 512 512 HZL.out.symm
        go_simp
        clear hc29
        refine hK _ _ (fun _ => ⟨hP28.cell 0, hP28.cell 1⟩) ?_
        clear hK K
        refine wpAnyK_ready (rs := [4]) (by kernel_rfl) (by simp) ?_
        refine AllReadyK.cons (o := ⟨some 15, _, _, _, _, _⟩) rfl (fun K hK => ?_) AllReadyK.nil
        have hb30 : Below W28.heap.size W28 (W28.alloc (.cells #[.string (bs z)] 9)) := (Below.refl _ _).alloc (Nat.le_refl _) _
        have hTw30 := hTw28.up hb30
        have hP30 := hP28.up hb30
        have hR30 := hR28.up hb30
        have hB30 := hB28.trans (hb30.mono hTw28.at0)
        have hE30 := hE28.up hb30
        have hZ30 : Blk (W28.alloc (.cells #[.string (bs z)] 9)) W28.heap.size 9 #[.string (bs z)] := Blk.made _ _ _
        go_simp
        refine hK _ _ (fun _ => ⟨hP30.cell 0, hP30.cell 1⟩) ?_
        clear hK K
        generalize W28.alloc (.cells #[.string (bs z)] 9) = W30 at *
        refine wpAnyK_ready (rs := [5]) (by kernel_rfl) (by simp) ?_
        refine AllReadyK.cons (o := ⟨some 16, _, _, _, _, _⟩) rfl (fun K hK => ?_) AllReadyK.nil
        obtain ⟨u1, W31, hr31, hs31, hg31⟩ := hTw30.append hZ30 hkl
        obtain ⟨A31, n31, c31, he31⟩ := hs31.one.form
        subst he31
        rw [if_pos (by kernel_rfl)]
        refine Lib.wp_append_run _ (.tmp 12) (.tmp 15) 56 56 rfl _ _ rfl rfl _ _ hr31 ?_
        try simp only [Act.put, List.setIfInBounds_toArray, List.set_cons_zero, List.set_cons_succ]
        have hTw31 := hs31
        have hP31 := hTw30.blk hg31 hP30 (by decide)
        have hR31 := hTw30.blk hg31 hR30 (by decide)
        have hB31 := hTw30.below hg31 hB30 (Nat.le_refl _)
        have hE31 := hTw30.blkAt hg31 hE30 hn27
        refine hK _ _ (fun _ => ⟨hP31.cell 0, hP31.cell 1⟩) ?_
        clear hK K
        refine wpAnyK_takeAny (i := 10) (oi := ⟨some 21, _, _, _, _, _⟩) (v := ?_) rfl (by kernel_rfl) (by kernel_rfl) (by kernel_rfl) (by kernel_rfl) (fun _ _ _ h => h) (Or.inl ⟨by kernel_rfl, ?_⟩) (fun _ => ⟨hP31.cell 0, hP31.cell 1⟩) ?_
        rotate_left
        · intro w'; go_simp; rfl
        try simp only [Act.put, List.setIfInBounds_toArray, List.set_cons_zero, List.set_cons_succ]
        refine wpAnyK_ready (rs := [9]) (by kernel_rfl) (by simp) ?_
        refine AllReadyK.cons (o := ⟨some 20, _, _, _, _, _⟩) rfl (fun K hK => ?_) AllReadyK.nil
        obtain ⟨v1, W32, hr32, hs32, hg32⟩ := hTw31.swap.append hE31 hkl2
        obtain ⟨A32, n32, c32, he32⟩ := hs32.one.form
        subst he32
        rw [if_pos (by kernel_rfl)]
        refine Lib.wp_append_run _ (.tmp 18) (.tmp 19) 56 56 rfl _ _ rfl rfl _ _ hr32 ?_
        try simp only [Act.put, List.setIfInBounds_toArray, List.set_cons_zero, List.set_cons_succ]
        have hTw32 := hs32.swap
        have hP32 := hTw31.swap.blk hg32 hP31 (by decide)
        have hR32 := hTw31.swap.blk hg32 hR31 (by decide)
        have hB32 := hTw31.swap.below hg32 hB31 (Nat.le_refl _)
        refine hK _ _ (fun h => by cases h) ?_
        clear hK K
        refine wpAnyK_ready (rs := [11]) (by kernel_rfl) (by simp) ?_
        refine AllReadyK.cons (o := ⟨none, _, _, _, _, _⟩) rfl (fun K hK => ?_) AllReadyK.nil
        have f33 := hP32.frozen 0
        have cc33 := hP32.cell 0
        go_simp
        refine hK _ _ (fun h => by cases h) ?_
        clear hK K
        have hTw33 := hTw32.setBlk hP32 (by decide) 0 (.slice A31 n31 c31)
        have hR33 := hR32.setOther hne 0 (.slice A31 n31 c31)
        have hB33 := hB32.setCell (p := ⟨pb, 0, none⟩) hpb (.slice A31 n31 c31)
        have hP33 := hP32.set 0 (.slice A31 n31 c31)
        clear f33 cc33
        generalize W32.setCell ⟨pb, 0, none⟩ (.slice A31 n31 c31) = W33 at *
        refine wpAnyK_takeAny (i := 12) (oi := ⟨some 22, _, _, _, _, _⟩) (v := ?_) rfl (by kernel_rfl) (by kernel_rfl) (by kernel_rfl) (by kernel_rfl) (fun _ _ _ h => h) (Or.inl ⟨by kernel_rfl, ?_⟩) (fun h => by cases h) ?_
        rotate_left
        · intro w'; go_simp; rfl
        try simp only [Act.put, List.setIfInBounds_toArray, List.set_cons_zero, List.set_cons_succ]
        refine wpAnyK_ready (rs := [13]) (by kernel_rfl) (by simp) ?_
        refine AllReadyK.cons (o := ⟨none, _, _, _, _, _⟩) rfl (fun K hK => ?_) AllReadyK.nil
        have f34 := hP33.frozen 1
        have cc34 := hP33.cell 1
        go_simp
        refine hK _ _ (fun h => by cases h) ?_
        clear hK K
        have hTw34 := hTw33.setBlk hP33 (by decide) 1 (.slice A32 n32 c32)
        have hR34 := hR33.setOther hne 1 (.slice A32 n32 c32)
        have hB34 := hB33.setCell (p := ⟨pb, 1, none⟩) hpb (.slice A32 n32 c32)
        have hP34 := hP33.set 1 (.slice A32 n32 c32)
        clear f34 cc34
        generalize W33.setCell ⟨pb, 1, none⟩ (.slice A32 n32 c32) = W34 at *
        refine wpAnyK_done (by kernel_rfl) ?_ _
        go_wp2_with fail
        go_roundg (8 - (k + 1))
        case measure => omega
        case rel => exact ⟨k + 1, by omega, rfl, by go_num, _, _, hP34, hR34, HKS.out ▸ HKE.out ▸ hTw34, hB34⟩
    · have hk8 : k = 8 := by omega
      subst hk8
      have hnlt : ¬ (((8 : Nat) : Int) < 8) := by omega
      obtain ⟨A1, n1, c1, rfl⟩ := hTw.one.form
      obtain ⟨A2, n2, c2, rfl⟩ := hTw.two.form
      have f0 := hR.frozen 0
      have f1 := hR.frozen 1
      have r0 := hR.cell 0
      have r1 := hR.cell 1
      have p0 := hP.cell 0
      have p1 := hP.cell 1
      go_wp2_with fail
      have hB4 := (hR.set 0 (.slice A1 n1 c1)).set 1 (.slice A2 n2 c2)
      refine bodyPost_ret (new9_results _ _ _ rfl hB4) rfl ?_
      exact ⟨_, _, rfl, (hTw.setBlk hR (by decide) 0 _).setBlk (hR.set 0 _) (by decide) 1 _, (hB.setCell (p := ⟨w.heap.size, 0, none⟩) (Nat.le_refl _) _).setCell (p := ⟨w.heap.size, 1, none⟩) (Nat.le_refl _) _⟩
end Go.Proofs.YtfkhgmdnajiabaaDoor
