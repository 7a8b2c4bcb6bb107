/-
  Walks: the document's pages: Written.
-/
import Derived.Test.YtfkhgmdnajiabaaDoorTwW
namespace Go.Proofs.YtfkhgmdnajiabaaDoor
set_option linter.unusedSimpArgs false
set_option linter.unusedVariables false
open Go.RowKit Go.Maps

set_option maxHeartbeats 6400000 in
set_option maxRecDepth 100000 in
theorem written9_any (n0 : Nat) (u v : Value) (xs ys : List (List UInt8)) (l : List Img) (va vs : Value) (w : World) (hTw : Two n0 w u v xs ys) (hx8 : xs.length = 8) (hy8 : ys.length = 8) (hva : IntsAt w va (l.map (·.1))) (hvs : StrsAt w vs (l.map (·.2))) (hl : l.length ≤ 1000) (hp : ∀ x ∈ l, 0 ≤ x.1 ∧ x.1 < 8) :
    Calls Tryd.prog 23 #[.agg #[u, v], va, vs] w fun e w' => ∃ u' v', e = .returned (.agg #[u', v']) ∧ Two w.heap.size w' u' v' (putL xs l) ys ∧ Below w.heap.size w w' := by
  have hsu := StrsAt.of_own hTw.one
  have hsv := StrsAt.of_own hTw.two
  have HSU := Lib.hid hsu; have HSV := Lib.hid hsv; have HVA := Lib.hid hva; have HVS := Lib.hid hvs; have HX8 := Lib.hid hx8; have HY8 := Lib.hid hy8; have HPP := Lib.hid hp
  obtain ⟨A0, n0', c0, rfl⟩ := hTw.one.form
  obtain ⟨A0', n0'', c0', rfl⟩ := hTw.two.form
  obtain ⟨Aa, ca, rfl, _, _⟩ := hva
  obtain ⟨As, cs, rfl, _, _⟩ := hvs
  clear hsu hsv hTw hx8 hy8 hp
  simp only [List.length_map] at HVA HVS ⊢
  go_enter Tryd.func23, Tryd.ntmps23
  go_upto_region 1 with fail
  generalize hue : Value.slice A0 n0' c0 = u at *
  generalize hve : Value.slice A0' n0'' c0' = v at *
  have hP1 := (Blk.made w #[u, v] 58).alloc (.cells #[.slice none 0 0, .slice none 0 0] 58)
  have hR1 := Blk.made (w.alloc (.cells #[u, v] 58)) #[.slice none 0 0, .slice none 0 0] 58
  have hB1 : Below w.heap.size w ((w.alloc (.cells #[u, v] 58)).alloc (.cells #[.slice none 0 0, .slice none 0 0] 58)) := ((Below.refl _ _).alloc (Nat.le_refl _) _).alloc (by simp) _
  have hT1 : Two w.heap.size ((w.alloc (.cells #[u, v] 58)).alloc (.cells #[.slice none 0 0, .slice none 0 0] 58)) (.slice none 0 0) (.slice none 0 0) [] [] := Two.nil hB1.size
  have hrb : (w.alloc (.cells #[u, v] 58)).heap.size = w.heap.size + 1 := by simp
  rw [hrb] at hR1
  clear hrb
  obtain ⟨rb, hrb⟩ : ∃ x, x = w.heap.size + 1 := ⟨_, rfl⟩
  have hrn : w.heap.size ≤ rb := by omega
  rw [← hrb] at hR1 ⊢
  clear hrb
  generalize (w.alloc (.cells #[u, v] 58)).alloc (.cells #[.slice none 0 0, .slice none 0 0] 58) = w1 at *
  have hTd := hT1.up ((Below.refl _ w1).drew)
  have hPd := hP1.up ((Below.refl _ w1).drew)
  have hRd := hR1.up ((Below.refl _ w1).drew)
  have hBd := hB1.drew
  have hx1 : xs.length ≤ 1000000 := by have := HX8.out; omega
  have hy1 : ys.length ≤ 1000000 := by have := HY8.out; omega
  clear hT1 hP1 hR1 hB1
  go_cut [7] (fun r wx => ∃ ob A1 n1 c1 A2 n2 c2, r = .pointer (some ⟨ob, 0, none⟩) ∧ w.heap.size ≤ ob ∧ rb ≠ ob ∧ Blk wx ob 58 #[.slice A1 n1 c1, .slice A2 n2 c2] ∧ Blk wx rb 58 #[.slice none 0 0, .slice none 0 0] ∧
    Two w.heap.size wx (.slice A1 n1 c1) (.slice A2 n2 c2) xs ys ∧ Below w.heap.size w wx)
  case first =>
    refine wp_region_late 7 (fun W => W.cell? ⟨w.heap.size, 0, none⟩ = some u ∧ W.cell? ⟨w.heap.size, 1, none⟩ = some v) (by kernel_rfl) ?_
    show wpAnyK _ _ _ _ _ 7 11 #[false,false,false,false,false,false,false,false,false,false,false] _ (World.drew _)
    generalize w1.drew = W0 at *
    refine wpAnyK_takeAny (i := 1) (oi := ⟨some 10, _, _, _, _, _⟩) (v := ?_) rfl (by kernel_rfl) (by kernel_rfl) (by kernel_rfl) (by kernel_rfl) (fun _ _ _ h => h) (Or.inl ⟨by kernel_rfl, ?_⟩) (fun _ => ⟨hPd.cell 0, hPd.cell 1⟩) ?_
    rotate_left
    · intro w'; go_simp; rfl
    try simp only [Act.put, List.setIfInBounds_toArray, List.set_cons_zero, List.set_cons_succ]
    refine wpAnyK_takeAny (i := 5) (oi := ⟨some 14, _, _, _, _, _⟩) (v := ?_) rfl (by kernel_rfl) (by kernel_rfl) (by kernel_rfl) (by kernel_rfl) (fun _ _ _ h => h) (Or.inl ⟨by kernel_rfl, ?_⟩) (fun _ => ⟨hPd.cell 0, hPd.cell 1⟩) ?_
    rotate_left
    · intro w'; go_simp; rfl
    try simp only [Act.put, List.setIfInBounds_toArray, List.set_cons_zero, List.set_cons_succ]
    refine wpAnyK_take (i := 2) (oi := ⟨some 11, _, _, _, _, _⟩) (L := [3, 7, 8, 10]) (v := ?_) rfl (by kernel_rfl) (by kernel_rfl) (by kernel_rfl) (by kernel_rfl) (fun _ _ _ h => h) (Or.inl ⟨by kernel_rfl, ?_⟩) ⟨hPd.cell 0, hPd.cell 1⟩ ?_
    rotate_left
    · rintro w' ⟨e0, e1⟩; go_simp; rfl
    try simp only [Act.put, List.setIfInBounds_toArray, List.set_cons_zero, List.set_cons_succ]
    refine wpAnyK_take (i := 6) (oi := ⟨some 15, _, _, _, _, _⟩) (L := [7, 8, 10]) (v := ?_) rfl (by kernel_rfl) (by kernel_rfl) (by kernel_rfl) (by kernel_rfl) (fun _ _ _ h => h) (Or.inl ⟨by kernel_rfl, ?_⟩) ⟨hPd.cell 0, hPd.cell 1⟩ ?_
    rotate_left
    · rintro w' ⟨e0, e1⟩; go_simp; rfl
    try simp only [Act.put, List.setIfInBounds_toArray, List.set_cons_zero, List.set_cons_succ]
    refine wpAnyK_ready (rs := [0, 4, 9]) (by kernel_rfl) (by simp) ?_
    refine AllReadyK.cons (o := ⟨some 9, _, _, _, _, _⟩) rfl (fun K hK => ?_) (AllReadyK.cons (o := ⟨some 13, _, _, _, _, _⟩) rfl (fun K hK => ?_) (AllReadyK.cons (o := ⟨some 7, _, _, _, _, _⟩) rfl (fun K hK => ?_) AllReadyK.nil))
    · -- 0
      have hb1 : Below W0.heap.size W0 (W0.alloc (.cells #[] 9)) := (Below.refl _ _).alloc (Nat.le_refl _) _
      have hTw1 := hTd.start
      have hP1 := hPd.up hb1
      have hR1 := hRd.up hb1
      have hB1 := hBd.trans (hb1.mono hTd.at0)
      go_simp
      refine hK _ _ (fun _ => ⟨hP1.cell 0, hP1.cell 1⟩) ?_
      clear hK K
      clear hTd hPd hBd hRd hb1
      generalize hge1 : W0.alloc (.cells #[] 9) = W1 at *
      clear hge1
      refine wpAnyK_ready (rs := [3, 4, 9]) (by kernel_rfl) (by simp) ?_
      refine AllReadyK.cons (o := ⟨some 12, _, _, _, _, _⟩) rfl (fun K hK => ?_) (AllReadyK.cons (o := ⟨some 13, _, _, _, _, _⟩) rfl (fun K hK => ?_) (AllReadyK.cons (o := ⟨some 7, _, _, _, _, _⟩) rfl (fun K hK => ?_) AllReadyK.nil))
      · -- 3
        have hsrc2 := HSU.out.below hB1
        obtain ⟨nw2, W2, hr2, hs2, hg2⟩ := hTw1.appendAll hsrc2 (by simp) hx1
        obtain ⟨A2, n2, c2, he2⟩ := hs2.one.form
        subst he2
        rw [if_pos (by kernel_rfl)]
        refine Lib.wp_append_run _ (.tmp 9) (.tmp 11) 56 56 rfl _ _ rfl rfl _ _ hr2 ?_
        try simp only [Act.put, List.setIfInBounds_toArray, List.set_cons_zero, List.set_cons_succ]
        have hTw2 := hs2
        have hP2 := hTw1.blk hg2 hP1 (by decide)
        have hR2 := hTw1.blk hg2 hR1 (by decide)
        have hB2 := hTw1.below hg2 hB1 (Nat.le_refl _)
        refine hK _ _ (fun _ => ⟨hP2.cell 0, hP2.cell 1⟩) ?_
        clear hK K
        clear hr2 hsrc2 hg2 hs2 hP1 hB1 hR1
        refine wpAnyK_ready (rs := [4, 9]) (by kernel_rfl) (by simp) ?_
        refine AllReadyK.cons (o := ⟨some 13, _, _, _, _, _⟩) rfl (fun K hK => ?_) (AllReadyK.cons (o := ⟨some 7, _, _, _, _, _⟩) rfl (fun K hK => ?_) AllReadyK.nil)
        · -- 4
          have hb3 : Below W2.heap.size W2 (W2.alloc (.cells #[] 9)) := (Below.refl _ _).alloc (Nat.le_refl _) _
          have hTw3 := hTw2.swap.start.swap
          have hP3 := hP2.up hb3
          have hR3 := hR2.up hb3
          have hB3 := hB2.trans (hb3.mono hTw2.at0)
          go_simp
          refine hK _ _ (fun _ => ⟨hP3.cell 0, hP3.cell 1⟩) ?_
          clear hK K
          clear hTw2 hP2 hB2 hR2 hb3
          generalize hge3 : W2.alloc (.cells #[] 9) = W3 at *
          clear hge3
          refine wpAnyK_ready (rs := [7, 9]) (by kernel_rfl) (by simp) ?_
          refine AllReadyK.cons (o := ⟨some 16, _, _, _, _, _⟩) rfl (fun K hK => ?_) (AllReadyK.cons (o := ⟨some 7, _, _, _, _, _⟩) rfl (fun K hK => ?_) AllReadyK.nil)
          · -- 7
            have hsrc4 := HSV.out.below hB3
            obtain ⟨nw4, W4, hr4, hs4, hg4⟩ := hTw3.swap.appendAll hsrc4 (by simp) hy1
            obtain ⟨A4, n4, c4, he4⟩ := hs4.one.form
            subst he4
            rw [if_pos (by kernel_rfl)]
            refine Lib.wp_append_run _ (.tmp 13) (.tmp 15) 56 56 rfl _ _ rfl rfl _ _ hr4 ?_
            try simp only [Act.put, List.setIfInBounds_toArray, List.set_cons_zero, List.set_cons_succ]
            have hTw4 := hs4.swap
            have hP4 := hTw3.swap.blk hg4 hP3 (by decide)
            have hR4 := hTw3.swap.blk hg4 hR3 (by decide)
            have hB4 := hTw3.swap.below hg4 hB3 (Nat.le_refl _)
            refine hK _ _ (fun h => by cases h) ?_
            clear hK K
            clear hr4 hsrc4 hg4 hs4 hP3 hB3 hR3
            refine wpAnyK_takeAny (i := 8) (oi := ⟨some 17, _, _, _, _, _⟩) (v := ?_) rfl (by kernel_rfl) (by kernel_rfl) (by kernel_rfl) (by kernel_rfl) (fun _ _ _ h => h) (Or.inl ⟨by kernel_rfl, ?_⟩) (fun h => by cases h) ?_
            rotate_left
            · intro w'; go_simp; rfl
            try simp only [Act.put, List.setIfInBounds_toArray, List.set_cons_zero, List.set_cons_succ]
            refine wpAnyK_ready (rs := [9]) (by kernel_rfl) (by simp) ?_
            refine AllReadyK.cons (o := ⟨some 7, _, _, _, _, _⟩) rfl (fun K hK => ?_) AllReadyK.nil
            have hb5 : Below W4.heap.size W4 (W4.alloc (.cells #[.slice none 0 0, .slice none 0 0] 58)) := (Below.refl _ _).alloc (Nat.le_refl _) _
            have hTw5 := hTw4.up hb5
            have hP5 := hP4.up hb5
            have hR5 := hR4.up hb5
            have hB5 := hB4.trans (hb5.mono hTw4.at0)
            have hO5 : Blk (W4.alloc (.cells #[.slice none 0 0, .slice none 0 0] 58)) W4.heap.size 58 #[.slice none 0 0, .slice none 0 0] := Blk.made _ _ _
            have hon5 := hTw4.at0
            have hor5 : rb ≠ W4.heap.size := by have := hR4.lt; omega
            go_simp
            refine hK _ _ (fun h => by cases h) ?_
            clear hK K
            clear hTw4 hP4 hB4 hR4 hb5
            generalize hge5 : W4.alloc (.cells #[.slice none 0 0, .slice none 0 0] 58) = W5 at *
            clear hge5
            generalize hgo5 : W4.heap.size = ob at *
            clear hgo5
            refine wpAnyK_ready (rs := [10]) (by kernel_rfl) (by simp) ?_
            refine AllReadyK.cons (o := ⟨none, _, _, _, _, _⟩) rfl (fun K hK => ?_) AllReadyK.nil
            have f6 := hO5.frozen 0
            have g6 := hO5.frozen 1
            have cc6 := hO5.cell 0
            have cd6 := hO5.cell 1
            go_simp
            refine hK _ _ (fun h => by cases h) ?_
            clear hK K
            have hO6 := (hO5.set 0 (.slice A2 n2 c2)).set 1 (.slice A4 n4 c4)
            have hTw6 := (hTw5.setBlk hO5 (by decide) 0 (.slice A2 n2 c2)).setBlk (hO5.set 0 (.slice A2 n2 c2)) (by decide) 1 (.slice A4 n4 c4)
            have hR6 := (hR5.setOther hor5 0 (.slice A2 n2 c2)).setOther hor5 1 (.slice A4 n4 c4)
            have hB6 := (hB5.setCell (p := ⟨ob, 0, none⟩) hon5 (.slice A2 n2 c2)).setCell (p := ⟨ob, 1, none⟩) hon5 (.slice A4 n4 c4)
            clear f6 g6 cc6 cd6
            generalize (W5.setCell ⟨ob, 0, none⟩ (.slice A2 n2 c2)).setCell ⟨ob, 1, none⟩ (.slice A4 n4 c4) = W6 at *
            refine wpAnyK_done (by kernel_rfl) ?_ _
            go_wp2_with fail
            go_meet
            case rel => exact ⟨ob, _, _, _, _, _, _, rfl, hon5, hor5, hO6, hR6, hTw6, hB6⟩
          · -- 9
            have hb7 : Below W3.heap.size W3 (W3.alloc (.cells #[.slice none 0 0, .slice none 0 0] 58)) := (Below.refl _ _).alloc (Nat.le_refl _) _
            have hTw7 := hTw3.up hb7
            have hP7 := hP3.up hb7
            have hR7 := hR3.up hb7
            have hB7 := hB3.trans (hb7.mono hTw3.at0)
            have hO7 : Blk (W3.alloc (.cells #[.slice none 0 0, .slice none 0 0] 58)) W3.heap.size 58 #[.slice none 0 0, .slice none 0 0] := Blk.made _ _ _
            have hon7 := hTw3.at0
            have hor7 : rb ≠ W3.heap.size := by have := hR3.lt; omega
            go_simp
            refine hK _ _ (fun _ => ⟨hP7.cell 0, hP7.cell 1⟩) ?_
            clear hK K
            clear hTw3 hP3 hB3 hR3 hb7
            generalize hge7 : W3.alloc (.cells #[.slice none 0 0, .slice none 0 0] 58) = W7 at *
            clear hge7
            generalize hgo7 : W3.heap.size = ob at *
            clear hgo7
            refine wpAnyK_ready (rs := [7]) (by kernel_rfl) (by simp) ?_
            refine AllReadyK.cons (o := ⟨some 16, _, _, _, _, _⟩) rfl (fun K hK => ?_) AllReadyK.nil
            have hsrc8 := HSV.out.below hB7
            obtain ⟨nw8, W8, hr8, hs8, hg8⟩ := hTw7.swap.appendAll hsrc8 (by simp) hy1
            obtain ⟨A8, n8, c8, he8⟩ := hs8.one.form
            subst he8
            rw [if_pos (by kernel_rfl)]
            refine Lib.wp_append_run _ (.tmp 13) (.tmp 15) 56 56 rfl _ _ rfl rfl _ _ hr8 ?_
            try simp only [Act.put, List.setIfInBounds_toArray, List.set_cons_zero, List.set_cons_succ]
            have hTw8 := hs8.swap
            have hP8 := hTw7.swap.blk hg8 hP7 (by decide)
            have hR8 := hTw7.swap.blk hg8 hR7 (by decide)
            have hB8 := hTw7.swap.below hg8 hB7 (Nat.le_refl _)
            have hO8 := hTw7.swap.blk hg8 hO7 (by decide)
            refine hK _ _ (fun h => by cases h) ?_
            clear hK K
            clear hr8 hsrc8 hg8 hs8 hP7 hB7 hR7
            refine wpAnyK_takeAny (i := 8) (oi := ⟨some 17, _, _, _, _, _⟩) (v := ?_) rfl (by kernel_rfl) (by kernel_rfl) (by kernel_rfl) (by kernel_rfl) (fun _ _ _ h => h) (Or.inl ⟨by kernel_rfl, ?_⟩) (fun h => by cases h) ?_
            rotate_left
            · intro w'; go_simp; rfl
            try simp only [Act.put, List.setIfInBounds_toArray, List.set_cons_zero, List.set_cons_succ]
            refine wpAnyK_ready (rs := [10]) (by kernel_rfl) (by simp) ?_
            refine AllReadyK.cons (o := ⟨none, _, _, _, _, _⟩) rfl (fun K hK => ?_) AllReadyK.nil
            have f9 := hO8.frozen 0
            have g9 := hO8.frozen 1
            have cc9 := hO8.cell 0
            have cd9 := hO8.cell 1
            go_simp
            refine hK _ _ (fun h => by cases h) ?_
            clear hK K
            have hO9 := (hO8.set 0 (.slice A2 n2 c2)).set 1 (.slice A8 n8 c8)
            have hTw9 := (hTw8.setBlk hO8 (by decide) 0 (.slice A2 n2 c2)).setBlk (hO8.set 0 (.slice A2 n2 c2)) (by decide) 1 (.slice A8 n8 c8)
            have hR9 := (hR8.setOther hor7 0 (.slice A2 n2 c2)).setOther hor7 1 (.slice A8 n8 c8)
            have hB9 := (hB8.setCell (p := ⟨ob, 0, none⟩) hon7 (.slice A2 n2 c2)).setCell (p := ⟨ob, 1, none⟩) hon7 (.slice A8 n8 c8)
            clear f9 g9 cc9 cd9
            generalize (W8.setCell ⟨ob, 0, none⟩ (.slice A2 n2 c2)).setCell ⟨ob, 1, none⟩ (.slice A8 n8 c8) = W9 at *
            refine wpAnyK_done (by kernel_rfl) ?_ _
            go_wp2_with fail
            go_meet
            case rel => exact ⟨ob, _, _, _, _, _, _, rfl, hon7, hor7, hO9, hR9, hTw9, hB9⟩
        · -- 9
          have hb10 : Below W2.heap.size W2 (W2.alloc (.cells #[.slice none 0 0, .slice none 0 0] 58)) := (Below.refl _ _).alloc (Nat.le_refl _) _
          have hTw10 := hTw2.up hb10
          have hP10 := hP2.up hb10
          have hR10 := hR2.up hb10
          have hB10 := hB2.trans (hb10.mono hTw2.at0)
          have hO10 : Blk (W2.alloc (.cells #[.slice none 0 0, .slice none 0 0] 58)) W2.heap.size 58 #[.slice none 0 0, .slice none 0 0] := Blk.made _ _ _
          have hon10 := hTw2.at0
          have hor10 : rb ≠ W2.heap.size := by have := hR2.lt; omega
          go_simp
          refine hK _ _ (fun _ => ⟨hP10.cell 0, hP10.cell 1⟩) ?_
          clear hK K
          clear hTw2 hP2 hB2 hR2 hb10
          generalize hge10 : W2.alloc (.cells #[.slice none 0 0, .slice none 0 0] 58) = W10 at *
          clear hge10
          generalize hgo10 : W2.heap.size = ob at *
          clear hgo10
          refine wpAnyK_ready (rs := [4]) (by kernel_rfl) (by simp) ?_
          refine AllReadyK.cons (o := ⟨some 13, _, _, _, _, _⟩) rfl (fun K hK => ?_) AllReadyK.nil
          have hb11 : Below W10.heap.size W10 (W10.alloc (.cells #[] 9)) := (Below.refl _ _).alloc (Nat.le_refl _) _
          have hTw11 := hTw10.swap.start.swap
          have hP11 := hP10.up hb11
          have hR11 := hR10.up hb11
          have hB11 := hB10.trans (hb11.mono hTw10.at0)
          have hO11 := hO10.up hb11
          go_simp
          refine hK _ _ (fun _ => ⟨hP11.cell 0, hP11.cell 1⟩) ?_
          clear hK K
          clear hTw10 hP10 hB10 hR10 hb11
          generalize hge11 : W10.alloc (.cells #[] 9) = W11 at *
          clear hge11
          refine wpAnyK_ready (rs := [7]) (by kernel_rfl) (by simp) ?_
          refine AllReadyK.cons (o := ⟨some 16, _, _, _, _, _⟩) rfl (fun K hK => ?_) AllReadyK.nil
          have hsrc12 := HSV.out.below hB11
          obtain ⟨nw12, W12, hr12, hs12, hg12⟩ := hTw11.swap.appendAll hsrc12 (by simp) hy1
          obtain ⟨A12, n12, c12, he12⟩ := hs12.one.form
          subst he12
          rw [if_pos (by kernel_rfl)]
          refine Lib.wp_append_run _ (.tmp 13) (.tmp 15) 56 56 rfl _ _ rfl rfl _ _ hr12 ?_
          try simp only [Act.put, List.setIfInBounds_toArray, List.set_cons_zero, List.set_cons_succ]
          have hTw12 := hs12.swap
          have hP12 := hTw11.swap.blk hg12 hP11 (by decide)
          have hR12 := hTw11.swap.blk hg12 hR11 (by decide)
          have hB12 := hTw11.swap.below hg12 hB11 (Nat.le_refl _)
          have hO12 := hTw11.swap.blk hg12 hO11 (by decide)
          refine hK _ _ (fun h => by cases h) ?_
          clear hK K
          clear hr12 hsrc12 hg12 hs12 hP11 hB11 hR11
          refine wpAnyK_takeAny (i := 8) (oi := ⟨some 17, _, _, _, _, _⟩) (v := ?_) rfl (by kernel_rfl) (by kernel_rfl) (by kernel_rfl) (by kernel_rfl) (fun _ _ _ h => h) (Or.inl ⟨by kernel_rfl, ?_⟩) (fun h => by cases h) ?_
          rotate_left
          · intro w'; go_simp; rfl
          try simp only [Act.put, List.setIfInBounds_toArray, List.set_cons_zero, List.set_cons_succ]
          refine wpAnyK_ready (rs := [10]) (by kernel_rfl) (by simp) ?_
          refine AllReadyK.cons (o := ⟨none, _, _, _, _, _⟩) rfl (fun K hK => ?_) AllReadyK.nil
          have f13 := hO12.frozen 0
          have g13 := hO12.frozen 1
          have cc13 := hO12.cell 0
          have cd13 := hO12.cell 1
          go_simp
          refine hK _ _ (fun h => by cases h) ?_
          clear hK K
          have hO13 := (hO12.set 0 (.slice A2 n2 c2)).set 1 (.slice A12 n12 c12)
          have hTw13 := (hTw12.setBlk hO12 (by decide) 0 (.slice A2 n2 c2)).setBlk (hO12.set 0 (.slice A2 n2 c2)) (by decide) 1 (.slice A12 n12 c12)
          have hR13 := (hR12.setOther hor10 0 (.slice A2 n2 c2)).setOther hor10 1 (.slice A12 n12 c12)
          have hB13 := (hB12.setCell (p := ⟨ob, 0, none⟩) hon10 (.slice A2 n2 c2)).setCell (p := ⟨ob, 1, none⟩) hon10 (.slice A12 n12 c12)
          clear f13 g13 cc13 cd13
          generalize (W12.setCell ⟨ob, 0, none⟩ (.slice A2 n2 c2)).setCell ⟨ob, 1, none⟩ (.slice A12 n12 c12) = W13 at *
          refine wpAnyK_done (by kernel_rfl) ?_ _
          go_wp2_with fail
          go_meet
          case rel => exact ⟨ob, _, _, _, _, _, _, rfl, hon10, hor10, hO13, hR13, hTw13, hB13⟩
      · -- 4
        have hb14 : Below W1.heap.size W1 (W1.alloc (.cells #[] 9)) := (Below.refl _ _).alloc (Nat.le_refl _) _
        have hTw14 := hTw1.swap.start.swap
        have hP14 := hP1.up hb14
        have hR14 := hR1.up hb14
        have hB14 := hB1.trans (hb14.mono hTw1.at0)
        go_simp
        refine hK _ _ (fun _ => ⟨hP14.cell 0, hP14.cell 1⟩) ?_
        clear hK K
        clear hTw1 hP1 hB1 hR1 hb14
        generalize hge14 : W1.alloc (.cells #[] 9) = W14 at *
        clear hge14
        refine wpAnyK_ready (rs := [3, 9]) (by kernel_rfl) (by simp) ?_
        refine AllReadyK.cons (o := ⟨some 12, _, _, _, _, _⟩) rfl (fun K hK => ?_) (AllReadyK.cons (o := ⟨some 7, _, _, _, _, _⟩) rfl (fun K hK => ?_) AllReadyK.nil)
        · -- 3
          have hsrc15 := HSU.out.below hB14
          obtain ⟨nw15, W15, hr15, hs15, hg15⟩ := hTw14.appendAll hsrc15 (by simp) hx1
          obtain ⟨A15, n15, c15, he15⟩ := hs15.one.form
          subst he15
          rw [if_pos (by kernel_rfl)]
          refine Lib.wp_append_run _ (.tmp 9) (.tmp 11) 56 56 rfl _ _ rfl rfl _ _ hr15 ?_
          try simp only [Act.put, List.setIfInBounds_toArray, List.set_cons_zero, List.set_cons_succ]
          have hTw15 := hs15
          have hP15 := hTw14.blk hg15 hP14 (by decide)
          have hR15 := hTw14.blk hg15 hR14 (by decide)
          have hB15 := hTw14.below hg15 hB14 (Nat.le_refl _)
          refine hK _ _ (fun _ => ⟨hP15.cell 0, hP15.cell 1⟩) ?_
          clear hK K
          clear hr15 hsrc15 hg15 hs15 hP14 hB14 hR14
          refine wpAnyK_ready (rs := [7, 9]) (by kernel_rfl) (by simp) ?_
          refine AllReadyK.cons (o := ⟨some 16, _, _, _, _, _⟩) rfl (fun K hK => ?_) (AllReadyK.cons (o := ⟨some 7, _, _, _, _, _⟩) rfl (fun K hK => ?_) AllReadyK.nil)
          · -- 7
            have hsrc16 := HSV.out.below hB15
            obtain ⟨nw16, W16, hr16, hs16, hg16⟩ := hTw15.swap.appendAll hsrc16 (by simp) hy1
            obtain ⟨A16, n16, c16, he16⟩ := hs16.one.form
            subst he16
            rw [if_pos (by kernel_rfl)]
            refine Lib.wp_append_run _ (.tmp 13) (.tmp 15) 56 56 rfl _ _ rfl rfl _ _ hr16 ?_
            try simp only [Act.put, List.setIfInBounds_toArray, List.set_cons_zero, List.set_cons_succ]
            have hTw16 := hs16.swap
            have hP16 := hTw15.swap.blk hg16 hP15 (by decide)
            have hR16 := hTw15.swap.blk hg16 hR15 (by decide)
            have hB16 := hTw15.swap.below hg16 hB15 (Nat.le_refl _)
            refine hK _ _ (fun h => by cases h) ?_
            clear hK K
            clear hr16 hsrc16 hg16 hs16 hP15 hB15 hR15
            refine wpAnyK_takeAny (i := 8) (oi := ⟨some 17, _, _, _, _, _⟩) (v := ?_) rfl (by kernel_rfl) (by kernel_rfl) (by kernel_rfl) (by kernel_rfl) (fun _ _ _ h => h) (Or.inl ⟨by kernel_rfl, ?_⟩) (fun h => by cases h) ?_
            rotate_left
            · intro w'; go_simp; rfl
            try simp only [Act.put, List.setIfInBounds_toArray, List.set_cons_zero, List.set_cons_succ]
            refine wpAnyK_ready (rs := [9]) (by kernel_rfl) (by simp) ?_
            refine AllReadyK.cons (o := ⟨some 7, _, _, _, _, _⟩) rfl (fun K hK => ?_) AllReadyK.nil
            have hb17 : Below W16.heap.size W16 (W16.alloc (.cells #[.slice none 0 0, .slice none 0 0] 58)) := (Below.refl _ _).alloc (Nat.le_refl _) _
            have hTw17 := hTw16.up hb17
            have hP17 := hP16.up hb17
            have hR17 := hR16.up hb17
            have hB17 := hB16.trans (hb17.mono hTw16.at0)
            have hO17 : Blk (W16.alloc (.cells #[.slice none 0 0, .slice none 0 0] 58)) W16.heap.size 58 #[.slice none 0 0, .slice none 0 0] := Blk.made _ _ _
            have hon17 := hTw16.at0
            have hor17 : rb ≠ W16.heap.size := by have := hR16.lt; omega
            go_simp
            refine hK _ _ (fun h => by cases h) ?_
            clear hK K
            clear hTw16 hP16 hB16 hR16 hb17
            generalize hge17 : W16.alloc (.cells #[.slice none 0 0, .slice none 0 0] 58) = W17 at *
            clear hge17
            generalize hgo17 : W16.heap.size = ob at *
            clear hgo17
            refine wpAnyK_ready (rs := [10]) (by kernel_rfl) (by simp) ?_
            refine AllReadyK.cons (o := ⟨none, _, _, _, _, _⟩) rfl (fun K hK => ?_) AllReadyK.nil
            have f18 := hO17.frozen 0
            have g18 := hO17.frozen 1
            have cc18 := hO17.cell 0
            have cd18 := hO17.cell 1
            go_simp
            refine hK _ _ (fun h => by cases h) ?_
            clear hK K
            have hO18 := (hO17.set 0 (.slice A15 n15 c15)).set 1 (.slice A16 n16 c16)
            have hTw18 := (hTw17.setBlk hO17 (by decide) 0 (.slice A15 n15 c15)).setBlk (hO17.set 0 (.slice A15 n15 c15)) (by decide) 1 (.slice A16 n16 c16)
            have hR18 := (hR17.setOther hor17 0 (.slice A15 n15 c15)).setOther hor17 1 (.slice A16 n16 c16)
            have hB18 := (hB17.setCell (p := ⟨ob, 0, none⟩) hon17 (.slice A15 n15 c15)).setCell (p := ⟨ob, 1, none⟩) hon17 (.slice A16 n16 c16)
            clear f18 g18 cc18 cd18
            generalize (W17.setCell ⟨ob, 0, none⟩ (.slice A15 n15 c15)).setCell ⟨ob, 1, none⟩ (.slice A16 n16 c16) = W18 at *
            refine wpAnyK_done (by kernel_rfl) ?_ _
            go_wp2_with fail
            go_meet
            case rel => exact ⟨ob, _, _, _, _, _, _, rfl, hon17, hor17, hO18, hR18, hTw18, hB18⟩
          · -- 9
            have hb19 : Below W15.heap.size W15 (W15.alloc (.cells #[.slice none 0 0, .slice none 0 0] 58)) := (Below.refl _ _).alloc (Nat.le_refl _) _
            have hTw19 := hTw15.up hb19
            have hP19 := hP15.up hb19
            have hR19 := hR15.up hb19
            have hB19 := hB15.trans (hb19.mono hTw15.at0)
            have hO19 : Blk (W15.alloc (.cells #[.slice none 0 0, .slice none 0 0] 58)) W15.heap.size 58 #[.slice none 0 0, .slice none 0 0] := Blk.made _ _ _
            have hon19 := hTw15.at0
            have hor19 : rb ≠ W15.heap.size := by have := hR15.lt; omega
            go_simp
            refine hK _ _ (fun _ => ⟨hP19.cell 0, hP19.cell 1⟩) ?_
            clear hK K
            clear hTw15 hP15 hB15 hR15 hb19
            generalize hge19 : W15.alloc (.cells #[.slice none 0 0, .slice none 0 0] 58) = W19 at *
            clear hge19
            generalize hgo19 : W15.heap.size = ob at *
            clear hgo19
            refine wpAnyK_ready (rs := [7]) (by kernel_rfl) (by simp) ?_
            refine AllReadyK.cons (o := ⟨some 16, _, _, _, _, _⟩) rfl (fun K hK => ?_) AllReadyK.nil
            have hsrc20 := HSV.out.below hB19
            obtain ⟨nw20, W20, hr20, hs20, hg20⟩ := hTw19.swap.appendAll hsrc20 (by simp) hy1
            obtain ⟨A20, n20, c20, he20⟩ := hs20.one.form
            subst he20
            rw [if_pos (by kernel_rfl)]
            refine Lib.wp_append_run _ (.tmp 13) (.tmp 15) 56 56 rfl _ _ rfl rfl _ _ hr20 ?_
            try simp only [Act.put, List.setIfInBounds_toArray, List.set_cons_zero, List.set_cons_succ]
            have hTw20 := hs20.swap
            have hP20 := hTw19.swap.blk hg20 hP19 (by decide)
            have hR20 := hTw19.swap.blk hg20 hR19 (by decide)
            have hB20 := hTw19.swap.below hg20 hB19 (Nat.le_refl _)
            have hO20 := hTw19.swap.blk hg20 hO19 (by decide)
            refine hK _ _ (fun h => by cases h) ?_
            clear hK K
            clear hr20 hsrc20 hg20 hs20 hP19 hB19 hR19
            refine wpAnyK_takeAny (i := 8) (oi := ⟨some 17, _, _, _, _, _⟩) (v := ?_) rfl (by kernel_rfl) (by kernel_rfl) (by kernel_rfl) (by kernel_rfl) (fun _ _ _ h => h) (Or.inl ⟨by kernel_rfl, ?_⟩) (fun h => by cases h) ?_
            rotate_left
            · intro w'; go_simp; rfl
            try simp only [Act.put, List.setIfInBounds_toArray, List.set_cons_zero, List.set_cons_succ]
            refine wpAnyK_ready (rs := [10]) (by kernel_rfl) (by simp) ?_
            refine AllReadyK.cons (o := ⟨none, _, _, _, _, _⟩) rfl (fun K hK => ?_) AllReadyK.nil
            have f21 := hO20.frozen 0
            have g21 := hO20.frozen 1
            have cc21 := hO20.cell 0
            have cd21 := hO20.cell 1
            go_simp
            refine hK _ _ (fun h => by cases h) ?_
            clear hK K
            have hO21 := (hO20.set 0 (.slice A15 n15 c15)).set 1 (.slice A20 n20 c20)
            have hTw21 := (hTw20.setBlk hO20 (by decide) 0 (.slice A15 n15 c15)).setBlk (hO20.set 0 (.slice A15 n15 c15)) (by decide) 1 (.slice A20 n20 c20)
            have hR21 := (hR20.setOther hor19 0 (.slice A15 n15 c15)).setOther hor19 1 (.slice A20 n20 c20)
            have hB21 := (hB20.setCell (p := ⟨ob, 0, none⟩) hon19 (.slice A15 n15 c15)).setCell (p := ⟨ob, 1, none⟩) hon19 (.slice A20 n20 c20)
            clear f21 g21 cc21 cd21
            generalize (W20.setCell ⟨ob, 0, none⟩ (.slice A15 n15 c15)).setCell ⟨ob, 1, none⟩ (.slice A20 n20 c20) = W21 at *
            refine wpAnyK_done (by kernel_rfl) ?_ _
            go_wp2_with fail
            go_meet
            case rel => exact ⟨ob, _, _, _, _, _, _, rfl, hon19, hor19, hO21, hR21, hTw21, hB21⟩
        · -- 9
          have hb22 : Below W14.heap.size W14 (W14.alloc (.cells #[.slice none 0 0, .slice none 0 0] 58)) := (Below.refl _ _).alloc (Nat.le_refl _) _
          have hTw22 := hTw14.up hb22
          have hP22 := hP14.up hb22
          have hR22 := hR14.up hb22
          have hB22 := hB14.trans (hb22.mono hTw14.at0)
          have hO22 : Blk (W14.alloc (.cells #[.slice none 0 0, .slice none 0 0] 58)) W14.heap.size 58 #[.slice none 0 0, .slice none 0 0] := Blk.made _ _ _
          have hon22 := hTw14.at0
          have hor22 : rb ≠ W14.heap.size := by have := hR14.lt; omega
          go_simp
          refine hK _ _ (fun _ => ⟨hP22.cell 0, hP22.cell 1⟩) ?_
          clear hK K
          clear hTw14 hP14 hB14 hR14 hb22
          generalize hge22 : W14.alloc (.cells #[.slice none 0 0, .slice none 0 0] 58) = W22 at *
          clear hge22
          generalize hgo22 : W14.heap.size = ob at *
          clear hgo22
          refine wpAnyK_ready (rs := [3]) (by kernel_rfl) (by simp) ?_
          refine AllReadyK.cons (o := ⟨some 12, _, _, _, _, _⟩) rfl (fun K hK => ?_) AllReadyK.nil
          have hsrc23 := HSU.out.below hB22
          obtain ⟨nw23, W23, hr23, hs23, hg23⟩ := hTw22.appendAll hsrc23 (by simp) hx1
          obtain ⟨A23, n23, c23, he23⟩ := hs23.one.form
          subst he23
          rw [if_pos (by kernel_rfl)]
          refine Lib.wp_append_run _ (.tmp 9) (.tmp 11) 56 56 rfl _ _ rfl rfl _ _ hr23 ?_
          try simp only [Act.put, List.setIfInBounds_toArray, List.set_cons_zero, List.set_cons_succ]
          have hTw23 := hs23
          have hP23 := hTw22.blk hg23 hP22 (by decide)
          have hR23 := hTw22.blk hg23 hR22 (by decide)
          have hB23 := hTw22.below hg23 hB22 (Nat.le_refl _)
          have hO23 := hTw22.blk hg23 hO22 (by decide)
          refine hK _ _ (fun _ => ⟨hP23.cell 0, hP23.cell 1⟩) ?_
          clear hK K
          clear hr23 hsrc23 hg23 hs23 hP22 hB22 hR22
          refine wpAnyK_ready (rs := [7]) (by kernel_rfl) (by simp) ?_
          refine AllReadyK.cons (o := ⟨some 16, _, _, _, _, _⟩) rfl (fun K hK => ?_) AllReadyK.nil
          have hsrc24 := HSV.out.below hB23
          obtain ⟨nw24, W24, hr24, hs24, hg24⟩ := hTw23.swap.appendAll hsrc24 (by simp) hy1
          obtain ⟨A24, n24, c24, he24⟩ := hs24.one.form
          subst he24
          rw [if_pos (by kernel_rfl)]
          refine Lib.wp_append_run _ (.tmp 13) (.tmp 15) 56 56 rfl _ _ rfl rfl _ _ hr24 ?_
          try simp only [Act.put, List.setIfInBounds_toArray, List.set_cons_zero, List.set_cons_succ]
          have hTw24 := hs24.swap
          have hP24 := hTw23.swap.blk hg24 hP23 (by decide)
          have hR24 := hTw23.swap.blk hg24 hR23 (by decide)
          have hB24 := hTw23.swap.below hg24 hB23 (Nat.le_refl _)
          have hO24 := hTw23.swap.blk hg24 hO23 (by decide)
          refine hK _ _ (fun h => by cases h) ?_
          clear hK K
          clear hr24 hsrc24 hg24 hs24 hP23 hB23 hR23
          refine wpAnyK_takeAny (i := 8) (oi := ⟨some 17, _, _, _, _, _⟩) (v := ?_) rfl (by kernel_rfl) (by kernel_rfl) (by kernel_rfl) (by kernel_rfl) (fun _ _ _ h => h) (Or.inl ⟨by kernel_rfl, ?_⟩) (fun h => by cases h) ?_
          rotate_left
          · intro w'; go_simp; rfl
          try simp only [Act.put, List.setIfInBounds_toArray, List.set_cons_zero, List.set_cons_succ]
          refine wpAnyK_ready (rs := [10]) (by kernel_rfl) (by simp) ?_
          refine AllReadyK.cons (o := ⟨none, _, _, _, _, _⟩) rfl (fun K hK => ?_) AllReadyK.nil
          have f25 := hO24.frozen 0
          have g25 := hO24.frozen 1
          have cc25 := hO24.cell 0
          have cd25 := hO24.cell 1
          go_simp
          refine hK _ _ (fun h => by cases h) ?_
          clear hK K
          have hO25 := (hO24.set 0 (.slice A23 n23 c23)).set 1 (.slice A24 n24 c24)
          have hTw25 := (hTw24.setBlk hO24 (by decide) 0 (.slice A23 n23 c23)).setBlk (hO24.set 0 (.slice A23 n23 c23)) (by decide) 1 (.slice A24 n24 c24)
          have hR25 := (hR24.setOther hor22 0 (.slice A23 n23 c23)).setOther hor22 1 (.slice A24 n24 c24)
          have hB25 := (hB24.setCell (p := ⟨ob, 0, none⟩) hon22 (.slice A23 n23 c23)).setCell (p := ⟨ob, 1, none⟩) hon22 (.slice A24 n24 c24)
          clear f25 g25 cc25 cd25
          generalize (W24.setCell ⟨ob, 0, none⟩ (.slice A23 n23 c23)).setCell ⟨ob, 1, none⟩ (.slice A24 n24 c24) = W25 at *
          refine wpAnyK_done (by kernel_rfl) ?_ _
          go_wp2_with fail
          go_meet
          case rel => exact ⟨ob, _, _, _, _, _, _, rfl, hon22, hor22, hO25, hR25, hTw25, hB25⟩
      · -- 9
        have hb26 : Below W1.heap.size W1 (W1.alloc (.cells #[.slice none 0 0, .slice none 0 0] 58)) := (Below.refl _ _).alloc (Nat.le_refl _) _
        have hTw26 := hTw1.up hb26
        have hP26 := hP1.up hb26
        have hR26 := hR1.up hb26
        have hB26 := hB1.trans (hb26.mono hTw1.at0)
        have hO26 : Blk (W1.alloc (.cells #[.slice none 0 0, .slice none 0 0] 58)) W1.heap.size 58 #[.slice none 0 0, .slice none 0 0] := Blk.made _ _ _
        have hon26 := hTw1.at0
        have hor26 : rb ≠ W1.heap.size := by have := hR1.lt; omega
        go_simp
        refine hK _ _ (fun _ => ⟨hP26.cell 0, hP26.cell 1⟩) ?_
        clear hK K
        clear hTw1 hP1 hB1 hR1 hb26
        generalize hge26 : W1.alloc (.cells #[.slice none 0 0, .slice none 0 0] 58) = W26 at *
        clear hge26
        generalize hgo26 : W1.heap.size = ob at *
        clear hgo26
        refine wpAnyK_ready (rs := [3, 4]) (by kernel_rfl) (by simp) ?_
        refine AllReadyK.cons (o := ⟨some 12, _, _, _, _, _⟩) rfl (fun K hK => ?_) (AllReadyK.cons (o := ⟨some 13, _, _, _, _, _⟩) rfl (fun K hK => ?_) AllReadyK.nil)
        · -- 3
          have hsrc27 := HSU.out.below hB26
          obtain ⟨nw27, W27, hr27, hs27, hg27⟩ := hTw26.appendAll hsrc27 (by simp) hx1
          obtain ⟨A27, n27, c27, he27⟩ := hs27.one.form
          subst he27
          rw [if_pos (by kernel_rfl)]
          refine Lib.wp_append_run _ (.tmp 9) (.tmp 11) 56 56 rfl _ _ rfl rfl _ _ hr27 ?_
          try simp only [Act.put, List.setIfInBounds_toArray, List.set_cons_zero, List.set_cons_succ]
          have hTw27 := hs27
          have hP27 := hTw26.blk hg27 hP26 (by decide)
          have hR27 := hTw26.blk hg27 hR26 (by decide)
          have hB27 := hTw26.below hg27 hB26 (Nat.le_refl _)
          have hO27 := hTw26.blk hg27 hO26 (by decide)
          refine hK _ _ (fun _ => ⟨hP27.cell 0, hP27.cell 1⟩) ?_
          clear hK K
          clear hr27 hsrc27 hg27 hs27 hP26 hB26 hR26
          refine wpAnyK_ready (rs := [4]) (by kernel_rfl) (by simp) ?_
          refine AllReadyK.cons (o := ⟨some 13, _, _, _, _, _⟩) rfl (fun K hK => ?_) AllReadyK.nil
          have hb28 : Below W27.heap.size W27 (W27.alloc (.cells #[] 9)) := (Below.refl _ _).alloc (Nat.le_refl _) _
          have hTw28 := hTw27.swap.start.swap
          have hP28 := hP27.up hb28
          have hR28 := hR27.up hb28
          have hB28 := hB27.trans (hb28.mono hTw27.at0)
          have hO28 := hO27.up hb28
          go_simp
          refine hK _ _ (fun _ => ⟨hP28.cell 0, hP28.cell 1⟩) ?_
          clear hK K
          clear hTw27 hP27 hB27 hR27 hb28
          generalize hge28 : W27.alloc (.cells #[] 9) = W28 at *
          clear hge28
          refine wpAnyK_ready (rs := [7]) (by kernel_rfl) (by simp) ?_
          refine AllReadyK.cons (o := ⟨some 16, _, _, _, _, _⟩) rfl (fun K hK => ?_) AllReadyK.nil
          have hsrc29 := HSV.out.below hB28
          obtain ⟨nw29, W29, hr29, hs29, hg29⟩ := hTw28.swap.appendAll hsrc29 (by simp) hy1
          obtain ⟨A29, n29, c29, he29⟩ := hs29.one.form
          subst he29
          rw [if_pos (by kernel_rfl)]
          refine Lib.wp_append_run _ (.tmp 13) (.tmp 15) 56 56 rfl _ _ rfl rfl _ _ hr29 ?_
          try simp only [Act.put, List.setIfInBounds_toArray, List.set_cons_zero, List.set_cons_succ]
          have hTw29 := hs29.swap
          have hP29 := hTw28.swap.blk hg29 hP28 (by decide)
          have hR29 := hTw28.swap.blk hg29 hR28 (by decide)
          have hB29 := hTw28.swap.below hg29 hB28 (Nat.le_refl _)
          have hO29 := hTw28.swap.blk hg29 hO28 (by decide)
          refine hK _ _ (fun h => by cases h) ?_
          clear hK K
          clear hr29 hsrc29 hg29 hs29 hP28 hB28 hR28
          refine wpAnyK_takeAny (i := 8) (oi := ⟨some 17, _, _, _, _, _⟩) (v := ?_) rfl (by kernel_rfl) (by kernel_rfl) (by kernel_rfl) (by kernel_rfl) (fun _ _ _ h => h) (Or.inl ⟨by kernel_rfl, ?_⟩) (fun h => by cases h) ?_
          rotate_left
          · intro w'; go_simp; rfl
          try simp only [Act.put, List.setIfInBounds_toArray, List.set_cons_zero, List.set_cons_succ]
          refine wpAnyK_ready (rs := [10]) (by kernel_rfl) (by simp) ?_
          refine AllReadyK.cons (o := ⟨none, _, _, _, _, _⟩) rfl (fun K hK => ?_) AllReadyK.nil
          have f30 := hO29.frozen 0
          have g30 := hO29.frozen 1
          have cc30 := hO29.cell 0
          have cd30 := hO29.cell 1
          go_simp
          refine hK _ _ (fun h => by cases h) ?_
          clear hK K
          have hO30 := (hO29.set 0 (.slice A27 n27 c27)).set 1 (.slice A29 n29 c29)
          have hTw30 := (hTw29.setBlk hO29 (by decide) 0 (.slice A27 n27 c27)).setBlk (hO29.set 0 (.slice A27 n27 c27)) (by decide) 1 (.slice A29 n29 c29)
          have hR30 := (hR29.setOther hor26 0 (.slice A27 n27 c27)).setOther hor26 1 (.slice A29 n29 c29)
          have hB30 := (hB29.setCell (p := ⟨ob, 0, none⟩) hon26 (.slice A27 n27 c27)).setCell (p := ⟨ob, 1, none⟩) hon26 (.slice A29 n29 c29)
          clear f30 g30 cc30 cd30
          generalize (W29.setCell ⟨ob, 0, none⟩ (.slice A27 n27 c27)).setCell ⟨ob, 1, none⟩ (.slice A29 n29 c29) = W30 at *
          refine wpAnyK_done (by kernel_rfl) ?_ _
          go_wp2_with fail
          go_meet
          case rel => exact ⟨ob, _, _, _, _, _, _, rfl, hon26, hor26, hO30, hR30, hTw30, hB30⟩
        · -- 4
          have hb31 : Below W26.heap.size W26 (W26.alloc (.cells #[] 9)) := (Below.refl _ _).alloc (Nat.le_refl _) _
          have hTw31 := hTw26.swap.start.swap
          have hP31 := hP26.up hb31
          have hR31 := hR26.up hb31
          have hB31 := hB26.trans (hb31.mono hTw26.at0)
          have hO31 := hO26.up hb31
          go_simp
          refine hK _ _ (fun _ => ⟨hP31.cell 0, hP31.cell 1⟩) ?_
          clear hK K
          clear hTw26 hP26 hB26 hR26 hb31
          generalize hge31 : W26.alloc (.cells #[] 9) = W31 at *
          clear hge31
          refine wpAnyK_ready (rs := [3]) (by kernel_rfl) (by simp) ?_
          refine AllReadyK.cons (o := ⟨some 12, _, _, _, _, _⟩) rfl (fun K hK => ?_) AllReadyK.nil
          have hsrc32 := HSU.out.below hB31
          obtain ⟨nw32, W32, hr32, hs32, hg32⟩ := hTw31.appendAll hsrc32 (by simp) hx1
          obtain ⟨A32, n32, c32, he32⟩ := hs32.one.form
          subst he32
          rw [if_pos (by kernel_rfl)]
          refine Lib.wp_append_run _ (.tmp 9) (.tmp 11) 56 56 rfl _ _ rfl rfl _ _ hr32 ?_
          try simp only [Act.put, List.setIfInBounds_toArray, List.set_cons_zero, List.set_cons_succ]
          have hTw32 := hs32
          have hP32 := hTw31.blk hg32 hP31 (by decide)
          have hR32 := hTw31.blk hg32 hR31 (by decide)
          have hB32 := hTw31.below hg32 hB31 (Nat.le_refl _)
          have hO32 := hTw31.blk hg32 hO31 (by decide)
          refine hK _ _ (fun _ => ⟨hP32.cell 0, hP32.cell 1⟩) ?_
          clear hK K
          clear hr32 hsrc32 hg32 hs32 hP31 hB31 hR31
          refine wpAnyK_ready (rs := [7]) (by kernel_rfl) (by simp) ?_
          refine AllReadyK.cons (o := ⟨some 16, _, _, _, _, _⟩) rfl (fun K hK => ?_) AllReadyK.nil
          have hsrc33 := HSV.out.below hB32
          obtain ⟨nw33, W33, hr33, hs33, hg33⟩ := hTw32.swap.appendAll hsrc33 (by simp) hy1
          obtain ⟨A33, n33, c33, he33⟩ := hs33.one.form
          subst he33
          rw [if_pos (by kernel_rfl)]
          refine Lib.wp_append_run _ (.tmp 13) (.tmp 15) 56 56 rfl _ _ rfl rfl _ _ hr33 ?_
          try simp only [Act.put, List.setIfInBounds_toArray, List.set_cons_zero, List.set_cons_succ]
          have hTw33 := hs33.swap
          have hP33 := hTw32.swap.blk hg33 hP32 (by decide)
          have hR33 := hTw32.swap.blk hg33 hR32 (by decide)
          have hB33 := hTw32.swap.below hg33 hB32 (Nat.le_refl _)
          have hO33 := hTw32.swap.blk hg33 hO32 (by decide)
          refine hK _ _ (fun h => by cases h) ?_
          clear hK K
          clear hr33 hsrc33 hg33 hs33 hP32 hB32 hR32
          refine wpAnyK_takeAny (i := 8) (oi := ⟨some 17, _, _, _, _, _⟩) (v := ?_) rfl (by kernel_rfl) (by kernel_rfl) (by kernel_rfl) (by kernel_rfl) (fun _ _ _ h => h) (Or.inl ⟨by kernel_rfl, ?_⟩) (fun h => by cases h) ?_
          rotate_left
          · intro w'; go_simp; rfl
          try simp only [Act.put, List.setIfInBounds_toArray, List.set_cons_zero, List.set_cons_succ]
          refine wpAnyK_ready (rs := [10]) (by kernel_rfl) (by simp) ?_
          refine AllReadyK.cons (o := ⟨none, _, _, _, _, _⟩) rfl (fun K hK => ?_) AllReadyK.nil
          have f34 := hO33.frozen 0
          have g34 := hO33.frozen 1
          have cc34 := hO33.cell 0
          have cd34 := hO33.cell 1
          go_simp
          refine hK _ _ (fun h => by cases h) ?_
          clear hK K
          have hO34 := (hO33.set 0 (.slice A32 n32 c32)).set 1 (.slice A33 n33 c33)
          have hTw34 := (hTw33.setBlk hO33 (by decide) 0 (.slice A32 n32 c32)).setBlk (hO33.set 0 (.slice A32 n32 c32)) (by decide) 1 (.slice A33 n33 c33)
          have hR34 := (hR33.setOther hor26 0 (.slice A32 n32 c32)).setOther hor26 1 (.slice A33 n33 c33)
          have hB34 := (hB33.setCell (p := ⟨ob, 0, none⟩) hon26 (.slice A32 n32 c32)).setCell (p := ⟨ob, 1, none⟩) hon26 (.slice A33 n33 c33)
          clear f34 g34 cc34 cd34
          generalize (W33.setCell ⟨ob, 0, none⟩ (.slice A32 n32 c32)).setCell ⟨ob, 1, none⟩ (.slice A33 n33 c33) = W34 at *
          refine wpAnyK_done (by kernel_rfl) ?_ _
          go_wp2_with fail
          go_meet
          case rel => exact ⟨ob, _, _, _, _, _, _, rfl, hon26, hor26, hO34, hR34, hTw34, hB34⟩
    · -- 4
      have hb35 : Below W0.heap.size W0 (W0.alloc (.cells #[] 9)) := (Below.refl _ _).alloc (Nat.le_refl _) _
      have hTw35 := hTd.swap.start.swap
      have hP35 := hPd.up hb35
      have hR35 := hRd.up hb35
      have hB35 := hBd.trans (hb35.mono hTd.at0)
      go_simp
      refine hK _ _ (fun _ => ⟨hP35.cell 0, hP35.cell 1⟩) ?_
      clear hK K
      clear hTd hPd hBd hRd hb35
      generalize hge35 : W0.alloc (.cells #[] 9) = W35 at *
      clear hge35
      refine wpAnyK_ready (rs := [0, 9]) (by kernel_rfl) (by simp) ?_
      refine AllReadyK.cons (o := ⟨some 9, _, _, _, _, _⟩) rfl (fun K hK => ?_) (AllReadyK.cons (o := ⟨some 7, _, _, _, _, _⟩) rfl (fun K hK => ?_) AllReadyK.nil)
      · -- 0
        have hb36 : Below W35.heap.size W35 (W35.alloc (.cells #[] 9)) := (Below.refl _ _).alloc (Nat.le_refl _) _
        have hTw36 := hTw35.start
        have hP36 := hP35.up hb36
        have hR36 := hR35.up hb36
        have hB36 := hB35.trans (hb36.mono hTw35.at0)
        go_simp
        refine hK _ _ (fun _ => ⟨hP36.cell 0, hP36.cell 1⟩) ?_
        clear hK K
        clear hTw35 hP35 hB35 hR35 hb36
        generalize hge36 : W35.alloc (.cells #[] 9) = W36 at *
        clear hge36
        refine wpAnyK_ready (rs := [3, 9]) (by kernel_rfl) (by simp) ?_
        refine AllReadyK.cons (o := ⟨some 12, _, _, _, _, _⟩) rfl (fun K hK => ?_) (AllReadyK.cons (o := ⟨some 7, _, _, _, _, _⟩) rfl (fun K hK => ?_) AllReadyK.nil)
        · -- 3
          have hsrc37 := HSU.out.below hB36
          obtain ⟨nw37, W37, hr37, hs37, hg37⟩ := hTw36.appendAll hsrc37 (by simp) hx1
          obtain ⟨A37, n37, c37, he37⟩ := hs37.one.form
          subst he37
          rw [if_pos (by kernel_rfl)]
          refine Lib.wp_append_run _ (.tmp 9) (.tmp 11) 56 56 rfl _ _ rfl rfl _ _ hr37 ?_
          try simp only [Act.put, List.setIfInBounds_toArray, List.set_cons_zero, List.set_cons_succ]
          have hTw37 := hs37
          have hP37 := hTw36.blk hg37 hP36 (by decide)
          have hR37 := hTw36.blk hg37 hR36 (by decide)
          have hB37 := hTw36.below hg37 hB36 (Nat.le_refl _)
          refine hK _ _ (fun _ => ⟨hP37.cell 0, hP37.cell 1⟩) ?_
          clear hK K
          clear hr37 hsrc37 hg37 hs37 hP36 hB36 hR36
          refine wpAnyK_ready (rs := [7, 9]) (by kernel_rfl) (by simp) ?_
          refine AllReadyK.cons (o := ⟨some 16, _, _, _, _, _⟩) rfl (fun K hK => ?_) (AllReadyK.cons (o := ⟨some 7, _, _, _, _, _⟩) rfl (fun K hK => ?_) AllReadyK.nil)
          · -- 7
            have hsrc38 := HSV.out.below hB37
            obtain ⟨nw38, W38, hr38, hs38, hg38⟩ := hTw37.swap.appendAll hsrc38 (by simp) hy1
            obtain ⟨A38, n38, c38, he38⟩ := hs38.one.form
            subst he38
            rw [if_pos (by kernel_rfl)]
            refine Lib.wp_append_run _ (.tmp 13) (.tmp 15) 56 56 rfl _ _ rfl rfl _ _ hr38 ?_
            try simp only [Act.put, List.setIfInBounds_toArray, List.set_cons_zero, List.set_cons_succ]
            have hTw38 := hs38.swap
            have hP38 := hTw37.swap.blk hg38 hP37 (by decide)
            have hR38 := hTw37.swap.blk hg38 hR37 (by decide)
            have hB38 := hTw37.swap.below hg38 hB37 (Nat.le_refl _)
            refine hK _ _ (fun h => by cases h) ?_
            clear hK K
            clear hr38 hsrc38 hg38 hs38 hP37 hB37 hR37
            refine wpAnyK_takeAny (i := 8) (oi := ⟨some 17, _, _, _, _, _⟩) (v := ?_) rfl (by kernel_rfl) (by kernel_rfl) (by kernel_rfl) (by kernel_rfl) (fun _ _ _ h => h) (Or.inl ⟨by kernel_rfl, ?_⟩) (fun h => by cases h) ?_
            rotate_left
            · intro w'; go_simp; rfl
            try simp only [Act.put, List.setIfInBounds_toArray, List.set_cons_zero, List.set_cons_succ]
            refine wpAnyK_ready (rs := [9]) (by kernel_rfl) (by simp) ?_
            refine AllReadyK.cons (o := ⟨some 7, _, _, _, _, _⟩) rfl (fun K hK => ?_) AllReadyK.nil
            have hb39 : Below W38.heap.size W38 (W38.alloc (.cells #[.slice none 0 0, .slice none 0 0] 58)) := (Below.refl _ _).alloc (Nat.le_refl _) _
            have hTw39 := hTw38.up hb39
            have hP39 := hP38.up hb39
            have hR39 := hR38.up hb39
            have hB39 := hB38.trans (hb39.mono hTw38.at0)
            have hO39 : Blk (W38.alloc (.cells #[.slice none 0 0, .slice none 0 0] 58)) W38.heap.size 58 #[.slice none 0 0, .slice none 0 0] := Blk.made _ _ _
            have hon39 := hTw38.at0
            have hor39 : rb ≠ W38.heap.size := by have := hR38.lt; omega
            go_simp
            refine hK _ _ (fun h => by cases h) ?_
            clear hK K
            clear hTw38 hP38 hB38 hR38 hb39
            generalize hge39 : W38.alloc (.cells #[.slice none 0 0, .slice none 0 0] 58) = W39 at *
            clear hge39
            generalize hgo39 : W38.heap.size = ob at *
            clear hgo39
            refine wpAnyK_ready (rs := [10]) (by kernel_rfl) (by simp) ?_
            refine AllReadyK.cons (o := ⟨none, _, _, _, _, _⟩) rfl (fun K hK => ?_) AllReadyK.nil
            have f40 := hO39.frozen 0
            have g40 := hO39.frozen 1
            have cc40 := hO39.cell 0
            have cd40 := hO39.cell 1
            go_simp
            refine hK _ _ (fun h => by cases h) ?_
            clear hK K
            have hO40 := (hO39.set 0 (.slice A37 n37 c37)).set 1 (.slice A38 n38 c38)
            have hTw40 := (hTw39.setBlk hO39 (by decide) 0 (.slice A37 n37 c37)).setBlk (hO39.set 0 (.slice A37 n37 c37)) (by decide) 1 (.slice A38 n38 c38)
            have hR40 := (hR39.setOther hor39 0 (.slice A37 n37 c37)).setOther hor39 1 (.slice A38 n38 c38)
            have hB40 := (hB39.setCell (p := ⟨ob, 0, none⟩) hon39 (.slice A37 n37 c37)).setCell (p := ⟨ob, 1, none⟩) hon39 (.slice A38 n38 c38)
            clear f40 g40 cc40 cd40
            generalize (W39.setCell ⟨ob, 0, none⟩ (.slice A37 n37 c37)).setCell ⟨ob, 1, none⟩ (.slice A38 n38 c38) = W40 at *
            refine wpAnyK_done (by kernel_rfl) ?_ _
            go_wp2_with fail
            go_meet
            case rel => exact ⟨ob, _, _, _, _, _, _, rfl, hon39, hor39, hO40, hR40, hTw40, hB40⟩
          · -- 9
            have hb41 : Below W37.heap.size W37 (W37.alloc (.cells #[.slice none 0 0, .slice none 0 0] 58)) := (Below.refl _ _).alloc (Nat.le_refl _) _
            have hTw41 := hTw37.up hb41
            have hP41 := hP37.up hb41
            have hR41 := hR37.up hb41
            have hB41 := hB37.trans (hb41.mono hTw37.at0)
            have hO41 : Blk (W37.alloc (.cells #[.slice none 0 0, .slice none 0 0] 58)) W37.heap.size 58 #[.slice none 0 0, .slice none 0 0] := Blk.made _ _ _
            have hon41 := hTw37.at0
            have hor41 : rb ≠ W37.heap.size := by have := hR37.lt; omega
            go_simp
            refine hK _ _ (fun _ => ⟨hP41.cell 0, hP41.cell 1⟩) ?_
            clear hK K
            clear hTw37 hP37 hB37 hR37 hb41
            generalize hge41 : W37.alloc (.cells #[.slice none 0 0, .slice none 0 0] 58) = W41 at *
            clear hge41
            generalize hgo41 : W37.heap.size = ob at *
            clear hgo41
            refine wpAnyK_ready (rs := [7]) (by kernel_rfl) (by simp) ?_
            refine AllReadyK.cons (o := ⟨some 16, _, _, _, _, _⟩) rfl (fun K hK => ?_) AllReadyK.nil
            have hsrc42 := HSV.out.below hB41
            obtain ⟨nw42, W42, hr42, hs42, hg42⟩ := hTw41.swap.appendAll hsrc42 (by simp) hy1
            obtain ⟨A42, n42, c42, he42⟩ := hs42.one.form
            subst he42
            rw [if_pos (by kernel_rfl)]
            refine Lib.wp_append_run _ (.tmp 13) (.tmp 15) 56 56 rfl _ _ rfl rfl _ _ hr42 ?_
            try simp only [Act.put, List.setIfInBounds_toArray, List.set_cons_zero, List.set_cons_succ]
            have hTw42 := hs42.swap
            have hP42 := hTw41.swap.blk hg42 hP41 (by decide)
            have hR42 := hTw41.swap.blk hg42 hR41 (by decide)
            have hB42 := hTw41.swap.below hg42 hB41 (Nat.le_refl _)
            have hO42 := hTw41.swap.blk hg42 hO41 (by decide)
            refine hK _ _ (fun h => by cases h) ?_
            clear hK K
            clear hr42 hsrc42 hg42 hs42 hP41 hB41 hR41
            refine wpAnyK_takeAny (i := 8) (oi := ⟨some 17, _, _, _, _, _⟩) (v := ?_) rfl (by kernel_rfl) (by kernel_rfl) (by kernel_rfl) (by kernel_rfl) (fun _ _ _ h => h) (Or.inl ⟨by kernel_rfl, ?_⟩) (fun h => by cases h) ?_
            rotate_left
            · intro w'; go_simp; rfl
            try simp only [Act.put, List.setIfInBounds_toArray, List.set_cons_zero, List.set_cons_succ]
            refine wpAnyK_ready (rs := [10]) (by kernel_rfl) (by simp) ?_
            refine AllReadyK.cons (o := ⟨none, _, _, _, _, _⟩) rfl (fun K hK => ?_) AllReadyK.nil
            have f43 := hO42.frozen 0
            have g43 := hO42.frozen 1
            have cc43 := hO42.cell 0
            have cd43 := hO42.cell 1
            go_simp
            refine hK _ _ (fun h => by cases h) ?_
            clear hK K
            have hO43 := (hO42.set 0 (.slice A37 n37 c37)).set 1 (.slice A42 n42 c42)
            have hTw43 := (hTw42.setBlk hO42 (by decide) 0 (.slice A37 n37 c37)).setBlk (hO42.set 0 (.slice A37 n37 c37)) (by decide) 1 (.slice A42 n42 c42)
            have hR43 := (hR42.setOther hor41 0 (.slice A37 n37 c37)).setOther hor41 1 (.slice A42 n42 c42)
            have hB43 := (hB42.setCell (p := ⟨ob, 0, none⟩) hon41 (.slice A37 n37 c37)).setCell (p := ⟨ob, 1, none⟩) hon41 (.slice A42 n42 c42)
            clear f43 g43 cc43 cd43
            generalize (W42.setCell ⟨ob, 0, none⟩ (.slice A37 n37 c37)).setCell ⟨ob, 1, none⟩ (.slice A42 n42 c42) = W43 at *
            refine wpAnyK_done (by kernel_rfl) ?_ _
            go_wp2_with fail
            go_meet
            case rel => exact ⟨ob, _, _, _, _, _, _, rfl, hon41, hor41, hO43, hR43, hTw43, hB43⟩
        · -- 9
          have hb44 : Below W36.heap.size W36 (W36.alloc (.cells #[.slice none 0 0, .slice none 0 0] 58)) := (Below.refl _ _).alloc (Nat.le_refl _) _
          have hTw44 := hTw36.up hb44
          have hP44 := hP36.up hb44
          have hR44 := hR36.up hb44
          have hB44 := hB36.trans (hb44.mono hTw36.at0)
          have hO44 : Blk (W36.alloc (.cells #[.slice none 0 0, .slice none 0 0] 58)) W36.heap.size 58 #[.slice none 0 0, .slice none 0 0] := Blk.made _ _ _
          have hon44 := hTw36.at0
          have hor44 : rb ≠ W36.heap.size := by have := hR36.lt; omega
          go_simp
          refine hK _ _ (fun _ => ⟨hP44.cell 0, hP44.cell 1⟩) ?_
          clear hK K
          clear hTw36 hP36 hB36 hR36 hb44
          generalize hge44 : W36.alloc (.cells #[.slice none 0 0, .slice none 0 0] 58) = W44 at *
          clear hge44
          generalize hgo44 : W36.heap.size = ob at *
          clear hgo44
          refine wpAnyK_ready (rs := [3]) (by kernel_rfl) (by simp) ?_
          refine AllReadyK.cons (o := ⟨some 12, _, _, _, _, _⟩) rfl (fun K hK => ?_) AllReadyK.nil
          have hsrc45 := HSU.out.below hB44
          obtain ⟨nw45, W45, hr45, hs45, hg45⟩ := hTw44.appendAll hsrc45 (by simp) hx1
          obtain ⟨A45, n45, c45, he45⟩ := hs45.one.form
          subst he45
          rw [if_pos (by kernel_rfl)]
          refine Lib.wp_append_run _ (.tmp 9) (.tmp 11) 56 56 rfl _ _ rfl rfl _ _ hr45 ?_
          try simp only [Act.put, List.setIfInBounds_toArray, List.set_cons_zero, List.set_cons_succ]
          have hTw45 := hs45
          have hP45 := hTw44.blk hg45 hP44 (by decide)
          have hR45 := hTw44.blk hg45 hR44 (by decide)
          have hB45 := hTw44.below hg45 hB44 (Nat.le_refl _)
          have hO45 := hTw44.blk hg45 hO44 (by decide)
          refine hK _ _ (fun _ => ⟨hP45.cell 0, hP45.cell 1⟩) ?_
          clear hK K
          clear hr45 hsrc45 hg45 hs45 hP44 hB44 hR44
          refine wpAnyK_ready (rs := [7]) (by kernel_rfl) (by simp) ?_
          refine AllReadyK.cons (o := ⟨some 16, _, _, _, _, _⟩) rfl (fun K hK => ?_) AllReadyK.nil
          have hsrc46 := HSV.out.below hB45
          obtain ⟨nw46, W46, hr46, hs46, hg46⟩ := hTw45.swap.appendAll hsrc46 (by simp) hy1
          obtain ⟨A46, n46, c46, he46⟩ := hs46.one.form
          subst he46
          rw [if_pos (by kernel_rfl)]
          refine Lib.wp_append_run _ (.tmp 13) (.tmp 15) 56 56 rfl _ _ rfl rfl _ _ hr46 ?_
          try simp only [Act.put, List.setIfInBounds_toArray, List.set_cons_zero, List.set_cons_succ]
          have hTw46 := hs46.swap
          have hP46 := hTw45.swap.blk hg46 hP45 (by decide)
          have hR46 := hTw45.swap.blk hg46 hR45 (by decide)
          have hB46 := hTw45.swap.below hg46 hB45 (Nat.le_refl _)
          have hO46 := hTw45.swap.blk hg46 hO45 (by decide)
          refine hK _ _ (fun h => by cases h) ?_
          clear hK K
          clear hr46 hsrc46 hg46 hs46 hP45 hB45 hR45
          refine wpAnyK_takeAny (i := 8) (oi := ⟨some 17, _, _, _, _, _⟩) (v := ?_) rfl (by kernel_rfl) (by kernel_rfl) (by kernel_rfl) (by kernel_rfl) (fun _ _ _ h => h) (Or.inl ⟨by kernel_rfl, ?_⟩) (fun h => by cases h) ?_
          rotate_left
          · intro w'; go_simp; rfl
          try simp only [Act.put, List.setIfInBounds_toArray, List.set_cons_zero, List.set_cons_succ]
          refine wpAnyK_ready (rs := [10]) (by kernel_rfl) (by simp) ?_
          refine AllReadyK.cons (o := ⟨none, _, _, _, _, _⟩) rfl (fun K hK => ?_) AllReadyK.nil
          have f47 := hO46.frozen 0
          have g47 := hO46.frozen 1
          have cc47 := hO46.cell 0
          have cd47 := hO46.cell 1
          go_simp
          refine hK _ _ (fun h => by cases h) ?_
          clear hK K
          have hO47 := (hO46.set 0 (.slice A45 n45 c45)).set 1 (.slice A46 n46 c46)
          have hTw47 := (hTw46.setBlk hO46 (by decide) 0 (.slice A45 n45 c45)).setBlk (hO46.set 0 (.slice A45 n45 c45)) (by decide) 1 (.slice A46 n46 c46)
          have hR47 := (hR46.setOther hor44 0 (.slice A45 n45 c45)).setOther hor44 1 (.slice A46 n46 c46)
          have hB47 := (hB46.setCell (p := ⟨ob, 0, none⟩) hon44 (.slice A45 n45 c45)).setCell (p := ⟨ob, 1, none⟩) hon44 (.slice A46 n46 c46)
          clear f47 g47 cc47 cd47
          generalize (W46.setCell ⟨ob, 0, none⟩ (.slice A45 n45 c45)).setCell ⟨ob, 1, none⟩ (.slice A46 n46 c46) = W47 at *
          refine wpAnyK_done (by kernel_rfl) ?_ _
          go_wp2_with fail
          go_meet
          case rel => exact ⟨ob, _, _, _, _, _, _, rfl, hon44, hor44, hO47, hR47, hTw47, hB47⟩
      · -- 9
        have hb48 : Below W35.heap.size W35 (W35.alloc (.cells #[.slice none 0 0, .slice none 0 0] 58)) := (Below.refl _ _).alloc (Nat.le_refl _) _
        have hTw48 := hTw35.up hb48
        have hP48 := hP35.up hb48
        have hR48 := hR35.up hb48
        have hB48 := hB35.trans (hb48.mono hTw35.at0)
        have hO48 : Blk (W35.alloc (.cells #[.slice none 0 0, .slice none 0 0] 58)) W35.heap.size 58 #[.slice none 0 0, .slice none 0 0] := Blk.made _ _ _
        have hon48 := hTw35.at0
        have hor48 : rb ≠ W35.heap.size := by have := hR35.lt; omega
        go_simp
        refine hK _ _ (fun _ => ⟨hP48.cell 0, hP48.cell 1⟩) ?_
        clear hK K
        clear hTw35 hP35 hB35 hR35 hb48
        generalize hge48 : W35.alloc (.cells #[.slice none 0 0, .slice none 0 0] 58) = W48 at *
        clear hge48
        generalize hgo48 : W35.heap.size = ob at *
        clear hgo48
        refine wpAnyK_ready (rs := [0]) (by kernel_rfl) (by simp) ?_
        refine AllReadyK.cons (o := ⟨some 9, _, _, _, _, _⟩) rfl (fun K hK => ?_) AllReadyK.nil
        have hb49 : Below W48.heap.size W48 (W48.alloc (.cells #[] 9)) := (Below.refl _ _).alloc (Nat.le_refl _) _
        have hTw49 := hTw48.start
        have hP49 := hP48.up hb49
        have hR49 := hR48.up hb49
        have hB49 := hB48.trans (hb49.mono hTw48.at0)
        have hO49 := hO48.up hb49
        go_simp
        refine hK _ _ (fun _ => ⟨hP49.cell 0, hP49.cell 1⟩) ?_
        clear hK K
        clear hTw48 hP48 hB48 hR48 hb49
        generalize hge49 : W48.alloc (.cells #[] 9) = W49 at *
        clear hge49
        refine wpAnyK_ready (rs := [3]) (by kernel_rfl) (by simp) ?_
        refine AllReadyK.cons (o := ⟨some 12, _, _, _, _, _⟩) rfl (fun K hK => ?_) AllReadyK.nil
        have hsrc50 := HSU.out.below hB49
        obtain ⟨nw50, W50, hr50, hs50, hg50⟩ := hTw49.appendAll hsrc50 (by simp) hx1
        obtain ⟨A50, n50, c50, he50⟩ := hs50.one.form
        subst he50
        rw [if_pos (by kernel_rfl)]
        refine Lib.wp_append_run _ (.tmp 9) (.tmp 11) 56 56 rfl _ _ rfl rfl _ _ hr50 ?_
        try simp only [Act.put, List.setIfInBounds_toArray, List.set_cons_zero, List.set_cons_succ]
        have hTw50 := hs50
        have hP50 := hTw49.blk hg50 hP49 (by decide)
        have hR50 := hTw49.blk hg50 hR49 (by decide)
        have hB50 := hTw49.below hg50 hB49 (Nat.le_refl _)
        have hO50 := hTw49.blk hg50 hO49 (by decide)
        refine hK _ _ (fun _ => ⟨hP50.cell 0, hP50.cell 1⟩) ?_
        clear hK K
        clear hr50 hsrc50 hg50 hs50 hP49 hB49 hR49
        refine wpAnyK_ready (rs := [7]) (by kernel_rfl) (by simp) ?_
        refine AllReadyK.cons (o := ⟨some 16, _, _, _, _, _⟩) rfl (fun K hK => ?_) AllReadyK.nil
        have hsrc51 := HSV.out.below hB50
        obtain ⟨nw51, W51, hr51, hs51, hg51⟩ := hTw50.swap.appendAll hsrc51 (by simp) hy1
        obtain ⟨A51, n51, c51, he51⟩ := hs51.one.form
        subst he51
        rw [if_pos (by kernel_rfl)]
        refine Lib.wp_append_run _ (.tmp 13) (.tmp 15) 56 56 rfl _ _ rfl rfl _ _ hr51 ?_
        try simp only [Act.put, List.setIfInBounds_toArray, List.set_cons_zero, List.set_cons_succ]
        have hTw51 := hs51.swap
        have hP51 := hTw50.swap.blk hg51 hP50 (by decide)
        have hR51 := hTw50.swap.blk hg51 hR50 (by decide)
        have hB51 := hTw50.swap.below hg51 hB50 (Nat.le_refl _)
        have hO51 := hTw50.swap.blk hg51 hO50 (by decide)
        refine hK _ _ (fun h => by cases h) ?_
        clear hK K
        clear hr51 hsrc51 hg51 hs51 hP50 hB50 hR50
        refine wpAnyK_takeAny (i := 8) (oi := ⟨some 17, _, _, _, _, _⟩) (v := ?_) rfl (by kernel_rfl) (by kernel_rfl) (by kernel_rfl) (by kernel_rfl) (fun _ _ _ h => h) (Or.inl ⟨by kernel_rfl, ?_⟩) (fun h => by cases h) ?_
        rotate_left
        · intro w'; go_simp; rfl
        try simp only [Act.put, List.setIfInBounds_toArray, List.set_cons_zero, List.set_cons_succ]
        refine wpAnyK_ready (rs := [10]) (by kernel_rfl) (by simp) ?_
        refine AllReadyK.cons (o := ⟨none, _, _, _, _, _⟩) rfl (fun K hK => ?_) AllReadyK.nil
        have f52 := hO51.frozen 0
        have g52 := hO51.frozen 1
        have cc52 := hO51.cell 0
        have cd52 := hO51.cell 1
        go_simp
        refine hK _ _ (fun h => by cases h) ?_
        clear hK K
        have hO52 := (hO51.set 0 (.slice A50 n50 c50)).set 1 (.slice A51 n51 c51)
        have hTw52 := (hTw51.setBlk hO51 (by decide) 0 (.slice A50 n50 c50)).setBlk (hO51.set 0 (.slice A50 n50 c50)) (by decide) 1 (.slice A51 n51 c51)
        have hR52 := (hR51.setOther hor48 0 (.slice A50 n50 c50)).setOther hor48 1 (.slice A51 n51 c51)
        have hB52 := (hB51.setCell (p := ⟨ob, 0, none⟩) hon48 (.slice A50 n50 c50)).setCell (p := ⟨ob, 1, none⟩) hon48 (.slice A51 n51 c51)
        clear f52 g52 cc52 cd52
        generalize (W51.setCell ⟨ob, 0, none⟩ (.slice A50 n50 c50)).setCell ⟨ob, 1, none⟩ (.slice A51 n51 c51) = W52 at *
        refine wpAnyK_done (by kernel_rfl) ?_ _
        go_wp2_with fail
        go_meet
        case rel => exact ⟨ob, _, _, _, _, _, _, rfl, hon48, hor48, hO52, hR52, hTw52, hB52⟩
    · -- 9
      have hb53 : Below W0.heap.size W0 (W0.alloc (.cells #[.slice none 0 0, .slice none 0 0] 58)) := (Below.refl _ _).alloc (Nat.le_refl _) _
      have hTw53 := hTd.up hb53
      have hP53 := hPd.up hb53
      have hR53 := hRd.up hb53
      have hB53 := hBd.trans (hb53.mono hTd.at0)
      have hO53 : Blk (W0.alloc (.cells #[.slice none 0 0, .slice none 0 0] 58)) W0.heap.size 58 #[.slice none 0 0, .slice none 0 0] := Blk.made _ _ _
      have hon53 := hTd.at0
      have hor53 : rb ≠ W0.heap.size := by have := hRd.lt; omega
      go_simp
      refine hK _ _ (fun _ => ⟨hP53.cell 0, hP53.cell 1⟩) ?_
      clear hK K
      clear hTd hPd hBd hRd hb53
      generalize hge53 : W0.alloc (.cells #[.slice none 0 0, .slice none 0 0] 58) = W53 at *
      clear hge53
      generalize hgo53 : W0.heap.size = ob at *
      clear hgo53
      refine wpAnyK_ready (rs := [0, 4]) (by kernel_rfl) (by simp) ?_
      refine AllReadyK.cons (o := ⟨some 9, _, _, _, _, _⟩) rfl (fun K hK => ?_) (AllReadyK.cons (o := ⟨some 13, _, _, _, _, _⟩) rfl (fun K hK => ?_) AllReadyK.nil)
      · -- 0
        have hb54 : Below W53.heap.size W53 (W53.alloc (.cells #[] 9)) := (Below.refl _ _).alloc (Nat.le_refl _) _
        have hTw54 := hTw53.start
        have hP54 := hP53.up hb54
        have hR54 := hR53.up hb54
        have hB54 := hB53.trans (hb54.mono hTw53.at0)
        have hO54 := hO53.up hb54
        go_simp
        refine hK _ _ (fun _ => ⟨hP54.cell 0, hP54.cell 1⟩) ?_
        clear hK K
        clear hTw53 hP53 hB53 hR53 hb54
        generalize hge54 : W53.alloc (.cells #[] 9) = W54 at *
        clear hge54
        refine wpAnyK_ready (rs := [3, 4]) (by kernel_rfl) (by simp) ?_
        refine AllReadyK.cons (o := ⟨some 12, _, _, _, _, _⟩) rfl (fun K hK => ?_) (AllReadyK.cons (o := ⟨some 13, _, _, _, _, _⟩) rfl (fun K hK => ?_) AllReadyK.nil)
        · -- 3
          have hsrc55 := HSU.out.below hB54
          obtain ⟨nw55, W55, hr55, hs55, hg55⟩ := hTw54.appendAll hsrc55 (by simp) hx1
          obtain ⟨A55, n55, c55, he55⟩ := hs55.one.form
          subst he55
          rw [if_pos (by kernel_rfl)]
          refine Lib.wp_append_run _ (.tmp 9) (.tmp 11) 56 56 rfl _ _ rfl rfl _ _ hr55 ?_
          try simp only [Act.put, List.setIfInBounds_toArray, List.set_cons_zero, List.set_cons_succ]
          have hTw55 := hs55
          have hP55 := hTw54.blk hg55 hP54 (by decide)
          have hR55 := hTw54.blk hg55 hR54 (by decide)
          have hB55 := hTw54.below hg55 hB54 (Nat.le_refl _)
          have hO55 := hTw54.blk hg55 hO54 (by decide)
          refine hK _ _ (fun _ => ⟨hP55.cell 0, hP55.cell 1⟩) ?_
          clear hK K
          clear hr55 hsrc55 hg55 hs55 hP54 hB54 hR54
          refine wpAnyK_ready (rs := [4]) (by kernel_rfl) (by simp) ?_
          refine AllReadyK.cons (o := ⟨some 13, _, _, _, _, _⟩) rfl (fun K hK => ?_) AllReadyK.nil
          have hb56 : Below W55.heap.size W55 (W55.alloc (.cells #[] 9)) := (Below.refl _ _).alloc (Nat.le_refl _) _
          have hTw56 := hTw55.swap.start.swap
          have hP56 := hP55.up hb56
          have hR56 := hR55.up hb56
          have hB56 := hB55.trans (hb56.mono hTw55.at0)
          have hO56 := hO55.up hb56
          go_simp
          refine hK _ _ (fun _ => ⟨hP56.cell 0, hP56.cell 1⟩) ?_
          clear hK K
          clear hTw55 hP55 hB55 hR55 hb56
          generalize hge56 : W55.alloc (.cells #[] 9) = W56 at *
          clear hge56
          refine wpAnyK_ready (rs := [7]) (by kernel_rfl) (by simp) ?_
          refine AllReadyK.cons (o := ⟨some 16, _, _, _, _, _⟩) rfl (fun K hK => ?_) AllReadyK.nil
          have hsrc57 := HSV.out.below hB56
          obtain ⟨nw57, W57, hr57, hs57, hg57⟩ := hTw56.swap.appendAll hsrc57 (by simp) hy1
          obtain ⟨A57, n57, c57, he57⟩ := hs57.one.form
          subst he57
          rw [if_pos (by kernel_rfl)]
          refine Lib.wp_append_run _ (.tmp 13) (.tmp 15) 56 56 rfl _ _ rfl rfl _ _ hr57 ?_
          try simp only [Act.put, List.setIfInBounds_toArray, List.set_cons_zero, List.set_cons_succ]
          have hTw57 := hs57.swap
          have hP57 := hTw56.swap.blk hg57 hP56 (by decide)
          have hR57 := hTw56.swap.blk hg57 hR56 (by decide)
          have hB57 := hTw56.swap.below hg57 hB56 (Nat.le_refl _)
          have hO57 := hTw56.swap.blk hg57 hO56 (by decide)
          refine hK _ _ (fun h => by cases h) ?_
          clear hK K
          clear hr57 hsrc57 hg57 hs57 hP56 hB56 hR56
          refine wpAnyK_takeAny (i := 8) (oi := ⟨some 17, _, _, _, _, _⟩) (v := ?_) rfl (by kernel_rfl) (by kernel_rfl) (by kernel_rfl) (by kernel_rfl) (fun _ _ _ h => h) (Or.inl ⟨by kernel_rfl, ?_⟩) (fun h => by cases h) ?_
          rotate_left
          · intro w'; go_simp; rfl
          try simp only [Act.put, List.setIfInBounds_toArray, List.set_cons_zero, List.set_cons_succ]
          refine wpAnyK_ready (rs := [10]) (by kernel_rfl) (by simp) ?_
          refine AllReadyK.cons (o := ⟨none, _, _, _, _, _⟩) rfl (fun K hK => ?_) AllReadyK.nil
          have f58 := hO57.frozen 0
          have g58 := hO57.frozen 1
          have cc58 := hO57.cell 0
          have cd58 := hO57.cell 1
          go_simp
          refine hK _ _ (fun h => by cases h) ?_
          clear hK K
          have hO58 := (hO57.set 0 (.slice A55 n55 c55)).set 1 (.slice A57 n57 c57)
          have hTw58 := (hTw57.setBlk hO57 (by decide) 0 (.slice A55 n55 c55)).setBlk (hO57.set 0 (.slice A55 n55 c55)) (by decide) 1 (.slice A57 n57 c57)
          have hR58 := (hR57.setOther hor53 0 (.slice A55 n55 c55)).setOther hor53 1 (.slice A57 n57 c57)
          have hB58 := (hB57.setCell (p := ⟨ob, 0, none⟩) hon53 (.slice A55 n55 c55)).setCell (p := ⟨ob, 1, none⟩) hon53 (.slice A57 n57 c57)
          clear f58 g58 cc58 cd58
          generalize (W57.setCell ⟨ob, 0, none⟩ (.slice A55 n55 c55)).setCell ⟨ob, 1, none⟩ (.slice A57 n57 c57) = W58 at *
          refine wpAnyK_done (by kernel_rfl) ?_ _
          go_wp2_with fail
          go_meet
          case rel => exact ⟨ob, _, _, _, _, _, _, rfl, hon53, hor53, hO58, hR58, hTw58, hB58⟩
        · -- 4
          have hb59 : Below W54.heap.size W54 (W54.alloc (.cells #[] 9)) := (Below.refl _ _).alloc (Nat.le_refl _) _
          have hTw59 := hTw54.swap.start.swap
          have hP59 := hP54.up hb59
          have hR59 := hR54.up hb59
          have hB59 := hB54.trans (hb59.mono hTw54.at0)
          have hO59 := hO54.up hb59
          go_simp
          refine hK _ _ (fun _ => ⟨hP59.cell 0, hP59.cell 1⟩) ?_
          clear hK K
          clear hTw54 hP54 hB54 hR54 hb59
          generalize hge59 : W54.alloc (.cells #[] 9) = W59 at *
          clear hge59
          refine wpAnyK_ready (rs := [3]) (by kernel_rfl) (by simp) ?_
          refine AllReadyK.cons (o := ⟨some 12, _, _, _, _, _⟩) rfl (fun K hK => ?_) AllReadyK.nil
          have hsrc60 := HSU.out.below hB59
          obtain ⟨nw60, W60, hr60, hs60, hg60⟩ := hTw59.appendAll hsrc60 (by simp) hx1
          obtain ⟨A60, n60, c60, he60⟩ := hs60.one.form
          subst he60
          rw [if_pos (by kernel_rfl)]
          refine Lib.wp_append_run _ (.tmp 9) (.tmp 11) 56 56 rfl _ _ rfl rfl _ _ hr60 ?_
          try simp only [Act.put, List.setIfInBounds_toArray, List.set_cons_zero, List.set_cons_succ]
          have hTw60 := hs60
          have hP60 := hTw59.blk hg60 hP59 (by decide)
          have hR60 := hTw59.blk hg60 hR59 (by decide)
          have hB60 := hTw59.below hg60 hB59 (Nat.le_refl _)
          have hO60 := hTw59.blk hg60 hO59 (by decide)
          refine hK _ _ (fun _ => ⟨hP60.cell 0, hP60.cell 1⟩) ?_
          clear hK K
          clear hr60 hsrc60 hg60 hs60 hP59 hB59 hR59
          refine wpAnyK_ready (rs := [7]) (by kernel_rfl) (by simp) ?_
          refine AllReadyK.cons (o := ⟨some 16, _, _, _, _, _⟩) rfl (fun K hK => ?_) AllReadyK.nil
          have hsrc61 := HSV.out.below hB60
          obtain ⟨nw61, W61, hr61, hs61, hg61⟩ := hTw60.swap.appendAll hsrc61 (by simp) hy1
          obtain ⟨A61, n61, c61, he61⟩ := hs61.one.form
          subst he61
          rw [if_pos (by kernel_rfl)]
          refine Lib.wp_append_run _ (.tmp 13) (.tmp 15) 56 56 rfl _ _ rfl rfl _ _ hr61 ?_
          try simp only [Act.put, List.setIfInBounds_toArray, List.set_cons_zero, List.set_cons_succ]
          have hTw61 := hs61.swap
          have hP61 := hTw60.swap.blk hg61 hP60 (by decide)
          have hR61 := hTw60.swap.blk hg61 hR60 (by decide)
          have hB61 := hTw60.swap.below hg61 hB60 (Nat.le_refl _)
          have hO61 := hTw60.swap.blk hg61 hO60 (by decide)
          refine hK _ _ (fun h => by cases h) ?_
          clear hK K
          clear hr61 hsrc61 hg61 hs61 hP60 hB60 hR60
          refine wpAnyK_takeAny (i := 8) (oi := ⟨some 17, _, _, _, _, _⟩) (v := ?_) rfl (by kernel_rfl) (by kernel_rfl) (by kernel_rfl) (by kernel_rfl) (fun _ _ _ h => h) (Or.inl ⟨by kernel_rfl, ?_⟩) (fun h => by cases h) ?_
          rotate_left
          · intro w'; go_simp; rfl
          try simp only [Act.put, List.setIfInBounds_toArray, List.set_cons_zero, List.set_cons_succ]
          refine wpAnyK_ready (rs := [10]) (by kernel_rfl) (by simp) ?_
          refine AllReadyK.cons (o := ⟨none, _, _, _, _, _⟩) rfl (fun K hK => ?_) AllReadyK.nil
          have f62 := hO61.frozen 0
          have g62 := hO61.frozen 1
          have cc62 := hO61.cell 0
          have cd62 := hO61.cell 1
          go_simp
          refine hK _ _ (fun h => by cases h) ?_
          clear hK K
          have hO62 := (hO61.set 0 (.slice A60 n60 c60)).set 1 (.slice A61 n61 c61)
          have hTw62 := (hTw61.setBlk hO61 (by decide) 0 (.slice A60 n60 c60)).setBlk (hO61.set 0 (.slice A60 n60 c60)) (by decide) 1 (.slice A61 n61 c61)
          have hR62 := (hR61.setOther hor53 0 (.slice A60 n60 c60)).setOther hor53 1 (.slice A61 n61 c61)
          have hB62 := (hB61.setCell (p := ⟨ob, 0, none⟩) hon53 (.slice A60 n60 c60)).setCell (p := ⟨ob, 1, none⟩) hon53 (.slice A61 n61 c61)
          clear f62 g62 cc62 cd62
          generalize (W61.setCell ⟨ob, 0, none⟩ (.slice A60 n60 c60)).setCell ⟨ob, 1, none⟩ (.slice A61 n61 c61) = W62 at *
          refine wpAnyK_done (by kernel_rfl) ?_ _
          go_wp2_with fail
          go_meet
          case rel => exact ⟨ob, _, _, _, _, _, _, rfl, hon53, hor53, hO62, hR62, hTw62, hB62⟩
      · -- 4
        have hb63 : Below W53.heap.size W53 (W53.alloc (.cells #[] 9)) := (Below.refl _ _).alloc (Nat.le_refl _) _
        have hTw63 := hTw53.swap.start.swap
        have hP63 := hP53.up hb63
        have hR63 := hR53.up hb63
        have hB63 := hB53.trans (hb63.mono hTw53.at0)
        have hO63 := hO53.up hb63
        go_simp
        refine hK _ _ (fun _ => ⟨hP63.cell 0, hP63.cell 1⟩) ?_
        clear hK K
        clear hTw53 hP53 hB53 hR53 hb63
        generalize hge63 : W53.alloc (.cells #[] 9) = W63 at *
        clear hge63
        refine wpAnyK_ready (rs := [0]) (by kernel_rfl) (by simp) ?_
        refine AllReadyK.cons (o := ⟨some 9, _, _, _, _, _⟩) rfl (fun K hK => ?_) AllReadyK.nil
        have hb64 : Below W63.heap.size W63 (W63.alloc (.cells #[] 9)) := (Below.refl _ _).alloc (Nat.le_refl _) _
        have hTw64 := hTw63.start
        have hP64 := hP63.up hb64
        have hR64 := hR63.up hb64
        have hB64 := hB63.trans (hb64.mono hTw63.at0)
        have hO64 := hO63.up hb64
        go_simp
        refine hK _ _ (fun _ => ⟨hP64.cell 0, hP64.cell 1⟩) ?_
        clear hK K
        clear hTw63 hP63 hB63 hR63 hb64
        generalize hge64 : W63.alloc (.cells #[] 9) = W64 at *
        clear hge64
        refine wpAnyK_ready (rs := [3]) (by kernel_rfl) (by simp) ?_
        refine AllReadyK.cons (o := ⟨some 12, _, _, _, _, _⟩) rfl (fun K hK => ?_) AllReadyK.nil
        have hsrc65 := HSU.out.below hB64
        obtain ⟨nw65, W65, hr65, hs65, hg65⟩ := hTw64.appendAll hsrc65 (by simp) hx1
        obtain ⟨A65, n65, c65, he65⟩ := hs65.one.form
        subst he65
        rw [if_pos (by kernel_rfl)]
        refine Lib.wp_append_run _ (.tmp 9) (.tmp 11) 56 56 rfl _ _ rfl rfl _ _ hr65 ?_
        try simp only [Act.put, List.setIfInBounds_toArray, List.set_cons_zero, List.set_cons_succ]
        have hTw65 := hs65
        have hP65 := hTw64.blk hg65 hP64 (by decide)
        have hR65 := hTw64.blk hg65 hR64 (by decide)
        have hB65 := hTw64.below hg65 hB64 (Nat.le_refl _)
        have hO65 := hTw64.blk hg65 hO64 (by decide)
        refine hK _ _ (fun _ => ⟨hP65.cell 0, hP65.cell 1⟩) ?_
        clear hK K
        clear hr65 hsrc65 hg65 hs65 hP64 hB64 hR64
        refine wpAnyK_ready (rs := [7]) (by kernel_rfl) (by simp) ?_
        refine AllReadyK.cons (o := ⟨some 16, _, _, _, _, _⟩) rfl (fun K hK => ?_) AllReadyK.nil
        have hsrc66 := HSV.out.below hB65
        obtain ⟨nw66, W66, hr66, hs66, hg66⟩ := hTw65.swap.appendAll hsrc66 (by simp) hy1
        obtain ⟨A66, n66, c66, he66⟩ := hs66.one.form
        subst he66
        rw [if_pos (by kernel_rfl)]
        refine Lib.wp_append_run _ (.tmp 13) (.tmp 15) 56 56 rfl _ _ rfl rfl _ _ hr66 ?_
        try simp only [Act.put, List.setIfInBounds_toArray, List.set_cons_zero, List.set_cons_succ]
        have hTw66 := hs66.swap
        have hP66 := hTw65.swap.blk hg66 hP65 (by decide)
        have hR66 := hTw65.swap.blk hg66 hR65 (by decide)
        have hB66 := hTw65.swap.below hg66 hB65 (Nat.le_refl _)
        have hO66 := hTw65.swap.blk hg66 hO65 (by decide)
        refine hK _ _ (fun h => by cases h) ?_
        clear hK K
        clear hr66 hsrc66 hg66 hs66 hP65 hB65 hR65
        refine wpAnyK_takeAny (i := 8) (oi := ⟨some 17, _, _, _, _, _⟩) (v := ?_) rfl (by kernel_rfl) (by kernel_rfl) (by kernel_rfl) (by kernel_rfl) (fun _ _ _ h => h) (Or.inl ⟨by kernel_rfl, ?_⟩) (fun h => by cases h) ?_
        rotate_left
        · intro w'; go_simp; rfl
        try simp only [Act.put, List.setIfInBounds_toArray, List.set_cons_zero, List.set_cons_succ]
        refine wpAnyK_ready (rs := [10]) (by kernel_rfl) (by simp) ?_
        refine AllReadyK.cons (o := ⟨none, _, _, _, _, _⟩) rfl (fun K hK => ?_) AllReadyK.nil
        have f67 := hO66.frozen 0
        have g67 := hO66.frozen 1
        have cc67 := hO66.cell 0
        have cd67 := hO66.cell 1
        go_simp
        refine hK _ _ (fun h => by cases h) ?_
        clear hK K
        have hO67 := (hO66.set 0 (.slice A65 n65 c65)).set 1 (.slice A66 n66 c66)
        have hTw67 := (hTw66.setBlk hO66 (by decide) 0 (.slice A65 n65 c65)).setBlk (hO66.set 0 (.slice A65 n65 c65)) (by decide) 1 (.slice A66 n66 c66)
        have hR67 := (hR66.setOther hor53 0 (.slice A65 n65 c65)).setOther hor53 1 (.slice A66 n66 c66)
        have hB67 := (hB66.setCell (p := ⟨ob, 0, none⟩) hon53 (.slice A65 n65 c65)).setCell (p := ⟨ob, 1, none⟩) hon53 (.slice A66 n66 c66)
        clear f67 g67 cc67 cd67
        generalize (W66.setCell ⟨ob, 0, none⟩ (.slice A65 n65 c65)).setCell ⟨ob, 1, none⟩ (.slice A66 n66 c66) = W67 at *
        refine wpAnyK_done (by kernel_rfl) ?_ _
        go_wp2_with fail
        go_meet
        case rel => exact ⟨ob, _, _, _, _, _, _, rfl, hon53, hor53, hO67, hR67, hTw67, hB67⟩
  case rest =>
    obtain ⟨ob, A1, n1, c1, A2, n2, c2, rfl, hon, hor, hO, hR, hTw, hB⟩ := hcut
    have HO := Lib.hid hO; have HR := Lib.hid hR; have HTW := Lib.hid hTw; have HB := Lib.hid hB
    clear hO hR hTw hB hTd hPd hRd hBd
    go_wp2_with fail
    go_loopg [8] l.length (fun gh i wr => ∃ k : Nat, k ≤ l.length ∧ gh = l.length - k ∧ i = .int .i64 k ∧ Blk wr ob 58 #[.slice A1 n1 c1, .slice A2 n2 c2] ∧ Blk wr rb 58 #[.slice none 0 0, .slice none 0 0] ∧
      Two w.heap.size wr (.slice A1 n1 c1) (.slice A2 n2 c2) (putL xs (l.take k)) ys ∧ Below w.heap.size w wr)
    case atStart => exact ⟨0, Nat.zero_le _, rfl, rfl, HO.out, HR.out, HTW.out, HB.out⟩
    case round =>
      clear HO HR HTW HB
      obtain ⟨k, hk, rfl, rfl, hO, hR, hTw, hB⟩ := hrel
      have hpl : (putL xs (l.take k)).length = 8 := by rw [putL_length]; exact HX8.out
      by_cases hlt : k < l.length
      · have hlt2 : (k : Int) < (l.length : Int) := by omega
        obtain ⟨b, c, e⟩ := hTw.one.at8 (by omega)
        rw [hpl] at e
        injection e with e1 e2 e3
        subst e1 e2 e3
        obtain ⟨x, hx⟩ : ∃ x, x = l[k] := ⟨_, rfl⟩
        have hxm : x ∈ l := by rw [hx]; exact List.getElem_mem hlt
        obtain ⟨xp0, xp1⟩ := HPP.out x hxm
        have hstep : putL xs (l.take (k + 1)) = (putL xs (l.take k)).set x.1.toNat x.2 := by
          rw [List.take_add_one, List.getElem?_eq_getElem hlt, ← hx]
          exact putL_snoc _ _ _
        have g1 : ∃ ad : Addr, Aa = some ad ∧ wr.cell? (ad.add k) = some (.int .i64 x.1) := by
          obtain ⟨A', cap', e, q1, q2⟩ := HVA.out.below hB
          injection e with e1 e2 e3
          cases A' with
          | none => obtain ⟨_, hn⟩ := q1 rfl; rw [List.map_eq_nil_iff.1 hn] at hlt; simp at hlt
          | some ad => exact ⟨ad, e1, q2 ad rfl k _ (by rw [hx]; simp [hlt])⟩
        have g2 : ∃ ad : Addr, As = some ad ∧ wr.cell? (ad.add k) = some (.string (bs x.2)) := by
          obtain ⟨A', cap', e, q1, q2⟩ := HVS.out.below hB
          injection e with e1 e2 e3
          cases A' with
          | none => obtain ⟨_, hn⟩ := q1 rfl; rw [List.map_eq_nil_iff.1 hn] at hlt; simp at hlt
          | some ad => exact ⟨ad, e1, q2 ad rfl k _ (by rw [hx]; simp [strCells, hlt])⟩
        obtain ⟨ad1, rfl, y1⟩ := g1
        obtain ⟨ad2, rfl, y2⟩ := g2
        obtain ⟨xp, xs'⟩ := x
        obtain ⟨pn, rfl⟩ : ∃ n : Nat, xp = n := ⟨xp.toNat, by dsimp only at xp0; omega⟩
        replace xp0 : (0 : Int) ≤ (pn : Int) := xp0
        replace xp1 : (pn : Int) < 8 := xp1
        replace y1 : wr.cell? (ad1.add k) = some (.int .i64 (pn : Int)) := y1
        replace y2 : wr.cell? (ad2.add k) = some (.string (bs xs')) := y2
        replace hstep : putL xs (l.take (k + 1)) = (putL xs (l.take k)).set pn xs' := hstep
        clear hx hxm
        have z0 := hO.cell 0
        have HTW := Lib.hid hTw; have HO := Lib.hid hO; have HR := Lib.hid hR; have HB := Lib.hid hB; have HST := Lib.hid hstep
        clear hTw hO hR hB hstep
        go_wp2_with fail
        refine wp_region_any (by kernel_rfl) ?_
        show wpAny _ _ _ _ 12 #[false,false,false,false,false,false,false,false,false,false,false,false] _ (World.drew _)
        refine wpAny_upto 11 [0, 1, 2, 3, 4, 5, 6, 7, 8, 9, 10] (fun W => Below wr.heap.size wr W) (g := 1) (by kernel_rfl) (by kernel_rfl) (by kernel_rfl) (by kernel_rfl) (Below.refl _ _).drew ?_
        refine q_val (o := ⟨some 24, _, _, _, _, _⟩) (v := ?_) (by kernel_rfl) (fun W hW => ?_) ?_
        rotate_left
        · go_simp; rfl
        try simp only [Act.put, List.setIfInBounds_toArray, List.set_cons_zero, List.set_cons_succ]
        refine q_val (o := ⟨some 25, _, _, _, _, _⟩) (v := ?_) (by kernel_rfl) (fun W hW => ?_) ?_
        rotate_left
        · have z0 := up_cell hW z0; have y1 := up_cell hW y1; have y2 := up_cell hW y2; go_simp; rfl
        try simp only [Act.put, List.setIfInBounds_toArray, List.set_cons_zero, List.set_cons_succ]
        refine q_val (o := ⟨some 26, _, _, _, _, _⟩) (v := ?_) (by kernel_rfl) (fun W hW => ?_) ?_
        rotate_left
        · go_simp; rfl
        try simp only [Act.put, List.setIfInBounds_toArray, List.set_cons_zero, List.set_cons_succ]
        refine q_val (o := ⟨some 27, _, _, _, _, _⟩) (v := ?_) (by kernel_rfl) (fun W hW => ?_) ?_
        rotate_left
        · go_simp; rfl
        try simp only [Act.put, List.setIfInBounds_toArray, List.set_cons_zero, List.set_cons_succ]
        refine q_val (o := ⟨some 28, _, _, _, _, _⟩) (v := ?_) (by kernel_rfl) (fun W hW => ?_) ?_
        rotate_left
        · go_simp; rfl
        try simp only [Act.put, List.setIfInBounds_toArray, List.set_cons_zero, List.set_cons_succ]
        refine q_val (o := ⟨some 29, _, _, _, _, _⟩) (v := ?_) (by kernel_rfl) (fun W hW => ?_) ?_
        rotate_left
        · have z0 := up_cell hW z0; have y1 := up_cell hW y1; have y2 := up_cell hW y2; go_simp; rfl
        try simp only [Act.put, List.setIfInBounds_toArray, List.set_cons_zero, List.set_cons_succ]
        refine q_val (o := ⟨some 30, _, _, _, _, _⟩) (v := ?_) (by kernel_rfl) (fun W hW => ?_) ?_
        rotate_left
        · go_simp; rfl
        try simp only [Act.put, List.setIfInBounds_toArray, List.set_cons_zero, List.set_cons_succ]
        refine q_val (o := ⟨some 31, _, _, _, _, _⟩) (v := ?_) (by kernel_rfl) (fun W hW => ?_) ?_
        rotate_left
        · go_simp; rfl
        try simp only [Act.put, List.setIfInBounds_toArray, List.set_cons_zero, List.set_cons_succ]
        refine q_val (o := ⟨some 32, _, _, _, _, _⟩) (v := ?_) (by kernel_rfl) (fun W hW => ?_) ?_
        rotate_left
        · go_simp; rfl
        try simp only [Act.put, List.setIfInBounds_toArray, List.set_cons_zero, List.set_cons_succ]
        refine q_val (o := ⟨some 33, _, _, _, _, _⟩) (v := ?_) (by kernel_rfl) (fun W hW => ?_) ?_
        rotate_left
        · have z0 := up_cell hW z0; have y1 := up_cell hW y1; have y2 := up_cell hW y2; go_simp; rfl
        try simp only [Act.put, List.setIfInBounds_toArray, List.set_cons_zero, List.set_cons_succ]
        refine q_val (o := ⟨some 34, _, _, _, _, _⟩) (v := ?_) (by kernel_rfl) (fun W hW => ?_) ?_
        rotate_left
        · go_simp; rfl
        try simp only [Act.put, List.setIfInBounds_toArray, List.set_cons_zero, List.set_cons_succ]
        refine q_end (fun W hW => ?_)
        show wpAny _ _ _ _ 1 #[true,true,true,true,true,true,true,true,true,true,true,false] _ _
        refine wpAny_ready (rs := [11]) (by kernel_rfl) (by simp) ?_
        refine AllReady.cons (o := ⟨none, _, _, _, _, _⟩) rfl (fun K hK => ?_) AllReady.nil
        have hTw2 := HTW.out.up hW
        obtain ⟨sc, sf⟩ := hTw2.cell pn (by omega)
        have hO2 := HO.out.up hW
        have hR2 := HR.out.up hW
        have hB2 := HB.out.trans (hW.mono (below_sz HB.out (Nat.le_refl _)))
        go_simp
        refine hK _ _ ?_
        clear hK K
        refine wpAny_done (by kernel_rfl) ?_ _
        have hT3 := hTw2.store pn xs'
        have hbo : ob ≠ b := fun e => (hO2.notOwn hTw2.one (by decide)) (by rw [e]; rfl)
        have hbr : rb ≠ b := fun e => (hR2.notOwn hTw2.one (by decide)) (by rw [e]; rfl)
        have hbn : w.heap.size ≤ b := (hTw2.one.lt b rfl).1
        have hO3 := hO2.setOther hbo pn (.string (bs xs'))
        have hR3 := hR2.setOther hbr pn (.string (bs xs'))
        have hB3 := hB2.setCell (p := ⟨b, pn, none⟩) hbn (.string (bs xs'))
        rw [← HST.out] at hT3
        clear hTw2 sc sf hO2 hR2 hB2 HTW HO HR HB hW y1 y2 z0
        generalize W.setCell ⟨b, pn, none⟩ (.string (bs xs')) = W3 at *
        go_wp2_with fail
        go_roundg (l.length - (k + 1))
        case measure => omega
        case rel => exact ⟨k + 1, by omega, rfl, by go_num, hO3, hR3, hT3, hB3⟩
      · have hnlt : ¬ ((k : Int) < (l.length : Int)) := by omega
        have hkl : k = l.length := by omega
        have f0 := hR.frozen 0
        have f1 := hR.frozen 1
        have r0 := hR.cell 0
        have r1 := hR.cell 1
        have p0 := hO.cell 0
        have p1 := hO.cell 1
        have htk : l.take k = l := by rw [hkl]; exact List.take_length
        rw [htk] at hTw
        go_wp2_with fail
        have hB4 := (hR.set 0 (.slice A1 n1 c1)).set 1 (.slice A2 n2 c2)
        refine bodyPost_ret (written9_results _ _ _ rfl hB4) rfl ?_
        exact ⟨_, _, rfl, (hTw.setBlk hR (by decide) 0 _).setBlk (hR.set 0 _) (by decide) 1 _, (hB.setCell (p := ⟨rb, 0, none⟩) hrn _).setCell (p := ⟨rb, 1, none⟩) hrn _⟩
end Go.Proofs.YtfkhgmdnajiabaaDoor
