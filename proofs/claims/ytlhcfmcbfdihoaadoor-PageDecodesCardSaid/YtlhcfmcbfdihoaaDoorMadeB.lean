/-
  Walks: the law's own pages: 'made'.
-/
import Derived.Test.YtlhcfmcbfdihoaaDoorMadeA
import Derived.BigRegion
import Derived.Test.YtlhcfmcbfdihoaaDoorLate
namespace Go.Proofs.YtlhcfmcbfdihoaaDoor
set_option linter.unusedSimpArgs false
set_option linter.unusedVariables false
open Go.RowKit

theorem cat_min (n m : Nat) : (if (m : Int) < (n : Int) then (m : Int) else (n : Int)) = ((min n m : Nat) : Int) := by
  split <;> omega

theorem MInv.start (w : World) (x : Pg) (A : Option Addr) (c : Nat) (hi : List UInt8) (hr : ReadsE w w.heap.size A x.ents) :
    MInv w w.heap.size (w.heap.size + 1) (w.heap.size + 1 + 1) (w.heap.size + 1 + 1 + 1) (w.heap.size + 1 + 1 + 1 + 1) x A c hi []
      (((((w.alloc (.cells (pgCells x A c) 25)).alloc (.cells zCells 29)).alloc (.cells zCells 32)).alloc
        (.cells #[.int .i64 x.lsn, .int .i64 x.kind, .int .i64 x.level, .int .i64 x.right, .string (bs hi), .slice none 0 0] 29)).alloc
        (.cells #[.int .i64 x.lsn, .int .i64 x.kind, .int .i64 x.level, .int .i64 x.right, .string (bs hi), .slice none 0 0] 32)) := by
  unfold MInv
  have s1 : ∀ (a : World) (o : Obj), (a.alloc o).heap.size = a.heap.size + 1 := fun a o => by simp
  have b1 := Blk.made w (pgCells x A c) 25
  generalize hw1 : w.alloc (.cells (pgCells x A c) 25) = w1 at *
  have z1 : w1.heap.size = w.heap.size + 1 := by rw [← hw1, s1]
  have e1 : Below w.heap.size w w1 := by rw [← hw1]; exact (Below.refl _ _).alloc (Nat.le_refl _) _
  have b2 := Blk.made w1 zCells 29
  generalize hw2 : w1.alloc (.cells zCells 29) = w2 at *
  have z2 : w2.heap.size = w.heap.size + 1 + 1 := by rw [← hw2, s1, z1]
  have e2 : Below w1.heap.size w1 w2 := by rw [← hw2]; exact (Below.refl _ _).alloc (Nat.le_refl _) _
  have b3 := Blk.made w2 zCells 32
  generalize hw3 : w2.alloc (.cells zCells 32) = w3 at *
  have z3 : w3.heap.size = w.heap.size + 1 + 1 + 1 := by rw [← hw3, s1, z2]
  have e3 : Below w2.heap.size w2 w3 := by rw [← hw3]; exact (Below.refl _ _).alloc (Nat.le_refl _) _
  have b4 := Blk.made w3 #[.int .i64 x.lsn, .int .i64 x.kind, .int .i64 x.level, .int .i64 x.right, .string (bs hi), .slice none 0 0] 29
  generalize hw4 : w3.alloc (.cells #[.int .i64 x.lsn, .int .i64 x.kind, .int .i64 x.level, .int .i64 x.right, .string (bs hi), .slice none 0 0] 29) = w4 at *
  have z4 : w4.heap.size = w.heap.size + 1 + 1 + 1 + 1 := by rw [← hw4, s1, z3]
  have e4 : Below w3.heap.size w3 w4 := by rw [← hw4]; exact (Below.refl _ _).alloc (Nat.le_refl _) _
  have b5 := Blk.made w4 #[.int .i64 x.lsn, .int .i64 x.kind, .int .i64 x.level, .int .i64 x.right, .string (bs hi), .slice none 0 0] 32
  generalize hw5 : w4.alloc (.cells #[.int .i64 x.lsn, .int .i64 x.kind, .int .i64 x.level, .int .i64 x.right, .string (bs hi), .slice none 0 0] 32) = w5 at *
  have e5 : Below w4.heap.size w4 w5 := by rw [← hw5]; exact (Below.refl _ _).alloc (Nat.le_refl _) _
  have f2 : Below w.heap.size w w2 := e1.trans (e2.mono (by omega))
  have f3 : Below w.heap.size w w3 := f2.trans (e3.mono (by omega))
  have f4 : Below w.heap.size w w4 := f3.trans (e4.mono (by omega))
  have f5 : Below w.heap.size w w5 := f4.trans (e5.mono (by omega))
  have g1 := (((b1.up e2).up e3).up e4).up e5
  have g2 := ((b2.up e3).up e4).up e5
  have g3 := (b3.up e4).up e5
  have g4 := b4.up e5
  rw [z1] at g2; rw [z2] at g3; rw [z3] at g4; rw [z4] at b5
  exact ⟨f5, by omega, hr.below f5, g1, g2, g3, .slice none 0 0, .slice none 0 0, g4, World.ownsRow_nil _ _ _ _, b5, World.ownsRow_nil _ _ _ _⟩

theorem min_nat (n m : Nat) : (min (n : Int) (m : Int)).toNat = min n m := by omega
theorem take_min (l : List UInt8) (m : Nat) : l.take (min (l.length : Int) (m : Int)).toNat = l.take m := by
  rw [min_nat]
  by_cases h : l.length ≤ m
  · rw [Nat.min_eq_left h, List.take_length, List.take_of_length_le h]
  · rw [Nat.min_eq_right (by omega)]

set_option maxHeartbeats 6400000 in
set_option maxRecDepth 100000 in
theorem made_any (x : Pg) (A : Option Addr) (c : Nat) (hh : x.high.length ≤ 140737488355328) (hE : x.ents.length ≤ 140737488355328 ∧ ∀ e ∈ x.ents, e.key.length ≤ 140737488355328 ∧ e.value.length ≤ 140737488355328) (w : World) (hr : ReadsE w w.heap.size A x.ents) :
    Calls Tryd.prog 9 #[.agg #[.int .i64 x.lsn, .int .i64 x.kind, .int .i64 x.level, .int .i64 x.right, .string (bs x.high), .slice A x.ents.length c]] w (MadePost (madePg x) w) := by
  have hn := hE.1
  have HE := Lib.hid hE
  clear hE
  obtain ⟨POST, hPOST⟩ : ∃ P : Ending → World → Prop, P = MadePost (madePg x) w := ⟨_, rfl⟩
  rw [← hPOST]
  have HPOST := Lib.hid hPOST
  clear hPOST
  go_enter Tryd.func9, Tryd.ntmps9
  go_wp2_with fail
  have hM := MInv.start w x A c (x.high.take 80) hr
  have eT := take_min x.high 80
  have eT' : List.take (min (x.high.length : Int) 80).toNat x.high = x.high.take 80 := eT
  rw [eT']
  clear eT eT' hr
  generalize w.heap.size + 1 + 1 + 1 + 1 = qb at *
  generalize w.heap.size + 1 + 1 + 1 = pb at *
  generalize w.heap.size + 1 + 1 = r3 at *
  generalize w.heap.size + 1 = r2 at *
  have HM := Lib.hid hM
  clear hM
  go_loopw [7] (fun i wr => ∃ k : Nat, k ≤ min x.ents.length 200 ∧ i = .int .i64 k ∧ MInv w w.heap.size r2 r3 pb qb x A c (x.high.take 80) ((x.ents.take k).map trunc) wr) (fun i _ => min x.ents.length 200 - (intOf i).toNat)
  case atStart => exact ⟨0, Nat.zero_le _, rfl, HM.out⟩
  case round =>
    clear HM
    obtain ⟨k, hk, rfl, hM⟩ := hrel
    have x5 := hM.xcell
    by_cases hlt : k < min x.ents.length 200
    · obtain ⟨b, o, rfl, hb, c0, c1, c2⟩ := hM.reads.at_ k (by omega)
      have hlt1 : k < x.ents.length := by omega
      have hlt2 : k < 200 := by omega
      obtain ⟨hk1, hk2⟩ := HE.out.2 x.ents[k] (List.getElem_mem hlt1)
      have hsn := made_snoc x.ents k hlt1
      obtain ⟨e, he⟩ : ∃ e, e = x.ents[k] := ⟨_, rfl⟩
      rw [← he] at c0 c1 c2 hk1 hk2 hsn
      have HSN := Lib.hid hsn
      obtain ⟨key, value, marked⟩ := e
      obtain ⟨v, u, hR⟩ := RS.start hM ⟨key, value, marked⟩ ⟨key.take 80, value.take 120, marked⟩ rfl
      dsimp only at hR
      have hB6 := Blk.made wr #[.string (bs key), .string (bs value), .bool marked] 57
      clear hsn he hM
      go_wp2_with fail
      generalize wr.alloc (.cells #[.string (bs key), .string (bs value), .bool marked] 57) = we at *
      generalize wr.heap.size = eb at *
      have y0 : we.cell? ⟨eb, 0, none⟩ = some (.string (bs key)) := hB6.cell 0
      have y1 : we.cell? ⟨eb, 1, none⟩ = some (.string (bs value)) := hB6.cell 1
      have y2 : we.cell? ⟨eb, 2, none⟩ = some (.bool marked) := hB6.cell 2
      have z0 := hB6.frozen 0
      have z1 := hB6.frozen 1
      have eT1 : List.take (min (key.length : Int) 80).toNat key = key.take 80 := take_min key 80
      have eT2 : List.take (min (value.length : Int) 120).toNat value = value.take 120 := take_min value 120
      go_region
      clear eT1 eT2 y0 y1 y2 z0 z1 hk1 hk2 x5 c0 c1 c2 hB6
      go_wp2_with fail
      refine wp_region_late 9 (fun w' => w'.cell? ⟨pb, 5, none⟩ = some v ∧ w'.cell? ⟨qb, 5, none⟩ = some u ∧
        w'.cell? ⟨eb, 0, none⟩ = some (.string (bs (key.take 80))) ∧ w'.cell? ⟨eb, 1, none⟩ = some (.string (bs (value.take 120))) ∧ w'.cell? ⟨eb, 2, none⟩ = some (.bool marked)) (by kernel_rfl) ?_
      generalize (((we.setCell ⟨eb, 0, none⟩ (.string (bs (key.take 80)))).setCell ⟨eb, 1, none⟩ (.string (bs (value.take 120)))).drew).drew = w9 at *
      obtain ⟨i0, z0, hi0, hz0, hs0, hb0, hc0⟩ := info_entry
      obtain ⟨i2, z2, hi2, hz2, hs2, hb2, hc2⟩ := info_entry2
      have HI := Lib.hid hi0; have HZ := Lib.hid hz0; have HS := Lib.hid hs0; have HBy := Lib.hid hb0; have HC := Lib.hid hc0
      have HI2 := Lib.hid hi2; have HZ2 := Lib.hid hz2; have HS2 := Lib.hid hs2; have HBy2 := Lib.hid hb2; have HC2 := Lib.hid hc2
      clear hi0 hz0 hs0 hb0 hc0 hi2 hz2 hs2 hb2 hc2
      have hacc : (List.map trunc (List.take k x.ents)).length ≤ 200 := by simp; omega
      generalize List.map trunc (List.take k x.ents) = acc at *
      have hT := hR.cells
      dsimp only at hT
      show wpAnyK _ _ _ _ _ 9 14 #[false,false,false,false,false,false,false,false,false,false,false,false,false,false] _ _
      refine wpAnyK_takeAny (i := 0) (oi := ⟨some 76, _, _, _, _, _⟩) (v := ?_) rfl (by kernel_rfl) (by kernel_rfl) (by kernel_rfl) (by kernel_rfl) (fun _ _ _ h => h) (Or.inl ⟨by kernel_rfl, ?_⟩) (fun _ => hT) ?_
      rotate_left
      · intro w'; go_simp; rfl
      try simp only [Act.put, List.setIfInBounds_toArray, List.set_cons_zero, List.set_cons_succ]
      refine wpAnyK_takeAny (i := 5) (oi := ⟨some 81, _, _, _, _, _⟩) (v := ?_) rfl (by kernel_rfl) (by kernel_rfl) (by kernel_rfl) (by kernel_rfl) (fun _ _ _ h => h) (Or.inl ⟨by kernel_rfl, ?_⟩) (fun _ => hT) ?_
      rotate_left
      · intro w'; go_simp; rfl
      try simp only [Act.put, List.setIfInBounds_toArray, List.set_cons_zero, List.set_cons_succ]
      refine wpAnyK_take (i := 1) (oi := ⟨some 77, _, _, _, _, _⟩) (L := [9, 4]) (v := ?_) rfl (by kernel_rfl) (by kernel_rfl) (by kernel_rfl) (by kernel_rfl) (fun _ _ _ h => h) (Or.inl ⟨by kernel_rfl, ?_⟩) hT ?_
      rotate_left
      · rintro w' ⟨t1, t2, t3, t4, t5⟩; go_simp; rfl
      try simp only [Act.put, List.setIfInBounds_toArray, List.set_cons_zero, List.set_cons_succ]
      refine wpAnyK_take (i := 2) (oi := ⟨some 78, _, _, _, _, _⟩) (L := [9, 4, 3]) (v := ?_) rfl (by kernel_rfl) (by kernel_rfl) (by kernel_rfl) (by kernel_rfl) (fun _ _ _ h => h) (Or.inl ⟨by kernel_rfl, ?_⟩) hT ?_
      rotate_left
      · rintro w' ⟨t1, t2, t3, t4, t5⟩; go_simp; rfl
      try simp only [Act.put, List.setIfInBounds_toArray, List.set_cons_zero, List.set_cons_succ]
      refine wpAnyK_take (i := 6) (oi := ⟨some 82, _, _, _, _, _⟩) (L := [9]) (v := ?_) rfl (by kernel_rfl) (by kernel_rfl) (by kernel_rfl) (by kernel_rfl) (fun _ _ _ h => h) (Or.inl ⟨by kernel_rfl, ?_⟩) hT ?_
      rotate_left
      · rintro w' ⟨t1, t2, t3, t4, t5⟩; go_simp; rfl
      try simp only [Act.put, List.setIfInBounds_toArray, List.set_cons_zero, List.set_cons_succ]
      refine wpAnyK_take (i := 7) (oi := ⟨some 83, _, _, _, _, _⟩) (L := [9, 8]) (v := ?_) rfl (by kernel_rfl) (by kernel_rfl) (by kernel_rfl) (by kernel_rfl) (fun _ _ _ h => h) (Or.inl ⟨by kernel_rfl, ?_⟩) hT ?_
      rotate_left
      · rintro w' ⟨t1, t2, t3, t4, t5⟩; go_simp; rfl
      try simp only [Act.put, List.setIfInBounds_toArray, List.set_cons_zero, List.set_cons_succ]
      clear hT
      refine wpAnyK_ready (rs := [3, 8]) (by kernel_rfl) (by simp) ?_
      refine AllReadyK.cons (o := ⟨some 79, _, _, _, _, _⟩) rfl (fun K hK => ?_) (AllReadyK.cons (o := ⟨some 84, _, _, _, _, _⟩) rfl (fun K hK => ?_) AllReadyK.nil)
      · go_simp
        refine hK _ _ (fun _ => ?_) ?_
        · exact hR.build1.cells
        clear hK K
        have hR1 : RS w w.heap.size r2 r3 pb qb x (some ⟨b, o, none⟩) c (x.high.take 80) v u v acc u acc eb ⟨key.take 80, value.take 120, marked⟩ (some w9.heap.size) none (w9.alloc (.cells #[.string (bs (key.take 80)), .string (bs (value.take 120)), .bool marked] 56)) := hR.build1
        generalize w9.alloc (.cells #[.string (bs (key.take 80)), .string (bs (value.take 120)), .bool marked] 56) = w1' at *
        generalize w9.heap.size = B1 at *
        refine wpAnyK_ready (rs := [4, 8]) (by kernel_rfl) (by simp) ?_
        refine AllReadyK.cons (o := ⟨some 80, _, _, _, _, _⟩) rfl (fun K hK => ?_) (AllReadyK.cons (o := ⟨some 84, _, _, _, _, _⟩) rfl (fun K hK => ?_) AllReadyK.nil)
        · refine step_append_lies w1' rfl (.tmp 77) (.tmp 79) 27 rfl w.heap.size 56 i0 z0 3 40 Tryd.underlying27 HI.out HZ.out HS.out HBy.out HC.out (by decide) v acc.length _ rfl hR1.own1 ⟨B1, 0, none⟩ 1 1 (entCells ⟨key.take 80, value.take 120, marked⟩) rfl rfl hR1.news1 (entOne _) (by decide) ?c1 ?c2 hR1.size _ rfl ?_
          case c1 => unfold maxLen; omega
          case c2 => omega
          intro g2 n2 w2' hown2 hgr2 _ _
          try simp only [Act.put, List.setIfInBounds_toArray, List.set_cons_zero, List.set_cons_succ]
          have hR2 : RS w w.heap.size r2 r3 pb qb x (some ⟨b, o, none⟩) c (x.high.take 80) v u (.slice (some ⟨g2, 0, none⟩) (acc.length + 1) n2) (acc ++ [⟨key.take 80, value.take 120, marked⟩]) u acc eb ⟨key.take 80, value.take 120, marked⟩ none none w2' := hR1.app1 hown2 hgr2
          refine hK _ _ (fun _ => ?_) ?_
          · exact hR2.cells
          clear hK K hown2 hgr2
          refine wpAnyK_takeAny (i := 10) (oi := ⟨some 86, _, _, _, _, _⟩) (v := ?_) rfl (by kernel_rfl) (by kernel_rfl) (by kernel_rfl) (by kernel_rfl) (fun _ _ _ h => h) (Or.inl ⟨by kernel_rfl, ?_⟩) (fun _ => hR2.cells) ?_
          rotate_left
          · intro w'; go_simp; rfl
          try simp only [Act.put, List.setIfInBounds_toArray, List.set_cons_zero, List.set_cons_succ]
          refine wpAnyK_ready (rs := [8]) (by kernel_rfl) (by simp) ?_
          refine AllReadyK.cons (o := ⟨some 84, _, _, _, _, _⟩) rfl (fun K hK => ?_) AllReadyK.nil
          · go_simp
            refine hK _ _ (fun _ => ?_) ?_
            · exact hR2.build2.cells
            clear hK K
            have hR3 : RS w w.heap.size r2 r3 pb qb x (some ⟨b, o, none⟩) c (x.high.take 80) v u (.slice (some ⟨g2, 0, none⟩) (acc.length + 1) n2) (acc ++ [⟨key.take 80, value.take 120, marked⟩]) u acc eb ⟨key.take 80, value.take 120, marked⟩ none (some w2'.heap.size) (w2'.alloc (.cells #[.string (bs (key.take 80)), .string (bs (value.take 120)), .bool marked] 57)) := hR2.build2
            generalize w2'.alloc (.cells #[.string (bs (key.take 80)), .string (bs (value.take 120)), .bool marked] 57) = w3' at *
            generalize w2'.heap.size = B3 at *
            refine wpAnyK_ready (rs := [9]) (by kernel_rfl) (by simp) ?_
            refine AllReadyK.cons (o := ⟨some 85, _, _, _, _, _⟩) rfl (fun K hK => ?_) AllReadyK.nil
            · refine step_append_lies w3' rfl (.tmp 82) (.tmp 84) 30 rfl w.heap.size 57 i2 z2 3 40 Tryd.underlying30 HI2.out HZ2.out HS2.out HBy2.out HC2.out (by decide) u acc.length _ rfl hR3.own2 ⟨B3, 0, none⟩ 1 1 (entCells ⟨key.take 80, value.take 120, marked⟩) rfl rfl hR3.news2 (entOne _) (by decide) ?c1 ?c2 hR3.size _ rfl ?_
              case c1 => unfold maxLen; omega
              case c2 => omega
              intro g4 n4 w4' hown4 hgr4 _ _
              try simp only [Act.put, List.setIfInBounds_toArray, List.set_cons_zero, List.set_cons_succ]
              have hA4 := hR3.app2 hown4 hgr4
              refine hK _ _ (fun h => by cases h) ?_
              clear hK K hown4 hgr4
              have z5 := hA4.cells.2.2.1
              have z6 := hA4.cells.2.2.2
              have y5 := hA4.cells.1
              have y6 := hA4.cells.2.1
              have hne := hA4.ne
              refine wpAnyK_ready (rs := [11]) (by kernel_rfl) (by simp) ?_
              refine AllReadyK.cons (o := ⟨none, _, _, _, _, _⟩) rfl (fun K hK => ?_) AllReadyK.nil
              go_simp
              refine hK _ _ (fun h => by cases h) ?_
              clear hK K
              refine wpAnyK_takeAny (i := 12) (oi := ⟨some 87, _, _, _, _, _⟩) (v := ?_) rfl (by kernel_rfl) (by kernel_rfl) (by kernel_rfl) (by kernel_rfl) (fun _ _ _ h => h) (Or.inl ⟨by kernel_rfl, ?_⟩) (fun h => by cases h) ?_
              rotate_left
              · intro w'; go_simp; rfl
              try simp only [Act.put, List.setIfInBounds_toArray, List.set_cons_zero, List.set_cons_succ]
              have y6' := cell_store w4' pb qb 5 (.slice (some ⟨g2, 0, none⟩) (acc.length + 1) n2) hne y6 z6
              have z6' := y6'.2
              have y6' := y6'.1
              refine wpAnyK_ready (rs := [13]) (by kernel_rfl) (by simp) ?_
              refine AllReadyK.cons (o := ⟨none, _, _, _, _, _⟩) rfl (fun K hK => ?_) AllReadyK.nil
              go_simp
              refine hK _ _ (fun h => by cases h) ?_
              clear hK K
              refine wpAnyK_done (by kernel_rfl) ?_ _
              have hS := hA4.stored
              clear y5 y6 z5 z6 y6' z6' hne hA4
              go_wp2_with fail
              go_roundw
              case rel => exact ⟨k + 1, by omega, by go_num, by rw [HSN.out]; exact hS⟩
              case measure => simp [intOf]; omega
        · go_simp
          refine hK _ _ (fun _ => ?_) ?_
          · exact hR1.build2.cells
          clear hK K
          have hR5 : RS w w.heap.size r2 r3 pb qb x (some ⟨b, o, none⟩) c (x.high.take 80) v u v acc u acc eb ⟨key.take 80, value.take 120, marked⟩ (some B1) (some w1'.heap.size) (w1'.alloc (.cells #[.string (bs (key.take 80)), .string (bs (value.take 120)), .bool marked] 57)) := hR1.build2
          generalize w1'.alloc (.cells #[.string (bs (key.take 80)), .string (bs (value.take 120)), .bool marked] 57) = w5' at *
          generalize w1'.heap.size = B5 at *
          refine wpAnyK_ready (rs := [4]) (by kernel_rfl) (by simp) ?_
          refine AllReadyK.cons (o := ⟨some 80, _, _, _, _, _⟩) rfl (fun K hK => ?_) AllReadyK.nil
          · refine step_append_lies w5' rfl (.tmp 77) (.tmp 79) 27 rfl w.heap.size 56 i0 z0 3 40 Tryd.underlying27 HI.out HZ.out HS.out HBy.out HC.out (by decide) v acc.length _ rfl hR5.own1 ⟨B1, 0, none⟩ 1 1 (entCells ⟨key.take 80, value.take 120, marked⟩) rfl rfl hR5.news1 (entOne _) (by decide) ?c1 ?c2 hR5.size _ rfl ?_
            case c1 => unfold maxLen; omega
            case c2 => omega
            intro g6 n6 w6' hown6 hgr6 _ _
            try simp only [Act.put, List.setIfInBounds_toArray, List.set_cons_zero, List.set_cons_succ]
            have hR6 : RS w w.heap.size r2 r3 pb qb x (some ⟨b, o, none⟩) c (x.high.take 80) v u (.slice (some ⟨g6, 0, none⟩) (acc.length + 1) n6) (acc ++ [⟨key.take 80, value.take 120, marked⟩]) u acc eb ⟨key.take 80, value.take 120, marked⟩ none (some B5) w6' := hR5.app1 hown6 hgr6
            refine hK _ _ (fun _ => ?_) ?_
            · exact hR6.cells
            clear hK K hown6 hgr6
            refine wpAnyK_takeAny (i := 10) (oi := ⟨some 86, _, _, _, _, _⟩) (v := ?_) rfl (by kernel_rfl) (by kernel_rfl) (by kernel_rfl) (by kernel_rfl) (fun _ _ _ h => h) (Or.inl ⟨by kernel_rfl, ?_⟩) (fun _ => hR6.cells) ?_
            rotate_left
            · intro w'; go_simp; rfl
            try simp only [Act.put, List.setIfInBounds_toArray, List.set_cons_zero, List.set_cons_succ]
            refine wpAnyK_ready (rs := [9]) (by kernel_rfl) (by simp) ?_
            refine AllReadyK.cons (o := ⟨some 85, _, _, _, _, _⟩) rfl (fun K hK => ?_) AllReadyK.nil
            · refine step_append_lies w6' rfl (.tmp 82) (.tmp 84) 30 rfl w.heap.size 57 i2 z2 3 40 Tryd.underlying30 HI2.out HZ2.out HS2.out HBy2.out HC2.out (by decide) u acc.length _ rfl hR6.own2 ⟨B5, 0, none⟩ 1 1 (entCells ⟨key.take 80, value.take 120, marked⟩) rfl rfl hR6.news2 (entOne _) (by decide) ?c1 ?c2 hR6.size _ rfl ?_
              case c1 => unfold maxLen; omega
              case c2 => omega
              intro g7 n7 w7' hown7 hgr7 _ _
              try simp only [Act.put, List.setIfInBounds_toArray, List.set_cons_zero, List.set_cons_succ]
              have hA7 := hR6.app2 hown7 hgr7
              refine hK _ _ (fun h => by cases h) ?_
              clear hK K hown7 hgr7
              have z5 := hA7.cells.2.2.1
              have z6 := hA7.cells.2.2.2
              have y5 := hA7.cells.1
              have y6 := hA7.cells.2.1
              have hne := hA7.ne
              refine wpAnyK_ready (rs := [11]) (by kernel_rfl) (by simp) ?_
              refine AllReadyK.cons (o := ⟨none, _, _, _, _, _⟩) rfl (fun K hK => ?_) AllReadyK.nil
              go_simp
              refine hK _ _ (fun h => by cases h) ?_
              clear hK K
              refine wpAnyK_takeAny (i := 12) (oi := ⟨some 87, _, _, _, _, _⟩) (v := ?_) rfl (by kernel_rfl) (by kernel_rfl) (by kernel_rfl) (by kernel_rfl) (fun _ _ _ h => h) (Or.inl ⟨by kernel_rfl, ?_⟩) (fun h => by cases h) ?_
              rotate_left
              · intro w'; go_simp; rfl
              try simp only [Act.put, List.setIfInBounds_toArray, List.set_cons_zero, List.set_cons_succ]
              have y6' := cell_store w7' pb qb 5 (.slice (some ⟨g6, 0, none⟩) (acc.length + 1) n6) hne y6 z6
              have z6' := y6'.2
              have y6' := y6'.1
              refine wpAnyK_ready (rs := [13]) (by kernel_rfl) (by simp) ?_
              refine AllReadyK.cons (o := ⟨none, _, _, _, _, _⟩) rfl (fun K hK => ?_) AllReadyK.nil
              go_simp
              refine hK _ _ (fun h => by cases h) ?_
              clear hK K
              refine wpAnyK_done (by kernel_rfl) ?_ _
              have hS := hA7.stored
              clear y5 y6 z5 z6 y6' z6' hne hA7
              go_wp2_with fail
              go_roundw
              case rel => exact ⟨k + 1, by omega, by go_num, by rw [HSN.out]; exact hS⟩
              case measure => simp [intOf]; omega
      · go_simp
        refine hK _ _ (fun _ => ?_) ?_
        · exact hR.build2.cells
        clear hK K
        have hR8 : RS w w.heap.size r2 r3 pb qb x (some ⟨b, o, none⟩) c (x.high.take 80) v u v acc u acc eb ⟨key.take 80, value.take 120, marked⟩ none (some w9.heap.size) (w9.alloc (.cells #[.string (bs (key.take 80)), .string (bs (value.take 120)), .bool marked] 57)) := hR.build2
        generalize w9.alloc (.cells #[.string (bs (key.take 80)), .string (bs (value.take 120)), .bool marked] 57) = w8' at *
        generalize w9.heap.size = B8 at *
        refine wpAnyK_ready (rs := [3]) (by kernel_rfl) (by simp) ?_
        refine AllReadyK.cons (o := ⟨some 79, _, _, _, _, _⟩) rfl (fun K hK => ?_) AllReadyK.nil
        · go_simp
          refine hK _ _ (fun _ => ?_) ?_
          · exact hR8.build1.cells
          clear hK K
          have hR9 : RS w w.heap.size r2 r3 pb qb x (some ⟨b, o, none⟩) c (x.high.take 80) v u v acc u acc eb ⟨key.take 80, value.take 120, marked⟩ (some w8'.heap.size) (some B8) (w8'.alloc (.cells #[.string (bs (key.take 80)), .string (bs (value.take 120)), .bool marked] 56)) := hR8.build1
          generalize w8'.alloc (.cells #[.string (bs (key.take 80)), .string (bs (value.take 120)), .bool marked] 56) = w9' at *
          generalize w8'.heap.size = B9 at *
          refine wpAnyK_ready (rs := [4]) (by kernel_rfl) (by simp) ?_
          refine AllReadyK.cons (o := ⟨some 80, _, _, _, _, _⟩) rfl (fun K hK => ?_) AllReadyK.nil
          · refine step_append_lies w9' rfl (.tmp 77) (.tmp 79) 27 rfl w.heap.size 56 i0 z0 3 40 Tryd.underlying27 HI.out HZ.out HS.out HBy.out HC.out (by decide) v acc.length _ rfl hR9.own1 ⟨B9, 0, none⟩ 1 1 (entCells ⟨key.take 80, value.take 120, marked⟩) rfl rfl hR9.news1 (entOne _) (by decide) ?c1 ?c2 hR9.size _ rfl ?_
            case c1 => unfold maxLen; omega
            case c2 => omega
            intro g10 n10 w10' hown10 hgr10 _ _
            try simp only [Act.put, List.setIfInBounds_toArray, List.set_cons_zero, List.set_cons_succ]
            have hR10 : RS w w.heap.size r2 r3 pb qb x (some ⟨b, o, none⟩) c (x.high.take 80) v u (.slice (some ⟨g10, 0, none⟩) (acc.length + 1) n10) (acc ++ [⟨key.take 80, value.take 120, marked⟩]) u acc eb ⟨key.take 80, value.take 120, marked⟩ none (some B8) w10' := hR9.app1 hown10 hgr10
            refine hK _ _ (fun _ => ?_) ?_
            · exact hR10.cells
            clear hK K hown10 hgr10
            refine wpAnyK_takeAny (i := 10) (oi := ⟨some 86, _, _, _, _, _⟩) (v := ?_) rfl (by kernel_rfl) (by kernel_rfl) (by kernel_rfl) (by kernel_rfl) (fun _ _ _ h => h) (Or.inl ⟨by kernel_rfl, ?_⟩) (fun _ => hR10.cells) ?_
            rotate_left
            · intro w'; go_simp; rfl
            try simp only [Act.put, List.setIfInBounds_toArray, List.set_cons_zero, List.set_cons_succ]
            refine wpAnyK_ready (rs := [9]) (by kernel_rfl) (by simp) ?_
            refine AllReadyK.cons (o := ⟨some 85, _, _, _, _, _⟩) rfl (fun K hK => ?_) AllReadyK.nil
            · refine step_append_lies w10' rfl (.tmp 82) (.tmp 84) 30 rfl w.heap.size 57 i2 z2 3 40 Tryd.underlying30 HI2.out HZ2.out HS2.out HBy2.out HC2.out (by decide) u acc.length _ rfl hR10.own2 ⟨B8, 0, none⟩ 1 1 (entCells ⟨key.take 80, value.take 120, marked⟩) rfl rfl hR10.news2 (entOne _) (by decide) ?c1 ?c2 hR10.size _ rfl ?_
              case c1 => unfold maxLen; omega
              case c2 => omega
              intro g11 n11 w11' hown11 hgr11 _ _
              try simp only [Act.put, List.setIfInBounds_toArray, List.set_cons_zero, List.set_cons_succ]
              have hA11 := hR10.app2 hown11 hgr11
              refine hK _ _ (fun h => by cases h) ?_
              clear hK K hown11 hgr11
              have z5 := hA11.cells.2.2.1
              have z6 := hA11.cells.2.2.2
              have y5 := hA11.cells.1
              have y6 := hA11.cells.2.1
              have hne := hA11.ne
              refine wpAnyK_ready (rs := [11]) (by kernel_rfl) (by simp) ?_
              refine AllReadyK.cons (o := ⟨none, _, _, _, _, _⟩) rfl (fun K hK => ?_) AllReadyK.nil
              go_simp
              refine hK _ _ (fun h => by cases h) ?_
              clear hK K
              refine wpAnyK_takeAny (i := 12) (oi := ⟨some 87, _, _, _, _, _⟩) (v := ?_) rfl (by kernel_rfl) (by kernel_rfl) (by kernel_rfl) (by kernel_rfl) (fun _ _ _ h => h) (Or.inl ⟨by kernel_rfl, ?_⟩) (fun h => by cases h) ?_
              rotate_left
              · intro w'; go_simp; rfl
              try simp only [Act.put, List.setIfInBounds_toArray, List.set_cons_zero, List.set_cons_succ]
              have y6' := cell_store w11' pb qb 5 (.slice (some ⟨g10, 0, none⟩) (acc.length + 1) n10) hne y6 z6
              have z6' := y6'.2
              have y6' := y6'.1
              refine wpAnyK_ready (rs := [13]) (by kernel_rfl) (by simp) ?_
              refine AllReadyK.cons (o := ⟨none, _, _, _, _, _⟩) rfl (fun K hK => ?_) AllReadyK.nil
              go_simp
              refine hK _ _ (fun h => by cases h) ?_
              clear hK K
              refine wpAnyK_done (by kernel_rfl) ?_ _
              have hS := hA11.stored
              clear y5 y6 z5 z6 y6' z6' hne hA11
              go_wp2_with fail
              go_roundw
              case rel => exact ⟨k + 1, by omega, by go_num, by rw [HSN.out]; exact hS⟩
              case measure => simp [intOf]; omega
    · -- the loop's end
      have hkm : k = min x.ents.length 200 := by omega
      have hacc : List.take k x.ents = x.ents.take 200 := by
        rw [hkm]
        by_cases h : x.ents.length ≤ 200
        · rw [Nat.min_eq_left h, List.take_length, List.take_of_length_le h]
        · rw [Nat.min_eq_right (by omega)]
      rw [hacc] at hM
      clear hacc hkm
      obtain ⟨acc, ha⟩ : ∃ a, a = List.map trunc (List.take 200 x.ents) := ⟨_, rfl⟩
      rw [← ha] at hM
      have HMP : Hid (madePg x = ⟨x.lsn, x.kind, x.level, x.right, x.high.take 80, acc⟩) := by
        rw [ha]; exact Lib.hid rfl
      clear ha
      obtain ⟨A1, c1, A2, c2, hp, hq, h2, h3, ⟨n1, n2, n3, n4, n5⟩, hfin⟩ := hM.final
      have FIN := Lib.hid hfin
      clear hfin hM HE hh
      by_cases hc : k < x.ents.length
      · have hk2 : ¬ (k : Int) < 200 := by omega
        go_wp2_with fail
        clear x5 hn
        have p0 := hp.cell 0; have p1 := hp.cell 1; have p2 := hp.cell 2; have p3 := hp.cell 3; have p4 := hp.cell 4; have p5 := hp.cell 5
        have q0 := hq.cell 0; have q1 := hq.cell 1; have q2 := hq.cell 2; have q3 := hq.cell 3; have q4 := hq.cell 4; have q5 := hq.cell 5
        have y0 := h2.cell 0; have y1 := h2.cell 1; have y2 := h2.cell 2; have y3 := h2.cell 3; have y4 := h2.cell 4; have y5 := h2.cell 5
        have z0 := h3.cell 0; have z1 := h3.cell 1; have z2 := h3.cell 2; have z3 := h3.cell 3; have z4 := h3.cell 4; have z5 := h3.cell 5
        have fy0 := h2.frozen 0; have fy1 := h2.frozen 1; have fy2 := h2.frozen 2; have fy3 := h2.frozen 3; have fy4 := h2.frozen 4; have fy5 := h2.frozen 5
        have fz0 := h3.frozen 0; have fz1 := h3.frozen 1; have fz2 := h3.frozen 2; have fz3 := h3.frozen 3; have fz4 := h3.frozen 4; have fz5 := h3.frozen 5
        simp [pgCells] at p0 p1 p2 p3 p4 p5 q0 q1 q2 q3 q4 q5 y0 y1 y2 y3 y4 y5 z0 z1 z2 z3 z4 z5
        go_region
        all_goals
          have hw := FIN.out _ rfl
          unfold six at hw
          obtain ⟨e1, e2, e3⟩ := hw
          go_wp2
          rw [← HMP.out] at e1 e2 e3
          rw [← HPOST.out] at e3
          clear FIN HMP p0 p1 p2 p3 p4 p5 q0 q1 q2 q3 q4 q5 y0 y1 y2 y3 y4 y5 z0 z1 z2 z3 z4 z5 fy0 fy1 fy2 fy3 fy4 fy5 fz0 fz1 fz2 fz3 fz4 fz5
          refine bodyPost_ret (v := .tuple #[.agg (pgCells (madePg x) A1 c1), .agg (pgCells (madePg x) A2 c2)]) ?_ rfl ?_
          · exact made_results _ _ _ _ rfl rfl e1 e2
          · exact e3
      · have hk2 : ¬ (k : Int) < (x.ents.length : Int) := by omega
        go_wp2_with fail
        clear x5 hn
        have p0 := hp.cell 0; have p1 := hp.cell 1; have p2 := hp.cell 2; have p3 := hp.cell 3; have p4 := hp.cell 4; have p5 := hp.cell 5
        have q0 := hq.cell 0; have q1 := hq.cell 1; have q2 := hq.cell 2; have q3 := hq.cell 3; have q4 := hq.cell 4; have q5 := hq.cell 5
        have y0 := h2.cell 0; have y1 := h2.cell 1; have y2 := h2.cell 2; have y3 := h2.cell 3; have y4 := h2.cell 4; have y5 := h2.cell 5
        have z0 := h3.cell 0; have z1 := h3.cell 1; have z2 := h3.cell 2; have z3 := h3.cell 3; have z4 := h3.cell 4; have z5 := h3.cell 5
        have fy0 := h2.frozen 0; have fy1 := h2.frozen 1; have fy2 := h2.frozen 2; have fy3 := h2.frozen 3; have fy4 := h2.frozen 4; have fy5 := h2.frozen 5
        have fz0 := h3.frozen 0; have fz1 := h3.frozen 1; have fz2 := h3.frozen 2; have fz3 := h3.frozen 3; have fz4 := h3.frozen 4; have fz5 := h3.frozen 5
        simp [pgCells] at p0 p1 p2 p3 p4 p5 q0 q1 q2 q3 q4 q5 y0 y1 y2 y3 y4 y5 z0 z1 z2 z3 z4 z5
        go_region
        all_goals
          have hw := FIN.out _ rfl
          unfold six at hw
          obtain ⟨e1, e2, e3⟩ := hw
          go_wp2
          rw [← HMP.out] at e1 e2 e3
          rw [← HPOST.out] at e3
          clear FIN HMP p0 p1 p2 p3 p4 p5 q0 q1 q2 q3 q4 q5 y0 y1 y2 y3 y4 y5 z0 z1 z2 z3 z4 z5 fy0 fy1 fy2 fy3 fy4 fy5 fz0 fz1 fz2 fz3 fz4 fz5
          refine bodyPost_ret (v := .tuple #[.agg (pgCells (madePg x) A1 c1), .agg (pgCells (madePg x) A2 c2)]) ?_ rfl ?_
          · exact made_results _ _ _ _ rfl rfl e1 e2
          · exact e3
end Go.Proofs.YtlhcfmcbfdihoaaDoor
