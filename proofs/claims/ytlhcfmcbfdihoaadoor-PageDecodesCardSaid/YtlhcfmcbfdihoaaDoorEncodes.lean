/-
  Walks: the law 'PageEncodes'.
-/
import Derived.Test.YtlhcfmcbfdihoaaDoorBuilds
import Derived.Test.YtlhcfmcbfdihoaaDoorRefE
namespace Go.Proofs.YtlhcfmcbfdihoaaDoor
set_option linter.unusedSimpArgs false
set_option linter.unusedVariables false
open Go.RowKit

/-- The six cells of a page. -/
def CellsA (p : Pg) (A : Option Addr) (c g : Nat) (w : World) : Prop := w.cell? ⟨g, 0, none⟩ = some (.int .i64 p.lsn) ∧ w.cell? ⟨g, 1, none⟩ = some (.int .i64 p.kind) ∧ w.cell? ⟨g, 2, none⟩ = some (.int .i64 p.level) ∧
    w.cell? ⟨g, 3, none⟩ = some (.int .i64 p.right) ∧ w.cell? ⟨g, 4, none⟩ = some (.string (bs p.high)) ∧ w.cell? ⟨g, 5, none⟩ = some (.slice A p.ents.length c)

set_option maxHeartbeats 6400000 in
set_option maxRecDepth 100000 in
theorem encodes_any (x : Pg) (A : Option Addr) (ca : Nat) (hx : Handed x) (w : World) (ht : Turns w) (hrx : ReadsE w w.heap.size A x.ents) :
    Calls Tryd.prog 3 #[.agg #[.int .i64 x.lsn, .int .i64 x.kind, .int .i64 x.level, .int .i64 x.right, .string (bs x.high), .slice A x.ents.length ca]] w
      fun e w' => e = .returned (.bool true) ∧ Below w.heap.size w w' := by
  have HX := Lib.hid hx
  clear hx
  go_enter Tryd.func3, Tryd.ntmps3
  go_wp2_with fail
  have hI := LOne.start (ca := ca) ht hrx
  unfold pgCells at hI
  clear ht hrx
  generalize w.alloc (.cells #[.int .i64 x.lsn, .int .i64 x.kind, .int .i64 x.level, .int .i64 x.right, .string (bs x.high), .slice A x.ents.length ca] 25) = w1 at *
  generalize hxb : w.heap.size = xb at *
  refine (speaks_any w1 hI.turns).mono ?_
  rintro e w2 ⟨rfl, hb⟩
  have hI := hI.up hb
  clear hb
  obtain ⟨c0, c1, c2, c3, c4, c5⟩ := hI.box.page
  go_wp2_with fail
  refine (made_any x A ca HX.out.1 HX.out.2 w2 hI.reads).mono ?_
  rintro e w3 ⟨A1, c1', A2, c2', rfl, hr1, hc1, hr2, hc2, hb⟩
  have hI := hI.up hb
  clear hb c0 c1 c2 c3 c4 c5
  obtain ⟨a, ha⟩ : ∃ a, a = madePg x := ⟨_, rfl⟩
  have HM := Lib.hid ha
  rw [← ha] at hr1 hc1 hr2 hc2 ⊢
  have hsa : Small a := by rw [ha]; exact madePg_small x
  have HSA := Lib.hid hsa
  clear ha hsa hc1 hc2
  obtain ⟨hb, hVa⟩ := PVar.made (A2 := A2) (c1 := c1') (c2 := c2') hr1
  have hVb := PVar.made2 (A1 := A1) (c1 := c1') (c2 := c2') hr2
  have hI := hI.up hb
  unfold pgCells at hb hVa hVb hI ⊢
  clear hb hr1 hr2
  obtain ⟨c0, c1, c2, c3, c4, c5⟩ := hVa.cells
  have HI := Lib.hid hI.held; have HVA := Lib.hid hVa; have HVB := Lib.hid hVb
  clear hI hVa hVb
  go_wp2_with fail
  generalize (w3.alloc (.cells #[.int .i64 a.lsn, .int .i64 a.kind, .int .i64 a.level, .int .i64 a.right, .string (bs a.high), .slice A1 a.ents.length c1'] 29)).alloc (.cells #[.int .i64 a.lsn, .int .i64 a.kind, .int .i64 a.level, .int .i64 a.right, .string (bs a.high), .slice A2 a.ents.length c2'] 32) = w4 at *
  generalize w3.heap.size = pa at *
  refine (encode_any a A1 c1' HSA.out w4 HVA.out.reads HI.out.turns).mono ?_
  rintro e w5 ⟨rfl, hb⟩
  have hVa := HVA.out.up hb
  have hVb := HVB.out.up hb
  have hI := HI.out.up hb
  clear HVA HVB HI hb c0 c1 c2 c3 c4 c5
  obtain ⟨s, hs⟩ : ∃ s, s = (encR a).1 := ⟨_, rfl⟩
  obtain ⟨er, her⟩ : ∃ s, s = (encR a).2 := ⟨_, rfl⟩
  rw [← hs, ← her]
  have hA : er = 0 → rightB a = true ∧ 0 ≤ freeOf a ∧ s = encB a := fun h => by rw [hs]; exact encR_zero (by rw [← her]; exact h)
  have hsm := HSA.out
  have HA := Lib.hid hA; have HVA := Lib.hid hVa; have HI := Lib.hid hI
  have HS := Lib.hid hs; have HER := Lib.hid her
  obtain ⟨c0, c1, c2, c3, c4, c5⟩ := hVb.cells
  have HVB := Lib.hid hVb
  clear hs her hA hVa hI hVb hsm
  go_wp2_with fail
  refine (refencode_any a A2 c2' HSA.out w5 HVB.out.reads).mono ?_
  rintro e w6 ⟨rfl, hb⟩
  rw [← HS.out, ← HER.out]
  have hVa := HVA.out.up hb
  have hVb := HVB.out.up hb
  have hI := HI.out.up hb
  clear HVA HVB HI HS HER hb c0 c1 c2 c3 c4 c5
  have HVA := Lib.hid hVa; have HVB := Lib.hid hVb; have HI := Lib.hid hI
  clear hVa hVb hI
  have hss : (s != s) = false := by simp
  have her0 : (er != er) = false := by simp
  go_upto_region 6 with fail
  go_cut [42] (fun r wx => r = .bool false ∧ PVar a A1 c1' pa 29 wx ∧ PVar a A2 c2' (pa + 1) 32 wx ∧ Held xb w wx)
  case first =>
    have hVa := HVA.out
    have hVb := HVB.out
    have hI := HI.out
    clear HVA HVB HI
    refine wp_region_late 14 (fun w' => CellsA a A1 c1' pa w' ∧ CellsA a A2 c2' (pa + 1) w') (by kernel_rfl) ?_
    replace hVa : PVar a A1 c1' pa 29 w6.drew := hVa.up (Below.refl _ _).drew
    replace hVb : PVar a A2 c2' (pa + 1) 32 w6.drew := hVb.up (Below.refl _ _).drew
    replace hI : Held xb w w6.drew := hI.up (Below.refl _ _).drew
    generalize w6.drew = w7 at *
    have hT : CellsA a A1 c1' pa w7 ∧ CellsA a A2 c2' (pa + 1) w7 := ⟨hVa.cells, hVb.cells⟩
    unfold CellsA at hT ⊢
    show wpAnyK _ _ _ _ _ 14 15 #[false,false,false,false,false,false,false,false,false,false,false,false,false,false,false] _ _
    refine wpAnyK_takeAny (i := 0) (oi := ⟨some 28, _, _, _, _, _⟩) (v := ?_) rfl (by kernel_rfl) (by kernel_rfl) (by kernel_rfl) (by kernel_rfl) (fun _ _ _ h => h) (Or.inl ⟨by kernel_rfl, ?_⟩) (fun _ => hT) ?_
    rotate_left
    · intro w'; go_simp; rfl
    try simp only [Act.put, List.setIfInBounds_toArray, List.set_cons_zero, List.set_cons_succ]
    refine wpAnyK_takeAny (i := 1) (oi := ⟨some 29, _, _, _, _, _⟩) (v := ?_) rfl (by kernel_rfl) (by kernel_rfl) (by kernel_rfl) (by kernel_rfl) (fun _ _ _ h => h) (Or.inl ⟨by kernel_rfl, ?_⟩) (fun _ => hT) ?_
    rotate_left
    · intro w'; go_simp; rfl
    try simp only [Act.put, List.setIfInBounds_toArray, List.set_cons_zero, List.set_cons_succ]
    refine wpAnyK_takeAny (i := 2) (oi := ⟨some 30, _, _, _, _, _⟩) (v := ?_) rfl (by kernel_rfl) (by kernel_rfl) (by kernel_rfl) (by kernel_rfl) (fun _ _ _ h => h) (Or.inl ⟨by kernel_rfl, ?_⟩) (fun _ => hT) ?_
    rotate_left
    · intro w'; go_simp; rfl
    try simp only [Act.put, List.setIfInBounds_toArray, List.set_cons_zero, List.set_cons_succ]
    refine wpAnyK_takeAny (i := 3) (oi := ⟨some 31, _, _, _, _, _⟩) (v := ?_) rfl (by kernel_rfl) (by kernel_rfl) (by kernel_rfl) (by kernel_rfl) (fun _ _ _ h => h) (Or.inl ⟨by kernel_rfl, ?_⟩) (fun _ => hT) ?_
    rotate_left
    · intro w'; go_simp; rfl
    try simp only [Act.put, List.setIfInBounds_toArray, List.set_cons_zero, List.set_cons_succ]
    refine wpAnyK_takeAny (i := 4) (oi := ⟨some 32, _, _, _, _, _⟩) (v := ?_) rfl (by kernel_rfl) (by kernel_rfl) (by kernel_rfl) (by kernel_rfl) (fun _ _ _ h => h) (Or.inl ⟨by kernel_rfl, ?_⟩) (fun _ => hT) ?_
    rotate_left
    · intro w'; go_simp; rfl
    try simp only [Act.put, List.setIfInBounds_toArray, List.set_cons_zero, List.set_cons_succ]
    refine wpAnyK_takeAny (i := 5) (oi := ⟨some 33, _, _, _, _, _⟩) (v := ?_) rfl (by kernel_rfl) (by kernel_rfl) (by kernel_rfl) (by kernel_rfl) (fun _ _ _ h => h) (Or.inl ⟨by kernel_rfl, ?_⟩) (fun _ => hT) ?_
    rotate_left
    · intro w'; go_simp; rfl
    try simp only [Act.put, List.setIfInBounds_toArray, List.set_cons_zero, List.set_cons_succ]
    refine wpAnyK_takeAny (i := 6) (oi := ⟨some 34, _, _, _, _, _⟩) (v := ?_) rfl (by kernel_rfl) (by kernel_rfl) (by kernel_rfl) (by kernel_rfl) (fun _ _ _ h => h) (Or.inl ⟨by kernel_rfl, ?_⟩) (fun _ => hT) ?_
    rotate_left
    · intro w'; go_simp; rfl
    try simp only [Act.put, List.setIfInBounds_toArray, List.set_cons_zero, List.set_cons_succ]
    refine wpAnyK_takeAny (i := 7) (oi := ⟨some 35, _, _, _, _, _⟩) (v := ?_) rfl (by kernel_rfl) (by kernel_rfl) (by kernel_rfl) (by kernel_rfl) (fun _ _ _ h => h) (Or.inl ⟨by kernel_rfl, ?_⟩) (fun _ => hT) ?_
    rotate_left
    · intro w'; go_simp; rfl
    try simp only [Act.put, List.setIfInBounds_toArray, List.set_cons_zero, List.set_cons_succ]
    refine wpAnyK_takeAny (i := 8) (oi := ⟨some 36, _, _, _, _, _⟩) (v := ?_) rfl (by kernel_rfl) (by kernel_rfl) (by kernel_rfl) (by kernel_rfl) (fun _ _ _ h => h) (Or.inl ⟨by kernel_rfl, ?_⟩) (fun _ => hT) ?_
    rotate_left
    · intro w'; go_simp; rfl
    try simp only [Act.put, List.setIfInBounds_toArray, List.set_cons_zero, List.set_cons_succ]
    refine wpAnyK_take (i := 9) (oi := ⟨some 37, _, _, _, _, _⟩) (L := [14, 13, 10]) (v := ?_) rfl (by kernel_rfl) (by kernel_rfl) (by kernel_rfl) (by kernel_rfl) (fun _ _ _ h => h) (Or.inl ⟨by kernel_rfl, ?_⟩) hT ?_
    rotate_left
    · rintro w' ⟨⟨t0, t1, t2, t3, t4, t5⟩, s0, s1, s2, s3, s4, s5⟩; go_simp; rfl
    try simp only [Act.put, List.setIfInBounds_toArray, List.set_cons_zero, List.set_cons_succ]
    refine wpAnyK_take (i := 11) (oi := ⟨some 39, _, _, _, _, _⟩) (L := [14, 13, 12]) (v := ?_) rfl (by kernel_rfl) (by kernel_rfl) (by kernel_rfl) (by kernel_rfl) (fun _ _ _ h => h) (Or.inl ⟨by kernel_rfl, ?_⟩) hT ?_
    rotate_left
    · rintro w' ⟨⟨t0, t1, t2, t3, t4, t5⟩, s0, s1, s2, s3, s4, s5⟩; go_simp; rfl
    try simp only [Act.put, List.setIfInBounds_toArray, List.set_cons_zero, List.set_cons_succ]
    clear hT
    refine wpAnyK_ready (rs := [10]) (by kernel_rfl) (by simp) ?_
    refine AllReadyK.cons (o := ⟨some 38, _, _, _, _, _⟩) rfl (fun K hK => ?_) AllReadyK.nil
    go_simp
    refine (free_any a A1 c1' HSA.out w7 hVa.reads).mono ?_
    rintro e w8 ⟨rfl, hbx⟩
    have hVa8 := hVa.up hbx
    have hVb8 := hVb.up hbx
    have hI8 := hI.up hbx
    clear hbx
    refine hK _ _ (fun _ => ⟨hVa8.cells, hVb8.cells⟩) ?_
    clear hK K
    refine wpAnyK_ready (rs := [12]) (by kernel_rfl) (by simp) ?_
    refine AllReadyK.cons (o := ⟨some 40, _, _, _, _, _⟩) rfl (fun K hK => ?_) AllReadyK.nil
    go_simp
    refine (reffree_any a A2 c2' HSA.out w8 hVb8.reads).mono ?_
    rintro e w9 ⟨rfl, hbx⟩
    have hVa9 := hVa8.up hbx
    have hVb9 := hVb8.up hbx
    have hI9 := hI8.up hbx
    clear hbx
    refine hK _ _ (fun _ => ⟨hVa9.cells, hVb9.cells⟩) ?_
    clear hK K
    have hfe : (freeOf a != freeOf a) = false := by simp
    refine wpAnyK_takeAny (i := 13) (oi := ⟨some 41, _, _, _, _, _⟩) (v := ?_) rfl (by kernel_rfl) (by kernel_rfl) (by kernel_rfl) (by kernel_rfl) (fun _ _ _ h => h) (Or.inl ⟨by kernel_rfl, ?_⟩) (fun _ => ⟨hVa9.cells, hVb9.cells⟩) ?_
    rotate_left
    · intro w'; go_simp; rfl
    try simp only [Act.put, List.setIfInBounds_toArray, List.set_cons_zero, List.set_cons_succ]
    refine wpAnyK_ready (rs := [14]) (by kernel_rfl) (by simp) ?_
    refine AllReadyK.cons (o := ⟨some 42, _, _, _, _, _⟩) rfl (fun K hK => ?_) AllReadyK.nil
    go_simp
    refine hK _ _ (fun h => by cases h) ?_
    clear hK K
    refine wpAnyK_done (by kernel_rfl) ?_ _
    go_wp2_with fail
    go_meet
    case rel => exact ⟨rfl, hVa9, hVb9, hI9⟩
  case rest =>
    obtain ⟨rfl, hVa, hVb, hI⟩ := hcut
    by_cases h1 : er = 0
    · obtain ⟨ra, fa, sa⟩ := HA.out h1
      have SL := Lib.hid (show s.length = 512 by rw [sa]; exact encB_length a fa)
      have SZ := Lib.hid (show noughtsB s = false by rw [sa]; exact buildB_noughts _ ra)
      have SW := Lib.hid (show wholeB s = true by rw [sa]; exact wholeB_buildB _ _ (bodyB_length a fa))
      have SD := Lib.hid (show decB s = some a by rw [sa]; exact encB_dec ra fa)
      have SN := Lib.hid (show (getB (s.take 6) : Int) = a.lsn by rw [sa]; exact encB_lsn ra fa)
      have SB := Lib.hid (show (s.take 502).drop 6 = bodyB a by rw [sa]; exact encB_body fa)
      have SU := Lib.hid (show buildB a.lsn.toNat (bodyB a) = s by rw [sa]; rfl)
      have LB := Lib.hid (bodyB_length a fa)
      have HN := Lib.hid (rightB_spec ra).1
      have HVA := Lib.hid hVa; have HVB := Lib.hid hVb; have HI := Lib.hid hI
      clear ra fa sa HA hVa hVb hI
      go_wp2_with fail
      have ct := decode_whole s SL.out SZ.out SW.out wc HI.out.turns
      unfold DecWhole at ct
      rw [SD.out] at ct
      refine ct.mono ?_
      rintro e w10 ⟨D, dc, rfl, hrd, hdc, hb⟩
      have hVa := HVA.out.up hb
      have hVb := HVB.out.up hb
      have hI := HI.out.up hb
      clear HVA HVB HI hb ct
      have bd := Blk.made w10 (pgCells a D dc) 29
      have hb2 : Below w10.heap.size w10 (w10.alloc (.cells (pgCells a D dc) 29)) := (Below.refl _ _).alloc (Nat.le_refl _) _
      have hVd : PVar a D dc w10.heap.size 29 (w10.alloc (.cells (pgCells a D dc) 29)) := by
        unfold PVar
        exact ⟨bd, (hrd.below hb2).more hb2.size⟩
      replace hVa := hVa.up hb2
      replace hVb := hVb.up hb2
      replace hI := hI.up hb2
      clear hrd hdc hb2 bd
      unfold pgCells at hVa hVb hI hVd ⊢
      go_upto_region 11 with fail
      generalize w10.alloc (.cells #[.int .i64 a.lsn, .int .i64 a.kind, .int .i64 a.level, .int .i64 a.right, .string (bs a.high), .slice D a.ents.length dc] 29) = w11 at *
      generalize w10.heap.size = pd at *
      refine wp_region_late 26 (fun w' => CellsA a A1 c1' pa w' ∧ CellsA a A2 c2' (pa + 1) w' ∧ CellsA a D dc pd w') (by kernel_rfl) ?_
      replace hVa : PVar a A1 c1' pa 29 w11.drew := hVa.up (Below.refl _ _).drew
      replace hVb : PVar a A2 c2' (pa + 1) 32 w11.drew := hVb.up (Below.refl _ _).drew
      replace hVd : PVar a D dc pd 29 w11.drew := hVd.up (Below.refl _ _).drew
      replace hI : Held xb w w11.drew := hI.up (Below.refl _ _).drew
      generalize w11.drew = w12 at *
      have hT : CellsA a A1 c1' pa w12 ∧ CellsA a A2 c2' (pa + 1) w12 ∧ CellsA a D dc pd w12 := ⟨hVa.cells, hVb.cells, hVd.cells⟩
      unfold CellsA at hT ⊢
      show wpAnyK _ _ _ _ _ 26 28 #[false,false,false,false,false,false,false,false,false,false,false,false,false,false,false,false,false,false,false,false,false,false,false,false,false,false,false,false] _ _
      refine wpAnyK_takeAny (i := 0) (oi := ⟨some 50, _, _, _, _, _⟩) (v := ?_) rfl (by kernel_rfl) (by kernel_rfl) (by kernel_rfl) (by kernel_rfl) (fun _ _ _ h => h) (Or.inl ⟨by kernel_rfl, ?_⟩) (fun _ => hT) ?_
      rotate_left
      · intro w'; go_simp; rfl
      try simp only [Act.put, List.setIfInBounds_toArray, List.set_cons_zero, List.set_cons_succ]
      refine wpAnyK_takeAny (i := 1) (oi := ⟨some 51, _, _, _, _, _⟩) (v := ?_) rfl (by kernel_rfl) (by kernel_rfl) (by kernel_rfl) (by kernel_rfl) (fun _ _ _ h => h) (Or.inl ⟨by kernel_rfl, ?_⟩) (fun _ => hT) ?_
      rotate_left
      · intro w'; go_simp; rfl
      try simp only [Act.put, List.setIfInBounds_toArray, List.set_cons_zero, List.set_cons_succ]
      refine wpAnyK_takeAny (i := 2) (oi := ⟨some 52, _, _, _, _, _⟩) (v := ?_) rfl (by kernel_rfl) (by kernel_rfl) (by kernel_rfl) (by kernel_rfl) (fun _ _ _ h => h) (Or.inl ⟨by kernel_rfl, ?_⟩) (fun _ => hT) ?_
      rotate_left
      · intro w'; go_simp; rfl
      try simp only [Act.put, List.setIfInBounds_toArray, List.set_cons_zero, List.set_cons_succ]
      refine wpAnyK_take (i := 3) (oi := ⟨some 53, _, _, _, _, _⟩) (L := [26, 18, 17, 11, 10, 7, 6, 5]) (v := ?_) rfl (by kernel_rfl) (by kernel_rfl) (by kernel_rfl) (by kernel_rfl) (fun _ _ _ h => h) (Or.inl ⟨by kernel_rfl, ?_⟩) hT ?_
      rotate_left
      · rintro w' ⟨⟨t0, t1, t2, t3, t4, t5⟩, ⟨s0, s1, s2, s3, s4, s5⟩, r0, r1, r2, r3, r4, r5⟩; go_simp; rfl
      try simp only [Act.put, List.setIfInBounds_toArray, List.set_cons_zero, List.set_cons_succ]
      refine wpAnyK_take (i := 4) (oi := ⟨some 54, _, _, _, _, _⟩) (L := [26, 18, 17, 11, 10, 7, 6, 5]) (v := ?_) rfl (by kernel_rfl) (by kernel_rfl) (by kernel_rfl) (by kernel_rfl) (fun _ _ _ h => h) (Or.inl ⟨by kernel_rfl, ?_⟩) hT ?_
      rotate_left
      · rintro w' ⟨⟨t0, t1, t2, t3, t4, t5⟩, ⟨s0, s1, s2, s3, s4, s5⟩, r0, r1, r2, r3, r4, r5⟩; go_simp; rfl
      try simp only [Act.put, List.setIfInBounds_toArray, List.set_cons_zero, List.set_cons_succ]
      clear hT
      refine wpAnyK_ready (rs := [5]) (by kernel_rfl) (by simp) ?_
      refine AllReadyK.cons (o := ⟨some 55, _, _, _, _, _⟩) rfl (fun K hK => ?_) AllReadyK.nil
      go_simp
      have hsm := same_any a a D A2 dc c2' (by have := HSA.out.2.1; omega) (by have := HSA.out.2.1; omega) w12 hVd.reads hVb.reads
      unfold pgCells at hsm
      refine hsm.mono ?_
      rintro e w13 ⟨r, rfl, hr, hbx⟩
      obtain rfl : r = true := hr.2 rfl
      clear hsm hr
      have hVa1 := hVa.up hbx
      have hVb1 := hVb.up hbx
      have hVd1 := hVd.up hbx
      have hI1 := hI.up hbx
      clear hbx hVa hVb hVd hI
      refine hK _ _ (fun _ => ⟨hVa1.cells, hVb1.cells, hVd1.cells⟩) ?_
      clear hK K
      refine wpAnyK_takeAny (i := 6) (oi := ⟨some 56, _, _, _, _, _⟩) (v := ?_) rfl (by kernel_rfl) (by kernel_rfl) (by kernel_rfl) (by kernel_rfl) (fun _ _ _ h => h) (Or.inl ⟨by kernel_rfl, ?_⟩) (fun _ => ⟨hVa1.cells, hVb1.cells, hVd1.cells⟩) ?_
      rotate_left
      · intro w'; go_simp; rfl
      try simp only [Act.put, List.setIfInBounds_toArray, List.set_cons_zero, List.set_cons_succ]
      refine wpAnyK_takeAny (i := 7) (oi := ⟨some 57, _, _, _, _, _⟩) (v := ?_) rfl (by kernel_rfl) (by kernel_rfl) (by kernel_rfl) (by kernel_rfl) (fun _ _ _ h => h) (Or.inl ⟨by kernel_rfl, ?_⟩) (fun _ => ⟨hVa1.cells, hVb1.cells, hVd1.cells⟩) ?_
      rotate_left
      · intro w'; go_simp; rfl
      try simp only [Act.put, List.setIfInBounds_toArray, List.set_cons_zero, List.set_cons_succ]
      refine wpAnyK_takeAny (i := 8) (oi := ⟨some 58, _, _, _, _, _⟩) (v := ?_) rfl (by kernel_rfl) (by kernel_rfl) (by kernel_rfl) (by kernel_rfl) (fun _ _ _ h => h) (Or.inl ⟨by kernel_rfl, ?_⟩) (fun _ => ⟨hVa1.cells, hVb1.cells, hVd1.cells⟩) ?_
      rotate_left
      · intro w'; go_simp; rfl
      try simp only [Act.put, List.setIfInBounds_toArray, List.set_cons_zero, List.set_cons_succ]
      refine wpAnyK_ready (rs := [9]) (by kernel_rfl) (by simp) ?_
      refine AllReadyK.cons (o := ⟨some 59, _, _, _, _, _⟩) rfl (fun K hK => ?_) AllReadyK.nil
      go_simp
      refine (whole_ok s SL.out w13 hI1.turns).mono ?_
      rintro e w14 ⟨rfl, hbx⟩
      rw [SW.out]
      have hVa2 := hVa1.up hbx
      have hVb2 := hVb1.up hbx
      have hVd2 := hVd1.up hbx
      have hI2 := hI1.up hbx
      clear hbx hVa1 hVb1 hVd1 hI1
      refine hK _ _ (fun _ => ⟨hVa2.cells, hVb2.cells, hVd2.cells⟩) ?_
      clear hK K
      refine wpAnyK_takeAny (i := 10) (oi := ⟨some 60, _, _, _, _, _⟩) (v := ?_) rfl (by kernel_rfl) (by kernel_rfl) (by kernel_rfl) (by kernel_rfl) (fun _ _ _ h => h) (Or.inl ⟨by kernel_rfl, ?_⟩) (fun _ => ⟨hVa2.cells, hVb2.cells, hVd2.cells⟩) ?_
      rotate_left
      · intro w'; go_simp; rfl
      try simp only [Act.put, List.setIfInBounds_toArray, List.set_cons_zero, List.set_cons_succ]
      refine wpAnyK_takeAny (i := 11) (oi := ⟨some 61, _, _, _, _, _⟩) (v := ?_) rfl (by kernel_rfl) (by kernel_rfl) (by kernel_rfl) (by kernel_rfl) (fun _ _ _ h => h) (Or.inl ⟨by kernel_rfl, ?_⟩) (fun _ => ⟨hVa2.cells, hVb2.cells, hVd2.cells⟩) ?_
      rotate_left
      · intro w'; go_simp; rfl
      try simp only [Act.put, List.setIfInBounds_toArray, List.set_cons_zero, List.set_cons_succ]
      refine wpAnyK_takeAny (i := 12) (oi := ⟨some 62, _, _, _, _, _⟩) (v := ?_) rfl (by kernel_rfl) (by kernel_rfl) (by kernel_rfl) (by kernel_rfl) (fun _ _ _ h => h) (Or.inl ⟨by kernel_rfl, ?_⟩) (fun _ => ⟨hVa2.cells, hVb2.cells, hVd2.cells⟩) ?_
      rotate_left
      · intro w'; go_simp; rfl
      try simp only [Act.put, List.setIfInBounds_toArray, List.set_cons_zero, List.set_cons_succ]
      refine wpAnyK_takeAny (i := 14) (oi := ⟨some 64, _, _, _, _, _⟩) (v := ?_) rfl (by kernel_rfl) (by kernel_rfl) (by kernel_rfl) (by kernel_rfl) (fun _ _ _ h => h) (Or.inl ⟨by kernel_rfl, ?_⟩) (fun _ => ⟨hVa2.cells, hVb2.cells, hVd2.cells⟩) ?_
      rotate_left
      · intro w'; go_simp; rfl
      try simp only [Act.put, List.setIfInBounds_toArray, List.set_cons_zero, List.set_cons_succ]
      refine wpAnyK_take (i := 15) (oi := ⟨some 65, _, _, _, _, _⟩) (L := [26, 18, 17, 16]) (v := ?_) rfl (by kernel_rfl) (by kernel_rfl) (by kernel_rfl) (by kernel_rfl) (fun _ _ _ h => h) (Or.inl ⟨by kernel_rfl, ?_⟩) ⟨hVa2.cells, hVb2.cells, hVd2.cells⟩ ?_
      rotate_left
      · rintro w' ⟨⟨t0, t1, t2, t3, t4, t5⟩, ⟨s0, s1, s2, s3, s4, s5⟩, r0, r1, r2, r3, r4, r5⟩; go_simp; rfl
      try simp only [Act.put, List.setIfInBounds_toArray, List.set_cons_zero, List.set_cons_succ]
      refine wpAnyK_ready (rs := [13]) (by kernel_rfl) (by simp) ?_
      refine AllReadyK.cons (o := ⟨some 63, _, _, _, _, _⟩) rfl (fun K hK => ?_) AllReadyK.nil
      go_simp
      refine (lsn_ok s SL.out w14).mono ?_
      rintro e w15 ⟨rfl, hw15⟩
      obtain rfl : w14 = w15 := hw15
      rw [SN.out]
      refine hK _ _ (fun _ => ⟨hVa2.cells, hVb2.cells, hVd2.cells⟩) ?_
      clear hK K
      refine wpAnyK_takeAny (i := 16) (oi := ⟨some 66, _, _, _, _, _⟩) (v := ?_) rfl (by kernel_rfl) (by kernel_rfl) (by kernel_rfl) (by kernel_rfl) (fun _ _ _ h => h) (Or.inl ⟨by kernel_rfl, ?_⟩) (fun _ => ⟨hVa2.cells, hVb2.cells, hVd2.cells⟩) ?_
      rotate_left
      · intro w'; go_simp; rfl
      try simp only [Act.put, List.setIfInBounds_toArray, List.set_cons_zero, List.set_cons_succ]
      refine wpAnyK_takeAny (i := 17) (oi := ⟨some 67, _, _, _, _, _⟩) (v := ?_) rfl (by kernel_rfl) (by kernel_rfl) (by kernel_rfl) (by kernel_rfl) (fun _ _ _ h => h) (Or.inl ⟨by kernel_rfl, ?_⟩) (fun _ => ⟨hVa2.cells, hVb2.cells, hVd2.cells⟩) ?_
      rotate_left
      · intro w'; go_simp; rfl
      try simp only [Act.put, List.setIfInBounds_toArray, List.set_cons_zero, List.set_cons_succ]
      refine wpAnyK_takeAny (i := 18) (oi := ⟨some 68, _, _, _, _, _⟩) (v := ?_) rfl (by kernel_rfl) (by kernel_rfl) (by kernel_rfl) (by kernel_rfl) (fun _ _ _ h => h) (Or.inl ⟨by kernel_rfl, ?_⟩) (fun _ => ⟨hVa2.cells, hVb2.cells, hVd2.cells⟩) ?_
      rotate_left
      · intro w'; go_simp; rfl
      try simp only [Act.put, List.setIfInBounds_toArray, List.set_cons_zero, List.set_cons_succ]
      refine wpAnyK_takeAny (i := 19) (oi := ⟨some 69, _, _, _, _, _⟩) (v := ?_) rfl (by kernel_rfl) (by kernel_rfl) (by kernel_rfl) (by kernel_rfl) (fun _ _ _ h => h) (Or.inl ⟨by kernel_rfl, ?_⟩) (fun _ => ⟨hVa2.cells, hVb2.cells, hVd2.cells⟩) ?_
      rotate_left
      · intro w'; go_simp; rfl
      try simp only [Act.put, List.setIfInBounds_toArray, List.set_cons_zero, List.set_cons_succ]
      refine wpAnyK_takeAny (i := 21) (oi := ⟨some 71, _, _, _, _, _⟩) (v := ?_) rfl (by kernel_rfl) (by kernel_rfl) (by kernel_rfl) (by kernel_rfl) (fun _ _ _ h => h) (Or.inl ⟨by kernel_rfl, ?_⟩) (fun _ => ⟨hVa2.cells, hVb2.cells, hVd2.cells⟩) ?_
      rotate_left
      · intro w'; go_simp; rfl
      try simp only [Act.put, List.setIfInBounds_toArray, List.set_cons_zero, List.set_cons_succ]
      refine wpAnyK_takeAny (i := 24) (oi := ⟨some 74, _, _, _, _, _⟩) (v := ?_) rfl (by kernel_rfl) (by kernel_rfl) (by kernel_rfl) (by kernel_rfl) (fun _ _ _ h => h) (Or.inl ⟨by kernel_rfl, ?_⟩) (fun _ => ⟨hVa2.cells, hVb2.cells, hVd2.cells⟩) ?_
      rotate_left
      · intro w'; go_simp; rfl
      try simp only [Act.put, List.setIfInBounds_toArray, List.set_cons_zero, List.set_cons_succ]
      refine wpAnyK_take (i := 20) (oi := ⟨some 70, _, _, _, _, _⟩) (L := [26, 25, 23]) (v := ?_) rfl (by kernel_rfl) (by kernel_rfl) (by kernel_rfl) (by kernel_rfl) (fun _ _ _ h => h) (Or.inl ⟨by kernel_rfl, ?_⟩) ⟨hVa2.cells, hVb2.cells, hVd2.cells⟩ ?_
      rotate_left
      · rintro w' ⟨⟨t0, t1, t2, t3, t4, t5⟩, ⟨s0, s1, s2, s3, s4, s5⟩, r0, r1, r2, r3, r4, r5⟩; go_simp; rfl
      try simp only [Act.put, List.setIfInBounds_toArray, List.set_cons_zero, List.set_cons_succ]
      refine wpAnyK_ready (rs := [22]) (by kernel_rfl) (by simp) ?_
      refine AllReadyK.cons (o := ⟨some 72, _, _, _, _, _⟩) rfl (fun K hK => ?_) AllReadyK.nil
      go_simp
      refine (body_ok s SL.out w14).mono ?_
      rintro e w15 ⟨rfl, hw15⟩
      obtain rfl : w14 = w15 := hw15
      rw [SB.out]
      refine hK _ _ (fun _ => ⟨hVa2.cells, hVb2.cells, hVd2.cells⟩) ?_
      clear hK K
      refine wpAnyK_ready (rs := [23]) (by kernel_rfl) (by simp) ?_
      refine AllReadyK.cons (o := ⟨some 73, _, _, _, _, _⟩) rfl (fun K hK => ?_) AllReadyK.nil
      go_simp
      refine (build_ok a.lsn (bodyB a) HN.out.1 HN.out.2 LB.out w14 hI2.turns).mono ?_
      rintro e w15 ⟨rfl, hbx⟩
      rw [SU.out]
      have hVa3 := hVa2.up hbx
      have hVb3 := hVb2.up hbx
      have hVd3 := hVd2.up hbx
      have hI3 := hI2.up hbx
      clear hbx hVa2 hVb2 hVd2 hI2
      refine hK _ _ (fun _ => ⟨hVa3.cells, hVb3.cells, hVd3.cells⟩) ?_
      clear hK K
      have hss2 : (s == s) = true := by simp
      refine wpAnyK_takeAny (i := 25) (oi := ⟨some 75, _, _, _, _, _⟩) (v := ?_) rfl (by kernel_rfl) (by kernel_rfl) (by kernel_rfl) (by kernel_rfl) (fun _ _ _ h => h) (Or.inl ⟨by kernel_rfl, ?_⟩) (fun _ => ⟨hVa3.cells, hVb3.cells, hVd3.cells⟩) ?_
      rotate_left
      · intro w'; go_simp; rfl
      try simp only [Act.put, List.setIfInBounds_toArray, List.set_cons_zero, List.set_cons_succ]
      refine wpAnyK_ready (rs := [26]) (by kernel_rfl) (by simp) ?_
      refine AllReadyK.cons (o := ⟨some 76, _, _, _, _, _⟩) rfl (fun K hK => ?_) AllReadyK.nil
      go_simp
      refine hK _ _ (fun h => by cases h) ?_
      clear hK K
      refine wpAnyK_ready (rs := [27]) (by kernel_rfl) (by simp) ?_
      refine AllReadyK.cons (o := ⟨some 2, _, _, _, _, _⟩) rfl (fun K hK => ?_) AllReadyK.nil
      go_simp
      refine hK _ _ (fun h => by cases h) ?_
      clear hK K
      refine wpAnyK_done (by kernel_rfl) ?_ _
      go_wp2_with fail
      go_ret
      exact ⟨rfl, hxb ▸ hI3.since⟩
    · have HI := Lib.hid hI
      clear hVa hVb hI
      go_wp2_with fail
      go_ret
      exact ⟨rfl, hxb ▸ HI.out.since⟩
end Go.Proofs.YtlhcfmcbfdihoaaDoor
