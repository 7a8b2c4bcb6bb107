/-
  Walks: the law 'PageBuilds'.
-/
import Derived.Test.YtlhcfmcbfdihoaaDoorApart
namespace Go.Proofs.YtlhcfmcbfdihoaaDoor
set_option linter.unusedSimpArgs false
set_option linter.unusedVariables false
open Go.RowKit

/-- The page with another change's number. -/
def withLsn (a : Pg) (n : Int) : Pg := { a with lsn := n }
theorem withLsn_back (a : Pg) (n : Int) : withLsn (withLsn a n) a.lsn = a := rfl
section
variable {a : Pg} {n : Int} (ha : rightB a = true) (fa : 0 ≤ freeOf a) (h0 : 0 ≤ n) (h1 : n < 281474976710656)
theorem withLsn_right (ha : rightB a = true) (h0 : 0 ≤ n) (h1 : n < 281474976710656) : rightB (withLsn a n) = true := by
  have h : withinB n 0 281474976710655 = true := by simp [withinB]; omega
  unfold rightB at ha ⊢
  rw [Bool.and_eq_true] at ha ⊢
  exact ⟨h, ha.2⟩
theorem withLsn_bytes (a : Pg) (n : Int) : encB (withLsn a n) = buildB n.toNat (bodyB a) := rfl
theorem encB_body (fa : 0 ≤ freeOf a) : ((encB a).take 502).drop 6 = bodyB a := (buildB_parts _ _ (bodyB_length a fa)).2.1
theorem encB_lsn (ha : rightB a = true) (fa : 0 ≤ freeOf a) : (getB ((encB a).take 6) : Int) = a.lsn := by
  obtain ⟨h, _⟩ := rightB_spec ha
  have : ((encB a).take 6) = putB 6 a.lsn.toNat := (buildB_parts _ _ (bodyB_length a fa)).1
  rw [this, getB_putB 6 _ (by omega)]
  omega
end
theorem buildB_ne (n : Nat) (b : List UInt8) : buildB n b ≠ [] := by
  intro h
  have := congrArg List.length h
  unfold buildB sealB at this
  simp [putB_length] at this

/-- What a law of one page keeps. -/
def LOne (x : Pg) (A : Option Addr) (ca : Nat) (xb : Nat) (n : Nat) (w0 w : World) : Prop :=
  Held n w0 w ∧ ReadsE w w.heap.size A x.ents ∧ Blk w xb 25 (pgCells x A ca)
section
variable {x : Pg} {A : Option Addr} {ca xb : Nat} {n : Nat} {w0 w w' : World}
theorem LOne.up (h : LOne x A ca xb n w0 w) (hb : Below w.heap.size w w') : LOne x A ca xb n w0 w' :=
  ⟨h.1.up hb, (h.2.1.below hb).more hb.size, h.2.2.up hb⟩
theorem LOne.start (ht : Turns w) (hx : ReadsE w w.heap.size A x.ents) :
    LOne x A ca w.heap.size w.heap.size w (w.alloc (.cells (pgCells x A ca) 25)) := by
  have b1 := Blk.made w (pgCells x A ca) 25
  have e1 : Below w.heap.size w (w.alloc (.cells (pgCells x A ca) 25)) := (Below.refl _ _).alloc (Nat.le_refl _) _
  exact ⟨(Held.start ht).up e1, (hx.below e1).more e1.size, b1⟩
theorem LOne.turns (h : LOne x A ca xb n w0 w) : Turns w := h.1.turns
theorem LOne.since (h : LOne x A ca xb n w0 w) : Below n w0 w := h.1.since
theorem LOne.held (h : LOne x A ca xb n w0 w) : Held n w0 w := h.1
theorem LOne.reads (h : LOne x A ca xb n w0 w) : ReadsE w w.heap.size A x.ents := h.2.1
theorem LOne.box (h : LOne x A ca xb n w0 w) : Blk w xb 25 (pgCells x A ca) := h.2.2
end
attribute [irreducible] LOne

set_option maxHeartbeats 6400000 in
set_option maxRecDepth 100000 in
theorem builds_any (x : Pg) (A : Option Addr) (ca : Nat) (hx : Handed x) (n : Int) (b : List UInt8) (hbl : b.length ≤ 140737488355328) (w : World) (ht : Turns w) (hrx : ReadsE w w.heap.size A x.ents) :
    Calls Tryd.prog 5 #[.agg #[.int .i64 x.lsn, .int .i64 x.kind, .int .i64 x.level, .int .i64 x.right, .string (bs x.high), .slice A x.ents.length ca], .int .i64 n, .string (bs b)] w
      fun e w' => e = .returned (.bool true) ∧ Below w.heap.size w w' := by
  have HX := Lib.hid hx; have HBL := Lib.hid hbl
  clear hx hbl
  go_enter Tryd.func5, Tryd.ntmps5
  go_wp2_with fail
  have hI := LOne.start (ca := ca) ht hrx
  unfold pgCells at hI
  clear ht hrx
  generalize w.alloc (.cells #[.int .i64 x.lsn, .int .i64 x.kind, .int .i64 x.level, .int .i64 x.right, .string (bs x.high), .slice A x.ents.length ca] 25) = w1 at *
  generalize hxb : w.heap.size = xb at *
  refine (speaks_any w1 hI.turns).mono ?_
  rintro e w2 ⟨rfl, hb⟩
  have hI := hI.up hb
  clear hb
  obtain ⟨c0, c1, c2, c3, c4, c5⟩ := hI.box.page
  go_wp2_with fail
  refine (made_any x A ca HX.out.1 HX.out.2 w2 hI.reads).mono ?_
  rintro e w3 ⟨A1, c1', A2, c2', rfl, hr1, hc1, hr2, hc2, hb⟩
  have hI := hI.up hb
  clear hb c0 c1 c2 c3 c4 c5
  obtain ⟨a, ha⟩ : ∃ a, a = madePg x := ⟨_, rfl⟩
  have HM := Lib.hid ha
  rw [← ha] at hr1 hc1 hr2 hc2 ⊢
  have hsa : Small a := by rw [ha]; exact madePg_small x
  have HSA := Lib.hid hsa
  clear ha hsa hc1 hc2 hr2
  obtain ⟨hb, hVa⟩ := PVar.made (A2 := A2) (c1 := c1') (c2 := c2') hr1
  have hI := hI.up hb
  unfold pgCells at hb hVa hI ⊢
  clear hb hr1
  obtain ⟨c0, c1, c2, c3, c4, c5⟩ := hVa.cells
  have HI := Lib.hid hI; have HVA := Lib.hid hVa
  clear hI hVa
  go_wp2_with fail
  generalize (w3.alloc (.cells #[.int .i64 a.lsn, .int .i64 a.kind, .int .i64 a.level, .int .i64 a.right, .string (bs a.high), .slice A1 a.ents.length c1'] 29)).alloc (.cells #[.int .i64 a.lsn, .int .i64 a.kind, .int .i64 a.level, .int .i64 a.right, .string (bs a.high), .slice A2 a.ents.length c2'] 32) = w4 at *
  generalize w3.heap.size = pa at *
  refine (encode_any a A1 c1' HSA.out w4 HVA.out.reads HI.out.turns).mono ?_
  rintro e w5 ⟨rfl, hb⟩
  have hVa := HVA.out.up hb
  have hI := HI.out.up hb
  clear HVA HI hb c0 c1 c2 c3 c4 c5
  obtain ⟨s, hs⟩ : ∃ s, s = (encR a).1 := ⟨_, rfl⟩
  obtain ⟨er, her⟩ : ∃ s, s = (encR a).2 := ⟨_, rfl⟩
  rw [← hs, ← her]
  have hA : er = 0 → rightB a = true ∧ 0 ≤ freeOf a ∧ s = encB a := fun h => by rw [hs]; exact encR_zero (by rw [← her]; exact h)
  have HA := Lib.hid hA; have HVA := Lib.hid hVa; have HI := Lib.hid hI
  clear hs her hA hVa hI
  by_cases h1 : er = 0
  · by_cases h2 : 0 ≤ n
    · by_cases h3 : n < 281474976710656
      · obtain ⟨ra, fa, sa⟩ := HA.out h1
        have ls := encB_length a fa
        have hbd := encB_body fa
        rw [← sa] at ls hbd
        have LB := Lib.hid (bodyB_length a fa)
        obtain ⟨t, et⟩ : ∃ t, t = buildB n.toNat (bodyB a) := ⟨_, rfl⟩
        have rq := withLsn_right ra h2 h3
        have fq : 0 ≤ freeOf (withLsn a n) := fa
        have TL := Lib.hid (show t.length = 512 by rw [et, ← withLsn_bytes]; exact encB_length _ fq)
        have TZ := Lib.hid (show noughtsB t = false by rw [et]; exact buildB_noughts n.toNat ra)
        have TW := Lib.hid (show wholeB t = true by rw [et]; exact wholeB_buildB _ _ (bodyB_length a fa))
        have TD := Lib.hid (show decB t = some (withLsn a n) by rw [et, ← withLsn_bytes]; exact encB_dec rq fq)
        have TN := Lib.hid (show (getB (t.take 6) : Int) = n by rw [et, ← withLsn_bytes]; exact encB_lsn rq fq)
        have LS := Lib.hid ls; have HBD := Lib.hid hbd
        clear ra fa sa ls hbd rq fq HA
        go_wp2_with fail
        refine (body_ok s LS.out w5).mono ?_
        rintro e _ ⟨rfl, rfl⟩
        rw [HBD.out]
        go_wp2_with fail
        refine (build_ok n (bodyB a) h2 (by omega) LB.out w5 HI.out.turns).mono ?_
        rintro e w6 ⟨rfl, hb⟩
        rw [← et]
        have hVa := HVA.out.up hb
        have hI := HI.out.up hb
        clear HVA HI hb et LB LS HBD
        have HVA := Lib.hid hVa; have HI := Lib.hid hI
        clear hVa hI
        go_wp2_with fail
        have ct := decode_whole t TL.out TZ.out TW.out w6 HI.out.turns
        unfold DecWhole at ct
        rw [TD.out] at ct
        refine ct.mono ?_
        rintro e w7 ⟨D, dc, rfl, hrd, hdc, hb⟩
        have hVa := HVA.out.up hb
        have hI := HI.out.up hb
        clear HVA HI hb ct
        have hb : Below w7.heap.size w7 (w7.alloc (.cells (pgCells (withLsn a n) D dc) 29)) := (Below.refl _ _).alloc (Nat.le_refl _) _
        have ca0 := (hVa.up hb).cells.1
        have bd := Blk.made w7 (pgCells a D dc) 29
        have hb2 : Below w7.heap.size w7 (w7.alloc (.cells (pgCells a D dc) 29)) := (Below.refl _ _).alloc (Nat.le_refl _) _
        have hVa := hVa.up hb2
        have hI := hI.up hb2
        have hVd : PVar a D dc w7.heap.size 29 (w7.alloc (.cells (pgCells a D dc) 29)) := by
          unfold PVar
          exact ⟨bd, ((show ReadsE w7 w7.heap.size D a.ents from hrd).below hb2).more hb2.size⟩
        obtain ⟨x0, x1, x2, x3, x4, x5⟩ := hI.box.page
        clear hrd hdc hb hb2 bd
        unfold pgCells at ca0 hVa hI hVd x0 x1 x2 x3 x4 x5 ⊢
        unfold withLsn at ca0 ⊢
        dsimp only at ca0 ⊢
        have HVA := Lib.hid hVa; have HI := Lib.hid hI; have HVD := Lib.hid hVd
        clear hVa hI hVd
        go_wp2_with fail
        generalize w7.alloc (.cells #[.int .i64 a.lsn, .int .i64 a.kind, .int .i64 a.level, .int .i64 a.right, .string (bs a.high), .slice D a.ents.length dc] 29) = w8 at *
        generalize w7.heap.size = pp at *
        clear ca0 HVA
        refine (made_any x A ca HX.out.1 HX.out.2 w8 HI.out.reads).mono ?_
        rintro e w9 ⟨E1, e1, E2, e2, rfl, hs1, _, hs2, _, hb⟩
        rw [← HM.out] at hs1 hs2 ⊢
        have hVd := HVD.out.up hb
        have hI := HI.out.up hb
        clear HVD HI hb x0 x1 x2 x3 x4 x5
        have hVw := PVar.made2 (A1 := E1) (c1 := e1) (c2 := e2) hs2
        have hb := (PVar.made (A2 := E2) (c1 := e1) (c2 := e2) hs1).1
        have hVd := hVd.up hb
        have hK := (hI.up hb).held
        obtain ⟨y0, y1, y2, y3, y4, y5⟩ := hVd.cells
        obtain ⟨z0, z1, z2, z3, z4, z5⟩ := hVw.cells
        unfold pgCells at hVd hVw hK y0 y1 y2 y3 y4 y5 z0 z1 z2 z3 z4 z5 ⊢
        clear hb hI hs1 hs2
        have HVD := Lib.hid hVd; have HVW := Lib.hid hVw; have HK := Lib.hid hK
        clear hVd hVw hK
        go_wp2_with fail
        generalize (w9.alloc (.cells #[.int .i64 a.lsn, .int .i64 a.kind, .int .i64 a.level, .int .i64 a.right, .string (bs a.high), .slice E1 a.ents.length e1] 29)).alloc (.cells #[.int .i64 a.lsn, .int .i64 a.kind, .int .i64 a.level, .int .i64 a.right, .string (bs a.high), .slice E2 a.ents.length e2] 32) = w10 at *
        generalize w9.heap.size = pw at *
        have hsm := same_any a a D E2 dc e2 (by have := HSA.out.2.1; omega) (by have := HSA.out.2.1; omega) w10 HVD.out.reads HVW.out.reads
        unfold pgCells at hsm
        refine hsm.mono ?_
        rintro e w11 ⟨r, rfl, hr, hb⟩
        obtain rfl : r = true := hr.2 rfl
        have hK := HK.out.up hb
        clear HK hsm hr hb HVD HVW y0 y1 y2 y3 y4 y5 z0 z1 z2 z3 z4 z5
        have HK := Lib.hid hK
        clear hK
        go_wp2_with fail
        refine (lsn_ok t TL.out w11).mono ?_
        rintro e _ ⟨rfl, rfl⟩
        rw [TN.out]
        by_cases hB : 1000 < b.length
        · go_wp2_with fail
          go_ret
          exact ⟨rfl, hxb ▸ HK.out.since⟩
        · have eB : decide ((1000 : Int) < (b.length : Int)) = false := by simp; omega
          by_cases h5 : b.length = 496
          · have HB5 := Lib.hid h5
            go_wp2_with fail
            refine (build_ok n b h2 (by omega) HB5.out w11 HK.out.turns).mono ?_
            rintro e wq ⟨rfl, hb⟩
            have KQ := Lib.hid (HK.out.up hb)
            have hne : (buildB n.toNat b).isEmpty = false := by rw [List.isEmpty_eq_false_iff]; exact buildB_ne _ _
            generalize buildB n.toNat b = tb at *
            clear hb
            go_wp2_with fail
            refine (body_no b (by omega) HBL.out wq).mono ?_
            rintro e _ ⟨rfl, rfl⟩
            go_wp2_with fail
            refine (lsn_no b (by omega) HBL.out wq).mono ?_
            rintro e _ ⟨rfl, rfl⟩
            go_wp2_with fail
            go_ret
            exact ⟨rfl, hxb ▸ KQ.out.since⟩
          · have e5 : ((b.length : Int) == 496) = false := by simp; omega
            by_cases h6 : b.length = 512
            · go_wp2_with fail
              refine (build_no n b (Or.inr (by omega)) HBL.out w11).mono ?_
              rintro e _ ⟨rfl, rfl⟩
              go_wp2_with fail
              go_ret
              exact ⟨rfl, hxb ▸ HK.out.since⟩
            · have e6 : ((b.length : Int) == 512) = false := by simp; omega
              go_wp2_with fail
              refine (build_no n b (Or.inr (by omega)) HBL.out w11).mono ?_
              rintro e _ ⟨rfl, rfl⟩
              go_wp2_with fail
              refine (body_no b (by omega) HBL.out w11).mono ?_
              rintro e _ ⟨rfl, rfl⟩
              go_wp2_with fail
              refine (lsn_no b (by omega) HBL.out w11).mono ?_
              rintro e _ ⟨rfl, rfl⟩
              go_wp2_with fail
              go_ret
              exact ⟨rfl, hxb ▸ HK.out.since⟩
      · obtain ⟨ra, fa, sa⟩ := HA.out h1
        have ls := encB_length a fa
        rw [← sa] at ls
        have LS := Lib.hid ls
        have HK := Lib.hid HI.out.held
        have hno : withinB n 0 281474976710655 = false := by simp [withinB]; omega
        have HNO := Lib.hid hno
        clear ra fa sa ls HA hno HI
        have e3 : decide (n < 281474976710656) = false := by simpa using h3
        go_wp2_with fail
        refine (body_ok s LS.out w5).mono ?_
        rintro e _ ⟨rfl, rfl⟩
        have LB := Lib.hid (show ((s.take 502).drop 6).length ≤ 140737488355328 by have := LS.out; simp; omega)
        generalize (s.take 502).drop 6 = sb at *
        go_wp2_with fail
        refine (build_no n sb (Or.inl HNO.out) LB.out w5).mono ?_
        rintro e _ ⟨rfl, rfl⟩
        go_wp2_with fail
        go_ret
        exact ⟨rfl, hxb ▸ HK.out.since⟩
    · obtain ⟨ra, fa, sa⟩ := HA.out h1
      have ls := encB_length a fa
      rw [← sa] at ls
      have LS := Lib.hid ls
      have HK := Lib.hid HI.out.held
      have hno : withinB n 0 281474976710655 = false := by simp [withinB]; omega
      have HNO := Lib.hid hno
      clear ra fa sa ls HA hno HI
      have e2 : decide (0 ≤ n) = false := by simpa using h2
      go_wp2_with fail
      refine (body_ok s LS.out w5).mono ?_
      rintro e _ ⟨rfl, rfl⟩
      have LB := Lib.hid (show ((s.take 502).drop 6).length ≤ 140737488355328 by have := LS.out; simp; omega)
      generalize (s.take 502).drop 6 = sb at *
      go_wp2_with fail
      refine (build_no n sb (Or.inl HNO.out) LB.out w5).mono ?_
      rintro e _ ⟨rfl, rfl⟩
      go_wp2_with fail
      go_ret
      exact ⟨rfl, hxb ▸ HK.out.since⟩
  · have HK := Lib.hid HI.out.held
    clear HI HA
    by_cases h2 : 0 ≤ n
    · by_cases h3 : n < 281474976710656
      · by_cases hB : 1000 < b.length
        · go_wp2_with fail
          go_ret
          exact ⟨rfl, hxb ▸ HK.out.since⟩
        · have eB : decide ((1000 : Int) < (b.length : Int)) = false := by simp; omega
          by_cases h5 : b.length = 496
          · have HB5 := Lib.hid h5
            go_wp2_with fail
            refine (build_ok n b h2 (by omega) HB5.out w5 HK.out.turns).mono ?_
            rintro e wq ⟨rfl, hb⟩
            have KQ := Lib.hid (HK.out.up hb)
            have hne : (buildB n.toNat b).isEmpty = false := by rw [List.isEmpty_eq_false_iff]; exact buildB_ne _ _
            generalize buildB n.toNat b = tb at *
            clear hb
            go_wp2_with fail
            refine (body_no b (by omega) HBL.out wq).mono ?_
            rintro e _ ⟨rfl, rfl⟩
            go_wp2_with fail
            refine (lsn_no b (by omega) HBL.out wq).mono ?_
            rintro e _ ⟨rfl, rfl⟩
            go_wp2_with fail
            go_ret
            exact ⟨rfl, hxb ▸ KQ.out.since⟩
          · have e5 : ((b.length : Int) == 496) = false := by simp; omega
            by_cases h6 : b.length = 512
            · go_wp2_with fail
              refine (build_no n b (Or.inr (by omega)) HBL.out w5).mono ?_
              rintro e _ ⟨rfl, rfl⟩
              go_wp2_with fail
              go_ret
              exact ⟨rfl, hxb ▸ HK.out.since⟩
            · have e6 : ((b.length : Int) == 512) = false := by simp; omega
              go_wp2_with fail
              refine (build_no n b (Or.inr (by omega)) HBL.out w5).mono ?_
              rintro e _ ⟨rfl, rfl⟩
              go_wp2_with fail
              refine (body_no b (by omega) HBL.out w5).mono ?_
              rintro e _ ⟨rfl, rfl⟩
              go_wp2_with fail
              refine (lsn_no b (by omega) HBL.out w5).mono ?_
              rintro e _ ⟨rfl, rfl⟩
              go_wp2_with fail
              go_ret
              exact ⟨rfl, hxb ▸ HK.out.since⟩
      · by_cases hB : 1000 < b.length
        · go_wp2_with fail
          go_ret
          exact ⟨rfl, hxb ▸ HK.out.since⟩
        · have eB : decide ((1000 : Int) < (b.length : Int)) = false := by simp; omega
          by_cases h5 : b.length = 496
          · have hno : withinB n 0 281474976710655 = false := by simp [withinB]; omega
            have HNO := Lib.hid hno
            clear hno
            go_wp2_with fail
            refine (build_no n b (Or.inl HNO.out) HBL.out w5).mono ?_
            rintro e _ ⟨rfl, rfl⟩
            go_wp2_with fail
            refine (body_no b (by omega) HBL.out w5).mono ?_
            rintro e _ ⟨rfl, rfl⟩
            go_wp2_with fail
            refine (lsn_no b (by omega) HBL.out w5).mono ?_
            rintro e _ ⟨rfl, rfl⟩
            go_wp2_with fail
            go_ret
            exact ⟨rfl, hxb ▸ HK.out.since⟩
          · have e5 : ((b.length : Int) == 496) = false := by simp; omega
            by_cases h6 : b.length = 512
            · go_wp2_with fail
              refine (build_no n b (Or.inr (by omega)) HBL.out w5).mono ?_
              rintro e _ ⟨rfl, rfl⟩
              go_wp2_with fail
              go_ret
              exact ⟨rfl, hxb ▸ HK.out.since⟩
            · have e6 : ((b.length : Int) == 512) = false := by simp; omega
              go_wp2_with fail
              refine (build_no n b (Or.inr (by omega)) HBL.out w5).mono ?_
              rintro e _ ⟨rfl, rfl⟩
              go_wp2_with fail
              refine (body_no b (by omega) HBL.out w5).mono ?_
              rintro e _ ⟨rfl, rfl⟩
              go_wp2_with fail
              refine (lsn_no b (by omega) HBL.out w5).mono ?_
              rintro e _ ⟨rfl, rfl⟩
              go_wp2_with fail
              go_ret
              exact ⟨rfl, hxb ▸ HK.out.since⟩
    · by_cases hB : 1000 < b.length
      · go_wp2_with fail
        go_ret
        exact ⟨rfl, hxb ▸ HK.out.since⟩
      · have eB : decide ((1000 : Int) < (b.length : Int)) = false := by simp; omega
        by_cases h5 : b.length = 496
        · have hno : withinB n 0 281474976710655 = false := by simp [withinB]; omega
          have HNO := Lib.hid hno
          clear hno
          go_wp2_with fail
          refine (build_no n b (Or.inl HNO.out) HBL.out w5).mono ?_
          rintro e _ ⟨rfl, rfl⟩
          go_wp2_with fail
          refine (body_no b (by omega) HBL.out w5).mono ?_
          rintro e _ ⟨rfl, rfl⟩
          go_wp2_with fail
          refine (lsn_no b (by omega) HBL.out w5).mono ?_
          rintro e _ ⟨rfl, rfl⟩
          go_wp2_with fail
          go_ret
          exact ⟨rfl, hxb ▸ HK.out.since⟩
        · have e5 : ((b.length : Int) == 496) = false := by simp; omega
          by_cases h6 : b.length = 512
          · go_wp2_with fail
            refine (build_no n b (Or.inr (by omega)) HBL.out w5).mono ?_
            rintro e _ ⟨rfl, rfl⟩
            go_wp2_with fail
            go_ret
            exact ⟨rfl, hxb ▸ HK.out.since⟩
          · have e6 : ((b.length : Int) == 512) = false := by simp; omega
            go_wp2_with fail
            refine (build_no n b (Or.inr (by omega)) HBL.out w5).mono ?_
            rintro e _ ⟨rfl, rfl⟩
            go_wp2_with fail
            refine (body_no b (by omega) HBL.out w5).mono ?_
            rintro e _ ⟨rfl, rfl⟩
            go_wp2_with fail
            refine (lsn_no b (by omega) HBL.out w5).mono ?_
            rintro e _ ⟨rfl, rfl⟩
            go_wp2_with fail
            go_ret
            exact ⟨rfl, hxb ▸ HK.out.since⟩
end Go.Proofs.YtlhcfmcbfdihoaaDoor
