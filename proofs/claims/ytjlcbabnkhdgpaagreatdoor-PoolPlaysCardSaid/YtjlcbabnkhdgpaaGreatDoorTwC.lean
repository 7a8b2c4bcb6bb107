/-
  Walks: a round of writes.
-/
import Derived.Test.YtjlcbabnkhdgpaaGreatDoorTwB
import Derived.Deep.LoopGhost
namespace Go.Proofs.YtjlcbabnkhdgpaaGreatDoor
set_option linter.unusedSimpArgs false
set_option linter.unusedVariables false
open Go.RowKit Go.Maps

theorem Tw.n0le {n0 ga g m : Nat} {w : World} {a : ArM} {d : DevM} (h : Tw n0 w ga g m a d) : n0 ≤ w.heap.size := h.dv.n0le
theorem Tw.cells {n0 ga g m : Nat} {w : World} {a : ArM} {d : DevM} (h : Tw n0 w ga g m a d) : w.cell? ⟨ga, 0, none⟩ = some (.pointer (some ⟨g, 0, none⟩)) ∧ w.cell? ⟨ga, 1, none⟩ = some (.int .i64 a.sat) ∧ w.cell? ⟨ga, 2, none⟩ = some (.int .i64 a.sl) ∧ w.cell? ⟨ga, 3, none⟩ = some (.int .i64 a.fr) ∧ w.cell? ⟨ga, 4, none⟩ = some (.int .i64 a.pg) := h.ar.cells

set_option maxHeartbeats 6400000 in
set_option maxRecDepth 100000 in
theorem round_any (n0 ga g m : Nat) (a : ArM) (d : DevM) (A : Option Addr) (cap : Nat) (l : List Img) (w : World) (h : Tw n0 w ga g m a d) (hI : ImgsAt w g m A l) (hl : (l.length : Int) ≤ a.sl)
    (hx : ∀ x ∈ l, (0 ≤ x.1 ∧ x.1 < a.pg) ∧ x.2.length = 512) (hc : d.cmds < 900000000) :
    Calls Tryz.prog 97 #[.pointer (some ⟨ga, 0, none⟩), .slice A l.length cap] w fun e w' => e = .returned (.int .i64 (roundM a d l).1) ∧ Tw n0 w' ga g m a (roundM a d l).2 ∧ Kept n0 g m w w' := by
  obtain ⟨f1, f2, f3, f4, f5, f6, _⟩ := h.fits
  have hz := h.dv.size
  obtain ⟨rr, hrr⟩ : ∃ r, r = roundM a d l := ⟨_, rfl⟩
  rw [← hrr]
  have HR := Lib.hid hrr
  have HX := Lib.hid hx
  have H := Lib.hid h; have HI := Lib.hid hI
  have hsz : d.size ≤ 4096 := hz.2
  clear h hI hrr hx hz
  go_enter Tryz.func97, Tryz.ntmps97
  go_wp2_with fail
  go_loopg [16] l.length (fun gh i wr => ∃ k : Nat, k ≤ l.length ∧ gh = l.length - k ∧ i = .int .i64 k ∧ ∃ dk, runM (slotM a) d 0 (l.take k) = (0, dk) ∧ Tw n0 wr ga g m a dk ∧ ImgsAt wr g m A l ∧ Kept n0 g m w wr)
  case atStart => exact ⟨0, Nat.zero_le _, rfl, rfl, d, rfl, H.out, HI.out, Kept.refl _ _ _ _⟩
  case round =>
    clear H HI
    obtain ⟨k, hk, rfl, rfl, dk, hrun, hT, hI, hK⟩ := hrel
    by_cases hlt : k < l.length
    · have hnext := runM_next (slotM a) d dk l k hlt hrun
      have hstop := runM_stop (slotM a) d dk l k hlt hrun
      have hcm := (runM_all (slotM a) 3 (slotM_all a) d 0 (l.take k)).2
      have hlk : (l.take k).length ≤ 16 := by simp; omega
      rw [hrun] at hcm
      have hcm2 : dk.cmds < 900001000 := by dsimp only at hcm; omega
      have hsk : dk.size = d.size := by have := (runM_all (slotM a) 3 (slotM_all a) d 0 (l.take k)).1; rw [hrun] at this; exact this
      obtain ⟨b, o, rfl, hO, e0, e1⟩ := hI k hlt
      obtain ⟨x, hxx⟩ : ∃ x, x = l[k] := ⟨_, rfl⟩
      rw [← hxx] at e0 e1 hnext hstop
      have hxm := HX.out x (by rw [hxx]; exact List.getElem_mem hlt)
      obtain ⟨pn, ps⟩ := x
      dsimp only at e0 e1 hxm
      obtain ⟨⟨hp0, hp1⟩, hps⟩ := hxm
      have hn0 := hT.n0le
      have hb2 : Below wr.heap.size wr (wr.alloc (.cells #[.int .i64 pn, .string (bs ps)] 132)) := (Below.refl _ _).alloc (Nat.le_refl _) _
      have hk2 : Kept n0 g m wr _ := Kept.of_below hb2 hn0
      have hB2 := Blk.made wr #[.int .i64 pn, .string (bs ps)] 132
      have hT2 := hT.up hb2
      have hxg : wr.heap.size ≠ g ∧ wr.heap.size ≠ m := by
        obtain ⟨⟨v, kv, hD⟩, _⟩ := hT.dv
        have h1 := hD.blk.lt
        obtain ⟨es, c, hm⟩ := hD.map_
        have h2 := heap_lt hm
        omega
      have HT := Lib.hid hT2; have HI := Lib.hid (hI.kept hk2); have HK := Lib.hid (hK.trans hk2); have HB := Lib.hid hB2
      have HN := Lib.hid hnext; have HS := Lib.hid hstop
      have c1 := hT2.cells.2.1
      clear hT hI hK hb2 hk2 hB2 hT2 hrun hcm hnext hstop hxx hO
      have q0 : (k : Int) < a.sl := by omega
      have q1 : IntKind.i64.wrap (3 * (k : Int)) = 3 * (k : Int) := by rw [IntKind.wrap_i64]; omega
      have q2 : IntKind.i64.wrap (a.sat + 3 * (k : Int)) = a.sat + 3 * (k : Int) := by rw [IntKind.wrap_i64]; omega
      go_wp2_with fail
      clear e0 e1
      generalize wr.alloc (.cells #[.int .i64 pn, .string (bs ps)] 132) = w2 at *
      generalize wr.heap.size = gx at *
      refine wp_region_late 8 (fun w' => w'.cell? ⟨ga, 0, none⟩ = some (.pointer (some ⟨g, 0, none⟩)) ∧ w'.cell? ⟨gx, 0, none⟩ = some (.int .i64 pn)) (by kernel_rfl) ?_
      have bd : Below w2.heap.size w2 w2.drew := (Below.refl _ _).drew
      have hT3 := HT.out.up bd
      have hk3 : Kept n0 g m w2 w2.drew := Kept.of_below bd HT.out.n0le
      have hB3 : Blk w2.drew gx 132 #[.int .i64 pn, .string (bs ps)] := HB.out.up bd
      have hI3 := HI.out.kept hk3
      have hK3 := HK.out.trans hk3
      have hT : w2.drew.cell? ⟨ga, 0, none⟩ = some (.pointer (some ⟨g, 0, none⟩)) ∧ w2.drew.cell? ⟨gx, 0, none⟩ = some (.int .i64 pn) := ⟨hT3.cells.1, hB3.cell 0⟩
      have HT := Lib.hid hT3; have HI := Lib.hid hI3; have HK := Lib.hid hK3; have HB := Lib.hid hB3
      clear c1 bd hT3 hk3 hB3 hI3 hK3
      generalize w2.drew = w3 at *
      show wpAnyK _ _ _ _ _ 8 10 #[false,false,false,false,false,false,false,false,false,false] _ _
      refine wpAnyK_takeAny (i := 0) (oi := ⟨some 28, _, _, _, _, _⟩) (v := ?_) rfl (by kernel_rfl) (by kernel_rfl) (by kernel_rfl) (by kernel_rfl) (fun _ _ _ h => h) (Or.inl ⟨by kernel_rfl, ?_⟩) (fun _ => hT) ?_
      rotate_left
      · intro w'; go_simp; rfl
      try simp only [Act.put, List.setIfInBounds_toArray, List.set_cons_zero, List.set_cons_succ]
      refine wpAnyK_takeAny (i := 1) (oi := ⟨some 29, _, _, _, _, _⟩) (v := ?_) rfl (by kernel_rfl) (by kernel_rfl) (by kernel_rfl) (by kernel_rfl) (fun _ _ _ h => h) (Or.inl ⟨by kernel_rfl, ?_⟩) (fun _ => hT) ?_
      rotate_left
      · intro w'; go_simp; rfl
      try simp only [Act.put, List.setIfInBounds_toArray, List.set_cons_zero, List.set_cons_succ]
      refine wpAnyK_takeAny (i := 2) (oi := ⟨some 30, _, _, _, _, _⟩) (v := ?_) rfl (by kernel_rfl) (by kernel_rfl) (by kernel_rfl) (by kernel_rfl) (fun _ _ _ h => h) (Or.inl ⟨by kernel_rfl, ?_⟩) (fun _ => hT) ?_
      rotate_left
      · intro w'; go_simp; rfl
      try simp only [Act.put, List.setIfInBounds_toArray, List.set_cons_zero, List.set_cons_succ]
      refine wpAnyK_take (i := 3) (oi := ⟨some 31, _, _, _, _, _⟩) (L := [8]) (v := ?_) rfl (by kernel_rfl) (by kernel_rfl) (by kernel_rfl) (by kernel_rfl) (fun _ _ _ h => h) (Or.inl ⟨by kernel_rfl, ?_⟩) hT ?_
      rotate_left
      · rintro w' ⟨t0, t1⟩; go_simp; rfl
      try simp only [Act.put, List.setIfInBounds_toArray, List.set_cons_zero, List.set_cons_succ]
      refine wpAnyK_takeAny (i := 4) (oi := ⟨some 32, _, _, _, _, _⟩) (v := ?_) rfl (by kernel_rfl) (by kernel_rfl) (by kernel_rfl) (by kernel_rfl) (fun _ _ _ h => h) (Or.inl ⟨by kernel_rfl, ?_⟩) (fun _ => hT) ?_
      rotate_left
      · intro w'; go_simp; rfl
      try simp only [Act.put, List.setIfInBounds_toArray, List.set_cons_zero, List.set_cons_succ]
      refine wpAnyK_takeAny (i := 5) (oi := ⟨some 33, _, _, _, _, _⟩) (v := ?_) rfl (by kernel_rfl) (by kernel_rfl) (by kernel_rfl) (by kernel_rfl) (fun _ _ _ h => h) (Or.inl ⟨by kernel_rfl, ?_⟩) (fun _ => hT) ?_
      rotate_left
      · intro w'; go_simp; rfl
      try simp only [Act.put, List.setIfInBounds_toArray, List.set_cons_zero, List.set_cons_succ]
      refine wpAnyK_take (i := 6) (oi := ⟨some 34, _, _, _, _, _⟩) (L := [7, 8]) (v := ?_) rfl (by kernel_rfl) (by kernel_rfl) (by kernel_rfl) (by kernel_rfl) (fun _ _ _ h => h) (Or.inl ⟨by kernel_rfl, ?_⟩) hT ?_
      rotate_left
      · rintro w' ⟨t0, t1⟩; go_simp; rfl
      try simp only [Act.put, List.setIfInBounds_toArray, List.set_cons_zero, List.set_cons_succ]
      refine wpAnyK_ready (rs := [7]) (by kernel_rfl) (by simp) ?_
      refine AllReadyK.cons (o := ⟨some 35, _, _, _, _, _⟩) rfl (fun K hK => ?_) AllReadyK.nil
      go_simp
      refine (name_any pn hp0 (by omega) w3 HT.out.turns).mono ?_
      rintro e w4 ⟨rfl, hb4⟩
      have hT4 := HT.out.up hb4
      have hk4 : Kept n0 g m w3 w4 := Kept.of_below hb4 HT.out.n0le
      have hB4 : Blk w4 gx 132 #[.int .i64 pn, .string (bs ps)] := HB.out.up hb4
      have hI4 := HI.out.kept hk4
      have hK4 := HK.out.trans hk4
      have hT2 : w4.cell? ⟨ga, 0, none⟩ = some (.pointer (some ⟨g, 0, none⟩)) ∧ w4.cell? ⟨gx, 0, none⟩ = some (.int .i64 pn) := ⟨hT4.cells.1, hB4.cell 0⟩
      have HT := Lib.hid hT4; have HI := Lib.hid hI4; have HK := Lib.hid hK4; have HB := Lib.hid hB4
      clear hT hb4 hT4 hk4 hB4 hI4 hK4
      refine hK _ _ (fun _ => hT2) ?_
      clear hK K
      refine wpAnyK_ready (rs := [8]) (by kernel_rfl) (by simp) ?_
      refine AllReadyK.cons (o := ⟨some 36, _, _, _, _, _⟩) rfl (fun K hK => ?_) AllReadyK.nil
      go_simp
      have hwr := devwrite_any n0 g m dk (a.sat + 3 * (k : Int)) (nameB pn) w4 HT.out.dv (by omega)
      have hws := writeM_size dk (a.sat + 3 * (k : Int)) (nameB pn)
      have hwc := writeM_cmds dk (a.sat + 3 * (k : Int)) (nameB pn)
      have HSL := Lib.hid (show slotM a dk k (pn, ps) = if (writeM dk (a.sat + 3 * (k : Int)) (nameB pn)).1 ≠ 0 then writeM dk (a.sat + 3 * (k : Int)) (nameB pn) else putM (writeM dk (a.sat + 3 * (k : Int)) (nameB pn)).2 (a.sat + 3 * (k : Int) + 1) ps from rfl)
      generalize writeM dk (a.sat + 3 * (k : Int)) (nameB pn) = r1 at *
      obtain ⟨er1, d1⟩ := r1
      dsimp only at hwr hws hwc
      refine hwr.mono ?_
      rintro e w5 ⟨rfl, hD5, hk5⟩
      have HT5 := Lib.hid (HT.out.kept hD5 (hws) hk5); have HI5 := Lib.hid (HI.out.kept hk5); have HK5 := Lib.hid (HK.out.trans hk5)
      have HB5 : Hid (Blk w5 gx 132 #[.int .i64 pn, .string (bs ps)]) := Lib.hid (hk5.blk HB.out hxg.1 hxg.2 (by decide))
      clear hT2 HT HI HK HB hwr hD5 hk5
      refine hK _ _ (fun h => by cases h) ?_
      clear hK K
      refine wpAnyK_ready (rs := [9]) (by kernel_rfl) (by simp) ?_
      refine AllReadyK.cons (o := ⟨some 8, _, _, _, _, _⟩) rfl (fun K hK => ?_) AllReadyK.nil
      go_simp
      refine hK _ _ (fun h => by cases h) ?_
      clear hK K
      refine wpAnyK_done (by kernel_rfl) ?_ _
      by_cases her : er1 = 0
      · subst her
        have hpx := put_any n0 ga g m a d1 (a.sat + 3 * (k : Int) + 1) ps w5 HT5.out (by rw [hws]; omega) hps (by omega)
        have hpz := putM_size d1 (a.sat + 3 * (k : Int) + 1) ps
        have hsl : slotM a dk k (pn, ps) = putM d1 (a.sat + 3 * (k : Int) + 1) ps := by rw [HSL.out, if_neg (by simp)]
        have c1 := HB5.out.cell 1
        replace c1 : w5.cell? ⟨gx, 1, none⟩ = some (.string (bs ps)) := c1
        have q3 : IntKind.i64.wrap (a.sat + 3 * (k : Int) + 1) = a.sat + 3 * (k : Int) + 1 := by rw [IntKind.wrap_i64]; omega
        have HN := Lib.hid (hsl ▸ HN.out); have HS := Lib.hid (hsl ▸ HS.out)
        clear HSL hsl
        generalize putM d1 (a.sat + 3 * (k : Int) + 1) ps = r2 at *
        obtain ⟨er2, d2⟩ := r2
        dsimp only at hpx hpz
        go_wp2_with fail
        refine hpx.mono ?_
        rintro e w6 ⟨rfl, hT6, hk6⟩
        have HT6 := Lib.hid hT6; have HI6 := Lib.hid (HI5.out.kept hk6); have HK6 := Lib.hid (HK5.out.trans hk6)
        clear hpx hT6 hk6 HT5 HI5 HK5 HB5 c1
        by_cases her2 : er2 = 0
        · subst her2
          clear HS
          go_wp2_with fail
          go_roundg (l.length - (k + 1))
          case measure => omega
          case rel => exact ⟨k + 1, by omega, rfl, by go_num, d2, HN.out, HT6.out, HI6.out, HK6.out⟩
        · have hfin : rr = (er2, d2) := by
            rw [HR.out]
            unfold roundM
            rw [HS.out her2, if_pos her2]
          subst hfin
          clear HS HN
          go_wp2_with fail
          go_ret
          exact ⟨rfl, HT6.out, HK6.out⟩
      · have hfin : rr = (er1, d1) := by
          have e1 : slotM a dk k (pn, ps) = (er1, d1) := by rw [HSL.out, if_pos her]
          have e2 := HS.out
          rw [e1] at e2
          rw [HR.out]
          unfold roundM
          rw [e2 her, if_pos her]
        subst hfin
        clear HS HN HSL
        go_wp2_with fail
        go_ret
        exact ⟨rfl, HT5.out, HK5.out⟩
    · have hkk : k = l.length := by omega
      subst hkk
      rw [List.take_length] at hrun
      have hcm := (runM_all (slotM a) 3 (slotM_all a) d 0 l).2
      have hsk := (runM_all (slotM a) 3 (slotM_all a) d 0 l).1
      rw [hrun] at hcm hsk
      dsimp only at hcm hsk
      have hcm2 : dk.cmds < 900001000 := by omega
      have hsy := devsync_any n0 g m dk wr hT.dv (by omega)
      have hss := syncM_size dk
      have hsc := syncM_cmds dk
      have hr2 : roundM a d l = if (syncM dk).1 ≠ 0 then syncM dk else if (runM (pageM a) (syncM dk).2 0 l).1 ≠ 0 then runM (pageM a) (syncM dk).2 0 l else syncM (runM (pageM a) (syncM dk).2 0 l).2 := by
        unfold roundM
        rw [hrun, if_neg (by simp)]
      have HR := Lib.hid (HR.out.trans hr2)
      clear hr2 hrun hcm
      generalize syncM dk = r1 at *
      obtain ⟨er1, d1⟩ := r1
      dsimp only at hsy hss hsc
      have c0 := hT.cells.1
      have HT := Lib.hid hT; have HI := Lib.hid hI; have HK := Lib.hid hK
      clear hT hI hK
      go_wp2_with fail
      refine hsy.mono ?_
      rintro e w1 ⟨rfl, hD1, hk1⟩
      have HT1 := Lib.hid (HT.out.kept hD1 hss hk1); have HI1 := Lib.hid (HI.out.kept hk1); have HK1 := Lib.hid (HK.out.trans hk1)
      clear hsy HT HI HK hD1 hk1 c0
      by_cases her : er1 = 0
      · subst her
        have hR2 := HR.out
        rw [if_neg (by simp)] at hR2
        have HR := Lib.hid hR2
        clear hR2
        go_wp2_with fail
        go_loopg [60] l.length (fun gh i wr => ∃ k : Nat, k ≤ l.length ∧ gh = l.length - k ∧ i = .int .i64 k ∧ ∃ dk, runM (pageM a) d1 0 (l.take k) = (0, dk) ∧ Tw n0 wr ga g m a dk ∧ ImgsAt wr g m A l ∧ Kept n0 g m w wr)
        case atStart => exact ⟨0, Nat.zero_le _, rfl, rfl, d1, rfl, HT1.out, HI1.out, HK1.out⟩
        case round =>
          clear HT1 HI1 HK1
          obtain ⟨k, hk, rfl, rfl, dk2, hrun, hT, hI, hK⟩ := hrel
          by_cases hlt : k < l.length
          · have hnext := runM_next (pageM a) d1 dk2 l k hlt hrun
            have hstop := runM_stop (pageM a) d1 dk2 l k hlt hrun
            have hcm := (runM_all (pageM a) 2 (pageM_all a) d1 0 (l.take k)).2
            have hlk : (l.take k).length ≤ 16 := by simp; omega
            rw [hrun] at hcm
            have hcm3 : dk2.cmds < 900002000 := by dsimp only at hcm; omega
            have hsk2 : dk2.size = d.size := by have := (runM_all (pageM a) 2 (pageM_all a) d1 0 (l.take k)).1; rw [hrun] at this; exact this.trans (hss.trans hsk)
            obtain ⟨b, o, rfl, hO, e0, e1⟩ := hI k hlt
            obtain ⟨x, hxx⟩ : ∃ x, x = l[k] := ⟨_, rfl⟩
            rw [← hxx] at e0 e1 hnext hstop
            have hxm := HX.out x (by rw [hxx]; exact List.getElem_mem hlt)
            obtain ⟨pn, ps⟩ := x
            dsimp only at e0 e1 hxm
            obtain ⟨⟨hp0, hp1⟩, hps⟩ := hxm
            have hn0 := hT.n0le
            have hb2 : Below wr.heap.size wr (wr.alloc (.cells #[.int .i64 pn, .string (bs ps)] 132)) := (Below.refl _ _).alloc (Nat.le_refl _) _
            have hk2 : Kept n0 g m wr _ := Kept.of_below hb2 hn0
            have hB2 := Blk.made wr #[.int .i64 pn, .string (bs ps)] 132
            have hT2 := hT.up hb2
            have HT := Lib.hid hT2; have HI := Lib.hid (hI.kept hk2); have HK := Lib.hid (hK.trans hk2); have HB := Lib.hid hB2
            have HN := Lib.hid hnext; have HS := Lib.hid hstop
            clear hT hI hK hb2 hk2 hB2 hT2 hrun hcm hnext hstop hxx hO
            have q1 : IntKind.i64.wrap (2 * pn) = 2 * pn := by rw [IntKind.wrap_i64]; omega
            have q2 : IntKind.i64.wrap (a.fr + 2 * pn) = a.fr + 2 * pn := by rw [IntKind.wrap_i64]; omega
            go_wp2_with fail
            clear e0 e1
            generalize wr.alloc (.cells #[.int .i64 pn, .string (bs ps)] 132) = w2 at *
            generalize wr.heap.size = gx at *
            refine wp_region_late 11 (fun w' => w'.cell? ⟨ga, 3, none⟩ = some (.int .i64 a.fr) ∧ w'.cell? ⟨gx, 0, none⟩ = some (.int .i64 pn) ∧ w'.cell? ⟨gx, 1, none⟩ = some (.string (bs ps))) (by kernel_rfl) ?_
            have bd : Below w2.heap.size w2 w2.drew := (Below.refl _ _).drew
            have hT3 := HT.out.up bd
            have hk3 : Kept n0 g m w2 w2.drew := Kept.of_below bd HT.out.n0le
            have hB3 : Blk w2.drew gx 132 #[.int .i64 pn, .string (bs ps)] := HB.out.up bd
            have hI3 := HI.out.kept hk3
            have hK3 := HK.out.trans hk3
            have hT : w2.drew.cell? ⟨ga, 3, none⟩ = some (.int .i64 a.fr) ∧ w2.drew.cell? ⟨gx, 0, none⟩ = some (.int .i64 pn) ∧ w2.drew.cell? ⟨gx, 1, none⟩ = some (.string (bs ps)) := ⟨hT3.cells.2.2.2.1, hB3.cell 0, hB3.cell 1⟩
            have HT := Lib.hid hT3; have HI := Lib.hid hI3; have HK := Lib.hid hK3
            clear bd hT3 hk3 hB3 hI3 hK3 HB
            generalize w2.drew = w3 at *
            show wpAnyK _ _ _ _ _ 11 13 #[false,false,false,false,false,false,false,false,false,false,false,false,false] _ _
            refine wpAnyK_takeAny (i := 0) (oi := ⟨some 64, _, _, _, _, _⟩) (v := ?_) rfl (by kernel_rfl) (by kernel_rfl) (by kernel_rfl) (by kernel_rfl) (fun _ _ _ h => h) (Or.inl ⟨by kernel_rfl, ?_⟩) (fun _ => hT) ?_
            rotate_left
            · intro w'; go_simp; rfl
            try simp only [Act.put, List.setIfInBounds_toArray, List.set_cons_zero, List.set_cons_succ]
            refine wpAnyK_takeAny (i := 1) (oi := ⟨some 65, _, _, _, _, _⟩) (v := ?_) rfl (by kernel_rfl) (by kernel_rfl) (by kernel_rfl) (by kernel_rfl) (fun _ _ _ h => h) (Or.inl ⟨by kernel_rfl, ?_⟩) (fun _ => hT) ?_
            rotate_left
            · intro w'; go_simp; rfl
            try simp only [Act.put, List.setIfInBounds_toArray, List.set_cons_zero, List.set_cons_succ]
            refine wpAnyK_takeAny (i := 2) (oi := ⟨some 66, _, _, _, _, _⟩) (v := ?_) rfl (by kernel_rfl) (by kernel_rfl) (by kernel_rfl) (by kernel_rfl) (fun _ _ _ h => h) (Or.inl ⟨by kernel_rfl, ?_⟩) (fun _ => hT) ?_
            rotate_left
            · intro w'; go_simp; rfl
            try simp only [Act.put, List.setIfInBounds_toArray, List.set_cons_zero, List.set_cons_succ]
            refine wpAnyK_takeAny (i := 3) (oi := ⟨some 67, _, _, _, _, _⟩) (v := ?_) rfl (by kernel_rfl) (by kernel_rfl) (by kernel_rfl) (by kernel_rfl) (fun _ _ _ h => h) (Or.inl ⟨by kernel_rfl, ?_⟩) (fun _ => hT) ?_
            rotate_left
            · intro w'; go_simp; rfl
            try simp only [Act.put, List.setIfInBounds_toArray, List.set_cons_zero, List.set_cons_succ]
            refine wpAnyK_take (i := 4) (oi := ⟨some 68, _, _, _, _, _⟩) (L := [8, 11]) (v := ?_) rfl (by kernel_rfl) (by kernel_rfl) (by kernel_rfl) (by kernel_rfl) (fun _ _ _ h => h) (Or.inl ⟨by kernel_rfl, ?_⟩) hT ?_
            rotate_left
            · rintro w' ⟨t0, t1, t2⟩; go_simp; rfl
            try simp only [Act.put, List.setIfInBounds_toArray, List.set_cons_zero, List.set_cons_succ]
            refine wpAnyK_takeAny (i := 5) (oi := ⟨some 69, _, _, _, _, _⟩) (v := ?_) rfl (by kernel_rfl) (by kernel_rfl) (by kernel_rfl) (by kernel_rfl) (fun _ _ _ h => h) (Or.inl ⟨by kernel_rfl, ?_⟩) (fun _ => hT) ?_
            rotate_left
            · intro w'; go_simp; rfl
            try simp only [Act.put, List.setIfInBounds_toArray, List.set_cons_zero, List.set_cons_succ]
            refine wpAnyK_take (i := 6) (oi := ⟨some 70, _, _, _, _, _⟩) (L := [7, 8, 11]) (v := ?_) rfl (by kernel_rfl) (by kernel_rfl) (by kernel_rfl) (by kernel_rfl) (fun _ _ _ h => h) (Or.inl ⟨by kernel_rfl, ?_⟩) hT ?_
            rotate_left
            · rintro w' ⟨t0, t1, t2⟩; go_simp; rfl
            try simp only [Act.put, List.setIfInBounds_toArray, List.set_cons_zero, List.set_cons_succ]
            refine wpAnyK_takeAny (i := 7) (oi := ⟨some 71, _, _, _, _, _⟩) (v := ?_) rfl (by kernel_rfl) (by kernel_rfl) (by kernel_rfl) (by kernel_rfl) (fun _ _ _ h => h) (Or.inl ⟨by kernel_rfl, ?_⟩) (fun _ => hT) ?_
            rotate_left
            · intro w'; go_simp; rfl
            try simp only [Act.put, List.setIfInBounds_toArray, List.set_cons_zero, List.set_cons_succ]
            refine wpAnyK_takeAny (i := 8) (oi := ⟨some 72, _, _, _, _, _⟩) (v := ?_) rfl (by kernel_rfl) (by kernel_rfl) (by kernel_rfl) (by kernel_rfl) (fun _ _ _ h => h) (Or.inl ⟨by kernel_rfl, ?_⟩) (fun _ => hT) ?_
            rotate_left
            · intro w'; go_simp; rfl
            try simp only [Act.put, List.setIfInBounds_toArray, List.set_cons_zero, List.set_cons_succ]
            refine wpAnyK_takeAny (i := 9) (oi := ⟨some 73, _, _, _, _, _⟩) (v := ?_) rfl (by kernel_rfl) (by kernel_rfl) (by kernel_rfl) (by kernel_rfl) (fun _ _ _ h => h) (Or.inl ⟨by kernel_rfl, ?_⟩) (fun _ => hT) ?_
            rotate_left
            · intro w'; go_simp; rfl
            try simp only [Act.put, List.setIfInBounds_toArray, List.set_cons_zero, List.set_cons_succ]
            refine wpAnyK_take (i := 10) (oi := ⟨some 74, _, _, _, _, _⟩) (L := [11]) (v := ?_) rfl (by kernel_rfl) (by kernel_rfl) (by kernel_rfl) (by kernel_rfl) (fun _ _ _ h => h) (Or.inl ⟨by kernel_rfl, ?_⟩) hT ?_
            rotate_left
            · rintro w' ⟨t0, t1, t2⟩; go_simp; rfl
            try simp only [Act.put, List.setIfInBounds_toArray, List.set_cons_zero, List.set_cons_succ]
            refine wpAnyK_ready (rs := [11]) (by kernel_rfl) (by simp) ?_
            refine AllReadyK.cons (o := ⟨some 75, _, _, _, _, _⟩) rfl (fun K hK => ?_) AllReadyK.nil
            go_simp
            have hpx := put_any n0 ga g m a dk2 (a.fr + 2 * pn) ps w3 HT.out (by omega) hps (by omega)
            have hpz := putM_size dk2 (a.fr + 2 * pn) ps
            have HSL := Lib.hid (show pageM a dk2 k (pn, ps) = putM dk2 (a.fr + 2 * pn) ps from rfl)
            generalize putM dk2 (a.fr + 2 * pn) ps = r2 at *
            obtain ⟨er2, d2⟩ := r2
            dsimp only at hpx hpz
            refine hpx.mono ?_
            rintro e w4 ⟨rfl, hT4, hk4⟩
            have HT4 := Lib.hid hT4; have HI4 := Lib.hid (HI.out.kept hk4); have HK4 := Lib.hid (HK.out.trans hk4)
            clear hT HT HI HK hpx hT4 hk4
            refine hK _ _ (fun h => by cases h) ?_
            clear hK K
            refine wpAnyK_ready (rs := [12]) (by kernel_rfl) (by simp) ?_
            refine AllReadyK.cons (o := ⟨some 13, _, _, _, _, _⟩) rfl (fun K hK => ?_) AllReadyK.nil
            go_simp
            refine hK _ _ (fun h => by cases h) ?_
            clear hK K
            refine wpAnyK_done (by kernel_rfl) ?_ _
            have HN := Lib.hid (HN.out.trans HSL.out)
            have HS := Lib.hid (fun he => (HS.out (by rw [HSL.out]; exact he)).trans HSL.out)
            clear HSL
            by_cases her2 : er2 = 0
            · subst her2
              clear HS
              go_wp2_with fail
              go_roundg (l.length - (k + 1))
              case measure => omega
              case rel => exact ⟨k + 1, by omega, rfl, by go_num, d2, HN.out, HT4.out, HI4.out, HK4.out⟩
            · have hfin : rr = (er2, d2) := by
                rw [HR.out, HS.out her2, if_pos her2]
              subst hfin
              clear HS HN HR
              go_wp2_with fail
              go_ret
              exact ⟨rfl, HT4.out, HK4.out⟩
          · have hkk : k = l.length := by omega
            subst hkk
            rw [List.take_length] at hrun
            have hcm := (runM_all (pageM a) 2 (pageM_all a) d1 0 l).2
            have hsk2 := (runM_all (pageM a) 2 (pageM_all a) d1 0 l).1
            rw [hrun] at hcm hsk2
            dsimp only at hcm hsk2
            have hsy := devsync_any n0 g m dk2 wr hT.dv (by omega)
            have hss2 := syncM_size dk2
            have hfin : rr = syncM dk2 := by rw [HR.out, hrun, if_neg (by simp)]
            rw [← hfin] at hsy hss2
            have c0 := hT.cells.1
            have HT := Lib.hid hT; have HK := Lib.hid hK
            clear hT hI hK HR hfin hrun
            go_wp2_with fail
            refine hsy.mono ?_
            rintro e w2 ⟨rfl, hD2, hk2⟩
            have HT2 := Lib.hid (HT.out.kept hD2 hss2 hk2); have HK2 := Lib.hid (HK.out.trans hk2)
            clear hsy HT HK hD2 hk2 c0
            go_wp2_with fail
            go_ret
            exact ⟨rfl, HT2.out, HK2.out⟩
      · have hfin : rr = (er1, d1) := by rw [HR.out, if_pos her]
        subst hfin
        clear HR
        go_wp2_with fail
        go_ret
        exact ⟨rfl, HT1.out, HK1.out⟩
end Go.Proofs.YtjlcbabnkhdgpaaGreatDoor
