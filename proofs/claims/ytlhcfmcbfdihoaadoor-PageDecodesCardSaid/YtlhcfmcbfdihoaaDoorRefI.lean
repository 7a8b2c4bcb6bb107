/-
  Walks: the document's answer for layer 5: Decode, whole bytes.
-/
import Derived.Test.YtlhcfmcbfdihoaaDoorRefH
import Derived.Deep.RegionHeld3
namespace Go.Proofs.YtlhcfmcbfdihoaaDoor
set_option linter.unusedSimpArgs false
set_option linter.unusedVariables false
open Go.RowKit

theorem byteAt_bs (l : List UInt8) (i : Nat) (h : i < (bs l).size) : (((bs l)[i]'h).toNat : Int) = (byteAt l i : Int) := by
  have : i < l.length := by simpa using h
  simp [bs_get, byteAt, List.getD, this]

theorem byteAt_drop (l : List UInt8) (a i : Nat) (h : a + i < 502) : byteAt ((l.take 502).drop a) i = byteAt l (a + i) := by
  unfold byteAt
  simp only [List.getD, List.getElem?_drop, List.getElem?_take, if_pos h]

theorem slice_eq (l : List UInt8) (a c k : Nat) (h : a + c + k ≤ 502) : (((l.take 502).drop a).drop c).take k = (l.take (a + c + k)).drop (a + c) := by
  rw [List.drop_drop, List.take_drop, List.take_take, Nat.min_eq_left (by omega)]
theorem index_at (l : List UInt8) (i : Nat) (z : Int) (hz : z = i) (hi : i < l.length) (W : World) : (Instr.index 9 (.string (bs l)) (.int .i64 z)).run Tryd.prog W = .ok (.int .u8 (byteAt l i : Int)) W := by
  subst hz
  have h : 0 ≤ (i : Int) ∧ (i : Int) < ((bs l).size : Int) := by simp; omega
  rw [run_index_string W 9 (bs l) .i64 (i : Int) Tryd.underlying9, dif_pos h]
  have := byteAt_bs l i (by simp; omega)
  rw [← this]
  rfl

set_option maxHeartbeats 6400000 in
set_option maxRecDepth 100000 in
theorem refdecode_whole (l : List UInt8) (hl : l.length = 512) (hz : noughtsB l = false) (hw : (sealedB l && twiceB l) = true) (w : World) :
    Calls Tryd.prog 20 #[.string (bs l)] w (DecWhole l w) := by
  obtain ⟨POST, hPOST⟩ : ∃ P : Ending → World → Prop, P = DecWhole l w := ⟨_, rfl⟩
  have HP := Lib.hid hPOST
  rw [← hPOST]
  clear hPOST
  have hn := refnothing_any l (by omega)
  rw [hz] at hn
  have HN := Lib.hid hn
  have hwh := refwhole_any l hl
  rw [hw] at hwh
  have HW := Lib.hid hwh
  have HB : Below w.heap.size w (w.alloc (.cells zCells 32)) := (Below.refl _ _).alloc (Nat.le_refl _) _
  clear hn hz hwh hw
  go_enter Tryd.func20, Tryd.ntmps20
  go_wp2_with fail
  refine (HN.out _).mono ?_
  rintro e w1 ⟨rfl, rfl⟩
  go_wp2_with fail
  refine (HW.out _).mono ?_
  rintro e w2 ⟨rfl, hb2⟩
  have hx := (Blk.made w zCells 32).up hb2
  have hB2 : Below w.heap.size w w2 := HB.trans (hb2.mono (by simp))
  have HX := Lib.hid hx
  clear hx hb2 HB HN HW
  generalize hrb : w.heap.size = rb at *
  obtain ⟨lsn, hlsn⟩ : ∃ x, x = getB (l.take 6) := ⟨_, rfl⟩
  obtain ⟨kind, hkind⟩ : ∃ x, x = byteAt l 6 := ⟨_, rfl⟩
  obtain ⟨level, hlevel⟩ : ∃ x, x = byteAt l 7 := ⟨_, rfl⟩
  obtain ⟨right, hright⟩ : ∃ x, x = getB ((l.take 10).drop 8) := ⟨_, rfl⟩
  have e6 : (((bs l)[6]'(by simp; omega)).toNat : Int) = (kind : Int) := by rw [hkind, byteAt_bs]
  have e7 : (((bs l)[7]'(by simp; omega)).toNat : Int) = (level : Int) := by rw [hlevel, byteAt_bs]
  have hlk : kind < 256 := by rw [hkind]; exact byteAt_lt _ _
  have hlv : level < 256 := by rw [hlevel]; exact byteAt_lt _ _
  have HLSN := Lib.hid hlsn; have HKIND := Lib.hid hkind; have HLEVEL := Lib.hid hlevel; have HRIGHT := Lib.hid hright
  clear hlsn hkind hlevel hright
  go_upto_region 9 with fail
  go_cut [4] (fun s4 wx => ∃ pb, s4 = .pointer (some ⟨pb, 0, none⟩) ∧ RInv w rb pb ⟨lsn, kind, level, right, [], []⟩ wx)
  case first =>
    refine wp_region_late 14 (fun _ => True) (by kernel_rfl) ?_
    have hR := RInv.start (w0 := w) (w := w2.drew) (rb := rb) (by rw [hrb]; exact hB2.drew) (by omega) HX.out lsn kind level right
    have HR := Lib.hid hR
    have wk : IntKind.i64.wrap (kind : Int) = (kind : Int) := by rw [IntKind.wrap_i64]; omega
    have wv : IntKind.i64.wrap (level : Int) = (level : Int) := by rw [IntKind.wrap_i64]; omega
    have G6 := Lib.hid (show (l.take 6).length ≤ 7 by simp; omega)
    have G8 := Lib.hid (show ((l.take 10).drop 8).length ≤ 7 by simp; omega)
    clear hR hB2 HX
    show wpAnyK _ _ _ _ _ 14 15 #[false,false,false,false,false,false,false,false,false,false,false,false,false,false,false] _ _
    refine wpAnyK_takeAny (i := 0) (oi := ⟨some 27, _, _, _, _, _⟩) (v := ?_) rfl (by kernel_rfl) (by kernel_rfl) (by kernel_rfl) (by kernel_rfl) (fun _ _ _ h => h) (Or.inl ⟨by kernel_rfl, ?_⟩) (fun _ => trivial) ?_
    rotate_left
    · intro w'; go_simp; rfl
    try simp only [Act.put, List.setIfInBounds_toArray, List.set_cons_zero, List.set_cons_succ]
    refine wpAnyK_takeAny (i := 1) (oi := ⟨some 28, _, _, _, _, _⟩) (v := ?_) rfl (by kernel_rfl) (by kernel_rfl) (by kernel_rfl) (by kernel_rfl) (fun _ _ _ h => h) (Or.inl ⟨by kernel_rfl, ?_⟩) (fun _ => trivial) ?_
    rotate_left
    · intro w'; go_simp; rfl
    try simp only [Act.put, List.setIfInBounds_toArray, List.set_cons_zero, List.set_cons_succ]
    refine wpAnyK_takeAny (i := 3) (oi := ⟨some 30, _, _, _, _, _⟩) (v := ?_) rfl (by kernel_rfl) (by kernel_rfl) (by kernel_rfl) (by kernel_rfl) (fun _ _ _ h => h) (Or.inl ⟨by kernel_rfl, ?_⟩) (fun _ => trivial) ?_
    rotate_left
    · intro w'; go_simp; rfl
    try simp only [Act.put, List.setIfInBounds_toArray, List.set_cons_zero, List.set_cons_succ]
    refine wpAnyK_takeAny (i := 4) (oi := ⟨some 31, _, _, _, _, _⟩) (v := ?_) rfl (by kernel_rfl) (by kernel_rfl) (by kernel_rfl) (by kernel_rfl) (fun _ _ _ h => h) (Or.inl ⟨by kernel_rfl, ?_⟩) (fun _ => trivial) ?_
    rotate_left
    · intro w'; go_simp; rfl
    try simp only [Act.put, List.setIfInBounds_toArray, List.set_cons_zero, List.set_cons_succ]
    refine wpAnyK_takeAny (i := 5) (oi := ⟨some 32, _, _, _, _, _⟩) (v := ?_) rfl (by kernel_rfl) (by kernel_rfl) (by kernel_rfl) (by kernel_rfl) (fun _ _ _ h => h) (Or.inl ⟨by kernel_rfl, ?_⟩) (fun _ => trivial) ?_
    rotate_left
    · intro w'; go_simp; rfl
    try simp only [Act.put, List.setIfInBounds_toArray, List.set_cons_zero, List.set_cons_succ]
    refine wpAnyK_takeAny (i := 6) (oi := ⟨some 33, _, _, _, _, _⟩) (v := ?_) rfl (by kernel_rfl) (by kernel_rfl) (by kernel_rfl) (by kernel_rfl) (fun _ _ _ h => h) (Or.inl ⟨by kernel_rfl, ?_⟩) (fun _ => trivial) ?_
    rotate_left
    · intro w'; go_simp; rfl
    try simp only [Act.put, List.setIfInBounds_toArray, List.set_cons_zero, List.set_cons_succ]
    refine wpAnyK_takeAny (i := 7) (oi := ⟨some 34, _, _, _, _, _⟩) (v := ?_) rfl (by kernel_rfl) (by kernel_rfl) (by kernel_rfl) (by kernel_rfl) (fun _ _ _ h => h) (Or.inl ⟨by kernel_rfl, ?_⟩) (fun _ => trivial) ?_
    rotate_left
    · intro w'; go_simp; rfl
    try simp only [Act.put, List.setIfInBounds_toArray, List.set_cons_zero, List.set_cons_succ]
    refine wpAnyK_takeAny (i := 8) (oi := ⟨some 35, _, _, _, _, _⟩) (v := ?_) rfl (by kernel_rfl) (by kernel_rfl) (by kernel_rfl) (by kernel_rfl) (fun _ _ _ h => h) (Or.inl ⟨by kernel_rfl, ?_⟩) (fun _ => trivial) ?_
    rotate_left
    · intro w'; go_simp; rfl
    try simp only [Act.put, List.setIfInBounds_toArray, List.set_cons_zero, List.set_cons_succ]
    refine wpAnyK_takeAny (i := 9) (oi := ⟨some 36, _, _, _, _, _⟩) (v := ?_) rfl (by kernel_rfl) (by kernel_rfl) (by kernel_rfl) (by kernel_rfl) (fun _ _ _ h => h) (Or.inl ⟨by kernel_rfl, ?_⟩) (fun _ => trivial) ?_
    rotate_left
    · intro w'; go_simp; rfl
    try simp only [Act.put, List.setIfInBounds_toArray, List.set_cons_zero, List.set_cons_succ]
    refine wpAnyK_takeAny (i := 10) (oi := ⟨some 37, _, _, _, _, _⟩) (v := ?_) rfl (by kernel_rfl) (by kernel_rfl) (by kernel_rfl) (by kernel_rfl) (fun _ _ _ h => h) (Or.inl ⟨by kernel_rfl, ?_⟩) (fun _ => trivial) ?_
    rotate_left
    · intro w'; go_simp; rfl
    try simp only [Act.put, List.setIfInBounds_toArray, List.set_cons_zero, List.set_cons_succ]
    generalize hw3 : w2.drew = w3 at *
    refine wpAnyK_ready (rs := [2, 13]) (by kernel_rfl) (by simp) ?_
    refine AllReadyK.cons (o := ⟨some 29, _, _, _, _, _⟩) rfl (fun K hK => ?_) (AllReadyK.cons (o := ⟨some 4, _, _, _, _, _⟩) rfl (fun K hK => ?_) AllReadyK.nil)
    · go_simp
      refine (refget_any _ G6.out w3).mono ?_
      rintro e wq ⟨rfl, hq⟩
      have hq2 := hq.symm
      clear hq
      subst hq2
      rw [← HLSN.out]
      refine hK _ _ (fun _ => trivial) ?_
      clear hK K
      refine wpAnyK_ready (rs := [11, 13]) (by kernel_rfl) (by simp) ?_
      refine AllReadyK.cons (o := ⟨some 38, _, _, _, _, _⟩) rfl (fun K hK => ?_) (AllReadyK.cons (o := ⟨some 4, _, _, _, _, _⟩) rfl (fun K hK => ?_) AllReadyK.nil)
      · go_simp
        refine (refget_any _ G8.out w3).mono ?_
        rintro e wq ⟨rfl, hq⟩
        have hq2 := hq.symm
        clear hq
        subst hq2
        rw [← HRIGHT.out]
        refine hK _ _ (fun _ => trivial) ?_
        clear hK K
        refine wpAnyK_takeAny (i := 12) (oi := ⟨some 39, _, _, _, _, _⟩) (v := ?_) rfl (by kernel_rfl) (by kernel_rfl) (by kernel_rfl) (by kernel_rfl) (fun _ _ _ h => h) (Or.inl ⟨by kernel_rfl, ?_⟩) (fun _ => trivial) ?_
        rotate_left
        · intro w'; go_simp; rfl
        try simp only [Act.put, List.setIfInBounds_toArray, List.set_cons_zero, List.set_cons_succ]
        refine wpAnyK_ready (rs := [13]) (by kernel_rfl) (by simp) ?_
        refine AllReadyK.cons (o := ⟨some 4, _, _, _, _, _⟩) rfl (fun K hK => ?_) AllReadyK.nil
        go_simp
        refine hK _ _ (fun _ => trivial) ?_
        clear hK K
        refine wpAnyK_ready (rs := [14]) (by kernel_rfl) (by simp) ?_
        refine AllReadyK.cons (o := ⟨none, _, _, _, _, _⟩) rfl (fun K hK => ?_) AllReadyK.nil
        go_simp
        refine hK _ _ (fun h => by cases h) ?_
        clear hK K
        refine wpAnyK_done (by kernel_rfl) ?_ _
        go_wp2_with fail
        go_meet
        case rel => exact ⟨_, rfl, HR.out⟩
      · go_simp
        refine hK _ _ (fun _ => trivial) ?_
        clear hK K
        refine wpAnyK_ready (rs := [11]) (by kernel_rfl) (by simp) ?_
        refine AllReadyK.cons (o := ⟨some 38, _, _, _, _, _⟩) rfl (fun K hK => ?_) AllReadyK.nil
        go_simp
        refine (refget_any _ G8.out (w3.alloc (.cells #[.int .i64 0, .int .i64 0, .int .i64 0, .int .i64 0, .string ⟨#[]⟩, .slice none 0 0] 32))).mono ?_
        rintro e wq ⟨rfl, hq⟩
        have hq2 := hq.symm
        clear hq
        subst hq2
        rw [← HRIGHT.out]
        refine hK _ _ (fun _ => trivial) ?_
        clear hK K
        refine wpAnyK_takeAny (i := 12) (oi := ⟨some 39, _, _, _, _, _⟩) (v := ?_) rfl (by kernel_rfl) (by kernel_rfl) (by kernel_rfl) (by kernel_rfl) (fun _ _ _ h => h) (Or.inl ⟨by kernel_rfl, ?_⟩) (fun _ => trivial) ?_
        rotate_left
        · intro w'; go_simp; rfl
        try simp only [Act.put, List.setIfInBounds_toArray, List.set_cons_zero, List.set_cons_succ]
        refine wpAnyK_ready (rs := [14]) (by kernel_rfl) (by simp) ?_
        refine AllReadyK.cons (o := ⟨none, _, _, _, _, _⟩) rfl (fun K hK => ?_) AllReadyK.nil
        go_simp
        refine hK _ _ (fun h => by cases h) ?_
        clear hK K
        refine wpAnyK_done (by kernel_rfl) ?_ _
        go_wp2_with fail
        go_meet
        case rel => exact ⟨_, rfl, HR.out⟩
    · go_simp
      refine hK _ _ (fun _ => trivial) ?_
      clear hK K
      refine wpAnyK_ready (rs := [2]) (by kernel_rfl) (by simp) ?_
      refine AllReadyK.cons (o := ⟨some 29, _, _, _, _, _⟩) rfl (fun K hK => ?_) AllReadyK.nil
      go_simp
      refine (refget_any _ G6.out (w3.alloc (.cells #[.int .i64 0, .int .i64 0, .int .i64 0, .int .i64 0, .string ⟨#[]⟩, .slice none 0 0] 32))).mono ?_
      rintro e wq ⟨rfl, hq⟩
      have hq2 := hq.symm
      clear hq
      subst hq2
      rw [← HLSN.out]
      refine hK _ _ (fun _ => trivial) ?_
      clear hK K
      refine wpAnyK_ready (rs := [11]) (by kernel_rfl) (by simp) ?_
      refine AllReadyK.cons (o := ⟨some 38, _, _, _, _, _⟩) rfl (fun K hK => ?_) AllReadyK.nil
      go_simp
      refine (refget_any _ G8.out (w3.alloc (.cells #[.int .i64 0, .int .i64 0, .int .i64 0, .int .i64 0, .string ⟨#[]⟩, .slice none 0 0] 32))).mono ?_
      rintro e wq ⟨rfl, hq⟩
      have hq2 := hq.symm
      clear hq
      subst hq2
      rw [← HRIGHT.out]
      refine hK _ _ (fun _ => trivial) ?_
      clear hK K
      refine wpAnyK_takeAny (i := 12) (oi := ⟨some 39, _, _, _, _, _⟩) (v := ?_) rfl (by kernel_rfl) (by kernel_rfl) (by kernel_rfl) (by kernel_rfl) (fun _ _ _ h => h) (Or.inl ⟨by kernel_rfl, ?_⟩) (fun _ => trivial) ?_
      rotate_left
      · intro w'; go_simp; rfl
      try simp only [Act.put, List.setIfInBounds_toArray, List.set_cons_zero, List.set_cons_succ]
      refine wpAnyK_ready (rs := [14]) (by kernel_rfl) (by simp) ?_
      refine AllReadyK.cons (o := ⟨none, _, _, _, _, _⟩) rfl (fun K hK => ?_) AllReadyK.nil
      go_simp
      refine hK _ _ (fun h => by cases h) ?_
      clear hK K
      refine wpAnyK_done (by kernel_rfl) ?_ _
      go_wp2_with fail
      go_meet
      case rel => exact ⟨_, rfl, HR.out⟩
  case rest =>
    obtain ⟨pb, rfl, hR⟩ := hcut
    clear HX hB2 e6 e7
    obtain ⟨n, hn⟩ : ∃ x, x = getB ((l.take 13).drop 11) := ⟨_, rfl⟩
    obtain ⟨hl10, hh⟩ : ∃ x, x = byteAt l 10 := ⟨_, rfl⟩
    have e10 : (((bs l)[10]'(by simp; omega)).toNat : Int) = (hl10 : Int) := by rw [hh, byteAt_bs]
    have hlh : hl10 < 256 := by rw [hh]; exact byteAt_lt _ _
    have hnl : n < 65536 := by
      rw [hn]
      have h1 := getB_lt ((l.take 13).drop 11)
      have h2 : ((l.take 13).drop 11).length = 2 := by simp; omega
      rw [h2] at h1
      exact h1
    have wk : IntKind.i64.wrap (hl10 : Int) = (hl10 : Int) := by rw [IntKind.wrap_i64]; omega
    have G11 := Lib.hid (show ((l.take 13).drop 11).length ≤ 7 by simp; omega)
    have HN := Lib.hid hn; have HH := Lib.hid hh
    have HR := Lib.hid hR
    clear hn hh hR
    go_wp2_with fail
    refine (refget_any _ G11.out wc).mono ?_
    rintro e wq ⟨rfl, hq⟩
    have hq2 := hq.symm
    clear hq
    subst hq2
    rw [← HN.out]
    have hbig : ¬ 502 < 13 + hl10 := by omega
    obtain ⟨high, hhi⟩ : ∃ x, x = (l.drop 13).take hl10 := ⟨_, rfl⟩
    have hsl : (l.take (13 + hl10)).drop 13 = high := by rw [hhi, List.drop_take]; congr 1; omega
    have HHI := Lib.hid hhi
    have hhl : high.length = hl10 := by rw [hhi, List.length_take, List.length_drop]; omega
    obtain ⟨v, hv, _⟩ := HR.out.page
    obtain ⟨⟨_, _, _, _, g4, _⟩, _, _, _, _, gf4, _⟩ := hv.six_cells
    have hR4 := HR.out.set4 high
    have HR4 := Lib.hid hR4
    clear hv HR hR4 hhi
    go_wp2_with fail
    clear e10 wk hlk hlv hlh g4 gf4 hhl hsl
    go_loopg [5, 7] n (fun g a i wr => ∃ (k at_ : Nat) (acc : List Ent), k ≤ n ∧ g = n - k ∧ i = .int .i64 k ∧ a = .int .i64 at_ ∧ at_ ≤ 502 ∧ acc.length ≤ k ∧ RInv w rb pb ⟨lsn, kind, level, right, high, acc⟩ wr ∧
      Hid (SmallE acc ∧ rcutEnts (n - k) ((l.take 502).drop at_) acc = rcutEnts n ((l.take 502).drop (13 + hl10)) []))
    case atStart => exact ⟨0, 13 + hl10, [], Nat.zero_le _, rfl, rfl, by go_num, by omega, Nat.le_refl _, HR4.out, ⟨⟨by simp, by simp⟩, rfl⟩⟩
    case round =>
      clear HR4
      obtain ⟨k, at_, acc, hk, rfl, rfl, rfl, hat, hacc, hR, hrun⟩ := hrel
      have HR := Lib.hid hR
      clear hR
      by_cases hlt : k < n
      · have hrl : ((l.take 502).drop at_).length = 502 - at_ := by simp; omega
        have hstep : Hid (rcutEnts (n - k) ((l.take 502).drop at_) acc = if ((l.take 502).drop at_).length < 3 ∨ ((l.take 502).drop at_).length < 3 + byteAt ((l.take 502).drop at_) 1 + byteAt ((l.take 502).drop at_) 2 then none else rcutEnts (n - (k + 1)) (((l.take 502).drop at_).drop (3 + byteAt ((l.take 502).drop at_) 1 + byteAt ((l.take 502).drop at_) 2)) (acc ++ [rEnt ((l.take 502).drop at_)])) := by
          apply Lib.hid
          rw [show n - k = (n - (k + 1)) + 1 by omega, rcutEnts]
        by_cases h3 : 502 < at_ + 3
        · have hno : decB l = none := by
            have hs := hstep.out
            rw [if_pos (by rw [hrl]; omega), hrun.out.2] at hs
            rw [rcut_dec]
            have : rcut l = none := by unfold rcut; rw [← HH.out, if_neg hbig, ← HN.out, hs]
            rw [this]
          have d3 : decide ((502 : Int) < (at_ : Int) + 3) = true := by simp; omega
          have hg := HR.out.ge
          have hO := HR.out.old
          have hx := HR.out.res
          obtain ⟨⟨c0, c1, c2, c3, c4, c5⟩, f0, f1, f2, f3, f4, f5⟩ := hx.six_cells
          have HX := Lib.hid hx; have HO := Lib.hid hO
          clear hx hO HR hrun
          go_wp2_with fail
          go_quiet (fail)
          go_wp2_with fail
          have hf := fun q => (HX.out.up (below_drewN (Below.refl _ _) q)).six (.int .i64 0) (.int .i64 0) (.int .i64 0) (.int .i64 0) (.string ⟨#[]⟩) (.slice none 0 0)
          refine bodyPost_ret (v := .tuple #[.agg #[.int .i64 0, .int .i64 0, .int .i64 0, .int .i64 0, .string ⟨#[]⟩, .slice none 0 0], .int .i64 2]) (refdecode_results _ _ _ _ rfl rfl (hf _)) rfl ?_
          rw [HP.out]
          exact DecWhole.no hno (DecOk.six (below_drewN HO.out _) _ (by omega))
        · obtain ⟨kl, hkl⟩ : ∃ x, x = byteAt l (at_ + 1) := ⟨_, rfl⟩
          obtain ⟨vl, hvl⟩ : ∃ x, x = byteAt l (at_ + 2) := ⟨_, rfl⟩
          have i1 : at_ + 1 < (bs l).size := by simp; omega
          have i2 : at_ + 2 < (bs l).size := by simp; omega
          have x1 : (((bs l)[at_ + 1]'i1).toNat : Int) = (kl : Int) := by rw [hkl, byteAt_bs]
          have x2 : (((bs l)[at_ + 2]'i2).toNat : Int) = (vl : Int) := by rw [hvl, byteAt_bs]
          have hkb : kl < 256 := by rw [hkl]; exact byteAt_lt _ _
          have hvb : vl < 256 := by rw [hvl]; exact byteAt_lt _ _
          have b1 : byteAt ((l.take 502).drop at_) 1 = kl := by rw [hkl]; exact byteAt_drop l at_ 1 (by omega)
          have b2 : byteAt ((l.take 502).drop at_) 2 = vl := by rw [hvl]; exact byteAt_drop l at_ 2 (by omega)
          have wkl : IntKind.i64.wrap (kl : Int) = (kl : Int) := by rw [IntKind.wrap_i64]; omega
          have wvl : IntKind.i64.wrap (vl : Int) = (vl : Int) := by rw [IntKind.wrap_i64]; omega
          have w1 : IntKind.i64.wrap ((at_ : Int) + 1) = (at_ : Int) + 1 := by rw [IntKind.wrap_i64]; omega
          have w2' : IntKind.i64.wrap ((at_ : Int) + 2) = (at_ : Int) + 2 := by rw [IntKind.wrap_i64]; omega
          have w3 : IntKind.i64.wrap ((at_ : Int) + 3) = (at_ : Int) + 3 := by rw [IntKind.wrap_i64]; omega
          have w4 : IntKind.i64.wrap ((at_ : Int) + 3 + (kl : Int)) = (at_ : Int) + 3 + (kl : Int) := by rw [IntKind.wrap_i64]; omega
          have w5 : IntKind.i64.wrap ((at_ : Int) + 3 + (kl : Int) + (vl : Int)) = (at_ : Int) + 3 + (kl : Int) + (vl : Int) := by rw [IntKind.wrap_i64]; omega
          have p1 : (0 : Int) ≤ (at_ : Int) + 1 ∧ (at_ : Int) + 1 < 512 := by omega
          have p2 : (0 : Int) ≤ (at_ : Int) + 2 ∧ (at_ : Int) + 2 < 512 := by omega
          have ix1 : ∀ W, (Instr.index 9 (.string (bs l)) (.int .i64 ((at_ : Int) + 1))).run Tryd.prog W = .ok (.int .u8 (kl : Int)) W := fun W => by rw [hkl]; exact index_at l (at_ + 1) _ (by omega) (by omega) W
          have ix2 : ∀ W, (Instr.index 9 (.string (bs l)) (.int .i64 ((at_ : Int) + 2))).run Tryd.prog W = .ok (.int .u8 (vl : Int)) W := fun W => by rw [hvl]; exact index_at l (at_ + 2) _ (by omega) (by omega) W
          have d3 : decide ((502 : Int) < (at_ : Int) + 3) = false := by simp; omega
          by_cases h4 : 502 < at_ + 3 + kl + vl
          · have hno : decB l = none := by
              have hs := hstep.out
              rw [if_pos (by rw [hrl, b1, b2]; omega), hrun.out.2] at hs
              rw [rcut_dec]
              have : rcut l = none := by unfold rcut; rw [← HH.out, if_neg hbig, ← HN.out, hs]
              rw [this]
            have d4 : decide ((502 : Int) < (at_ : Int) + 3 + (kl : Int) + (vl : Int)) = true := by simp; omega
            clear hstep b1 b2 hkl hvl hrl h3 h4
            have hg := HR.out.ge
            have hO := HR.out.old
            have hx := HR.out.res
            obtain ⟨⟨c0, c1, c2, c3, c4, c5⟩, f0, f1, f2, f3, f4, f5⟩ := hx.six_cells
            have HX := Lib.hid hx; have HO := Lib.hid hO
            clear hx hO HR hrun
            go_wp2_with fail
            go_quiet (fail)
            go_wp2_with fail
            have hf := fun q => (HX.out.up (below_drewN (Below.refl _ _) q)).six (.int .i64 0) (.int .i64 0) (.int .i64 0) (.int .i64 0) (.string ⟨#[]⟩) (.slice none 0 0)
            refine bodyPost_ret (v := .tuple #[.agg #[.int .i64 0, .int .i64 0, .int .i64 0, .int .i64 0, .string ⟨#[]⟩, .slice none 0 0], .int .i64 2]) (refdecode_results _ _ _ _ rfl rfl (hf _)) rfl ?_
            rw [HP.out]
            exact DecWhole.no hno (DecOk.six (below_drewN HO.out _) _ (by omega))
          · have d4 : decide ((502 : Int) < (at_ : Int) + 3 + (kl : Int) + (vl : Int)) = false := by simp; omega
            obtain ⟨mk, hmk⟩ : ∃ x, x = byteAt l at_ := ⟨_, rfl⟩
            have ix0 : ∀ W, (Instr.index 9 (.string (bs l)) (.int .i64 (at_ : Int))).run Tryd.prog W = .ok (.int .u8 (mk : Int)) W := fun W => by rw [hmk]; exact index_at l at_ _ rfl (by omega) W
            have p0 : (0 : Int) ≤ (at_ : Int) ∧ (at_ : Int) < 512 := by omega
            have i0 : at_ < (bs l).size := by simp; omega
            have x0 : (((bs l)[at_]'i0).toNat : Int) = (mk : Int) := by rw [hmk, byteAt_bs]
            obtain ⟨key, hkey⟩ : ∃ x, x = (l.take (at_ + 3 + kl)).drop (at_ + 3) := ⟨_, rfl⟩
            obtain ⟨value, hvalue⟩ : ∃ x, x = (l.take (at_ + 3 + kl + vl)).drop (at_ + 3 + kl) := ⟨_, rfl⟩
            obtain ⟨mb, hmb⟩ : ∃ x, x = ((mk : Int) == 1) := ⟨_, rfl⟩
            have HE : Hid (rEnt ((l.take 502).drop at_) = ⟨key, value, mb⟩) := by
              apply Lib.hid
              unfold rEnt
              rw [b1, b2]
              have r1 : (((l.take 502).drop at_).drop 3).take kl = key := by rw [hkey]; exact slice_eq l at_ 3 kl (by omega)
              have r2 : (((l.take 502).drop at_).drop (3 + kl)).take vl = value := by
                rw [hvalue, show at_ + 3 + kl = at_ + (3 + kl) by omega]; exact slice_eq l at_ (3 + kl) vl (by omega)
              have r3 : (((l.take 502).drop at_).getD 0 0 == 1) = mb := by
                have hb0 := byteAt_drop l at_ 0 (by omega)
                unfold byteAt at hb0 hmk
                rw [hmb, hmk, Bool.eq_iff_iff, beq_iff_eq, beq_iff_eq, ← UInt8.toNat_inj, hb0]
                show _ = 1 ↔ _
                simp only [Nat.add_zero]
                omega
              rw [r1, r2, r3]
            have HK : Hid (key.length = kl) := Lib.hid (by rw [hkey]; simp; omega)
            have HV : Hid (value.length = vl) := Lib.hid (by rw [hvalue]; simp; omega)
            have HNX : Hid (((l.take 502).drop at_).drop (3 + kl + vl) = (l.take 502).drop (at_ + 3 + kl + vl)) := Lib.hid (by rw [List.drop_drop]; congr 1; omega)
            have HST : Hid (rcutEnts (n - (k + 1)) ((l.take 502).drop (at_ + 3 + kl + vl)) (acc ++ [(⟨key, value, mb⟩ : Ent)]) = rcutEnts n ((l.take 502).drop (13 + hl10)) []) := by
              apply Lib.hid
              have hs := hstep.out
              rw [if_neg (by rw [hrl, b1, b2]; omega), b1, b2, HNX.out, HE.out, hrun.out.2] at hs
              exact hs.symm
            have HSM := Lib.hid hrun.out.1
            clear hstep b1 b2 hkl hvl hrl hmk HE HNX hrun h3
            go_wp2_with fail
            go_quiet (fail)
            have hRA := HR.out.below (below_drewN (Below.refl _ _) nq)
            have HRA := Lib.hid hRA
            clear HR hRA
            generalize wr.drewN nq = wA at *
            clear nq
            go_wp2_with fail
            go_quiet (fail)
            have hRB := HRA.out.below (below_drewN (Below.refl _ _) nq)
            have HRB := Lib.hid hRB
            clear HRA hRB
            generalize wA.drewN nq = wB at *
            clear nq
            go_wp2_with fail
            have hRq := HRB.out.drew
            have c1 : 0 ≤ (at_ : Int) + 3 + (kl : Int) ∧ (at_ : Int) + 3 + (kl : Int) ≤ 512 := by omega
            have c2 : 0 ≤ (at_ : Int) + 3 ∧ (at_ : Int) + 3 ≤ (at_ : Int) + 3 + (kl : Int) := by omega
            have c3 : 0 ≤ (at_ : Int) + 3 + (kl : Int) + (vl : Int) ∧ (at_ : Int) + 3 + (kl : Int) + (vl : Int) ≤ 512 := by omega
            have c4 : 0 ≤ (at_ : Int) + 3 + (kl : Int) ∧ (at_ : Int) + 3 + (kl : Int) ≤ (at_ : Int) + 3 + (kl : Int) + (vl : Int) := by omega
            have m3 : ((at_ : Int) + 3).toNat = at_ + 3 := by omega
            have m4 : ((at_ : Int) + 3 + (kl : Int)).toNat = at_ + 3 + kl := by omega
            have m5 : ((at_ : Int) + 3 + (kl : Int) + (vl : Int)).toNat = at_ + 3 + kl + vl := by omega
            obtain ⟨v, hv, hown⟩ := hRq.page
            have hv5 := hv.cell 5
            replace hv5 : wB.drew.cell? ⟨pb, 5, none⟩ = some v := hv5
            refine wp_region_late 28 (fun w' => w'.cell? ⟨pb, 5, none⟩ = some v) (by kernel_rfl) ?_
            clear HRB
            generalize wB.drew = w3 at *
            show wpAnyK _ _ _ _ _ 28 31 #[false,false,false,false,false,false,false,false,false,false,false,false,false,false,false,false,false,false,false,false,false,false,false,false,false,false,false,false,false,false,false] _ _
            refine wpAnyK_takeAny (i := 0) (oi := ⟨some 100, _, _, _, _, _⟩) (v := ?_) rfl (by kernel_rfl) (by kernel_rfl) (by kernel_rfl) (by kernel_rfl) (fun _ _ _ h => h) (Or.inl ⟨by kernel_rfl, ?_⟩) (fun _ => hv5) ?_
            rotate_left
            · intro w'; go_simp; rfl
            try simp only [Act.put, List.setIfInBounds_toArray, List.set_cons_zero, List.set_cons_succ]
            refine wpAnyK_take (i := 1) (oi := ⟨some 101, _, _, _, _, _⟩) (L := [28]) (v := ?_) rfl (by kernel_rfl) (by kernel_rfl) (by kernel_rfl) (by kernel_rfl) (fun _ _ _ h => h) (Or.inl ⟨by kernel_rfl, ?_⟩) hv5 ?_
            rotate_left
            · rintro w' t0; go_simp; rfl
            try simp only [Act.put, List.setIfInBounds_toArray, List.set_cons_zero, List.set_cons_succ]
            refine wpAnyK_takeAny (i := 2) (oi := ⟨some 102, _, _, _, _, _⟩) (v := ?_) rfl (by kernel_rfl) (by kernel_rfl) (by kernel_rfl) (by kernel_rfl) (fun _ _ _ h => h) (Or.inl ⟨by kernel_rfl, ?_⟩) (fun _ => hv5) ?_
            rotate_left
            · intro w'; go_simp; rfl
            try simp only [Act.put, List.setIfInBounds_toArray, List.set_cons_zero, List.set_cons_succ]
            refine wpAnyK_takeAny (i := 3) (oi := ⟨some 103, _, _, _, _, _⟩) (v := ?_) rfl (by kernel_rfl) (by kernel_rfl) (by kernel_rfl) (by kernel_rfl) (fun _ _ _ h => h) (Or.inl ⟨by kernel_rfl, ?_⟩) (fun _ => hv5) ?_
            rotate_left
            · intro w'; go_simp; rfl
            try simp only [Act.put, List.setIfInBounds_toArray, List.set_cons_zero, List.set_cons_succ]
            refine wpAnyK_takeAny (i := 4) (oi := ⟨some 104, _, _, _, _, _⟩) (v := ?_) rfl (by kernel_rfl) (by kernel_rfl) (by kernel_rfl) (by kernel_rfl) (fun _ _ _ h => h) (Or.inl ⟨by kernel_rfl, ?_⟩) (fun _ => hv5) ?_
            rotate_left
            · intro w'; go_simp; rfl
            try simp only [Act.put, List.setIfInBounds_toArray, List.set_cons_zero, List.set_cons_succ]
            refine wpAnyK_takeAny (i := 5) (oi := ⟨some 105, _, _, _, _, _⟩) (v := ?_) rfl (by kernel_rfl) (by kernel_rfl) (by kernel_rfl) (by kernel_rfl) (fun _ _ _ h => h) (Or.inl ⟨by kernel_rfl, ?_⟩) (fun _ => hv5) ?_
            rotate_left
            · intro w'; go_simp; rfl
            try simp only [Act.put, List.setIfInBounds_toArray, List.set_cons_zero, List.set_cons_succ]
            refine wpAnyK_takeAny (i := 6) (oi := ⟨some 106, _, _, _, _, _⟩) (v := ?_) rfl (by kernel_rfl) (by kernel_rfl) (by kernel_rfl) (by kernel_rfl) (fun _ _ _ h => h) (Or.inl ⟨by kernel_rfl, ?_⟩) (fun _ => hv5) ?_
            rotate_left
            · intro w'; go_simp; rfl
            try simp only [Act.put, List.setIfInBounds_toArray, List.set_cons_zero, List.set_cons_succ]
            refine wpAnyK_takeAny (i := 7) (oi := ⟨some 107, _, _, _, _, _⟩) (v := ?_) rfl (by kernel_rfl) (by kernel_rfl) (by kernel_rfl) (by kernel_rfl) (fun _ _ _ h => h) (Or.inl ⟨by kernel_rfl, ?_⟩) (fun _ => hv5) ?_
            rotate_left
            · intro w'; go_simp; rfl
            try simp only [Act.put, List.setIfInBounds_toArray, List.set_cons_zero, List.set_cons_succ]
            refine wpAnyK_takeAny (i := 8) (oi := ⟨some 108, _, _, _, _, _⟩) (v := ?_) rfl (by kernel_rfl) (by kernel_rfl) (by kernel_rfl) (by kernel_rfl) (fun _ _ _ h => h) (Or.inl ⟨by kernel_rfl, ?_⟩) (fun _ => hv5) ?_
            rotate_left
            · intro w'; go_simp; rfl
            try simp only [Act.put, List.setIfInBounds_toArray, List.set_cons_zero, List.set_cons_succ]
            refine wpAnyK_takeAny (i := 9) (oi := ⟨some 109, _, _, _, _, _⟩) (v := ?_) rfl (by kernel_rfl) (by kernel_rfl) (by kernel_rfl) (by kernel_rfl) (fun _ _ _ h => h) (Or.inl ⟨by kernel_rfl, ?_⟩) (fun _ => hv5) ?_
            rotate_left
            · intro w'; go_simp; rw [← hkey]
            try simp only [Act.put, List.setIfInBounds_toArray, List.set_cons_zero, List.set_cons_succ]
            refine wpAnyK_takeAny (i := 10) (oi := ⟨some 110, _, _, _, _, _⟩) (v := ?_) rfl (by kernel_rfl) (by kernel_rfl) (by kernel_rfl) (by kernel_rfl) (fun _ _ _ h => h) (Or.inl ⟨by kernel_rfl, ?_⟩) (fun _ => hv5) ?_
            rotate_left
            · intro w'; go_simp; rfl
            try simp only [Act.put, List.setIfInBounds_toArray, List.set_cons_zero, List.set_cons_succ]
            refine wpAnyK_takeAny (i := 11) (oi := ⟨some 111, _, _, _, _, _⟩) (v := ?_) rfl (by kernel_rfl) (by kernel_rfl) (by kernel_rfl) (by kernel_rfl) (fun _ _ _ h => h) (Or.inl ⟨by kernel_rfl, ?_⟩) (fun _ => hv5) ?_
            rotate_left
            · intro w'; go_simp; rfl
            try simp only [Act.put, List.setIfInBounds_toArray, List.set_cons_zero, List.set_cons_succ]
            refine wpAnyK_takeAny (i := 12) (oi := ⟨some 112, _, _, _, _, _⟩) (v := ?_) rfl (by kernel_rfl) (by kernel_rfl) (by kernel_rfl) (by kernel_rfl) (fun _ _ _ h => h) (Or.inl ⟨by kernel_rfl, ?_⟩) (fun _ => hv5) ?_
            rotate_left
            · intro w'; go_simp; rfl
            try simp only [Act.put, List.setIfInBounds_toArray, List.set_cons_zero, List.set_cons_succ]
            refine wpAnyK_takeAny (i := 13) (oi := ⟨some 113, _, _, _, _, _⟩) (v := ?_) rfl (by kernel_rfl) (by kernel_rfl) (by kernel_rfl) (by kernel_rfl) (fun _ _ _ h => h) (Or.inl ⟨by kernel_rfl, ?_⟩) (fun _ => hv5) ?_
            rotate_left
            · intro w'; go_simp; rfl
            try simp only [Act.put, List.setIfInBounds_toArray, List.set_cons_zero, List.set_cons_succ]
            refine wpAnyK_takeAny (i := 14) (oi := ⟨some 114, _, _, _, _, _⟩) (v := ?_) rfl (by kernel_rfl) (by kernel_rfl) (by kernel_rfl) (by kernel_rfl) (fun _ _ _ h => h) (Or.inl ⟨by kernel_rfl, ?_⟩) (fun _ => hv5) ?_
            rotate_left
            · intro w'; go_simp; rfl
            try simp only [Act.put, List.setIfInBounds_toArray, List.set_cons_zero, List.set_cons_succ]
            refine wpAnyK_takeAny (i := 15) (oi := ⟨some 115, _, _, _, _, _⟩) (v := ?_) rfl (by kernel_rfl) (by kernel_rfl) (by kernel_rfl) (by kernel_rfl) (fun _ _ _ h => h) (Or.inl ⟨by kernel_rfl, ?_⟩) (fun _ => hv5) ?_
            rotate_left
            · intro w'; go_simp; rfl
            try simp only [Act.put, List.setIfInBounds_toArray, List.set_cons_zero, List.set_cons_succ]
            refine wpAnyK_takeAny (i := 16) (oi := ⟨some 116, _, _, _, _, _⟩) (v := ?_) rfl (by kernel_rfl) (by kernel_rfl) (by kernel_rfl) (by kernel_rfl) (fun _ _ _ h => h) (Or.inl ⟨by kernel_rfl, ?_⟩) (fun _ => hv5) ?_
            rotate_left
            · intro w'; go_simp; rfl
            try simp only [Act.put, List.setIfInBounds_toArray, List.set_cons_zero, List.set_cons_succ]
            refine wpAnyK_takeAny (i := 17) (oi := ⟨some 117, _, _, _, _, _⟩) (v := ?_) rfl (by kernel_rfl) (by kernel_rfl) (by kernel_rfl) (by kernel_rfl) (fun _ _ _ h => h) (Or.inl ⟨by kernel_rfl, ?_⟩) (fun _ => hv5) ?_
            rotate_left
            · intro w'; go_simp; rfl
            try simp only [Act.put, List.setIfInBounds_toArray, List.set_cons_zero, List.set_cons_succ]
            refine wpAnyK_takeAny (i := 18) (oi := ⟨some 118, _, _, _, _, _⟩) (v := ?_) rfl (by kernel_rfl) (by kernel_rfl) (by kernel_rfl) (by kernel_rfl) (fun _ _ _ h => h) (Or.inl ⟨by kernel_rfl, ?_⟩) (fun _ => hv5) ?_
            rotate_left
            · intro w'; go_simp; rfl
            try simp only [Act.put, List.setIfInBounds_toArray, List.set_cons_zero, List.set_cons_succ]
            refine wpAnyK_takeAny (i := 19) (oi := ⟨some 119, _, _, _, _, _⟩) (v := ?_) rfl (by kernel_rfl) (by kernel_rfl) (by kernel_rfl) (by kernel_rfl) (fun _ _ _ h => h) (Or.inl ⟨by kernel_rfl, ?_⟩) (fun _ => hv5) ?_
            rotate_left
            · intro w'; go_simp; rfl
            try simp only [Act.put, List.setIfInBounds_toArray, List.set_cons_zero, List.set_cons_succ]
            refine wpAnyK_takeAny (i := 20) (oi := ⟨some 120, _, _, _, _, _⟩) (v := ?_) rfl (by kernel_rfl) (by kernel_rfl) (by kernel_rfl) (by kernel_rfl) (fun _ _ _ h => h) (Or.inl ⟨by kernel_rfl, ?_⟩) (fun _ => hv5) ?_
            rotate_left
            · intro w'; go_simp; rfl
            try simp only [Act.put, List.setIfInBounds_toArray, List.set_cons_zero, List.set_cons_succ]
            refine wpAnyK_takeAny (i := 21) (oi := ⟨some 121, _, _, _, _, _⟩) (v := ?_) rfl (by kernel_rfl) (by kernel_rfl) (by kernel_rfl) (by kernel_rfl) (fun _ _ _ h => h) (Or.inl ⟨by kernel_rfl, ?_⟩) (fun _ => hv5) ?_
            rotate_left
            · intro w'; go_simp; rw [← hvalue]
            try simp only [Act.put, List.setIfInBounds_toArray, List.set_cons_zero, List.set_cons_succ]
            refine wpAnyK_takeAny (i := 22) (oi := ⟨some 122, _, _, _, _, _⟩) (v := ?_) rfl (by kernel_rfl) (by kernel_rfl) (by kernel_rfl) (by kernel_rfl) (fun _ _ _ h => h) (Or.inl ⟨by kernel_rfl, ?_⟩) (fun _ => hv5) ?_
            rotate_left
            · intro w'; go_simp; rfl
            try simp only [Act.put, List.setIfInBounds_toArray, List.set_cons_zero, List.set_cons_succ]
            refine wpAnyK_takeAny (i := 23) (oi := ⟨some 123, _, _, _, _, _⟩) (v := ?_) rfl (by kernel_rfl) (by kernel_rfl) (by kernel_rfl) (by kernel_rfl) (fun _ _ _ h => h) (Or.inl ⟨by kernel_rfl, ?_⟩) (fun _ => hv5) ?_
            rotate_left
            · intro w'; go_simp; rfl
            try simp only [Act.put, List.setIfInBounds_toArray, List.set_cons_zero, List.set_cons_succ]
            refine wpAnyK_takeAny (i := 24) (oi := ⟨some 124, _, _, _, _, _⟩) (v := ?_) rfl (by kernel_rfl) (by kernel_rfl) (by kernel_rfl) (by kernel_rfl) (fun _ _ _ h => h) (Or.inl ⟨by kernel_rfl, ?_⟩) (fun _ => hv5) ?_
            rotate_left
            · intro w'; go_simp; rfl
            try simp only [Act.put, List.setIfInBounds_toArray, List.set_cons_zero, List.set_cons_succ]
            refine wpAnyK_takeAny (i := 25) (oi := ⟨some 125, _, _, _, _, _⟩) (v := ?_) rfl (by kernel_rfl) (by kernel_rfl) (by kernel_rfl) (by kernel_rfl) (fun _ _ _ h => h) (Or.inl ⟨by kernel_rfl, ?_⟩) (fun _ => hv5) ?_
            rotate_left
            · intro w'; go_simp; rw [← hmb]
            try simp only [Act.put, List.setIfInBounds_toArray, List.set_cons_zero, List.set_cons_succ]
            clear hkey hvalue hmb c1 c2 c3 c4 m3 m4 m5 ix0 ix1 ix2 p0 p1 p2 x0 x1 x2
            refine wpAnyK_takeAny (i := 26) (oi := ⟨some 126, _, _, _, _, _⟩) (v := ?_) rfl (by kernel_rfl) (by kernel_rfl) (by kernel_rfl) (by kernel_rfl) (fun _ _ _ h => h) (Or.inl ⟨by kernel_rfl, ?_⟩) (fun _ => hv5) ?_
            rotate_left
            · intro w'; go_simp; rfl
            try simp only [Act.put, List.setIfInBounds_toArray, List.set_cons_zero, List.set_cons_succ]
            have hle : w.heap.size ≤ w3.heap.size := hRq.old.size
            have hR4 := hRq.alloc (.cells #[.string (bs key), .string (bs value), .bool mb] 57)
            have hv4 := hv.alloc (.cells #[.string (bs key), .string (bs value), .bool mb] 57)
            have hown4 := ownsRow_grown hown (grown_of_below ((Below.refl _ _).alloc (Nat.le_refl _) (.cells #[.string (bs key), .string (bs value), .bool mb] 57)) none) (by simp)
            have hnews : ∀ j y, (entCells ⟨key, value, mb⟩)[j]? = some y → (w3.alloc (.cells #[.string (bs key), .string (bs value), .bool mb] 57)).cell? ((⟨w3.heap.size, 0, none⟩ : Addr).add j) = some y :=
              fun j y hj => World.news_of_block (Blk.made w3 #[.string (bs key), .string (bs value), .bool mb] 57) j y (by simpa [entCells] using hj)
            have hle4 : w.heap.size ≤ (w3.alloc (.cells #[.string (bs key), .string (bs value), .bool mb] 57)).heap.size := Nat.le_trans hle (by simp)
            refine wpAnyK_ready (rs := [27]) (by kernel_rfl) (by simp) ?_
            refine AllReadyK.cons (o := ⟨some 127, _, _, _, _, _⟩) rfl (fun K hK => ?_) AllReadyK.nil
            go_simp
            refine hK _ _ (fun _ => hv4.cell 5) ?_
            clear hK K hRq hv hown hv5 hle
            generalize w3.alloc (.cells #[.string (bs key), .string (bs value), .bool mb] 57) = w4 at *
            generalize w3.heap.size = gE at *
            obtain ⟨i0, z0, hi0, hz0, hs0, hb0, hc0⟩ := info_entry2
            refine wpAnyK_ready (rs := [28]) (by kernel_rfl) (by simp) ?_
            refine AllReadyK.cons (o := ⟨some 128, _, _, _, _, _⟩) rfl (fun K hK => ?_) AllReadyK.nil
            refine step_append_lies w4 rfl (.tmp 101) (.tmp 127) 30 rfl w.heap.size 57 i0 z0 3 40 Tryd.underlying30 hi0 hz0 hs0 hb0 hc0 (by decide) v acc.length _ rfl hown4 ⟨gE, 0, none⟩ 1 1 (entCells ⟨key, value, mb⟩) rfl rfl hnews (entOne _) (by decide) ?c1 ?c2 hle4 _ rfl ?_
            case c1 => unfold maxLen; omega
            case c2 => omega
            intro g2 n2 w5 hown5 hgr5 _ _
            try simp only [Act.put, List.setIfInBounds_toArray, List.set_cons_zero, List.set_cons_succ]
            have hn5 : w5.ownsRow w.heap.size 57 3 (.slice (some ⟨g2, 0, none⟩) (acc.length + 1) n2) (acc ++ [(⟨key, value, mb⟩ : Ent)]).length (entsCells (acc ++ [(⟨key, value, mb⟩ : Ent)])) := by
              rw [entsCells_snoc, List.length_append]; exact hown5
            obtain ⟨hv5, hR5⟩ := hR4.set5 hv4 hown4 hgr5 (acc ++ [(⟨key, value, mb⟩ : Ent)]) hn5
            have hc5 := hv5.cell 5
            have hf5 := hv5.frozen 5
            replace hc5 : w5.cell? ⟨pb, 5, none⟩ = some v := hc5
            refine hK _ _ (fun h => by cases h) ?_
            clear hK K hown5 hgr5 hn5 hnews hown4 hv4 hR4 hi0 hz0 hs0 hb0 hc0 hv5
            refine wpAnyK_takeAny (i := 29) (oi := ⟨some 129, _, _, _, _, _⟩) (v := ?_) rfl (by kernel_rfl) (by kernel_rfl) (by kernel_rfl) (by kernel_rfl) (fun _ _ _ h => h) (Or.inl ⟨by kernel_rfl, ?_⟩) (fun h => by cases h) ?_
            rotate_left
            · intro w'; go_simp; rfl
            try simp only [Act.put, List.setIfInBounds_toArray, List.set_cons_zero, List.set_cons_succ]
            refine wpAnyK_ready (rs := [30]) (by kernel_rfl) (by simp) ?_
            refine AllReadyK.cons (o := ⟨none, _, _, _, _, _⟩) rfl (fun K hK => ?_) AllReadyK.nil
            go_simp
            refine hK _ _ (fun h => by cases h) ?_
            clear hK K
            refine wpAnyK_done (by kernel_rfl) ?_ _
            have HR5 := Lib.hid hR5
            clear hc5 hf5 hR5
            go_wp2_with fail
            go_roundg (n - (k + 1))
            case measure => omega
            case rel =>
              refine ⟨k + 1, at_ + 3 + kl + vl, acc ++ [(⟨key, value, mb⟩ : Ent)], by omega, rfl, by go_num, by go_num, by omega, by rw [List.length_append]; simp; omega, HR5.out, ⟨⟨?_, ?_⟩, HST.out⟩⟩
              · rw [List.length_append]; simp; omega
              · intro e he
                rcases List.mem_append.1 he with h | h
                · exact HSM.out.2 e h
                · obtain rfl : e = ⟨key, value, mb⟩ := by simpa using h
                  have k1 := HK.out
                  have k2 := HV.out
                  exact ⟨by dsimp only; omega, by dsimp only; omega⟩
      · have hkc : k = n := by omega
        have hrt : rcut l = some ⟨lsn, kind, level, right, high, acc⟩ := by
          have hs := hrun.out.2
          rw [hkc, Nat.sub_self] at hs
          unfold rcut
          rw [← HH.out, if_neg hbig, ← HN.out, ← hs]
          dsimp only [rcutEnts]
          rw [← HLSN.out, ← HKIND.out, ← HLEVEL.out, ← HRIGHT.out, ← HHI.out]
        have hhl : high.length ≤ 1000000 := by rw [HHI.out, List.length_take, List.length_drop]; omega
        have hsm : Small ⟨lsn, kind, level, right, high, acc⟩ := ⟨hhl, hrun.out.1⟩
        obtain ⟨tx, htx⟩ : ∃ x, x = (encR ⟨lsn, kind, level, right, high, acc⟩).1 := ⟨_, rfl⟩
        obtain ⟨er, her⟩ : ∃ x, x = (encR ⟨lsn, kind, level, right, high, acc⟩).2 := ⟨_, rfl⟩
        have HDEC0 : Hid (decB l = if tx = l ∧ er = 0 then some ⟨lsn, kind, level, right, high, acc⟩ else none) := by
          apply Lib.hid
          rw [rcut_dec, hrt]
          dsimp only
          rw [htx, her]
          by_cases hq : encR ⟨lsn, kind, level, right, high, acc⟩ = (l, 0)
          · rw [if_pos hq, if_pos (by rw [hq]; exact ⟨rfl, rfl⟩)]
          · rw [if_neg hq, if_neg (fun h => hq (Prod.ext h.1 h.2))]
        have hge : w.heap.size ≤ rb := HR.out.ge.1
        obtain ⟨v, hb, hown⟩ := HR.out.page
        obtain ⟨A, cap, hv, hrd, hcap⟩ := own_slice hown
        subst hv
        obtain ⟨⟨g0, g1, g2, g3, g4, g5⟩, _⟩ := hb.six_cells
        have ct := refencode_any ⟨lsn, kind, level, right, high, acc⟩ A cap hsm wr hrd
        rw [← htx, ← her] at ct
        have HRD := Lib.hid hrd
        have HB9 := Lib.hid hb
        clear hrun hkc hown hrd hb hsm htx her hrt hhl
        go_wp2_with fail
        refine ct.mono ?_
        clear ct g0 g1 g2 g3 g4 g5
        rintro e wz ⟨rfl, hbz⟩
        have hDz := HR.out.below hbz
        obtain ⟨⟨z0, z1, z2, z3, z4, z5⟩, f0, f1, f2, f3, f4, f5⟩ := hDz.res.six_cells
        obtain ⟨⟨g0, g1, g2, g3, g4, g5⟩, _⟩ := (HB9.out.up hbz).six_cells
        have HDz := Lib.hid hDz
        clear hDz hbz HRD HB9 HR
        by_cases he : er = 0
        · by_cases ht : tx = l
          · have HDEC : Hid (decB l = some ⟨lsn, kind, level, right, high, acc⟩) := Lib.hid (by rw [HDEC0.out, if_pos ⟨ht, he⟩])
            have e1 : (er != 0) = false := by simp [he]
            have e2 : (tx == l) = true := by simp [ht]
            have e3 : (tx != l) = false := by simp [ht]
            clear HDEC0 he ht
            go_wp2
            have hf := HDz.out.res.six (.int .i64 lsn) (.int .i64 kind) (.int .i64 level) (.int .i64 right) (.string (bs high)) (.slice A acc.length cap)
            have hold := below_six HDz.out.old hge (.int .i64 lsn) (.int .i64 kind) (.int .i64 level) (.int .i64 right) (.string (bs high)) (.slice A acc.length cap)
            obtain ⟨v', hb', hown'⟩ := HDz.out.page
            have hv' : v' = .slice A acc.length cap := by
              have h5 := hb'.six_cells.1.2.2.2.2.2
              rw [g5] at h5
              exact (Option.some.inj h5).symm
            rw [hv'] at hown'
            have hown2 := ownsRow_grown hown' (grown_six wz rb (.int .i64 lsn) (.int .i64 kind) (.int .i64 level) (.int .i64 right) (.string (bs high)) (.slice A acc.length cap)) (by
              intro g e cs fz hh
              simp at e
              subst e
              have hr := HDz.out.res
              unfold Blk at hr
              rw [hr] at hh
              simp at hh)
            obtain ⟨A', cap', hv2, hrd, _⟩ := own_slice hown2
            have hA : A = A' := by injection hv2
            subst hA
            have hpost : DecWhole l w (.returned (.tuple #[.agg (pgCells ⟨lsn, kind, level, right, high, acc⟩ A cap), .int .i64 0])) _ := DecWhole.yes HDEC.out ⟨A, cap, rfl, hrd, hcap, hold⟩
            clear hown2 hrd hv2 hown' hv' hb'
            rw [← HP.out] at hpost
            unfold six at hf hpost
            refine bodyPost_ret (v := .tuple #[.agg (pgCells ⟨lsn, kind, level, right, high, acc⟩ A cap), .int .i64 0]) ?_ rfl ?_
            · exact refdecode_results _ _ _ _ rfl rfl hf
            · exact hpost
          · have HDEC : Hid (decB l = none) := Lib.hid (by rw [HDEC0.out, if_neg (fun h => ht h.1)])
            have e1 : (er != 0) = false := by simp [he]
            have e2 : (tx == l) = false := by simp [ht]
            have e3 : (tx != l) = true := by simpa using ht
            clear HDEC0 g0 g1 g2 g3 g4 g5 he ht
            go_wp2
            all_goals
              have hf := HDz.out.res.six (.int .i64 0) (.int .i64 0) (.int .i64 0) (.int .i64 0) (.string ⟨#[]⟩) (.slice none 0 0)
              have hold := HDz.out.old
              have hd := DecOk.six (n := 2) hold rb hge
              have hno := HDEC.out
              have hpost := DecWhole.no hno hd
              rw [← HP.out] at hpost
              unfold six at hf hpost
              refine bodyPost_ret (v := .tuple #[.agg #[.int .i64 0, .int .i64 0, .int .i64 0, .int .i64 0, .string ⟨#[]⟩, .slice none 0 0], .int .i64 2]) ?_ rfl ?_
              · exact refdecode_results _ _ _ _ rfl rfl hf
              · exact hpost
        · have HDEC : Hid (decB l = none) := Lib.hid (by rw [HDEC0.out, if_neg (fun h => he h.2)])
          have e1 : (er != 0) = true := by simpa using he
          clear HDEC0 g0 g1 g2 g3 g4 g5 he
          go_wp2
          all_goals
            have hf := HDz.out.res.six (.int .i64 0) (.int .i64 0) (.int .i64 0) (.int .i64 0) (.string ⟨#[]⟩) (.slice none 0 0)
            have hold := HDz.out.old
            have hd := DecOk.six (n := 2) hold rb hge
            have hno := HDEC.out
            have hpost := DecWhole.no hno hd
            rw [← HP.out] at hpost
            unfold six at hf hpost
            refine bodyPost_ret (v := .tuple #[.agg #[.int .i64 0, .int .i64 0, .int .i64 0, .int .i64 0, .string ⟨#[]⟩, .slice none 0 0], .int .i64 2]) ?_ rfl ?_
            · exact refdecode_results _ _ _ _ rfl rfl hf
            · exact hpost
end Go.Proofs.YtlhcfmcbfdihoaaDoor
