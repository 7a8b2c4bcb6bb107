/-
  Walks: TwinPlays.
-/
import Derived.Test.YtfkhgmdnajiabaaDoorTwY
namespace Go.Proofs.YtfkhgmdnajiabaaDoor
set_option linter.unusedSimpArgs false
set_option linter.unusedVariables false
open Go.RowKit Go.Maps

theorem newM_sound {a : ArM} (hfit : a.fits 40) (hp : a.pg = 8) : Sound a (newM 40) (fun p => (List.replicate 8 (List.replicate 512 0)).getD p.toNat []) 0 := by
  have hg : getB (List.replicate 6 0) = 0 := by decide
  have hn : ∀ p : Int, 0 ≤ p → p < a.pg → (List.replicate 8 (List.replicate 512 (0 : UInt8))).getD p.toNat [] = List.replicate 512 0 := fun p p0 p1 => by
    have : p.toNat < 8 := by omega
    rw [List.getD_eq_getElem?_getD, List.getElem?_replicate, if_pos this]; rfl
  refine ⟨rfl, rfl, hfit, fun j => by rw [newM_read, List.length_replicate], fun p p0 p1 => by rw [newM_page]; exact (hn p p0 p1).symm, fun p p0 p1 => ?_, fun i hi => by rw [newM_read, List.take_replicate]; exact Nat.le_of_eq hg⟩
  rw [hn p p0 p1]
  refine ⟨⟨List.length_replicate, zeros_whole⟩, ?_⟩
  unfold lsnB
  rw [List.take_replicate]
  exact Nat.le_of_eq hg

theorem Three.setLow {n1 : Nat} {w : World} {im at_ tx : Value} {l : List Img} {b : Nat} (h : Three n1 w im at_ tx l) (hb : b < n1) (j : Nat) (x : Value) : Three n1 (w.setCell ⟨b, j, none⟩ x) im at_ tx l := by
  have hg := grown_setCell w b j x
  have hne : ∀ {e : TypeId} {size : Nat} {v : Value} {n : Nat} {xs : List Value}, w.ownsRow n1 e size v n xs → some b ≠ v.ownBlock := fun ho e => by
    have := (ho.lt b e.symm).1
    omega
  exact ⟨ownsRow_far h.img hg (hne h.img), ownsRow_far h.pg hg (hne h.pg), ownsRow_far h.txt hg (hne h.txt), by simpa [World.setCell] using h.at1⟩
set_option maxHeartbeats 12800000 in
set_option maxRecDepth 100000 in
theorem plays_any (l : List Rnd) (A : Option Addr) (cap : Nat) (ns : Int) (w : World) (hT : Turns w) (hA : RndsAt w w.heap.size A l) (hl : l.length ≤ 140737488355328)
    (hx : ∀ r ∈ l, r.puts.length ≤ 140737488355328 ∧ r.keep.length ≤ 140737488355328 ∧ ∀ x ∈ r.puts, x.2.length ≤ 140737488355328) :
    Calls Tryd.prog 6 #[.slice A l.length cap, .int .i64 ns] w fun e w' => e = .returned (.bool true) ∧ Below w.heap.size w w' := by
  have hsp := speaks_any w hT
  have hlt := hT.lt
  obtain ⟨sl, hsl⟩ : ∃ s : Nat, s = (1 + ns % 4).toNat := ⟨_, rfl⟩
  have hsI : (1 + ns % 4) = (sl : Int) := by omega
  have hs1 : 1 ≤ sl ∧ sl ≤ 4 := by omega
  have c1 : bits .and .i64 ns 3 = ns % 4 := i64_mask ns 2 (by decide)
  have c2 : IntKind.i64.wrap (1 + ns % 4) = (sl : Int) := by rw [IntKind.wrap_i64]; omega
  have c3 : IntKind.i64.wrap (3 * (sl : Int)) = 3 * sl := by rw [IntKind.wrap_i64]; omega
  have c4 : IntKind.i64.wrap (3 * (sl : Int) + 1) = 3 * sl + 1 := by rw [IntKind.wrap_i64]; omega
  obtain ⟨a, ha⟩ : ∃ a : ArM, a = ⟨0, sl, 3 * sl + 1, 8⟩ := ⟨_, rfl⟩
  have hfit : a.fits (newM 40).size := by rw [ha]; simp only [ArM.fits, newM]; omega
  have hnew := fun g m W h1 h2 => twnew_ok w.heap.size g m a (newM 40) W h1 h2 hlt hfit
  rw [show (Value.int .i64 a.sat) = .int .i64 0 by rw [ha], show (Value.int .i64 a.sl) = .int .i64 (sl : Int) by rw [ha], show (Value.int .i64 a.fr) = .int .i64 (3 * sl + 1) by rw [ha], show (Value.int .i64 a.pg) = .int .i64 8 by rw [ha]] at hnew
  have hpg : a.pg = 8 := by rw [ha]
  have HSP := Lib.hid hsp; have HNW := Lib.hid hnew; have HT := Lib.hid hT; have HX := Lib.hid hx; have HPA := Lib.hid hA; have HFIT := Lib.hid hfit; have HPG := Lib.hid hpg
  obtain ⟨nn, hnn⟩ : ∃ n : Nat, n = min l.length 12 := ⟨_, rfl⟩
  have HNN := Lib.hid hnn
  clear hsp hlt hsl hsI hfit hnew hT hx hA ha hnn hpg
  go_enter Tryd.func6, Tryd.ntmps6
  go_wp2_with fail
  refine HSP.out.mono ?_
  rintro e w1 ⟨rfl, hb1⟩
  have HB1 := Lib.hid hb1; have HT1 := Lib.hid (HT.out.below hb1)
  clear hb1 HSP HT
  go_wp2_with fail
  refine (devnew_dv w.heap.size 40 (by decide) (by decide) w1 HB1.out.size).mono ?_
  rintro e w2 ⟨m, rfl, hD, hb2⟩
  have HB2 := Lib.hid (HB1.out.trans (hb2.mono HB1.out.size)); have HT2 := Lib.hid (HT1.out.below hb2); have HD2 := Lib.hid hD
  clear hb2 hD HB1 HT1
  generalize w1.heap.size + 1 = g at *
  go_wp2_with fail
  refine (HNW.out g m w2 HD2.out HT2.out).mono ?_
  rintro e w3 ⟨rfl, hT3, hb3⟩
  have HT3 := Lib.hid hT3; have HB3 := Lib.hid (HB2.out.trans (hb3.mono HB2.out.size))
  clear hT3 hb3 HB2 HT2 HD2 HNW
  generalize w2.heap.size = ga at *
  go_wp2_with fail
  refine (new9_any w3).mono ?_
  rintro e w4 ⟨u0, v0, rfl, hTw4, hb4⟩
  have hn3 := below_sz HB3.out (Nat.le_refl w.heap.size)
  have hTw4' := hTw4.mono hn3
  obtain ⟨A1, n1, q1, rfl⟩ := hTw4'.one.form
  obtain ⟨A2, n2, q2, rfl⟩ := hTw4'.two.form
  have hT4 := HT3.out.up hb4
  have hB4 := HB3.out.trans (hb4.mono hn3)
  have hn4 := below_sz hB4 (Nat.le_refl w.heap.size)
  have hb5 : Below w4.heap.size w4 (w4.alloc (.cells #[.slice A1 n1 q1, .slice A2 n2 q2] 58)) := (Below.refl _ _).alloc (Nat.le_refl _) _
  have hP5 := Blk.made w4 #[.slice A1 n1 q1, .slice A2 n2 q2] 58
  have HT6 := Lib.hid (hT4.up hb5); have HTW6 := Lib.hid (hTw4'.up hb5); have HB6 := Lib.hid (hB4.trans (hb5.mono hn4)); have HP6 := Lib.hid hP5; have HWB := Lib.hid hn4
  clear hTw4 hb4 hn3 hTw4' hT4 hB4 hb5 HT3 HB3 hP5 hn4
  go_wp2_with fail
  generalize hwe : w4.alloc (.cells #[.slice A1 n1 q1, .slice A2 n2 q2] 58) = w6 at *
  clear hwe
  generalize w4.heap.size = wb at *
  have HS6 := Lib.hid (newM_sound HFIT.out HPG.out)
  go_wp2_with fail
  go_loopg [10, 11] nn (fun gh ls iv wr => ∃ (i L : Nat) (u v : Value) (xs : List (List UInt8)) (d : DevM), i ≤ nn ∧ gh = nn - i ∧ iv = .int .i64 i ∧ ls = .int .i64 L ∧ L ≤ 6 * i ∧ xs.length = 8 ∧ Blk wr wb 58 #[u, v] ∧ Two w.heap.size wr u v xs (List.replicate 8 []) ∧
    Tw w.heap.size wr ga g m a d ∧ Sound a d (fun p => xs.getD p.toNat []) L ∧ d.cmds ≤ 500 * i ∧ Below w.heap.size w wr)
  case atStart => exact ⟨0, 0, _, _, _, _, Nat.zero_le _, rfl, rfl, rfl, Nat.zero_le _, rfl, HP6.out, HTW6.out, HT6.out, HS6.out, Nat.le_refl _, HB6.out⟩
  case round =>
    clear HP6 HTW6 HT6 HS6 HB6
    obtain ⟨i, L, u, v, xs, d, hi, rfl, rfl, rfl, hL, hx8, hP, hTw, hT, hS, hc, hB⟩ := hrel
    have hi12 : i ≤ 12 := by have := HNN.out; omega
    by_cases hlt : i < nn
    · have hil : i < l.length := by have := HNN.out; omega
      have hi11 : i < 12 := by have := HNN.out; omega
      have e1 : (i : Int) < (l.length : Int) := by omega
      have e2 : (i : Int) < 12 := by omega
      obtain ⟨b, o, AP, cP, AK, cK, rfl, hbn, y0, y1, y2, hPP, hPK, hKn, hKl, hKc⟩ := HPA.out.below hB i hil
      obtain ⟨hx1, hx2, hx3⟩ := HX.out l[i] (List.getElem_mem hil)
      obtain ⟨r, hr⟩ : ∃ x, x = l[i] := ⟨_, rfl⟩
      rw [← hr] at y0 y1 y2 hPP hPK hKn hKl hx1 hx2 hx3
      obtain ⟨puts, cut, keep⟩ := r
      dsimp only at y0 y1 y2 hPP hPK hKn hKl hx1 hx2 hx3
      clear hr
      have HP := Lib.hid hP; have HTW := Lib.hid hTw; have HTT := Lib.hid hT; have HS := Lib.hid hS; have HC := Lib.hid hc; have HB := Lib.hid hB; have HX8 := Lib.hid hx8; have HPP := Lib.hid hPP; have HPK := Lib.hid hPK; have HKN := Lib.hid hKn; have HX3 := Lib.hid hx3; have HL := Lib.hid hL
      clear hP hTw hT hS hc hB hx8 hPP hPK hKn hx3 hL
      go_upto_region 13 with fail
      go_cut [12] (fun ks wx => ∃ kv, ks = kv ∧ Below wr.heap.size wr wx ∧ wx.ownsRow wr.heap.size 3 1 kv (keep.take (min keep.length 9)).length ((keep.take (min keep.length 9)).map (Value.int .i64)))
      case first =>
        have hmin : (min (keep.length : Int) 9).toNat = min keep.length 9 := by omega
        have hle : min keep.length 9 ≤ cK := by omega
        have hle2 : min (keep.length : Int) 9 ≤ (cK : Int) := by omega
        have hmin2 : (0 : Int) ≤ min (keep.length : Int) 9 := by omega
        have hbd : Below wr.heap.size wr wr.drew := (Below.refl _ wr).drew
        have y2d : wr.drew.cell? ⟨b, o + i * 3 + 2, none⟩ = some (.slice AK keep.length cK) := y2
        refine wp_region_late 14 (fun W => W.cell? ⟨b, o + i * 3 + 2, none⟩ = some (.slice AK keep.length cK)) (by kernel_rfl) ?_
        show wpAnyK _ _ _ _ _ 14 16 #[false,false,false,false,false,false,false,false,false,false,false,false,false,false,false,false] _ (World.drew _)
        generalize wr.drew = W0 at *
        refine wpAnyK_takeAny (i := 1) (oi := ⟨some 63, _, _, _, _, _⟩) (v := ?_) rfl (by kernel_rfl) (by kernel_rfl) (by kernel_rfl) (by kernel_rfl) (fun _ _ _ h => h) (Or.inl ⟨by kernel_rfl, ?_⟩) (fun _ => y2d) ?_
        rotate_left
        · intro w'; go_simp; rfl
        try simp only [Act.put, List.setIfInBounds_toArray, List.set_cons_zero, List.set_cons_succ]
        refine wpAnyK_takeAny (i := 2) (oi := ⟨some 64, _, _, _, _, _⟩) (v := ?_) rfl (by kernel_rfl) (by kernel_rfl) (by kernel_rfl) (by kernel_rfl) (fun _ _ _ h => h) (Or.inl ⟨by kernel_rfl, ?_⟩) (fun _ => y2d) ?_
        rotate_left
        · intro w'; go_simp; rfl
        try simp only [Act.put, List.setIfInBounds_toArray, List.set_cons_zero, List.set_cons_succ]
        refine wpAnyK_takeAny (i := 3) (oi := ⟨some 65, _, _, _, _, _⟩) (v := ?_) rfl (by kernel_rfl) (by kernel_rfl) (by kernel_rfl) (by kernel_rfl) (fun _ _ _ h => h) (Or.inl ⟨by kernel_rfl, ?_⟩) (fun _ => y2d) ?_
        rotate_left
        · intro w'; go_simp; rfl
        try simp only [Act.put, List.setIfInBounds_toArray, List.set_cons_zero, List.set_cons_succ]
        refine wpAnyK_takeAny (i := 4) (oi := ⟨some 66, _, _, _, _, _⟩) (v := ?_) rfl (by kernel_rfl) (by kernel_rfl) (by kernel_rfl) (by kernel_rfl) (fun _ _ _ h => h) (Or.inl ⟨by kernel_rfl, ?_⟩) (fun _ => y2d) ?_
        rotate_left
        · intro w'; go_simp; rfl
        try simp only [Act.put, List.setIfInBounds_toArray, List.set_cons_zero, List.set_cons_succ]
        refine wpAnyK_takeAny (i := 6) (oi := ⟨some 68, _, _, _, _, _⟩) (v := ?_) rfl (by kernel_rfl) (by kernel_rfl) (by kernel_rfl) (by kernel_rfl) (fun _ _ _ h => h) (Or.inl ⟨by kernel_rfl, ?_⟩) (fun _ => y2d) ?_
        rotate_left
        · intro w'; go_simp; rfl
        try simp only [Act.put, List.setIfInBounds_toArray, List.set_cons_zero, List.set_cons_succ]
        refine wpAnyK_takeAny (i := 7) (oi := ⟨some 69, _, _, _, _, _⟩) (v := ?_) rfl (by kernel_rfl) (by kernel_rfl) (by kernel_rfl) (by kernel_rfl) (fun _ _ _ h => h) (Or.inl ⟨by kernel_rfl, ?_⟩) (fun _ => y2d) ?_
        rotate_left
        · intro w'; go_simp; rfl
        try simp only [Act.put, List.setIfInBounds_toArray, List.set_cons_zero, List.set_cons_succ]
        refine wpAnyK_takeAny (i := 8) (oi := ⟨some 70, _, _, _, _, _⟩) (v := ?_) rfl (by kernel_rfl) (by kernel_rfl) (by kernel_rfl) (by kernel_rfl) (fun _ _ _ h => h) (Or.inl ⟨by kernel_rfl, ?_⟩) (fun _ => y2d) ?_
        rotate_left
        · intro w'; go_simp; rfl
        try simp only [Act.put, List.setIfInBounds_toArray, List.set_cons_zero, List.set_cons_succ]
        refine wpAnyK_takeAny (i := 9) (oi := ⟨some 71, _, _, _, _, _⟩) (v := ?_) rfl (by kernel_rfl) (by kernel_rfl) (by kernel_rfl) (by kernel_rfl) (fun _ _ _ h => h) (Or.inl ⟨by kernel_rfl, ?_⟩) (fun _ => y2d) ?_
        rotate_left
        · intro w'; go_simp; rfl
        try simp only [Act.put, List.setIfInBounds_toArray, List.set_cons_zero, List.set_cons_succ]
        refine wpAnyK_take (i := 5) (oi := ⟨some 67, _, _, _, _, _⟩) (L := [13, 14, 15]) (v := ?_) rfl (by kernel_rfl) (by kernel_rfl) (by kernel_rfl) (by kernel_rfl) (fun _ _ _ h => h) (Or.inl ⟨by kernel_rfl, ?_⟩) y2d ?_
        rotate_left
        · rintro w' e0; go_simp; rfl
        try simp only [Act.put, List.setIfInBounds_toArray, List.set_cons_zero, List.set_cons_succ]
        refine wpAnyK_take (i := 10) (oi := ⟨some 72, _, _, _, _, _⟩) (L := [11, 12, 13, 14, 15]) (v := ?_) rfl (by kernel_rfl) (by kernel_rfl) (by kernel_rfl) (by kernel_rfl) (fun _ _ _ h => h) (Or.inl ⟨by kernel_rfl, ?_⟩) y2d ?_
        rotate_left
        · rintro w' e0; go_simp; rfl
        try simp only [Act.put, List.setIfInBounds_toArray, List.set_cons_zero, List.set_cons_succ]
        refine wpAnyK_takeAny (i := 11) (oi := ⟨some 73, _, _, _, _, _⟩) (v := ?_) rfl (by kernel_rfl) (by kernel_rfl) (by kernel_rfl) (by kernel_rfl) (fun _ _ _ h => h) (Or.inl ⟨by kernel_rfl, ?_⟩) (fun _ => y2d) ?_
        rotate_left
        · intro w'; go_simp; rfl
        try simp only [Act.put, List.setIfInBounds_toArray, List.set_cons_zero, List.set_cons_succ]
        refine wpAnyK_takeAny (i := 12) (oi := ⟨some 74, _, _, _, _, _⟩) (v := ?_) rfl (by kernel_rfl) (by kernel_rfl) (by kernel_rfl) (by kernel_rfl) (fun _ _ _ h => h) (Or.inl ⟨by kernel_rfl, ?_⟩) (fun _ => y2d) ?_
        rotate_left
        · intro w'; go_simp; rfl
        try simp only [Act.put, List.setIfInBounds_toArray, List.set_cons_zero, List.set_cons_succ]
        refine wpAnyK_takeAny (i := 13) (oi := ⟨some 75, _, _, _, _, _⟩) (v := ?_) rfl (by kernel_rfl) (by kernel_rfl) (by kernel_rfl) (by kernel_rfl) (fun _ _ _ h => h) (Or.inl ⟨by kernel_rfl, ?_⟩) (fun _ => y2d) ?_
        rotate_left
        · intro w'; go_simp; rfl
        try simp only [Act.put, List.setIfInBounds_toArray, List.set_cons_zero, List.set_cons_succ]
        refine wpAnyK_ready (rs := [0]) (by kernel_rfl) (by simp) ?_
        refine AllReadyK.cons (o := ⟨some 62, _, _, _, _, _⟩) rfl (fun K hK => ?_) AllReadyK.nil
        have hb1 : Below wr.heap.size wr (W0.alloc (.cells #[] 3)) := hbd.alloc hbd.size _
        have hE : (W0.alloc (.cells #[] 3)).ownsRow wr.heap.size 3 1 (.slice (some ⟨W0.heap.size, 0, none⟩) 0 0) ([] : List Int).length (([] : List Int).map (Value.int .i64)) := World.ownsRow_made W0 #[] 0 hbd.size (by unfold maxLen; omega) (by simp)
        have hy1 : (W0.alloc (.cells #[] 3)).cell? ⟨b, o + i * 3 + 2, none⟩ = some (.slice AK keep.length cK) := up_cell ((Below.refl _ _).alloc (Nat.le_refl _) _) y2d
        have hKT : IntsAt (W0.alloc (.cells #[] 3)) (.slice AK (min keep.length 9) cK) (keep.take (min keep.length 9)) := (HPK.out.below (hb1.mono (below_sz HB.out (Nat.le_refl _)))).take _ _ (Nat.min_le_left _ _) HKN.out
        go_simp
        refine hK _ _ (fun _ => hy1) ?_
        clear hK K
        generalize hge : W0.alloc (.cells #[] 3) = W1 at *
        clear hge
        generalize W0.heap.size = eb at *
        refine wpAnyK_ready (rs := [14]) (by kernel_rfl) (by simp) ?_
        refine AllReadyK.cons (o := ⟨some 76, _, _, _, _, _⟩) rfl (fun K hK => ?_) AllReadyK.nil
        obtain ⟨v14, W2, hr14, hO14, hg14⟩ := ints_append wr.heap.size _ [] (keep.take (min keep.length 9)) _ W1 hE hKT (by simp) (by simp; omega) hb1.size
        simp only [List.nil_append] at hO14
        have hb14 : Below wr.heap.size wr W2 := hb1.grown hg14 hb1.size (fun k e => (hE.lt k e).1)
        rw [if_pos (by kernel_rfl)]
        refine Lib.wp_append_run _ (.tmp 62) (.tmp 75) 52 52 rfl _ _ rfl rfl _ _ hr14 ?_
        try simp only [Act.put, List.setIfInBounds_toArray, List.set_cons_zero, List.set_cons_succ]
        refine hK _ _ (fun h => by cases h) ?_
        clear hK K
        clear hr14
        refine wpAnyK_takeAny (i := 15) (oi := ⟨some 12, _, _, _, _, _⟩) (v := ?_) rfl (by kernel_rfl) (by kernel_rfl) (by kernel_rfl) (by kernel_rfl) (fun _ _ _ h => h) (Or.inl ⟨by kernel_rfl, ?_⟩) (fun h => by cases h) ?_
        rotate_left
        · intro w'; go_simp; rfl
        try simp only [Act.put, List.setIfInBounds_toArray, List.set_cons_zero, List.set_cons_succ]
        refine wpAnyK_done (by kernel_rfl) ?_ _
        go_wp2_with fail
        go_meet
        case rel => exact ⟨_, rfl, hb14, hO14⟩
      case rest =>
        obtain ⟨kv, rfl, hbk, hKO⟩ := hcut
        have hn := below_sz HB.out (Nat.le_refl _)
        replace HP := Lib.hid (HP.out.up hbk); replace HTW := Lib.hid (HTW.out.up hbk); replace HTT := Lib.hid (HTT.out.up hbk); replace HB := Lib.hid (HB.out.trans (hbk.mono hn))
        replace HPP := Lib.hid (HPP.out.below (hbk.mono hn)); replace y0 := up_cell hbk y0; replace y1 := up_cell hbk y1
        have HKO := Lib.hid (ownsRow_base hKO hn)
        clear hbk hKO y2 hn HPK HKN hKl hKc e1 e2
        have hn1 := below_sz HB.out (Nat.le_refl _)
        obtain ⟨np, hnp⟩ : ∃ n, n = min puts.length 6 := ⟨_, rfl⟩
        have HNP := Lib.hid hnp
        clear hnp
        go_wp2_with fail
        go_loopg [10, 13, 14, 15, 16] np (fun gh ls im at_ tx kv2 wr2 => ∃ k : Nat, k ≤ np ∧ gh = np - k ∧ kv2 = .int .i64 k ∧ ls = .int .i64 ((L : Int) + k) ∧ Three wc.heap.size wr2 im at_ tx (playI L puts k) ∧ Below wc.heap.size wc wr2)
        case atStart => exact ⟨0, Nat.zero_le _, rfl, rfl, by simp, Three.nil (Nat.le_refl _), Below.refl _ _⟩
        case round =>
          obtain ⟨k, hk, rfl, rfl, rfl, hTh, hB2⟩ := hrel
          have hk6 : k ≤ 6 := by have := HNP.out; omega
          have y0' := up_cell hB2 y0
          by_cases hlt2 : k < np
          · have hkl : k < puts.length := by have := HNP.out; omega
            have hk5 : k < 6 := by have := HNP.out; omega
            have e3 : (k : Int) < (puts.length : Int) := by omega
            have e4 : (k : Int) < 6 := by omega
            obtain ⟨pb, po, rfl, hpn, p0, p1⟩ := HPP.out.below (hB2.mono hn1) k hkl
            have hxl := HX3.out puts[k] (List.getElem_mem hkl)
            have hnext : playI L puts (k + 1) = playI L puts k ++ [(puts[k].1 % 8, imgB ((L : Int) + 1 + k) puts[k].2)] := playI_succ L puts k hkl
            obtain ⟨x, hxx⟩ : ∃ x, x = puts[k] := ⟨_, rfl⟩
            rw [← hxx] at p0 p1 hxl hnext
            obtain ⟨xp, xt⟩ := x
            dsimp only at p0 p1 hxl hnext
            have hL72 := HL.out
            have him := fun W hW => image_any xp ((L : Int) + 1 + k) xt (by omega) (by omega) hxl W hW
            generalize imgB ((L : Int) + 1 + k) xt = s at *
            have r1 : bits .and .i64 xp 7 = xp % 8 := i64_mask xp 3 (by decide)
            have r3 : IntKind.i64.wrap ((L : Int) + k + 1) = (L : Int) + 1 + k := by rw [IntKind.wrap_i64]; omega
            have HNX := Lib.hid hnext; have HTH := Lib.hid hTh; have HB2 := Lib.hid hB2
            have hTT2 := HTT.out.up hB2
            clear hxx hnext hTh hB2 hL72
            go_wp2_with fail
            refine (him wr hTT2.turns).mono ?_
            rintro e w5 ⟨rfl, hb5⟩
            have hTh5 := HTH.out.up hb5
            have hB5 := HB2.out.trans (hb5.mono HTH.out.at1)
            obtain ⟨im', w7, at', w9, tx', w11, hr7, hr9, hr11, hTh11, hb11⟩ := hTh5.push (xp % 8) s (by rw [playI_length]; omega)
            rw [← HNX.out] at hTh11
            have HTH2 := Lib.hid hTh11; have HB3 := Lib.hid (hB5.trans hb11)
            clear hTh5 hB5 hTh11 hb11 HTH HB2 hb5 him hTT2 p0 p1
            go_wp2_with (at_builtin; first | refine Lib.wpList_append_run _ rfl _ _ _ _ rfl _ _ rfl rfl _ _ hr7 ?_ | refine Lib.wpList_append_run _ rfl _ _ _ _ rfl _ _ rfl rfl _ _ hr9 ?_ | refine Lib.wpList_append_run _ rfl _ _ _ _ rfl _ _ rfl rfl _ _ hr11 ?_)
            go_roundg (np - (k + 1))
            case measure => omega
            case rel => exact ⟨k + 1, by omega, rfl, by go_num, by congr 1; omega, HTH2.out, HB3.out⟩
          · have hkk : k = np := by omega
            subst hkk
            obtain ⟨imgs, himgs⟩ : ∃ x, x = playI L puts k := ⟨_, rfl⟩
            have hLk : L + k ≤ 1000 := by have := HL.out; omega
            have hNx := playI_next HPG.out L puts k (by omega)
            have hmem : ∀ x ∈ imgs, (0 ≤ x.1 ∧ x.1 < 8) ∧ x.2.length = 512 := fun x hx => by
              obtain ⟨h1, h2, _⟩ := playI_mem L puts k (by omega) x (himgs ▸ hx)
              exact ⟨h1, h2⟩
            have hil : imgs.length = k := by rw [himgs]; exact playI_length _ _ _
            rw [← himgs] at hTh hNx
            clear himgs
            have hxb : ∀ b, u.ownBlock = some b → b < wc.heap.size := fun b e => (HTW.out.one.lt b e).2
            replace HP := Lib.hid (HP.out.up hB2); replace HTW := Lib.hid (HTW.out.up hB2); replace HTT := Lib.hid (HTT.out.up hB2); replace HB := Lib.hid (HB.out.trans (hB2.mono hn1))
            have HKO2 := Lib.hid (ownsRow_grown HKO.out (grown_of_below hB2 none) (by simp))
            have y1' := up_cell hB2 y1
            have HTH := Lib.hid hTh; have HNX := Lib.hid hNx; have HMEM := Lib.hid hmem; have HIL := Lib.hid hil; have HXB := Lib.hid hxb; have HLK := Lib.hid hLk
            have m1 : bits .and .i64 cut 31 = cut % 32 := i64_mask cut 5 (by decide)
            have m2 : IntKind.i64.wrap (1 + cut % 32) = 1 + cut % 32 := by rw [IntKind.wrap_i64]; omega
            obtain ⟨nb, hnb⟩ : ∃ x, x = wc.heap.size := ⟨_, rfl⟩
            rw [← hnb] at HTH HXB
            clear hTh hNx hmem hil hxb hLk HKO HPP y0 y1 hB2 hn1 hnb
            obtain ⟨kt, hkt⟩ : ∃ x, x = keep.take (min keep.length 9) := ⟨_, rfl⟩
            have hktl : kt.length ≤ 9 := by rw [hkt]; simp; omega
            rw [← hkt] at HKO2
            clear hkt
            by_cases h9 : puts.length ≤ 6
            · have e9 : ¬ ((k : Int) < (puts.length : Int)) := by have := HNP.out; omega
              as_aux_lemma =>
                go_upto_if 132 with fail
                go_cut [] (fun wx => ∃ d1, Sound a d1 (fun p => xs.getD p.toNat []) L ∧ d1.cmds = d.cmds ∧ Tw w.heap.size wx ga g m a d1 ∧ Blk wx wb 58 #[u, v] ∧ Two w.heap.size wx u v xs (List.replicate 8 []) ∧ Three nb wx u13 u14 u15 imgs ∧
                  wx.ownsRow w.heap.size 3 1 u12 kt.length (kt.map (Value.int .i64)) ∧ Below w.heap.size w wx)
                case first =>
                  by_cases hct : 0 < cut
                  · have hfu := devfuse_any w.heap.size g m d (1 + cut % 32) kt u12 wr HTT.out.dv (IntsAt.of_own HKO2.out) (by omega) HS.out.off (by omega)
                    go_wp2_with fail
                    refine hfu.mono ?_
                    clear hfu
                    rintro e w7 ⟨rfl, hD7, hk7⟩
                    have hT7 := HTT.out.kept hD7 rfl hk7
                    have hP7 := HP.out.kept HTT.out hk7
                    have hW7 := HTW.out.kept HTT.out hk7
                    have hH7 := HTH.out.kept HTT.out hk7
                    have hO7 := ownsRow_kept HKO2.out hk7 HTT.out.dv.blk2 HTT.out.dv.map2 (by decide) (by decide)
                    have hB7 := HB.out.trans hk7.below
                    go_wp2_with fail
                    go_meet
                    case rel => exact ⟨_, HS.out.fuse _ _, rfl, hT7, hP7, hW7, hH7, hO7, hB7⟩
                  · go_wp2_with fail
                    go_meet
                    case rel => exact ⟨_, HS.out, rfl, HTT.out, HP.out, HTW.out, HTH.out, HKO2.out, HB.out⟩
                case rest =>
                  obtain ⟨d1, hS1, hc1, hT1, hP1, hW1, hH1, hO1, hB1⟩ := hcut
                  clear HP HTW HTT HTH HKO2 HB m1 m2 y1' y0' HS
                  obtain ⟨A', cap', hu13, hIm, hcap⟩ := imgs_at hH1.img hT1.dv.blk2 hT1.dv.map2
                  subst hu13
                  have hcd := HC.out
                  have hil := HIL.out
                  have hwr := twrite_any w.heap.size ga g m a d1 A' cap' imgs wc hT1 hIm hcap (by omega) (fun x hx => by have := (HMEM.out x hx).2; omega) (by omega)
                  have hcase := hS1.write HNX.out
                  have hcm : (twriteM a d1 imgs).2.cmds ≤ d.cmds + 42 := by
                    have hq := (roundsM_all a HFIT.out.2.2.1.1 imgs.length d1 imgs).2
                    unfold twriteM
                    split
                    · omega
                    · show d1.cmds ≤ _; omega
                  generalize twriteM a d1 imgs = rr at *
                  obtain ⟨en, d2⟩ := rr
                  dsimp only at hwr hcase hcm
                  have HCASE := Lib.hid hcase; have HCM := Lib.hid hcm; have HT1 := Lib.hid hT1; have HP1 := Lib.hid hP1; have HW1 := Lib.hid hW1; have HH1 := Lib.hid hH1; have HO1 := Lib.hid hO1; have HBB1 := Lib.hid hB1; have HS1 := Lib.hid hS1
                  have HC1 := Lib.hid hc1
                  clear hcase hcm hT1 hP1 hW1 hH1 hO1 hB1 hIm hcap hcd hS1 hil hc1
                  go_wp2_with fail
                  refine hwr.mono ?_
                  clear hwr
                  rintro e w8 ⟨rfl, hT8, hk8⟩
                  have HP8 := Lib.hid (HP1.out.kept HT1.out hk8); have HW8 := Lib.hid (HW1.out.kept HT1.out hk8); have HH8 := Lib.hid (HH1.out.kept HT1.out hk8)
                  have HO8 := Lib.hid (ownsRow_kept HO1.out hk8 HT1.out.dv.blk2 HT1.out.dv.map2 (by decide) (by decide)); have HB8 := Lib.hid (HBB1.out.trans hk8.below); have HT8 := Lib.hid hT8
                  clear hT8 hk8 HT1 HP1 HW1 HH1 HO1 HBB1
                  go_wp2_with fail
                  refine (devoff_any w.heap.size g m d2 w8 HT8.out.dv).mono ?_
                  rintro e w9 ⟨rfl, rfl⟩
                  go_wp2_with fail
                  refine (devon_any w.heap.size g m d2 w8 HT8.out.dv).mono ?_
                  rintro e w9 ⟨rfl, hD9, hk9⟩
                  have HP9 := Lib.hid (HP8.out.kept HT8.out hk9); have HW9 := Lib.hid (HW8.out.kept HT8.out hk9); have HH9 := Lib.hid (HH8.out.kept HT8.out hk9)
                  have HO9 := Lib.hid (ownsRow_kept HO8.out hk9 HT8.out.dv.blk2 HT8.out.dv.map2 (by decide) (by decide)); have HB9 := Lib.hid (HB8.out.trans hk9.below); have HT9 := Lib.hid (HT8.out.kept hD9 rfl hk9)
                  clear hD9 hk9 HT8 HP8 HW8 HH8 HO8 HB8
                  rcases HCASE.out with ⟨rfl, ho, hS2⟩ | ⟨rfl, ho, hHu⟩
                  · rw [ho]
                    have z0 := HP9.out.cell 0
                    have z1 := HP9.out.cell 1
                    clear HCASE
                    have hwn := written9_any w.heap.size u v xs (List.replicate 8 []) imgs u14 u15 w9 HW9.out HX8.out List.length_replicate (IntsAt.of_own HH9.out.pg) (StrsAt.of_own HH9.out.txt) (by have := HIL.out; omega) (fun x hx => (HMEM.out x hx).1)
                    have HS2 := Lib.hid hS2
                    clear hS2 ho
                    go_wp2_with fail
                    refine hwn.mono ?_
                    clear hwn z0 z1
                    rintro e w10 ⟨u', v', rfl, hW10, hb10⟩
                    have hn9 := below_sz HB9.out (Nat.le_refl _)
                    have hW10' := hW10.mono hn9
                    obtain ⟨A3, n3, q3, rfl⟩ := hW10'.one.form
                    obtain ⟨A4, n4, q4, rfl⟩ := hW10'.two.form
                    have hP10 := HP9.out.up hb10
                    have hT10 := HT9.out.up hb10
                    have hB10 := HB9.out.trans (hb10.mono hn9)
                    have f0 := hP10.frozen 0
                    have f1 := hP10.frozen 1
                    have z0 := hP10.cell 0
                    have z1 := hP10.cell 1
                    have HP11 := Lib.hid ((hP10.set 0 (.slice A3 n3 q3)).set 1 (.slice A4 n4 q4))
                    have HT11 := Lib.hid ((hT10.setPages hP10 HWB.out 0 (.slice A3 n3 q3)).setPages (hP10.set 0 (.slice A3 n3 q3)) HWB.out 1 (.slice A4 n4 q4))
                    have HW11 := Lib.hid ((hW10'.setBlk hP10 (by decide) 0 (.slice A3 n3 q3)).setBlk (hP10.set 0 (.slice A3 n3 q3)) (by decide) 1 (.slice A4 n4 q4))
                    have HB11 := Lib.hid ((hB10.setCell (p := ⟨wb, 0, none⟩) HWB.out (.slice A3 n3 q3)).setCell (p := ⟨wb, 1, none⟩) HWB.out (.slice A4 n4 q4))
                    clear hW10 hb10 hn9 hW10' hP10 hT10 hB10 HP9 HW9 HH9 HO9 HB9 HT9
                    go_wp2_with fail
                    go_roundg (nn - (i + 1))
                    case measure => omega
                    case rel =>
                      refine ⟨i + 1, L + k, _, _, putL xs imgs, onM d2, by omega, rfl, by go_num, by congr 1, by have := HL.out; omega, by rw [putL_length]; exact HX8.out, HP11.out, HW11.out, HT11.out, HS2.out.congr (fun p p0 p1 => ?_), ?_, HB11.out⟩
                      · have hpp := HPG.out
                        have := putL_at xs imgs (fun x hx => (HMEM.out x hx).1.1) p.toNat (by have := HX8.out; omega)
                        rw [this, show ((p.toNat : Nat) : Int) = p by omega]
                      · have h1 := HCM.out; have h2 := HC.out
                        show d2.cmds ≤ _
                        omega
                  · rw [ho]
                    have HR := Lib.hid (HS1.out.rising HNX.out)
                    have m5 : bits .and .i64 (i : Int) 3 = (i : Int) % 4 := i64_mask i 2 (by decide)
                    have m6 : IntKind.i64.wrap (1 + (i : Int) % 4) = 1 + (i : Int) % 4 := by rw [IntKind.wrap_i64]; omega
                    have hfu := devfuse_any w.heap.size g m (onM d2) (1 + (i : Int) % 4) kt u12 w9 HT9.out.dv (IntsAt.of_own HO9.out) (by omega) rfl (by omega)
                    have HHU := Lib.hid (hHu.fuse (1 + (i : Int) % 4) kt)
                    clear HCASE hHu ho
                    go_wp2_with fail
                    refine hfu.mono ?_
                    clear hfu m5 m6
                    rintro e w10 ⟨rfl, hD10, hk10⟩
                    have HP10 := Lib.hid (HP9.out.kept HT9.out hk10); have HW10 := Lib.hid (HW9.out.kept HT9.out hk10); have HH10 := Lib.hid (HH9.out.kept HT9.out hk10)
                    have HB10 := Lib.hid (HB9.out.trans hk10.below); have HT10 := Lib.hid (HT9.out.kept hD10 rfl hk10)
                    have hcf : (fuseM (onM d2) (1 + (i : Int) % 4) kt).cmds ≤ d.cmds + 42 := HCM.out
                    clear hD10 hk10 HT9 HP9 HW9 HH9 HO9 HB9 HCM
                    generalize fuseM (onM d2) (1 + (i : Int) % 4) kt = d3 at *
                    have hr1 := repair_any w.heap.size ga g m a d3 w10 HT10.out (by have := HC.out; omega) HHU.out.off
                    have HHU2 := Lib.hid (HHU.out.repair HR.out HT10.out.dv.fits)
                    have HC4 := Lib.hid (show (trepairM a d3).2.cmds ≤ d.cmds + 100 by have h1 := trepair_cmds a d3 HHU.out.off; have h2 := HPG.out; rw [h2] at h1; omega)
                    clear HHU hcf
                    generalize trepairM a d3 = rr2 at *
                    obtain ⟨⟨en1, en2⟩, d4⟩ := rr2
                    dsimp only at hr1 HHU2 HC4
                    go_wp2_with fail
                    refine hr1.mono ?_
                    clear hr1
                    rintro e w11 ⟨rfl, hT11, hk11⟩
                    have HP11 := Lib.hid (HP10.out.kept HT10.out hk11); have HW11 := Lib.hid (HW10.out.kept HT10.out hk11); have HH11 := Lib.hid (HH10.out.kept HT10.out hk11)
                    have HB11 := Lib.hid (HB10.out.trans hk11.below); have HT11 := Lib.hid hT11
                    clear hT11 hk11 HT10 HP10 HW10 HH10 HB10
                    go_wp2_with fail
                    refine (devon_any w.heap.size g m d4 w11 HT11.out.dv).mono ?_
                    rintro e w12 ⟨rfl, hD12, hk12⟩
                    have HP12 := Lib.hid (HP11.out.kept HT11.out hk12); have HW12 := Lib.hid (HW11.out.kept HT11.out hk12); have HH12 := Lib.hid (HH11.out.kept HT11.out hk12)
                    have HB12 := Lib.hid (HB11.out.trans hk12.below); have HT12 := Lib.hid (HT11.out.kept hD12 rfl hk12)
                    clear hD12 hk12 HT11 HP11 HW11 HH11 HB11
                    have hr2 := repair_any w.heap.size ga g m a (onM d4) w12 HT12.out (by have h1 := HC4.out; have h2 := HC.out; show d4.cmds < _; omega) rfl
                    have HC5 := Lib.hid (show (trepairM a (onM d4)).2.cmds ≤ d.cmds + 200 by have h1 := trepair_cmds a (onM d4) rfl; have h2 := HPG.out; rw [h2] at h1; have h3 := HC4.out; have h4 : (onM d4).cmds = d4.cmds := rfl; omega)
                    have hmend := fun hd2 => HHU2.out.mend rfl HR.out HT12.out.dv.fits hd2 (L' := L + k) (fun p p0 p1 => Nat.le_trans (HS1.out.old p p0 p1).2 (Nat.le_add_right _ _)) (fun x hx => (HNX.out.more x hx).2)
                    clear HHU2
                    generalize trepairM a (onM d4) = rr3 at *
                    obtain ⟨⟨cn5, en5⟩, d5⟩ := rr3
                    dsimp only at hr2 hmend HC5
                    have HMD := Lib.hid hmend
                    clear hmend
                    go_wp2_with fail
                    refine hr2.mono ?_
                    clear hr2
                    rintro e w13 ⟨rfl, hT13, hk13⟩
                    obtain ⟨he5, hS5, hCa⟩ := HMD.out hT13.dv.fits
                    subst he5
                    have HS5 := Lib.hid hS5; have HCA := Lib.hid hCa
                    have HP13 := Lib.hid (HP12.out.kept HT12.out hk13); have HW13 := Lib.hid (HW12.out.kept HT12.out hk13); have HH13 := Lib.hid (HH12.out.kept HT12.out hk13)
                    have HB13 := Lib.hid (HB12.out.trans hk13.below); have HT13 := Lib.hid hT13
                    clear hT13 hk13 HT12 HP12 HW12 HH12 HB12 HMD hS5 hCa HC4
                    obtain ⟨ub, uc, hue⟩ := HW13.out.one.at8 (by have := HX8.out; omega)
                    rw [HX8.out] at hue
                    subst hue
                    have hubn := HXB.out ub rfl
                    go_wp2_with fail
                    go_loopg [23] 8 (fun gh pv wr => ∃ (p : Nat) (xs' : List (List UInt8)), p ≤ 8 ∧ gh = 8 - p ∧ pv = .int .i64 p ∧ xs'.length = 8 ∧ (∀ q : Nat, q < 8 → xs'.getD q [] = if q < p then pgv a d5 q else xs.getD q []) ∧ Blk wr wb 58 #[.slice (some ⟨ub, 0, none⟩) 8 uc, v] ∧
                      Two w.heap.size wr (.slice (some ⟨ub, 0, none⟩) 8 uc) v xs' (List.replicate 8 []) ∧ Tw w.heap.size wr ga g m a d5 ∧ Three nb wr (.slice A' imgs.length cap') u14 u15 imgs ∧ Below w.heap.size w wr)
                    case atStart => exact ⟨0, xs, Nat.zero_le _, rfl, rfl, HX8.out, fun q _ => by simp, HP13.out, HW13.out, HT13.out, HH13.out, HB13.out⟩
                    case round =>
                      clear HP13 HW13 HT13 HH13 HB13
                      obtain ⟨p, xs', hp8, rfl, rfl, hx8', hxq, hP, hTw, hT, hTh, hB⟩ := hrel
                      by_cases hp : p < 8
                      · have hpI : (p : Int) < 8 := by omega
                        have hrd := tread_any w.heap.size ga g m a d5 p wr hT (by have h1 := HC5.out; have h2 := HC.out; omega)
                        rw [tread_on HS5.out.off (by omega) (by rw [HPG.out]; omega)] at hrd
                        have hC := HCA.out p (by omega) (by rw [HPG.out]; omega)
                        have hold := HS5.out.old p (by omega) (by rw [HPG.out]; omega)
                        obtain ⟨s, hs⟩ : ∃ x, x = pgv a d5 p := ⟨_, rfl⟩
                        rw [← hs] at hrd hC hold
                        have hs5 := hold.1.1
                        have hrw := fun W => refwhole9_any s (by omega) W
                        rw [show refW s = true by unfold refW; rw [hs5, hold.1.2]; rfl] at hrw
                        obtain ⟨t, ht⟩ : ∃ x, x = xs.getD p [] := ⟨_, rfl⟩
                        have hxp : xs'.getD p [] = t := by rw [hxq p hp, if_neg (by omega), ht]
                        replace hC : s = t ∨ ((p : Int), s) ∈ imgs := by rw [ht]; exact hC
                        have HCC := Lib.hid hC; have HQ := Lib.hid hxq; have HS0 := Lib.hid hs; have HRW := Lib.hid hrw; have HXP := Lib.hid hxp; have HX8' := Lib.hid hx8'
                        have HP14 := Lib.hid hP; have HW14 := Lib.hid hTw; have HT14 := Lib.hid hT; have HH14 := Lib.hid hTh; have HB14 := Lib.hid hB
                        clear hC hold hs hs5 hrw ht hxq hxp hx8' hP hTw hT hTh hB
                        go_wp2_with fail
                        refine hrd.mono ?_
                        clear hrd
                        rintro e w15 ⟨rfl, hb15⟩
                        have hP15 := HP14.out.up hb15
                        have hW15 := HW14.out.up hb15
                        have HT15 := Lib.hid (HT14.out.up hb15); have HH15 := Lib.hid (HH14.out.up hb15); have HB15 := Lib.hid (HB14.out.trans (hb15.mono (below_sz HB14.out (Nat.le_refl _))))
                        have z0 := hP15.cell 0
                        obtain ⟨z1, z2⟩ := hW15.cell p (by rw [HX8'.out]; exact hp)
                        have hge : xs'[p]'(by rw [HX8'.out]; exact hp) = t := by rw [← HXP.out]; simp [List.getD, HX8'.out, hp]
                        rw [hge] at z1
                        have HP15 := Lib.hid hP15; have HW15 := Lib.hid hW15
                        clear hge hb15 hP15 hW15 HP14 HW14 HT14 HH14 HB14
                        go_wp2_with fail
                        obtain ⟨A14, q14, hu14, hn14, hc14⟩ := IntsAt.of_own HH15.out.pg
                        obtain ⟨A15, q15, hu15, hn15, hc15⟩ := StrsAt.of_own HH15.out.txt
                        rw [List.length_map] at hu14 hu15
                        subst hu14 hu15
                        have HA14 := Lib.hid hn14; have HC14 := Lib.hid hc14; have HA15 := Lib.hid hn15; have HC15 := Lib.hid hc15
                        clear hn14 hc14 hn15 hc15
                        obtain ⟨bo, hbo⟩ : ∃ f : Nat → Bool, f = fun j => (s == t) || (imgs.take j).any (fun x => x.1 == (p : Int) && x.2 == s) := ⟨_, rfl⟩
                        have HBO := Lib.hid hbo
                        have hbo0 : Value.bool (s == t) = .bool (bo 0) := by rw [hbo]; simp
                        clear hbo
                        go_loopg [26, 27] imgs.length (fun gh okv kv wr2 => ∃ j : Nat, j ≤ imgs.length ∧ gh = imgs.length - j ∧ kv = .int .i64 j ∧ okv = .bool (bo j) ∧ wr2 = w15)
                        case atStart => exact ⟨0, Nat.zero_le _, rfl, rfl, hbo0, rfl⟩
                        case round =>
                          clear hbo0
                          obtain ⟨j, hj, rfl, rfl, rfl, rfl⟩ := hrel
                          by_cases hlj : j < imgs.length
                          · have hljI : (j : Int) < (imgs.length : Int) := by omega
                            have hib : (imgs.length : Int) ≤ 6 := by have := HIL.out; omega
                            have hnb : bo (j + 1) = (bo j || (imgs[j].1 == (p : Int) && imgs[j].2 == s)) := by
                              rw [HBO.out]
                              simp only [List.take_add_one, List.getElem?_eq_getElem hlj, List.any_append, Option.toList, List.any_cons, List.any_nil, Bool.or_false, Bool.or_assoc]
                            have y14 : ∃ ad, A14 = some ad ∧ wr.cell? (ad.add j) = some (.int .i64 imgs[j].1) := by
                              cases A14 with
                              | none => have := (HA14.out rfl).2; rw [List.map_eq_nil_iff.1 this] at hlj; simp at hlj
                              | some ad => exact ⟨ad, rfl, HC14.out ad rfl j _ (by simp [hlj])⟩
                            have y15 : ∃ ad, A15 = some ad ∧ wr.cell? (ad.add j) = some (.string (bs imgs[j].2)) := by
                              cases A15 with
                              | none => have := (HA15.out rfl).2; rw [List.map_eq_nil_iff.1 this] at hlj; simp at hlj
                              | some ad => exact ⟨ad, rfl, HC15.out ad rfl j _ (by simp [strCells, hlj])⟩
                            obtain ⟨ad14, rfl, y14⟩ := y14
                            obtain ⟨ad15, rfl, y15⟩ := y15
                            obtain ⟨x, hx⟩ : ∃ x, x = imgs[j] := ⟨_, rfl⟩
                            rw [← hx] at hnb y14 y15
                            clear hx
                            obtain ⟨xp, xs5⟩ := x
                            dsimp only at hnb y14 y15
                            cases hb0 : bo j with
                            | true =>
                              rw [hb0] at hnb
                              have HNB := Lib.hid hnb
                              clear hnb
                              go_wp2_with fail
                              go_roundg (imgs.length - (j + 1))
                              case measure => omega
                              case rel => exact ⟨j + 1, by omega, rfl, by go_num, by rw [HNB.out]; rfl, rfl⟩
                            | false =>
                              rw [hb0] at hnb
                              have HNB := Lib.hid hnb
                              clear hnb
                              cases hb1 : (xp == (p : Int)) with
                              | true =>
                                have hxp2 : xp = (p : Int) := by simpa using hb1
                                subst hxp2
                                clear hb1
                                go_wp2_with fail
                                go_roundg (imgs.length - (j + 1))
                                case measure => omega
                                case rel => exact ⟨j + 1, by omega, rfl, by go_num, by rw [HNB.out]; simp, rfl⟩
                              | false =>
                                have hxp2 : ¬ xp = (p : Int) := by simpa using hb1
                                rw [hb1] at HNB
                                clear hb1
                                go_wp2_with fail
                                go_roundg (imgs.length - (j + 1))
                                case measure => omega
                                case rel => exact ⟨j + 1, by omega, rfl, by go_num, by rw [HNB.out]; rfl, rfl⟩
                          · have hlj2 : ¬ ((j : Int) < (imgs.length : Int)) := by omega
                            have hjl : j = imgs.length := by omega
                            have hbt : bo j = true := by
                              rw [HBO.out, hjl]
                              simp only [List.take_length]
                              rcases HCC.out with h | h
                              · simp [h]
                              · simp only [Bool.or_eq_true]
                                exact Or.inr (List.any_eq_true.2 ⟨_, h, by simp⟩)
                            clear hjl
                            rw [hbt]
                            have hrw := HRW.out wr
                            go_wp2_with fail
                            refine hrw.mono ?_
                            clear hrw
                            rintro e w16 ⟨rfl, hb16⟩
                            have hubw : w.heap.size ≤ ub := (HW15.out.one.lt ub rfl).1
                            have hne : wb ≠ ub := fun e => (HP15.out.notOwn HW15.out.one (by decide)) (by rw [e]; rfl)
                            have hP16 := HP15.out.up hb16
                            have hW16 := HW15.out.up hb16
                            have hT16 := HT15.out.up hb16
                            have hH16 := HH15.out.up hb16
                            have hB16 := HB15.out.trans (hb16.mono (below_sz HB15.out (Nat.le_refl _)))
                            have z0 := hP16.cell 0
                            obtain ⟨z1, z2⟩ := hW16.cell p (by rw [HX8'.out]; exact hp)
                            have hHH := HXB.out
                            have HP17 := Lib.hid (hP16.setOther hne p (.string (bs s)))
                            have HW17 := Lib.hid (hW16.store p s)
                            have HT17 := Lib.hid (hT16.setStr hW16 p (.string (bs s)))
                            have HH17 := Lib.hid (hH16.setLow hubn p (.string (bs s)))
                            have HB17 := Lib.hid (hB16.setCell (p := ⟨ub, p, none⟩) hubw (.string (bs s)))
                            have hxq2 : ∀ q : Nat, q < 8 → (xs'.set p s).getD q [] = if q < p + 1 then pgv a d5 q else xs.getD q [] := fun q hq => by
                              have h1 := HQ.out q hq
                              have h8 := HX8'.out
                              by_cases hqp : q = p
                              · subst hqp
                                rw [if_pos (by omega), ← HS0.out]
                                simp [List.getD, h8, hq]
                              · have hne2 : ¬ p = q := fun e => hqp e.symm
                                have : (xs'.set p s).getD q [] = xs'.getD q [] := by simp [List.getD, List.getElem?_set_ne hne2]
                                rw [this, h1]
                                by_cases hl : q < p
                                · rw [if_pos hl, if_pos (by omega)]
                                · rw [if_neg hl, if_neg (by omega)]
                            have HXQ := Lib.hid hxq2
                            clear hxq2 hubw hne hP16 hW16 hT16 hH16 hB16 hHH hb16 HP15 HW15 HT15 HH15 HB15
                            go_wp2_with fail
                            generalize World.setCell _ _ _ = W17 at *
                            go_roundg (8 - (p + 1))
                            case measure => omega
                            case rel => exact ⟨p + 1, xs'.set p s, by omega, rfl, by go_num, by rw [List.length_set]; exact HX8'.out, HXQ.out, HP17.out, HW17.out, HT17.out, HH17.out, HB17.out⟩
                      · have hp8' : p = 8 := by omega
                        subst hp8'
                        have HP18 := Lib.hid hP; have HW18 := Lib.hid hTw; have HT18 := Lib.hid hT; have HB18 := Lib.hid hB; have HX18 := Lib.hid hx8'; have HQ18 := Lib.hid hxq
                        clear hP hTw hT hTh hB hx8' hxq
                        go_wp2_with fail
                        go_roundg (nn - (i + 1))
                        case measure => omega
                        case rel =>
                          refine ⟨i + 1, L + k, _, _, xs', d5, by omega, rfl, by go_num, by congr 1, by have := HL.out; omega, HX18.out, HP18.out, HW18.out, HT18.out, HS5.out.congr (fun p p0 p1 => ?_), ?_, HB18.out⟩
                          · have hpp := HPG.out
                            have h := HQ18.out p.toNat (by omega)
                            rw [if_pos (by omega)] at h
                            rw [h, show ((p.toNat : Nat) : Int) = p by omega]
                          · have h1 := HC5.out; have h2 := HC.out
                            omega
            · have e9 : (k : Int) < (puts.length : Int) := by have := HNP.out; omega
              have e10 : ¬ ((k : Int) < 6) := by have := HNP.out; omega
              as_aux_lemma =>
                go_upto_if 132 with fail
                go_cut [] (fun wx => ∃ d1, Sound a d1 (fun p => xs.getD p.toNat []) L ∧ d1.cmds = d.cmds ∧ Tw w.heap.size wx ga g m a d1 ∧ Blk wx wb 58 #[u, v] ∧ Two w.heap.size wx u v xs (List.replicate 8 []) ∧ Three nb wx u13 u14 u15 imgs ∧
                  wx.ownsRow w.heap.size 3 1 u12 kt.length (kt.map (Value.int .i64)) ∧ Below w.heap.size w wx)
                case first =>
                  by_cases hct : 0 < cut
                  · have hfu := devfuse_any w.heap.size g m d (1 + cut % 32) kt u12 wr HTT.out.dv (IntsAt.of_own HKO2.out) (by omega) HS.out.off (by omega)
                    go_wp2_with fail
                    refine hfu.mono ?_
                    clear hfu
                    rintro e w7 ⟨rfl, hD7, hk7⟩
                    have hT7 := HTT.out.kept hD7 rfl hk7
                    have hP7 := HP.out.kept HTT.out hk7
                    have hW7 := HTW.out.kept HTT.out hk7
                    have hH7 := HTH.out.kept HTT.out hk7
                    have hO7 := ownsRow_kept HKO2.out hk7 HTT.out.dv.blk2 HTT.out.dv.map2 (by decide) (by decide)
                    have hB7 := HB.out.trans hk7.below
                    go_wp2_with fail
                    go_meet
                    case rel => exact ⟨_, HS.out.fuse _ _, rfl, hT7, hP7, hW7, hH7, hO7, hB7⟩
                  · go_wp2_with fail
                    go_meet
                    case rel => exact ⟨_, HS.out, rfl, HTT.out, HP.out, HTW.out, HTH.out, HKO2.out, HB.out⟩
                case rest =>
                  obtain ⟨d1, hS1, hc1, hT1, hP1, hW1, hH1, hO1, hB1⟩ := hcut
                  clear HP HTW HTT HTH HKO2 HB m1 m2 y1' y0' HS
                  obtain ⟨A', cap', hu13, hIm, hcap⟩ := imgs_at hH1.img hT1.dv.blk2 hT1.dv.map2
                  subst hu13
                  have hcd := HC.out
                  have hil := HIL.out
                  have hwr := twrite_any w.heap.size ga g m a d1 A' cap' imgs wc hT1 hIm hcap (by omega) (fun x hx => by have := (HMEM.out x hx).2; omega) (by omega)
                  have hcase := hS1.write HNX.out
                  have hcm : (twriteM a d1 imgs).2.cmds ≤ d.cmds + 42 := by
                    have hq := (roundsM_all a HFIT.out.2.2.1.1 imgs.length d1 imgs).2
                    unfold twriteM
                    split
                    · omega
                    · show d1.cmds ≤ _; omega
                  generalize twriteM a d1 imgs = rr at *
                  obtain ⟨en, d2⟩ := rr
                  dsimp only at hwr hcase hcm
                  have HCASE := Lib.hid hcase; have HCM := Lib.hid hcm; have HT1 := Lib.hid hT1; have HP1 := Lib.hid hP1; have HW1 := Lib.hid hW1; have HH1 := Lib.hid hH1; have HO1 := Lib.hid hO1; have HBB1 := Lib.hid hB1; have HS1 := Lib.hid hS1
                  have HC1 := Lib.hid hc1
                  clear hcase hcm hT1 hP1 hW1 hH1 hO1 hB1 hIm hcap hcd hS1 hil hc1
                  go_wp2_with fail
                  refine hwr.mono ?_
                  clear hwr
                  rintro e w8 ⟨rfl, hT8, hk8⟩
                  have HP8 := Lib.hid (HP1.out.kept HT1.out hk8); have HW8 := Lib.hid (HW1.out.kept HT1.out hk8); have HH8 := Lib.hid (HH1.out.kept HT1.out hk8)
                  have HO8 := Lib.hid (ownsRow_kept HO1.out hk8 HT1.out.dv.blk2 HT1.out.dv.map2 (by decide) (by decide)); have HB8 := Lib.hid (HBB1.out.trans hk8.below); have HT8 := Lib.hid hT8
                  clear hT8 hk8 HT1 HP1 HW1 HH1 HO1 HBB1
                  go_wp2_with fail
                  refine (devoff_any w.heap.size g m d2 w8 HT8.out.dv).mono ?_
                  rintro e w9 ⟨rfl, rfl⟩
                  go_wp2_with fail
                  refine (devon_any w.heap.size g m d2 w8 HT8.out.dv).mono ?_
                  rintro e w9 ⟨rfl, hD9, hk9⟩
                  have HP9 := Lib.hid (HP8.out.kept HT8.out hk9); have HW9 := Lib.hid (HW8.out.kept HT8.out hk9); have HH9 := Lib.hid (HH8.out.kept HT8.out hk9)
                  have HO9 := Lib.hid (ownsRow_kept HO8.out hk9 HT8.out.dv.blk2 HT8.out.dv.map2 (by decide) (by decide)); have HB9 := Lib.hid (HB8.out.trans hk9.below); have HT9 := Lib.hid (HT8.out.kept hD9 rfl hk9)
                  clear hD9 hk9 HT8 HP8 HW8 HH8 HO8 HB8
                  rcases HCASE.out with ⟨rfl, ho, hS2⟩ | ⟨rfl, ho, hHu⟩
                  · rw [ho]
                    have z0 := HP9.out.cell 0
                    have z1 := HP9.out.cell 1
                    clear HCASE
                    have hwn := written9_any w.heap.size u v xs (List.replicate 8 []) imgs u14 u15 w9 HW9.out HX8.out List.length_replicate (IntsAt.of_own HH9.out.pg) (StrsAt.of_own HH9.out.txt) (by have := HIL.out; omega) (fun x hx => (HMEM.out x hx).1)
                    have HS2 := Lib.hid hS2
                    clear hS2 ho
                    go_wp2_with fail
                    refine hwn.mono ?_
                    clear hwn z0 z1
                    rintro e w10 ⟨u', v', rfl, hW10, hb10⟩
                    have hn9 := below_sz HB9.out (Nat.le_refl _)
                    have hW10' := hW10.mono hn9
                    obtain ⟨A3, n3, q3, rfl⟩ := hW10'.one.form
                    obtain ⟨A4, n4, q4, rfl⟩ := hW10'.two.form
                    have hP10 := HP9.out.up hb10
                    have hT10 := HT9.out.up hb10
                    have hB10 := HB9.out.trans (hb10.mono hn9)
                    have f0 := hP10.frozen 0
                    have f1 := hP10.frozen 1
                    have z0 := hP10.cell 0
                    have z1 := hP10.cell 1
                    have HP11 := Lib.hid ((hP10.set 0 (.slice A3 n3 q3)).set 1 (.slice A4 n4 q4))
                    have HT11 := Lib.hid ((hT10.setPages hP10 HWB.out 0 (.slice A3 n3 q3)).setPages (hP10.set 0 (.slice A3 n3 q3)) HWB.out 1 (.slice A4 n4 q4))
                    have HW11 := Lib.hid ((hW10'.setBlk hP10 (by decide) 0 (.slice A3 n3 q3)).setBlk (hP10.set 0 (.slice A3 n3 q3)) (by decide) 1 (.slice A4 n4 q4))
                    have HB11 := Lib.hid ((hB10.setCell (p := ⟨wb, 0, none⟩) HWB.out (.slice A3 n3 q3)).setCell (p := ⟨wb, 1, none⟩) HWB.out (.slice A4 n4 q4))
                    clear hW10 hb10 hn9 hW10' hP10 hT10 hB10 HP9 HW9 HH9 HO9 HB9 HT9
                    go_wp2_with fail
                    go_roundg (nn - (i + 1))
                    case measure => omega
                    case rel =>
                      refine ⟨i + 1, L + k, _, _, putL xs imgs, onM d2, by omega, rfl, by go_num, by congr 1, by have := HL.out; omega, by rw [putL_length]; exact HX8.out, HP11.out, HW11.out, HT11.out, HS2.out.congr (fun p p0 p1 => ?_), ?_, HB11.out⟩
                      · have hpp := HPG.out
                        have := putL_at xs imgs (fun x hx => (HMEM.out x hx).1.1) p.toNat (by have := HX8.out; omega)
                        rw [this, show ((p.toNat : Nat) : Int) = p by omega]
                      · have h1 := HCM.out; have h2 := HC.out
                        show d2.cmds ≤ _
                        omega
                  · rw [ho]
                    have HR := Lib.hid (HS1.out.rising HNX.out)
                    have m5 : bits .and .i64 (i : Int) 3 = (i : Int) % 4 := i64_mask i 2 (by decide)
                    have m6 : IntKind.i64.wrap (1 + (i : Int) % 4) = 1 + (i : Int) % 4 := by rw [IntKind.wrap_i64]; omega
                    have hfu := devfuse_any w.heap.size g m (onM d2) (1 + (i : Int) % 4) kt u12 w9 HT9.out.dv (IntsAt.of_own HO9.out) (by omega) rfl (by omega)
                    have HHU := Lib.hid (hHu.fuse (1 + (i : Int) % 4) kt)
                    clear HCASE hHu ho
                    go_wp2_with fail
                    refine hfu.mono ?_
                    clear hfu m5 m6
                    rintro e w10 ⟨rfl, hD10, hk10⟩
                    have HP10 := Lib.hid (HP9.out.kept HT9.out hk10); have HW10 := Lib.hid (HW9.out.kept HT9.out hk10); have HH10 := Lib.hid (HH9.out.kept HT9.out hk10)
                    have HB10 := Lib.hid (HB9.out.trans hk10.below); have HT10 := Lib.hid (HT9.out.kept hD10 rfl hk10)
                    have hcf : (fuseM (onM d2) (1 + (i : Int) % 4) kt).cmds ≤ d.cmds + 42 := HCM.out
                    clear hD10 hk10 HT9 HP9 HW9 HH9 HO9 HB9 HCM
                    generalize fuseM (onM d2) (1 + (i : Int) % 4) kt = d3 at *
                    have hr1 := repair_any w.heap.size ga g m a d3 w10 HT10.out (by have := HC.out; omega) HHU.out.off
                    have HHU2 := Lib.hid (HHU.out.repair HR.out HT10.out.dv.fits)
                    have HC4 := Lib.hid (show (trepairM a d3).2.cmds ≤ d.cmds + 100 by have h1 := trepair_cmds a d3 HHU.out.off; have h2 := HPG.out; rw [h2] at h1; omega)
                    clear HHU hcf
                    generalize trepairM a d3 = rr2 at *
                    obtain ⟨⟨en1, en2⟩, d4⟩ := rr2
                    dsimp only at hr1 HHU2 HC4
                    go_wp2_with fail
                    refine hr1.mono ?_
                    clear hr1
                    rintro e w11 ⟨rfl, hT11, hk11⟩
                    have HP11 := Lib.hid (HP10.out.kept HT10.out hk11); have HW11 := Lib.hid (HW10.out.kept HT10.out hk11); have HH11 := Lib.hid (HH10.out.kept HT10.out hk11)
                    have HB11 := Lib.hid (HB10.out.trans hk11.below); have HT11 := Lib.hid hT11
                    clear hT11 hk11 HT10 HP10 HW10 HH10 HB10
                    go_wp2_with fail
                    refine (devon_any w.heap.size g m d4 w11 HT11.out.dv).mono ?_
                    rintro e w12 ⟨rfl, hD12, hk12⟩
                    have HP12 := Lib.hid (HP11.out.kept HT11.out hk12); have HW12 := Lib.hid (HW11.out.kept HT11.out hk12); have HH12 := Lib.hid (HH11.out.kept HT11.out hk12)
                    have HB12 := Lib.hid (HB11.out.trans hk12.below); have HT12 := Lib.hid (HT11.out.kept hD12 rfl hk12)
                    clear hD12 hk12 HT11 HP11 HW11 HH11 HB11
                    have hr2 := repair_any w.heap.size ga g m a (onM d4) w12 HT12.out (by have h1 := HC4.out; have h2 := HC.out; show d4.cmds < _; omega) rfl
                    have HC5 := Lib.hid (show (trepairM a (onM d4)).2.cmds ≤ d.cmds + 200 by have h1 := trepair_cmds a (onM d4) rfl; have h2 := HPG.out; rw [h2] at h1; have h3 := HC4.out; have h4 : (onM d4).cmds = d4.cmds := rfl; omega)
                    have hmend := fun hd2 => HHU2.out.mend rfl HR.out HT12.out.dv.fits hd2 (L' := L + k) (fun p p0 p1 => Nat.le_trans (HS1.out.old p p0 p1).2 (Nat.le_add_right _ _)) (fun x hx => (HNX.out.more x hx).2)
                    clear HHU2
                    generalize trepairM a (onM d4) = rr3 at *
                    obtain ⟨⟨cn5, en5⟩, d5⟩ := rr3
                    dsimp only at hr2 hmend HC5
                    have HMD := Lib.hid hmend
                    clear hmend
                    go_wp2_with fail
                    refine hr2.mono ?_
                    clear hr2
                    rintro e w13 ⟨rfl, hT13, hk13⟩
                    obtain ⟨he5, hS5, hCa⟩ := HMD.out hT13.dv.fits
                    subst he5
                    have HS5 := Lib.hid hS5; have HCA := Lib.hid hCa
                    have HP13 := Lib.hid (HP12.out.kept HT12.out hk13); have HW13 := Lib.hid (HW12.out.kept HT12.out hk13); have HH13 := Lib.hid (HH12.out.kept HT12.out hk13)
                    have HB13 := Lib.hid (HB12.out.trans hk13.below); have HT13 := Lib.hid hT13
                    clear hT13 hk13 HT12 HP12 HW12 HH12 HB12 HMD hS5 hCa HC4
                    obtain ⟨ub, uc, hue⟩ := HW13.out.one.at8 (by have := HX8.out; omega)
                    rw [HX8.out] at hue
                    subst hue
                    have hubn := HXB.out ub rfl
                    go_wp2_with fail
                    go_loopg [23] 8 (fun gh pv wr => ∃ (p : Nat) (xs' : List (List UInt8)), p ≤ 8 ∧ gh = 8 - p ∧ pv = .int .i64 p ∧ xs'.length = 8 ∧ (∀ q : Nat, q < 8 → xs'.getD q [] = if q < p then pgv a d5 q else xs.getD q []) ∧ Blk wr wb 58 #[.slice (some ⟨ub, 0, none⟩) 8 uc, v] ∧
                      Two w.heap.size wr (.slice (some ⟨ub, 0, none⟩) 8 uc) v xs' (List.replicate 8 []) ∧ Tw w.heap.size wr ga g m a d5 ∧ Three nb wr (.slice A' imgs.length cap') u14 u15 imgs ∧ Below w.heap.size w wr)
                    case atStart => exact ⟨0, xs, Nat.zero_le _, rfl, rfl, HX8.out, fun q _ => by simp, HP13.out, HW13.out, HT13.out, HH13.out, HB13.out⟩
                    case round =>
                      clear HP13 HW13 HT13 HH13 HB13
                      obtain ⟨p, xs', hp8, rfl, rfl, hx8', hxq, hP, hTw, hT, hTh, hB⟩ := hrel
                      by_cases hp : p < 8
                      · have hpI : (p : Int) < 8 := by omega
                        have hrd := tread_any w.heap.size ga g m a d5 p wr hT (by have h1 := HC5.out; have h2 := HC.out; omega)
                        rw [tread_on HS5.out.off (by omega) (by rw [HPG.out]; omega)] at hrd
                        have hC := HCA.out p (by omega) (by rw [HPG.out]; omega)
                        have hold := HS5.out.old p (by omega) (by rw [HPG.out]; omega)
                        obtain ⟨s, hs⟩ : ∃ x, x = pgv a d5 p := ⟨_, rfl⟩
                        rw [← hs] at hrd hC hold
                        have hs5 := hold.1.1
                        have hrw := fun W => refwhole9_any s (by omega) W
                        rw [show refW s = true by unfold refW; rw [hs5, hold.1.2]; rfl] at hrw
                        obtain ⟨t, ht⟩ : ∃ x, x = xs.getD p [] := ⟨_, rfl⟩
                        have hxp : xs'.getD p [] = t := by rw [hxq p hp, if_neg (by omega), ht]
                        replace hC : s = t ∨ ((p : Int), s) ∈ imgs := by rw [ht]; exact hC
                        have HCC := Lib.hid hC; have HQ := Lib.hid hxq; have HS0 := Lib.hid hs; have HRW := Lib.hid hrw; have HXP := Lib.hid hxp; have HX8' := Lib.hid hx8'
                        have HP14 := Lib.hid hP; have HW14 := Lib.hid hTw; have HT14 := Lib.hid hT; have HH14 := Lib.hid hTh; have HB14 := Lib.hid hB
                        clear hC hold hs hs5 hrw ht hxq hxp hx8' hP hTw hT hTh hB
                        go_wp2_with fail
                        refine hrd.mono ?_
                        clear hrd
                        rintro e w15 ⟨rfl, hb15⟩
                        have hP15 := HP14.out.up hb15
                        have hW15 := HW14.out.up hb15
                        have HT15 := Lib.hid (HT14.out.up hb15); have HH15 := Lib.hid (HH14.out.up hb15); have HB15 := Lib.hid (HB14.out.trans (hb15.mono (below_sz HB14.out (Nat.le_refl _))))
                        have z0 := hP15.cell 0
                        obtain ⟨z1, z2⟩ := hW15.cell p (by rw [HX8'.out]; exact hp)
                        have hge : xs'[p]'(by rw [HX8'.out]; exact hp) = t := by rw [← HXP.out]; simp [List.getD, HX8'.out, hp]
                        rw [hge] at z1
                        have HP15 := Lib.hid hP15; have HW15 := Lib.hid hW15
                        clear hge hb15 hP15 hW15 HP14 HW14 HT14 HH14 HB14
                        go_wp2_with fail
                        obtain ⟨A14, q14, hu14, hn14, hc14⟩ := IntsAt.of_own HH15.out.pg
                        obtain ⟨A15, q15, hu15, hn15, hc15⟩ := StrsAt.of_own HH15.out.txt
                        rw [List.length_map] at hu14 hu15
                        subst hu14 hu15
                        have HA14 := Lib.hid hn14; have HC14 := Lib.hid hc14; have HA15 := Lib.hid hn15; have HC15 := Lib.hid hc15
                        clear hn14 hc14 hn15 hc15
                        obtain ⟨bo, hbo⟩ : ∃ f : Nat → Bool, f = fun j => (s == t) || (imgs.take j).any (fun x => x.1 == (p : Int) && x.2 == s) := ⟨_, rfl⟩
                        have HBO := Lib.hid hbo
                        have hbo0 : Value.bool (s == t) = .bool (bo 0) := by rw [hbo]; simp
                        clear hbo
                        go_loopg [26, 27] imgs.length (fun gh okv kv wr2 => ∃ j : Nat, j ≤ imgs.length ∧ gh = imgs.length - j ∧ kv = .int .i64 j ∧ okv = .bool (bo j) ∧ wr2 = w15)
                        case atStart => exact ⟨0, Nat.zero_le _, rfl, rfl, hbo0, rfl⟩
                        case round =>
                          clear hbo0
                          obtain ⟨j, hj, rfl, rfl, rfl, rfl⟩ := hrel
                          by_cases hlj : j < imgs.length
                          · have hljI : (j : Int) < (imgs.length : Int) := by omega
                            have hib : (imgs.length : Int) ≤ 6 := by have := HIL.out; omega
                            have hnb : bo (j + 1) = (bo j || (imgs[j].1 == (p : Int) && imgs[j].2 == s)) := by
                              rw [HBO.out]
                              simp only [List.take_add_one, List.getElem?_eq_getElem hlj, List.any_append, Option.toList, List.any_cons, List.any_nil, Bool.or_false, Bool.or_assoc]
                            have y14 : ∃ ad, A14 = some ad ∧ wr.cell? (ad.add j) = some (.int .i64 imgs[j].1) := by
                              cases A14 with
                              | none => have := (HA14.out rfl).2; rw [List.map_eq_nil_iff.1 this] at hlj; simp at hlj
                              | some ad => exact ⟨ad, rfl, HC14.out ad rfl j _ (by simp [hlj])⟩
                            have y15 : ∃ ad, A15 = some ad ∧ wr.cell? (ad.add j) = some (.string (bs imgs[j].2)) := by
                              cases A15 with
                              | none => have := (HA15.out rfl).2; rw [List.map_eq_nil_iff.1 this] at hlj; simp at hlj
                              | some ad => exact ⟨ad, rfl, HC15.out ad rfl j _ (by simp [strCells, hlj])⟩
                            obtain ⟨ad14, rfl, y14⟩ := y14
                            obtain ⟨ad15, rfl, y15⟩ := y15
                            obtain ⟨x, hx⟩ : ∃ x, x = imgs[j] := ⟨_, rfl⟩
                            rw [← hx] at hnb y14 y15
                            clear hx
                            obtain ⟨xp, xs5⟩ := x
                            dsimp only at hnb y14 y15
                            cases hb0 : bo j with
                            | true =>
                              rw [hb0] at hnb
                              have HNB := Lib.hid hnb
                              clear hnb
                              go_wp2_with fail
                              go_roundg (imgs.length - (j + 1))
                              case measure => omega
                              case rel => exact ⟨j + 1, by omega, rfl, by go_num, by rw [HNB.out]; rfl, rfl⟩
                            | false =>
                              rw [hb0] at hnb
                              have HNB := Lib.hid hnb
                              clear hnb
                              cases hb1 : (xp == (p : Int)) with
                              | true =>
                                have hxp2 : xp = (p : Int) := by simpa using hb1
                                subst hxp2
                                clear hb1
                                go_wp2_with fail
                                go_roundg (imgs.length - (j + 1))
                                case measure => omega
                                case rel => exact ⟨j + 1, by omega, rfl, by go_num, by rw [HNB.out]; simp, rfl⟩
                              | false =>
                                have hxp2 : ¬ xp = (p : Int) := by simpa using hb1
                                rw [hb1] at HNB
                                clear hb1
                                go_wp2_with fail
                                go_roundg (imgs.length - (j + 1))
                                case measure => omega
                                case rel => exact ⟨j + 1, by omega, rfl, by go_num, by rw [HNB.out]; rfl, rfl⟩
                          · have hlj2 : ¬ ((j : Int) < (imgs.length : Int)) := by omega
                            have hjl : j = imgs.length := by omega
                            have hbt : bo j = true := by
                              rw [HBO.out, hjl]
                              simp only [List.take_length]
                              rcases HCC.out with h | h
                              · simp [h]
                              · simp only [Bool.or_eq_true]
                                exact Or.inr (List.any_eq_true.2 ⟨_, h, by simp⟩)
                            clear hjl
                            rw [hbt]
                            have hrw := HRW.out wr
                            go_wp2_with fail
                            refine hrw.mono ?_
                            clear hrw
                            rintro e w16 ⟨rfl, hb16⟩
                            have hubw : w.heap.size ≤ ub := (HW15.out.one.lt ub rfl).1
                            have hne : wb ≠ ub := fun e => (HP15.out.notOwn HW15.out.one (by decide)) (by rw [e]; rfl)
                            have hP16 := HP15.out.up hb16
                            have hW16 := HW15.out.up hb16
                            have hT16 := HT15.out.up hb16
                            have hH16 := HH15.out.up hb16
                            have hB16 := HB15.out.trans (hb16.mono (below_sz HB15.out (Nat.le_refl _)))
                            have z0 := hP16.cell 0
                            obtain ⟨z1, z2⟩ := hW16.cell p (by rw [HX8'.out]; exact hp)
                            have hHH := HXB.out
                            have HP17 := Lib.hid (hP16.setOther hne p (.string (bs s)))
                            have HW17 := Lib.hid (hW16.store p s)
                            have HT17 := Lib.hid (hT16.setStr hW16 p (.string (bs s)))
                            have HH17 := Lib.hid (hH16.setLow hubn p (.string (bs s)))
                            have HB17 := Lib.hid (hB16.setCell (p := ⟨ub, p, none⟩) hubw (.string (bs s)))
                            have hxq2 : ∀ q : Nat, q < 8 → (xs'.set p s).getD q [] = if q < p + 1 then pgv a d5 q else xs.getD q [] := fun q hq => by
                              have h1 := HQ.out q hq
                              have h8 := HX8'.out
                              by_cases hqp : q = p
                              · subst hqp
                                rw [if_pos (by omega), ← HS0.out]
                                simp [List.getD, h8, hq]
                              · have hne2 : ¬ p = q := fun e => hqp e.symm
                                have : (xs'.set p s).getD q [] = xs'.getD q [] := by simp [List.getD, List.getElem?_set_ne hne2]
                                rw [this, h1]
                                by_cases hl : q < p
                                · rw [if_pos hl, if_pos (by omega)]
                                · rw [if_neg hl, if_neg (by omega)]
                            have HXQ := Lib.hid hxq2
                            clear hxq2 hubw hne hP16 hW16 hT16 hH16 hB16 hHH hb16 HP15 HW15 HT15 HH15 HB15
                            go_wp2_with fail
                            generalize World.setCell _ _ _ = W17 at *
                            go_roundg (8 - (p + 1))
                            case measure => omega
                            case rel => exact ⟨p + 1, xs'.set p s, by omega, rfl, by go_num, by rw [List.length_set]; exact HX8'.out, HXQ.out, HP17.out, HW17.out, HT17.out, HH17.out, HB17.out⟩
                      · have hp8' : p = 8 := by omega
                        subst hp8'
                        have HP18 := Lib.hid hP; have HW18 := Lib.hid hTw; have HT18 := Lib.hid hT; have HB18 := Lib.hid hB; have HX18 := Lib.hid hx8'; have HQ18 := Lib.hid hxq
                        clear hP hTw hT hTh hB hx8' hxq
                        go_wp2_with fail
                        go_roundg (nn - (i + 1))
                        case measure => omega
                        case rel =>
                          refine ⟨i + 1, L + k, _, _, xs', d5, by omega, rfl, by go_num, by congr 1, by have := HL.out; omega, HX18.out, HP18.out, HW18.out, HT18.out, HS5.out.congr (fun p p0 p1 => ?_), ?_, HB18.out⟩
                          · have hpp := HPG.out
                            have h := HQ18.out p.toNat (by omega)
                            rw [if_pos (by omega)] at h
                            rw [h, show ((p.toNat : Nat) : Int) = p by omega]
                          · have h1 := HC5.out; have h2 := HC.out
                            omega
    · obtain ⟨ub, uc, hue⟩ := hTw.one.at8 (by omega)
      rw [hx8] at hue
      subst hue
      have HP := Lib.hid hP; have HTW := Lib.hid hTw; have HTT := Lib.hid hT; have HS := Lib.hid hS; have HC := Lib.hid hc; have HB := Lib.hid hB; have HX8 := Lib.hid hx8
      clear hP hTw hT hS hc hB hx8
      by_cases h9 : l.length ≤ 12
      · have e9 : ¬ ((i : Int) < (l.length : Int)) := by have := HNN.out; omega
        go_wp2_with fail
        go_loopg [28] 8 (fun gh pv wr2 => ∃ p : Nat, p ≤ 8 ∧ gh = 8 - p ∧ pv = .int .i64 p ∧ Blk wr2 wb 58 #[.slice (some ⟨ub, 0, none⟩) 8 uc, v] ∧
          Two w.heap.size wr2 (.slice (some ⟨ub, 0, none⟩) 8 uc) v xs (List.replicate 8 []) ∧ Tw w.heap.size wr2 ga g m a d ∧ Below w.heap.size w wr2)
        case atStart => exact ⟨0, Nat.zero_le _, rfl, rfl, HP.out, HTW.out, HTT.out, HB.out⟩
        case round =>
          clear HP HTW HTT HB
          obtain ⟨p, hp8, rfl, rfl, hP, hTw, hT, hB⟩ := hrel
          by_cases hp : p < 8
          · have hpI : (p : Int) < 8 := by omega
            have hrd := tread_any w.heap.size ga g m a d p wr hT (by have h1 := HC.out; omega)
            rw [tread_on HS.out.off (by omega) (by rw [HPG.out]; omega)] at hrd
            have hpv : pgv a d p = xs.getD p [] := HS.out.page p (by omega) (by rw [HPG.out]; omega)
            rw [hpv] at hrd
            obtain ⟨t, ht⟩ : ∃ x, x = xs.getD p [] := ⟨_, rfl⟩
            rw [← ht] at hrd
            have hpx : p < xs.length := by rw [HX8.out]; exact hp
            have hge : xs[p] = t := by rw [ht]; simp [List.getD, hpx]
            have HGE := Lib.hid hge; have HPX := Lib.hid hpx
            have HP14 := Lib.hid hP; have HW14 := Lib.hid hTw; have HT14 := Lib.hid hT; have HB14 := Lib.hid hB
            clear hge ht hP hTw hT hB hpv
            go_wp2_with fail
            refine hrd.mono ?_
            clear hrd
            rintro e w15 ⟨rfl, hb15⟩
            have hP15 := HP14.out.up hb15
            have hW15 := HW14.out.up hb15
            have HT15 := Lib.hid (HT14.out.up hb15); have HB15 := Lib.hid (HB14.out.trans (hb15.mono (below_sz HB14.out (Nat.le_refl _))))
            have z0 := hP15.cell 0
            obtain ⟨z1, z2⟩ := hW15.cell p HPX.out
            rw [HGE.out] at z1
            have HP15 := Lib.hid hP15; have HW15 := Lib.hid hW15
            clear hb15 hP15 hW15 HP14 HW14 HT14 HB14 z2
            go_wp2_with fail
            go_roundg (8 - (p + 1))
            case measure => omega
            case rel => exact ⟨p + 1, by omega, rfl, by go_num, HP15.out, HW15.out, HT15.out, HB15.out⟩
          · have hp8' : p = 8 := by omega
            subst hp8'
            have HB18 := Lib.hid hB
            clear hP hTw hT hB
            go_wp2_with fail
            go_ret
            exact ⟨rfl, HB18.out⟩
      · have e9 : (i : Int) < (l.length : Int) := by have := HNN.out; omega
        have e10 : ¬ ((i : Int) < 12) := by have := HNN.out; omega
        go_wp2_with fail
        go_loopg [28] 8 (fun gh pv wr2 => ∃ p : Nat, p ≤ 8 ∧ gh = 8 - p ∧ pv = .int .i64 p ∧ Blk wr2 wb 58 #[.slice (some ⟨ub, 0, none⟩) 8 uc, v] ∧
          Two w.heap.size wr2 (.slice (some ⟨ub, 0, none⟩) 8 uc) v xs (List.replicate 8 []) ∧ Tw w.heap.size wr2 ga g m a d ∧ Below w.heap.size w wr2)
        case atStart => exact ⟨0, Nat.zero_le _, rfl, rfl, HP.out, HTW.out, HTT.out, HB.out⟩
        case round =>
          clear HP HTW HTT HB
          obtain ⟨p, hp8, rfl, rfl, hP, hTw, hT, hB⟩ := hrel
          by_cases hp : p < 8
          · have hpI : (p : Int) < 8 := by omega
            have hrd := tread_any w.heap.size ga g m a d p wr hT (by have h1 := HC.out; omega)
            rw [tread_on HS.out.off (by omega) (by rw [HPG.out]; omega)] at hrd
            have hpv : pgv a d p = xs.getD p [] := HS.out.page p (by omega) (by rw [HPG.out]; omega)
            rw [hpv] at hrd
            obtain ⟨t, ht⟩ : ∃ x, x = xs.getD p [] := ⟨_, rfl⟩
            rw [← ht] at hrd
            have hpx : p < xs.length := by rw [HX8.out]; exact hp
            have hge : xs[p] = t := by rw [ht]; simp [List.getD, hpx]
            have HGE := Lib.hid hge; have HPX := Lib.hid hpx
            have HP14 := Lib.hid hP; have HW14 := Lib.hid hTw; have HT14 := Lib.hid hT; have HB14 := Lib.hid hB
            clear hge ht hP hTw hT hB hpv
            go_wp2_with fail
            refine hrd.mono ?_
            clear hrd
            rintro e w15 ⟨rfl, hb15⟩
            have hP15 := HP14.out.up hb15
            have hW15 := HW14.out.up hb15
            have HT15 := Lib.hid (HT14.out.up hb15); have HB15 := Lib.hid (HB14.out.trans (hb15.mono (below_sz HB14.out (Nat.le_refl _))))
            have z0 := hP15.cell 0
            obtain ⟨z1, z2⟩ := hW15.cell p HPX.out
            rw [HGE.out] at z1
            have HP15 := Lib.hid hP15; have HW15 := Lib.hid hW15
            clear hb15 hP15 hW15 HP14 HW14 HT14 HB14 z2
            go_wp2_with fail
            go_roundg (8 - (p + 1))
            case measure => omega
            case rel => exact ⟨p + 1, by omega, rfl, by go_num, HP15.out, HW15.out, HT15.out, HB15.out⟩
          · have hp8' : p = 8 := by omega
            subst hp8'
            have HB18 := Lib.hid hB
            clear hP hTw hT hB
            go_wp2_with fail
            go_ret
            exact ⟨rfl, HB18.out⟩
end Go.Proofs.YtfkhgmdnajiabaaDoor
