/-
  PROVED HERE: the card of 'PoolKeeps': whatever is handed in, the law returns true, and leaves what it was handed as it was. No condition but the row's own (the listed variables' content, the reach).
-/
import Derived.Test.YtjlcbabnkhdgpaaGreatDoorPinsE
import Derived.LaidMore
import Derived.Lay
import Derived.SevenTiedAt
import Derived.Stop.Joined
namespace Go.Proofs.YtjlcbabnkhdgpaaGreatDoor
section
set_option linter.unusedSimpArgs false
set_option linter.unusedVariables false
open Go.RowKit Go.Maps

theorem fineU : Fine (fun (_ : Unit) (_ : Int) => ((0 : Int), ())) := fun _ _ => rfl
abbrev lsU : Unit → Int → Int × Unit := fun _ _ => (0, ())
theorem flK_ok {n0 ga g m : Nat} {a : ArM} : FlOk n0 ga g m a 31 #[] #[] EU XU (onD lsU) := by
  refine FlOk.const (enters_of Tryz.func31 (by kernel_rfl) rfl) (fun n w => ?_)
  go_enter Tryz.func31, Tryz.ntmps31
  go_wp2_with fail
  go_ret
  exact ⟨rfl, rfl⟩
set_option maxHeartbeats 16000000 in
set_option maxRecDepth 100000 in
theorem keeps_any (l : List ActM) (A : Option Addr) (cap : Nat) (f : Int) (w : World) (ht : Turns w) (hA : ActsIn w w.heap.size A l) (hl : l.length ≤ 140737488355328) (hx : ∀ x ∈ l, x.2.2.length ≤ 140737488355328) :
    Calls Tryz.prog 6 #[.slice A l.length cap, .int .i64 f] w fun e w' => e = .returned (.bool true) ∧ Below w.heap.size w w' := by
  have hlt := ht.lt
  have hsp := speaks10_any w ht
  have hd := fun W (hW : w.heap.size ≤ W.heap.size) => devnew_dv w.heap.size 40 (by decide) (by decide) W hW
  have hnew := fun g m W h1 h2 => twnew_ok w.heap.size g m arm8 (newM 40) W h1 h2 hlt arm8_fits
  have hmi := mostI_in f
  have hm1 := mask3 f
  have hm2 : IntKind.i64.wrap (1 + f % 4) = mostI f := by unfold mostI; rw [IntKind.wrap_i64]; omega
  have HNW := Lib.hid hnew; have HT := Lib.hid ht; have HD0 := Lib.hid hd; have HAS := Lib.hid hA; have HX := Lib.hid hx; have HMI := Lib.hid hmi
  clear hlt hnew ht hd hA hx hmi
  go_enter Tryz.func6, Tryz.ntmps6
  go_wp2_with fail
  refine hsp.mono ?_
  clear hsp
  rintro e w0 ⟨rfl, hb0⟩
  have hd := HD0.out w0 hb0.size
  have HB0 := Lib.hid hb0
  clear hb0 HD0
  go_wp2_with fail
  refine hd.mono ?_
  rintro e w1 ⟨m, rfl, hD, hb1⟩
  have HD := Lib.hid hD; have HB1 := Lib.hid (HB0.out.trans (hb1.mono HB0.out.size))
  clear hd hD hb1 HB0
  go_wp2_with fail
  refine (HNW.out _ m w1 HD.out (HT.out.below HB1.out)).mono ?_
  rintro e w2 ⟨rfl, hT2, hb2⟩
  have hpn := ponew_ok w.heap.size w1.heap.size (mostI f) 31 #[] #[] w2 HMI.out.1 (by have := HMI.out.2; omega) (HB1.out.trans (hb2.mono HB1.out.size)).size
  have HT2 := Lib.hid hT2; have HB2 := Lib.hid (HB1.out.trans (hb2.mono HB1.out.size))
  clear hT2 hb2 HD HB1 HNW hm1 hm2
  generalize w1.heap.size = ga at *
  generalize w0.heap.size + 1 = g at *
  obtain ⟨most, hmost⟩ : ∃ q, q = mostI f := ⟨_, rfl⟩
  rw [← hmost] at hpn HMI
  rw [← hmost]
  clear hmost
  have HK : Hid (FlOk w.heap.size ga g m arm8 31 #[] #[] EU XU (onD lsU)) := Lib.hid flK_ok
  go_wp2_with fail
  refine hpn.mono ?_
  clear hpn
  rintro e w3 ⟨gp, rfl, hP3, -, hb3⟩
  have HS3 := Lib.hid (St.first hP3 (HT2.out.up hb3) (by have := HMI.out.1; omega))
  have HB3 := Lib.hid (HB2.out.trans (hb3.mono HB2.out.size))
  clear hP3 hb3 HT2 HB2
  have h9 := new9_any w3
  go_wp2_with fail
  refine h9.mono ?_
  clear h9
  rintro e w4 ⟨u, v, rfl, hTw, hb4⟩
  have hO := hTw.one
  have hrow0 : rowQ (⟨[], [], (), fun _ => zer⟩ : Sm Unit) = List.replicate 8 (List.replicate 512 0) := by unfold rowQ cont zer; rfl
  obtain ⟨b, c, rfl⟩ := hO.at8 (by simp)
  obtain ⟨A2, n2, c2, rfl⟩ := hTw.two.form
  simp only [List.length_replicate] at hO
  rw [← hrow0] at hO
  obtain ⟨hb0, hbk⟩ := strs_blk hO
  have HS4 : Hid (St w.heap.size w4 gp ga g m most 31 #[] #[] EU XU (⟨[], [], (), fun _ => zer⟩ : Sm Unit) 0 (fun x => x = b)) := Lib.hid (by
    obtain ⟨cs, hbk⟩ := hbk
    refine HS3.out.aside HK.out (Fr.up (F := fun _ => False) hb4) (fun _ e => e.elim) (fun _ e => e.elim) (fun x e => Or.inr ⟨by rw [e]; exact hb0, by rw [e]; exact hbk.lt, fun cs' fz hh => ?_⟩)
    rw [e] at hh
    unfold Blk at hbk
    rw [hbk] at hh
    injection hh with hh
    injection hh with _ hh _
    exact absurd hh (by decide))
  have HO4 : Hid (Strs w.heap.size w4 (.slice (some ⟨b, 0, none⟩) 8 c) (rowQ (⟨[], [], (), fun _ => zer⟩ : Sm Unit))) := Lib.hid ⟨hO.1, by
    rcases hO.2 with q | ⟨g', cap', cur, q1, q2, q3⟩
    · exact Or.inl q
    · exact Or.inr ⟨g', cap', cur, q1, Nat.le_trans HS3.out.size q2, q3⟩⟩
  have HB4 := Lib.hid (HB3.out.trans (hb4.mono HB3.out.size))
  have HI4 : Hid (Idle (⟨[], [], (), fun _ => zer⟩ : Sm Unit)) := Lib.hid (fun k y hy => by cases hy)
  clear hTw hO hrow0 hb0 hbk hb4 HS3 HB3
  generalize (⟨[], [], (), fun _ => zer⟩ : Sm Unit) = q0 at *
  simp only [List.length_replicate]
  have hfd : ∀ w : World, (Instr.field 49 (.agg #[.slice (some ⟨b, 0, none⟩) 8 c, .slice A2 n2 c2]) 0).run Tryz.prog w = .ok (.slice (some ⟨b, 0, none⟩) 8 c) w := fun _ => by kernel_rfl
  go_wp2_with fail
  clear hfd
  obtain ⟨nn, hnn⟩ : ∃ nn, nn = min l.length 50 := ⟨_, rfl⟩
  have HNN := Lib.hid hnn
  clear hnn
  go_loopg [13] nn (fun gh i wr => ∃ k : Nat, k ≤ nn ∧ gh = nn - k ∧ i = .int .i64 k ∧ ∃ q, St w.heap.size wr gp ga g m most 31 #[] #[] EU XU q (2 * k) (fun x => x = b) ∧ Idle q ∧ Strs w.heap.size wr (.slice (some ⟨b, 0, none⟩) 8 c) (rowQ q) ∧ Below w.heap.size w wr)
  case atStart => exact ⟨0, Nat.zero_le _, rfl, rfl, q0, HS4.out, HI4.out, HO4.out, HB4.out⟩
  case round =>
    clear HS4 HO4 HB4 HI4
    obtain ⟨k, hk, rfl, rfl, q, hS, hI, hR, hB⟩ := hrel
    have hk50 : k ≤ 50 := by have := HNN.out; omega
    by_cases hlt : k < nn
    · have hkl : k < l.length := by have := HNN.out; omega
      have hk50 : k < 50 := by have := HNN.out; omega
      obtain ⟨bA, oA, rfl, hbn, e0, e1, e2⟩ := HAS.out.below hB k hkl
      obtain ⟨x, hxx⟩ : ∃ x, x = l[k] := ⟨_, rfl⟩
      rw [← hxx] at e0 e1 e2
      have hxl := HX.out x (by rw [hxx]; exact List.getElem_mem hkl)
      obtain ⟨what, page, t⟩ := x
      dsimp only at e0 e1 e2 hxl
      have r4 : (k : Int) < (l.length : Int) := by omega
      have r1 : bits .and .i64 page 7 = page % 8 := i64_mask10 page 3 (by decide)
      obtain ⟨j, hj, hj8⟩ : ∃ j : Nat, page % 8 = (j : Int) ∧ j < 8 := ⟨(page % 8).toNat, by omega, by omega⟩
      rw [hj] at r1
      have hS' := Lib.hid hS; have HI := Lib.hid hI; have HR := Lib.hid hR; have HB := Lib.hid hB; have HE0 := Lib.hid e0; have HE2 := Lib.hid e2
      have hpin := hS.pin HK.out ⟨HMI.out.1, by have := HMI.out.2; omega⟩ (n := (j : Int)) ⟨by omega, by omega⟩ (by omega)
      clear hS hI hR hB hxx hj
      go_wp2_with fail
      refine hpin.mono ?_
      clear hpin r1
      rintro e w5 ⟨x5, rfl, hS5, hA5⟩
      obtain ⟨d, hps⟩ := hS'.out.ps
      obtain ⟨p1, p2, p3, p4⟩ := pin_idle (ls := lsU) fineU hps HI.out HMI.out.1 (n := (j : Int)) (by omega) (by omega) x5
      have HP1 : Hid (Pin1 (pinS lsU most q (j : Int) x5).2 (j : Int)) := Lib.hid ⟨by obtain ⟨y, h1, h2, _⟩ := p3; exact ⟨y, h1, h2⟩, p4⟩
      rw [p1]
      generalize (pinS lsU most q (j : Int) x5).2 = q1 at *
      dsimp only
      have HR5 := Lib.hid (hA5.strs HR.out (fun b' e => by injection e with e; exact e.symm))
      rw [← rowQ_same p2] at HR5
      rw [← p2]
      have HB5 := Lib.hid (HB.out.trans (hA5.below HB.out.size))
      obtain ⟨cj, fj⟩ := strs_cell HR5.out hS5.size j (by rw [rowQ_length]; exact hj8)
      rw [rowQ_at q1 j hj8] at cj
      have HS5 := Lib.hid hS5
      have f0 : w5.cell? ⟨bA, oA + k * 3, none⟩ = some (.int .i64 what) := (hA5.below HB.out.size).cell (p := ⟨bA, oA + k * 3, none⟩) hbn |>.trans HE0.out
      have f2 : w5.cell? ⟨bA, oA + k * 3 + 2, none⟩ = some (.string (bs t)) := (hA5.below HB.out.size).cell (p := ⟨bA, oA + k * 3 + 2, none⟩) hbn |>.trans HE2.out
      have hj8' : (j : Int) < 8 := by omega
      clear hS5 hA5 p1 p2 p3 p4 hps hS' HI HR HB HE0 HE2 e0 e1 e2
      have HAE : Hid (∀ W, Below w.heap.size w W → W.cell? ⟨bA, oA + k * 3, none⟩ = some (.int .i64 what) ∧ W.cell? ⟨bA, oA + k * 3 + 2, none⟩ = some (.string (bs t))) := Lib.hid (fun W hW => ⟨(hW.cell (p := ⟨bA, oA + k * 3, none⟩) hbn).trans ((HB5.out.cell (p := ⟨bA, oA + k * 3, none⟩) hbn).symm.trans f0), (hW.cell (p := ⟨bA, oA + k * 3 + 2, none⟩) hbn).trans ((HB5.out.cell (p := ⟨bA, oA + k * 3 + 2, none⟩) hbn).symm.trans f2)⟩)
      by_cases hw1 : bits .and .i64 what 1 = 1
      · have r3 : IntKind.i64.wrap (1 + (k : Int)) = 1 + (k : Int) := by rw [IntKind.wrap_i64]; omega
        have e60 : t.take (min (t.length : Int) 60).toNat = t.take 60 := by
          by_cases h : t.length ≤ 60
          · rw [show (min (t.length : Int) 60).toNat = t.length by omega, List.take_length, List.take_of_length_le h]
          · rw [show (min (t.length : Int) 60).toNat = 60 by omega]
        have hsm : Small (keepP k t) := ⟨by simp [keepP]; omega, by simp [keepP], fun e he => by simp [keepP] at he⟩
        have hen := fun W hW => encode_any (keepP k t) none 0 hsm W ⟨rfl, fun h => absurd h (by simp [keepP])⟩ hW
        rw [encR_keep (by omega)] at hen
        have hk5 := keepB_length (k := k) (t := t) (by omega)
        have hkw := keepB_whole (k := k) (t := t) (by omega)
        replace hen : ∀ W, Turns W → Calls Tryz.prog 24 #[.agg #[.int .i64 (1 + (k : Int)), .int .i64 2, .int .i64 0, .int .i64 0, .string (bs (t.take 60)), .slice none 0 0]] W fun e w' => e = .returned (.tuple #[.string (bs (keepB k t)), .int .i64 0]) ∧ Below W.heap.size W w' := hen
        generalize keepB k t = s at *
        have HK5 := Lib.hid hk5; have HKW := Lib.hid hkw; have HE6 := Lib.hid e60; have HEN := Lib.hid hen; have HR3 := Lib.hid r3
        clear hk5 hkw hsm e60 hen r3
        go_wp2_with fail
        have hT5 := HS5.out.turns
        have r3 := HR3.out
        have e60 := HE6.out
        have e6a : 0 ≤ min (t.length : Int) 60 := by omega
        have e6b : min (t.length : Int) 60 ≤ (t.length : Int) := by omega
        refine wp_region_q (fun W => Below w5.heap.size w5 W) (by kernel_rfl) (by kernel_rfl) (Below.refl _ _).drew ?_
        refine q_val (o := ⟨some 85, _, _, _, _, _⟩) (v := ?_) (by kernel_rfl) (fun W hW => ?_) ?_
        rotate_left
        · go_simp; rfl
        try simp only [Act.put, List.setIfInBounds_toArray, List.set_cons_zero, List.set_cons_succ]
        refine q_val (o := ⟨some 86, _, _, _, _, _⟩) (v := ?_) (by kernel_rfl) (fun W hW => ?_) ?_
        rotate_left
        · go_simp; rfl
        try simp only [Act.put, List.setIfInBounds_toArray, List.set_cons_zero, List.set_cons_succ]
        refine q_val (o := ⟨some 87, _, _, _, _, _⟩) (v := ?_) (by kernel_rfl) (fun W hW => ?_) ?_
        rotate_left
        · go_simp; rfl
        try simp only [Act.put, List.setIfInBounds_toArray, List.set_cons_zero, List.set_cons_succ]
        refine q_val (o := ⟨some 88, _, _, _, _, _⟩) (v := ?_) (by kernel_rfl) (fun W hW => ?_) ?_
        rotate_left
        · go_simp; rfl
        try simp only [Act.put, List.setIfInBounds_toArray, List.set_cons_zero, List.set_cons_succ]
        refine q_val (o := ⟨some 89, _, _, _, _, _⟩) (v := ?_) (by kernel_rfl) (fun W hW => ?_) ?_
        rotate_left
        · go_simp; rfl
        try simp only [Act.put, List.setIfInBounds_toArray, List.set_cons_zero, List.set_cons_succ]
        refine q_val (o := ⟨some 90, _, _, _, _, _⟩) (v := ?_) (by kernel_rfl) (fun W hW => ?_) ?_
        rotate_left
        · go_simp; rfl
        try simp only [Act.put, List.setIfInBounds_toArray, List.set_cons_zero, List.set_cons_succ]
        refine q_val (o := ⟨some 91, _, _, _, _, _⟩) (v := ?_) (by kernel_rfl) (fun W hW => ?_) ?_
        rotate_left
        · have f2 := up_cell hW f2; go_simp; rfl
        try simp only [Act.put, List.setIfInBounds_toArray, List.set_cons_zero, List.set_cons_succ]
        refine q_val (o := ⟨some 92, _, _, _, _, _⟩) (v := ?_) (by kernel_rfl) (fun W hW => ?_) ?_
        rotate_left
        · go_simp; rfl
        try simp only [Act.put, List.setIfInBounds_toArray, List.set_cons_zero, List.set_cons_succ]
        refine q_val (o := ⟨some 93, _, _, _, _, _⟩) (v := ?_) (by kernel_rfl) (fun W hW => ?_) ?_
        rotate_left
        · go_simp; rfl
        try simp only [Act.put, List.setIfInBounds_toArray, List.set_cons_zero, List.set_cons_succ]
        refine q_val (o := ⟨some 94, _, _, _, _, _⟩) (v := ?_) (by kernel_rfl) (fun W hW => ?_) ?_
        rotate_left
        · go_simp; rfl
        try simp only [Act.put, List.setIfInBounds_toArray, List.set_cons_zero, List.set_cons_succ]
        refine q_val (o := ⟨some 95, _, _, _, _, _⟩) (v := ?_) (by kernel_rfl) (fun W hW => ?_) ?_
        rotate_left
        · go_simp; rfl
        try simp only [Act.put, List.setIfInBounds_toArray, List.set_cons_zero, List.set_cons_succ]
        refine q_val (o := ⟨some 96, _, _, _, _, _⟩) (v := ?_) (by kernel_rfl) (fun W hW => ?_) ?_
        rotate_left
        · have f2 := up_cell hW f2; go_simp; rfl
        try simp only [Act.put, List.setIfInBounds_toArray, List.set_cons_zero, List.set_cons_succ]
        refine q_val (o := ⟨some 97, _, _, _, _, _⟩) (v := ?_) (by kernel_rfl) (fun W hW => ?_) ?_
        rotate_left
        · go_simp; rfl
        try simp only [Act.put, List.setIfInBounds_toArray, List.set_cons_zero, List.set_cons_succ]
        refine q_val (o := ⟨some 98, _, _, _, _, _⟩) (v := ?_) (by kernel_rfl) (fun W hW => ?_) ?_
        rotate_left
        · go_simp; rfl
        try simp only [Act.put, List.setIfInBounds_toArray, List.set_cons_zero, List.set_cons_succ]
        refine q_val (o := ⟨some 99, _, _, _, _, _⟩) (v := ?_) (by kernel_rfl) (fun W hW => ?_) ?_
        rotate_left
        · go_simp; rfl
        try simp only [Act.put, List.setIfInBounds_toArray, List.set_cons_zero, List.set_cons_succ]
        refine q_val (o := ⟨some 100, _, _, _, _, _⟩) (v := ?_) (by kernel_rfl) (fun W hW => ?_) ?_
        rotate_left
        · go_simp; rfl
        try simp only [Act.put, List.setIfInBounds_toArray, List.set_cons_zero, List.set_cons_succ]
        refine q_call (o := ⟨some 101, _, _, _, _, _⟩) (by kernel_rfl) (fun W hW => ?_) (fun W hW => q_of hW (HEN.out W (hT5.below hW))) ?_
        · go_simp
        try simp only [Act.put, List.setIfInBounds_toArray, List.set_cons_zero, List.set_cons_succ]
        refine q_val (o := ⟨some 84, _, _, _, _, _⟩) (v := ?_) (by kernel_rfl) (fun W hW => ?_) ?_
        rotate_left
        · go_simp; rfl
        try simp only [Act.put, List.setIfInBounds_toArray, List.set_cons_zero, List.set_cons_succ]
        refine q_val (o := ⟨some 102, _, _, _, _, _⟩) (v := ?_) (by kernel_rfl) (fun W hW => ?_) ?_
        rotate_left
        · go_simp; rfl
        try simp only [Act.put, List.setIfInBounds_toArray, List.set_cons_zero, List.set_cons_succ]
        refine q_val (o := ⟨some 103, _, _, _, _, _⟩) (v := ?_) (by kernel_rfl) (fun W hW => ?_) ?_
        rotate_left
        · go_simp; rfl
        try simp only [Act.put, List.setIfInBounds_toArray, List.set_cons_zero, List.set_cons_succ]
        refine q_val (o := ⟨some 15, _, _, _, _, _⟩) (v := ?_) (by kernel_rfl) (fun W hW => ?_) ?_
        rotate_left
        · go_simp; rfl
        try simp only [Act.put, List.setIfInBounds_toArray, List.set_cons_zero, List.set_cons_succ]
        refine q_end (fun W hW => ?_)
        have HS6 := Lib.hid (HS5.out.up HK.out hW)
        have HR6 := Lib.hid ((Acts.up (n0 := w.heap.size) (O := fun x => x = b) hW).strs HR5.out (fun b' e => by injection e with e; exact e.symm))
        have HB6 := Lib.hid (HB5.out.trans (hW.mono HB5.out.size))
        clear hW hT5 r3 e60 e6a e6b cj fj f0 f2 HS5 HR5 HB5 HEN
        obtain ⟨u1, u2, u3⟩ := put_pin1 HP1.out HK5.out HKW.out
        have hput := HS6.out.put HK.out (n := (j : Int)) s (by have := HK5.out; omega)
        rw [u1] at hput
        clear u1
        go_wp2_with fail
        refine hput.mono ?_
        clear hput
        rintro e w7 ⟨rfl, hS7, hA7⟩
        generalize (putS q1 (j : Int) s).2 = q2 at *
        have hR7 := hA7.strs HR6.out (fun b' e => by injection e with e; exact e.symm)
        have HB7 := Lib.hid (HB6.out.trans (hA7.below HB6.out.size))
        obtain ⟨_, f7⟩ := strs_cell hR7 hS7.size j (by rw [rowQ_length]; exact hj8)
        obtain ⟨z7, hz7⟩ : ∃ v, w7.cell? ⟨b, j, none⟩ = some v := ⟨_, (strs_cell hR7 hS7.size j (by rw [rowQ_length]; exact hj8)).1⟩
        have HS8 := Lib.hid (hS7.store HK.out hR7 j s)
        have hR8 := strs_store hR7 hS7.size j s
        rw [← rowQ_set j u3] at hR8
        have HR8 := Lib.hid hR8
        have HB8 := Lib.hid (HB7.out.setCell (p := ⟨b, j, none⟩) (strs_blk hR7).1 (.string (bs s)))
        have HP2 := Lib.hid u2
        clear hS7 hA7 hR7 hR8 u2 u3 HS6 HR6 HB6 HP1 HB7
        go_wp2_with fail
        generalize w7.setCell ⟨b, j, none⟩ (.string (bs s)) = w8 at *
        have hun := HS8.out.unpin HK.out (n := (j : Int)) (by omega)
        obtain ⟨v1, v2, v3, v4⟩ := unpin_pin1 HP2.out
        rw [v1] at hun
        clear v1
        go_wp2_with fail
        refine hun.mono ?_
        clear hun
        rintro e w9 ⟨rfl, hS9, hA9⟩
        generalize (unpinS q2 (j : Int)).2 = q9 at *
        have HR9 := Lib.hid (hA9.strs HR8.out (fun b' e => by injection e with e; exact e.symm))
        have HB9 := Lib.hid (HB8.out.trans (hA9.below HB8.out.size))
        rw [← rowQ_same v3] at HR9
        have f9 : w9.cell? ⟨bA, oA + k * 3, none⟩ = some (.int .i64 what) := (HAE.out w9 HB9.out).1
        have HS9 := Lib.hid hS9; have HI9 := Lib.hid v2; have HY9 := Lib.hid v4
        clear hS9 hA9 v2 v3 v4
        by_cases hw6 : bits .and .i64 what 6 = 6
        · have hev := HS9.out.evict HK.out (n := (j : Int)) (by omega)
          obtain ⟨d9, hps9⟩ := HS9.out.ps
          obtain ⟨y1, y2, y3⟩ := evict_idle (ls := lsU) fineU hps9 HI9.out HY9.out
          rw [y1] at hev
          clear y1 hps9
          go_wp2_with fail
          refine hev.mono ?_
          clear hev
          rintro e w10 ⟨rfl, hS10, hA10⟩
          generalize (evictS lsU q9 (j : Int)).2 = q10 at *
          have HR10 := Lib.hid (hA10.strs HR9.out (fun b' e => by injection e with e; exact e.symm))
          rw [← rowQ_same y3] at HR10
          have HB10 := Lib.hid (HB9.out.trans (hA10.below HB9.out.size))
          have HS10 := Lib.hid hS10; have HI10 := Lib.hid y2
          clear hS10 hA10 y2 y3
          go_wp2_with fail
          go_roundg (nn - (k + 1))
          case measure => omega
          case rel => exact ⟨k + 1, by omega, rfl, by go_num, q10, HS10.out.mono (by omega), HI10.out, HR10.out, HB10.out⟩
        · go_wp2_with fail
          go_roundg (nn - (k + 1))
          case measure => omega
          case rel => exact ⟨k + 1, by omega, rfl, by go_num, q9, HS9.out.mono (by omega), HI9.out, HR9.out, HB9.out⟩
      · go_wp2_with fail
        have hun := HS5.out.unpin HK.out (n := (j : Int)) (by omega)
        obtain ⟨v1, v2, v3, v4⟩ := unpin_pin1 HP1.out
        rw [v1] at hun
        clear v1
        go_wp2_with fail
        refine hun.mono ?_
        clear hun
        rintro e w9 ⟨rfl, hS9, hA9⟩
        generalize (unpinS q1 (j : Int)).2 = q9 at *
        have HR9 := Lib.hid (hA9.strs HR5.out (fun b' e => by injection e with e; exact e.symm))
        have HB9 := Lib.hid (HB5.out.trans (hA9.below HB5.out.size))
        rw [← rowQ_same v3] at HR9
        have f9 : w9.cell? ⟨bA, oA + k * 3, none⟩ = some (.int .i64 what) := (HAE.out w9 HB9.out).1
        have HS9 := Lib.hid hS9; have HI9 := Lib.hid v2; have HY9 := Lib.hid v4
        clear hS9 hA9 v2 v3 v4
        by_cases hw6 : bits .and .i64 what 6 = 6
        · have hev := HS9.out.evict HK.out (n := (j : Int)) (by omega)
          obtain ⟨d9, hps9⟩ := HS9.out.ps
          obtain ⟨y1, y2, y3⟩ := evict_idle (ls := lsU) fineU hps9 HI9.out HY9.out
          rw [y1] at hev
          clear y1 hps9
          go_wp2_with fail
          refine hev.mono ?_
          clear hev
          rintro e w10 ⟨rfl, hS10, hA10⟩
          generalize (evictS lsU q9 (j : Int)).2 = q10 at *
          have HR10 := Lib.hid (hA10.strs HR9.out (fun b' e => by injection e with e; exact e.symm))
          rw [← rowQ_same y3] at HR10
          have HB10 := Lib.hid (HB9.out.trans (hA10.below HB9.out.size))
          have HS10 := Lib.hid hS10; have HI10 := Lib.hid y2
          clear hS10 hA10 y2 y3
          go_wp2_with fail
          go_roundg (nn - (k + 1))
          case measure => omega
          case rel => exact ⟨k + 1, by omega, rfl, by go_num, q10, HS10.out.mono (by omega), HI10.out, HR10.out, HB10.out⟩
        · go_wp2_with fail
          go_roundg (nn - (k + 1))
          case measure => omega
          case rel => exact ⟨k + 1, by omega, rfl, by go_num, q9, HS9.out.mono (by omega), HI9.out, HR9.out, HB9.out⟩
    · have hkn : k = nn := by omega
      have hS' := Lib.hid hS; have HI := Lib.hid hI; have HR := Lib.hid hR; have HB := Lib.hid hB
      have hfl := hS.flush HK.out (by have := HMI.out.2; omega) (by omega)
      rw [wrS_fine fineU] at hfl
      obtain ⟨d, hps⟩ := hS.ps
      have hfin := fun i => flush_fine (ls := lsU) fineU hps i
      have hno : (k : Int) < (l.length : Int) → ¬ (k : Int) < 50 := by have := HNN.out; omega
      clear hS hI hR hB hps hkn hlt
      by_cases hl2 : (k : Int) < (l.length : Int)
      · replace hno := hno hl2
        go_wp2_with fail
        refine hfl.mono ?_
        clear hfl
        rintro e w5 ⟨rfl, hS5, hA5⟩
        generalize (wrS lsU q (dirtyOf q.hs)).2 = q5 at *
        have HR5 := Lib.hid (hA5.strs HR.out (fun b' e => by injection e with e; exact e.symm))
        have HB5 := Lib.hid (HB.out.trans (hA5.below HB.out.size))
        have HS5 := Lib.hid hS5
        obtain ⟨d5, hT5⟩ := hS5.tw
        have hpn := ponew_ok w.heap.size ga 8 31 #[] #[] w5 (by decide) (by decide) HB5.out.size
        clear hS5 hA5 hS' HI HR HB
        go_wp2_with fail
        refine hpn.mono ?_
        clear hpn hT5
        rintro e w6 ⟨gp2, rfl, hP6, hg6, hb6⟩
        have hS6 := HS5.out.anew hb6 hP6 hg6 (by decide)
        have hR6 := (Acts.up (n0 := w.heap.size) (O := fun x => x = b) hb6).strs HR5.out (fun b' e => by injection e with e; exact e.symm)
        have hB6 := HB5.out.trans (hb6.mono HB5.out.size)
        have hD6 : ∀ i : Nat, i < 8 → ∀ hi, (rowQ q)[i]'hi = q5.disk i := fun i h hi => by rw [rowQ_at q i h, hfin]
        have HS6 := Lib.hid hS6; have HR6 := Lib.hid hR6; have HB6 := Lib.hid hB6; have HD6 := Lib.hid hD6
        clear hP6 hg6 hb6 hS6 hR6 hB6 hfin hD6 HS5 HR5 HB5
        have HRL := Lib.hid (rowQ_length q)
        generalize rowQ q = row at *
        go_wp2_with fail
        go_loopg [19] 8 (fun gh i wr => ∃ n : Nat, n ≤ 8 ∧ gh = 8 - n ∧ i = .int .i64 n ∧ ∃ q' : Sm Unit, q'.disk = q5.disk ∧ q'.hs.length = n ∧ (∀ i : Int, n ≤ i → fd q'.hs i = none) ∧ St w.heap.size wr gp2 ga g m 8 31 #[] #[] EU XU q' (2 * k + 1 + n) (fun x => x = b) ∧ Strs w.heap.size wr (.slice (some ⟨b, 0, none⟩) 8 c) row ∧ Below w.heap.size w wr)
        case atStart => exact ⟨0, Nat.zero_le _, rfl, rfl, ⟨[], [], (), q5.disk⟩, rfl, rfl, fun i _ => rfl, HS6.out, HR6.out, HB6.out⟩
        case round =>
          clear HS6 HR6 HB6
          obtain ⟨n, hn, rfl, rfl, q7, hq1, hq2, hq3, hS, hR, hB⟩ := hrel
          by_cases hn8 : n < 8
          · have hpin := hS.pin HK.out ⟨by decide, by decide⟩ (n := (n : Int)) ⟨by omega, by omega⟩ (by omega)
            have hS' := Lib.hid hS; have HR := Lib.hid hR; have HB := Lib.hid hB
            have hn8' : (n : Int) < 8 := by omega
            clear hS hR hB
            go_wp2_with fail
            refine hpin.mono ?_
            clear hpin
            rintro e w8 ⟨x8, rfl, hS8, hA8⟩
            have hnone := hq3 (n : Int) (Int.le_refl _)
            have hmore := pin_more (ls := lsU) (most := 8) hnone (by rw [hq2]; omega) x8
            rw [hmore] at hS8 ⊢
            dsimp only at hS8 ⊢
            have hR8 := hA8.strs HR.out (fun b' e => by injection e with e; exact e.symm)
            have HB8 := Lib.hid (HB.out.trans (hA8.below HB.out.size))
            have hrl := HRL.out
            obtain ⟨cn, _⟩ := strs_cell hR8 hS8.size n (by omega)
            rw [HD6.out n hn8 (by omega), ← hq1] at cn
            have HR8 := Lib.hid hR8; have HS8 := Lib.hid hS8
            have HN := Lib.hid hnone; have HQ3 := Lib.hid hq3
            clear hmore hA8 hS8 hR8 hrl hnone hq3
            go_wp2_with fail
            go_roundg (8 - (n + 1))
            case measure => omega
            case rel => exact ⟨n + 1, by omega, rfl, by go_num, _, by exact hq1, by dsimp only; rw [insF_length, hq2], fun i hi => by dsimp only; rw [fd_insF HN.out, if_neg (by omega)]; exact HQ3.out i (by omega), HS8.out.mono (by omega), HR8.out, HB8.out⟩
          · have hn8' : ¬ (n : Int) < 8 := by omega
            have HB := Lib.hid hB
            clear hS hR hB hq3
            go_wp2_with fail
            go_ret
            exact ⟨rfl, HB.out⟩
      · clear hno
        go_wp2_with fail
        refine hfl.mono ?_
        clear hfl
        rintro e w5 ⟨rfl, hS5, hA5⟩
        generalize (wrS lsU q (dirtyOf q.hs)).2 = q5 at *
        have HR5 := Lib.hid (hA5.strs HR.out (fun b' e => by injection e with e; exact e.symm))
        have HB5 := Lib.hid (HB.out.trans (hA5.below HB.out.size))
        have HS5 := Lib.hid hS5
        obtain ⟨d5, hT5⟩ := hS5.tw
        have hpn := ponew_ok w.heap.size ga 8 31 #[] #[] w5 (by decide) (by decide) HB5.out.size
        clear hS5 hA5 hS' HI HR HB
        go_wp2_with fail
        refine hpn.mono ?_
        clear hpn hT5
        rintro e w6 ⟨gp2, rfl, hP6, hg6, hb6⟩
        have hS6 := HS5.out.anew hb6 hP6 hg6 (by decide)
        have hR6 := (Acts.up (n0 := w.heap.size) (O := fun x => x = b) hb6).strs HR5.out (fun b' e => by injection e with e; exact e.symm)
        have hB6 := HB5.out.trans (hb6.mono HB5.out.size)
        have hD6 : ∀ i : Nat, i < 8 → ∀ hi, (rowQ q)[i]'hi = q5.disk i := fun i h hi => by rw [rowQ_at q i h, hfin]
        have HS6 := Lib.hid hS6; have HR6 := Lib.hid hR6; have HB6 := Lib.hid hB6; have HD6 := Lib.hid hD6
        clear hP6 hg6 hb6 hS6 hR6 hB6 hfin hD6 HS5 HR5 HB5
        have HRL := Lib.hid (rowQ_length q)
        generalize rowQ q = row at *
        go_wp2_with fail
        go_loopg [19] 8 (fun gh i wr => ∃ n : Nat, n ≤ 8 ∧ gh = 8 - n ∧ i = .int .i64 n ∧ ∃ q' : Sm Unit, q'.disk = q5.disk ∧ q'.hs.length = n ∧ (∀ i : Int, n ≤ i → fd q'.hs i = none) ∧ St w.heap.size wr gp2 ga g m 8 31 #[] #[] EU XU q' (2 * k + 1 + n) (fun x => x = b) ∧ Strs w.heap.size wr (.slice (some ⟨b, 0, none⟩) 8 c) row ∧ Below w.heap.size w wr)
        case atStart => exact ⟨0, Nat.zero_le _, rfl, rfl, ⟨[], [], (), q5.disk⟩, rfl, rfl, fun i _ => rfl, HS6.out, HR6.out, HB6.out⟩
        case round =>
          clear HS6 HR6 HB6
          obtain ⟨n, hn, rfl, rfl, q7, hq1, hq2, hq3, hS, hR, hB⟩ := hrel
          by_cases hn8 : n < 8
          · have hpin := hS.pin HK.out ⟨by decide, by decide⟩ (n := (n : Int)) ⟨by omega, by omega⟩ (by omega)
            have hS' := Lib.hid hS; have HR := Lib.hid hR; have HB := Lib.hid hB
            have hn8' : (n : Int) < 8 := by omega
            clear hS hR hB
            go_wp2_with fail
            refine hpin.mono ?_
            clear hpin
            rintro e w8 ⟨x8, rfl, hS8, hA8⟩
            have hnone := hq3 (n : Int) (Int.le_refl _)
            have hmore := pin_more (ls := lsU) (most := 8) hnone (by rw [hq2]; omega) x8
            rw [hmore] at hS8 ⊢
            dsimp only at hS8 ⊢
            have hR8 := hA8.strs HR.out (fun b' e => by injection e with e; exact e.symm)
            have HB8 := Lib.hid (HB.out.trans (hA8.below HB.out.size))
            have hrl := HRL.out
            obtain ⟨cn, _⟩ := strs_cell hR8 hS8.size n (by omega)
            rw [HD6.out n hn8 (by omega), ← hq1] at cn
            have HR8 := Lib.hid hR8; have HS8 := Lib.hid hS8
            have HN := Lib.hid hnone; have HQ3 := Lib.hid hq3
            clear hmore hA8 hS8 hR8 hrl hnone hq3
            go_wp2_with fail
            go_roundg (8 - (n + 1))
            case measure => omega
            case rel => exact ⟨n + 1, by omega, rfl, by go_num, _, by exact hq1, by dsimp only; rw [insF_length, hq2], fun i hi => by dsimp only; rw [fd_insF HN.out, if_neg (by omega)]; exact HQ3.out i (by omega), HS8.out.mono (by omega), HR8.out, HB8.out⟩
          · have hn8' : ¬ (n : Int) < 8 := by omega
            have HB := Lib.hid hB
            clear hS hR hB hq3
            go_wp2_with fail
            go_ret
            exact ⟨rfl, HB.out⟩
end
end Go.Proofs.YtjlcbabnkhdgpaaGreatDoor
namespace Go.Proofs.YtjlcbabnkhdgpaaGreatDoor.poolKeeps
set_option linter.unusedSimpArgs false
set_option linter.unusedVariables false
open Go.ChangeShapes Go.WideShapes Go.ChangeAt Go.RowKit

/-- What the row's list gives: the sum's table. -/
theorem turns_of {W : World} (h : laidMetH Tryz.prog Rows.poolKeepsRow.laid W) : Turns W := by
  have ht : Lib.TabIs Tryz.prog W "concordance/sum.turns" .u32 [0, 498536548, 997073096, 651767980, 1994146192, 1802195444, 1303535960, 1342533948, 3988292384, 4027552580, 3604390888, 3412177804, 2607071920, 2262029012, 2685067896, 3183342108] :=
    Lib.tabIs_of_head (t := 176) (e := 152) (n := 16) (g := 0) (by kernel_rfl) (by kernel_rfl) Tryz.underlying176 Tryz.underlying152 (by kernel_rfl) (by kernel_rfl) (by rw [MakeChecks.laidMetH_plain _ _ _ (by kernel_rfl)] at h; exact h)
  intro i hi
  have := ht.cell (g := 0) (by kernel_rfl) i hi
  rw [this]
  exact congrArg (fun z => some (Value.int .u32 z)) ((by decide +kernel : ∀ i, i < 16 → [(0 : Int), 498536548, 997073096, 651767980, 1994146192, 1802195444, 1303535960, 1342533948, 3988292384, 4027552580, 3604390888, 3412177804, 2607071920, 2262029012, 2685067896, 3183342108].getD i 0 = turnAt i) i hi)

set_option maxRecDepth 100000 in
theorem contract (H : Type) (enc : TypeId × Value → H) (W : World) (base : Nat) (args : Array Value) (ds gs : List (DataW H)) (before : List MemPlace)
    (hval : ∀ (j : Nat) t v, Tryz.f6.params[j]? = some t → args[j]? = some v → Value.okWide Tryz.prog W .any base t v)
    (hW : DataW.Whole enc Tryz.prog Tryz.f6.params.toList Rows.poolKeepsSpec.vars false W args.toList ds gs before)
    (hz : (DataW.weightsEach Tryz.prog (Tryz.f6.params.toList ++ (OpenSpec.ofChange Rows.poolKeepsSpec).bare.plain.varTypes Tryz.prog) (ds ++ gs)).all (· ≤ reachBytes) = true)
    (hL : laidMetH Tryz.prog Rows.poolKeepsRow.laid W) :
    Calls Tryz.prog 6 args W fun e W' => ∃ v, e = .returned v ∧ Rows.poolKeepsSpec.post enc Tryz.prog Tryz.f6 false true false false W args v W' := by
  have hW' := hW
  have hlt := hW.lt
  obtain ⟨p, q, hA0, hV, rfl, _, _⟩ := hW
  have hA : DataW.TrodAll enc Tryz.prog W 0 (fun _ => true) true Tryz.f6.params.toList args.toList ds p := hA0
  obtain ⟨rfl, rfl⟩ := trodVars_none hV
  rw [Tryz.params6] at hA hval hz
  obtain ⟨v0, v1, d0, d1, p0, p1, rfl, rfl, rfl, h0, h1⟩ := trodAll_two hA
  have k0 := h0
  have k1 := h1
  simp only [List.append_nil] at hlt hW'
  have l0 : ∀ x ∈ p0, x.block < W.heap.size := fun x hx => by
    refine hlt x ?_
    simp [hx]
  have z0 : ∀ n ∈ d0.weights Tryz.prog 45, n ≤ reachBytes := fun n hn => by simpa using List.all_eq_true.1 hz _ (DataW.weights_mem_each (j := 0) (t := 45) rfl rfl n hn)
  have o0 := hval 0 45 v0 rfl rfl
  have l1 : ∀ x ∈ p1, x.block < W.heap.size := fun x hx => by
    refine hlt x ?_
    simp [hx]
  have z1 : ∀ n ∈ d1.weights Tryz.prog 3, n ≤ reachBytes := fun n hn => by simpa using List.all_eq_true.1 hz _ (DataW.weights_mem_each (j := 1) (t := 3) rfl rfl n hn)
  have o1 := hval 1 3 v1 rfl rfl
  have hT := turns_of hL
  obtain ⟨A, cap, l, rfl, hPA, hl, hx⟩ := open_acts10 o0 h0 z0 l0
  obtain ⟨fs, rfl, rfl, rfl, hf⟩ := open_int Tryz.underlying3 o1 h1
  have hc := keeps_any l A cap fs W hT hPA hl hx
  refine hc.mono fun e W' ⟨he, hb⟩ => ?_
  subst he
  exact ⟨_, rfl, post_below (pv := []) hW' hb (fun _ _ _ => trodAll_cons_mk (shut_bool Tryz.underlying4 _) trodAll_mk0)
    (trodAll_mk2 (Below.trod laidOut (by kernel_rfl) (of_decide_eq_true (by kernel_rfl)) k0 hb l0) (Below.trod laidOut (by kernel_rfl) (of_decide_eq_true (by kernel_rfl)) k1 hb l1)) rfl⟩

theorem laid_met (os : Os) : laidMetH Tryz.prog Rows.poolKeepsRow.laid (((World.laidAll Tryz.prog os Rows.poolKeepsRow.laid).forCall (fun _ _ => 0) ⟨#[], #[.slice none 0 0, .int .i64 0], []⟩).memory) := by
  rw [MakeChecks.laidMetH_plain _ _ _ (by kernel_rfl)]; exact laidMet_laidAll _ (by kernel_rfl) (by kernel_rfl)
theorem reads (os : Os) {H : Type} (enc : TypeId × Value → H) : ∃ places, DataW.whole enc Tryz.prog ((World.laidAll Tryz.prog os Rows.poolKeepsRow.laid).forCall (fun _ _ => 0) ⟨#[], #[.slice none 0 0, .int .i64 0], []⟩).memory Tryz.f6.params.toList Rows.poolKeepsSpec.vars false #[.slice none 0 0, .int .i64 0].toList 8 = some ([.nil, .lit (.int .i64 0)], [], places) :=
  ⟨[], by kernel_rfl⟩

set_option maxRecDepth 100000 in
theorem lifted (os : Os) (started : os.Started) (H : Type) (enc : TypeId × Value → H) (F : Stop.Interp) :
    ReturnsInHanded {} Tryz.checked os 6 .any ((OpenSpec.ofChange Rows.poolKeepsSpec).preRow enc Tryz.prog Tryz.f6 Rows.poolKeepsRow.domain false Rows.poolKeepsRow.laid) (((OpenSpec.ofChange Rows.poolKeepsSpec).at F).post enc Tryz.prog Tryz.f6 false true false false) := by
  obtain ⟨places, hx⟩ := reads os enc
  refine returnsInHanded_of_row (C := Tryz.checked) (s := OpenSpec.ofChange Rows.poolKeepsSpec) own started (by kernel_rfl) Tryz.func6
    (witness_row_at (enc := enc) (C := Tryz.checked) false (World.laidAll Tryz.prog os Rows.poolKeepsRow.laid) #[.slice none 0 0, .int .i64 0] (World.laidAll_os _ _ _) (by kernel_rfl) (by kernel_rfl) (by kernel_rfl)
      (OpenSpec.preRow_of_cond 8 hx (by kernel_rfl) (fun k hk => by cases hk) (by kernel_rfl) (laid_met os))) ?_
  intro W base args ds gs before hval hW _ _ hz hL _ _
  exact contract H enc W base args ds gs before hval hW hz hL

theorem said : Rows.PoolKeepsSaid :=
  OpenClaim.holds_of_cond 6 Tryz.f6 rfl rfl rfl rfl rfl rfl rfl ⟨rfl, rfl, rfl, rfl, rfl⟩ rfl rfl rfl rfl rfl (by kernel_rfl) Tryz.func6 (by kernel_rfl)
    (of_decide_eq_true (by kernel_rfl)) (by unfold Func.isWrapper; first | (rw [if_pos (by decide +kernel)]; kernel_rfl) | (rw [if_neg (by decide +kernel)]; exact ⟨rfl, rfl⟩))
    (fun os started H enc _ F => by rw [OpenClaim.pre_eq_preRow]; exact lifted os started H enc F)

theorem plain (f : FuncId) (fn : Func) (hf : Tryz.pinned.checked.prog.funcNamed "concordance/concordancelaw10.PoolKeeps" = some f) (hfn : Tryz.pinned.checked.prog.funcs[f]? = some fn) :
    false = Tryz.pinned.checked.prog.looks [] ∧ ∀ (j : Nat) t, fn.params[j]? = some t → Tryz.pinned.checked.prog.wantsStandIn t = false := by
  obtain rfl : f = 6 := Option.some.inj ((show Tryz.prog.funcNamed "concordance/concordancelaw10.PoolKeeps" = some 6 by kernel_rfl).symm.trans hf) |>.symm
  obtain rfl : fn = Tryz.f6 := (Option.some.inj (Tryz.func6.symm.trans hfn)).symm
  refine ⟨by kernel_rfl, fun j t ht => ?_⟩
  rw [Tryz.params6] at ht
  have hm : t = 45 ∨ t = 3 := by simpa using Array.mem_of_getElem? ht
  rcases hm with rfl | rfl
  · exact (show Tryz.prog.wantsStandIn 45 = false by kernel_rfl)
  · exact (show Tryz.prog.wantsStandIn 3 = false by kernel_rfl)

/-- THE CARD. -/
theorem card : Rows.PoolKeepsCardSaid :=
  Claim7.holds_tied_plain_at .later [] _ _ _ _ said (fun _ h => by cases h) (by kernel_rfl) (fun _ h => by cases h) poolKeeps_row_tie rfl ⟨rfl, rfl⟩ (by kernel_rfl) rfl plain (by kernel_rfl)
end Go.Proofs.YtjlcbabnkhdgpaaGreatDoor.poolKeeps
