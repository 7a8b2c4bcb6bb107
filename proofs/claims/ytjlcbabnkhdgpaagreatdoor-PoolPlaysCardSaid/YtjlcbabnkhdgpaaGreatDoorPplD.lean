/-
  PROVED HERE: the card of 'PoolPlays': whatever is handed in, the law returns true, and leaves what it was handed as it was. No condition but the row's own (the listed variables' content, the reach).
-/
import Derived.Test.YtjlcbabnkhdgpaaGreatDoorPplC
import Derived.Test.YtjlcbabnkhdgpaaGreatDoorPinsE
import Derived.LaidMore
import Derived.Lay
import Derived.SevenTiedAt
import Derived.Stop.Joined
namespace Go.Proofs.YtjlcbabnkhdgpaaGreatDoor
section
set_option linter.unusedSimpArgs false
set_option linter.unusedVariables false
open Go.RowKit Go.Maps


set_option maxHeartbeats 64000000 in
set_option maxRecDepth 100000 in
theorem pplays_any (l : List ActM) (A : Option Addr) (cap : Nat) (f : Int) (w : World) (ht : Turns w) (hA : ActsIn w w.heap.size A l) (hl : l.length ≤ 140737488355328) (hx : ∀ x ∈ l, x.2.2.length ≤ 140737488355328) :
    Calls Tryz.prog 5 #[.slice A l.length cap, .int .i64 f] w fun e w' => e = .returned (.bool true) ∧ Below w.heap.size w w' := by
  have hlt := ht.lt
  have hsp := speaks10_any w ht
  have hd := fun W (hW : w.heap.size ≤ W.heap.size) => devnew_dv w.heap.size 40 (by decide) (by decide) W hW
  have hnew := fun g m W h1 h2 => twnew_ok w.heap.size g m arm8 (newM 40) W h1 h2 hlt arm8_fits
  have hmi := mostI_in f
  have hm1 := mask3 f
  have hm2 : IntKind.i64.wrap (1 + f % 4) = mostI f := by unfold mostI; rw [IntKind.wrap_i64]; omega
  have HNW := Lib.hid hnew; have HT := Lib.hid ht; have HD0 := Lib.hid hd; have HAS := Lib.hid hA; have HX := Lib.hid hx; have HMI := Lib.hid hmi
  clear hlt hnew ht hd hA hx hmi
  go_enter Tryz.func5, Tryz.ntmps5
  go_wp2_with fail
  refine hsp.mono ?_
  clear hsp
  rintro e w0 ⟨rfl, hb0⟩
  have hd := HD0.out w0 hb0.size
  have HB0 := Lib.hid hb0
  clear hb0 HD0
  go_wp2_with fail
  refine hd.mono ?_
  rintro e w1 ⟨m, rfl, hD, hb1⟩
  have HD := Lib.hid hD; have HB1 := Lib.hid (HB0.out.trans (hb1.mono HB0.out.size))
  clear hd hD hb1 HB0
  go_wp2_with fail
  refine (HNW.out _ m w1 HD.out (HT.out.below HB1.out)).mono ?_
  rintro e w2 ⟨rfl, hT2, hb2⟩
  have HT2 := Lib.hid hT2; have HB2 := Lib.hid (HB1.out.trans (hb2.mono HB1.out.size))
  clear hT2 hb2 HD HB1 HNW
  generalize w1.heap.size = ga at *
  generalize w0.heap.size + 1 = g at *
  obtain ⟨most, hmost⟩ : ∃ q, q = mostI f := ⟨_, rfl⟩
  rw [← hmost] at hm2 HMI
  rw [← hmost]
  clear hmost
  have h9 := new9_any w2
  go_wp2_with fail
  refine h9.mono ?_
  clear h9
  rintro e w4 ⟨u, v, rfl, hTw, hb4⟩
  have hO := hTw.one
  obtain ⟨b, c, rfl⟩ := hO.at8 (by simp)
  obtain ⟨A2, n2, c2, rfl⟩ := hTw.two.form
  simp only [List.length_replicate] at hO
  have hdz : docD (fun _ => zer) = List.replicate 8 (List.replicate 512 0) := by unfold docD zer; rfl
  rw [← hdz] at hO
  have hfd : ∀ w : World, (Instr.field 49 (.agg #[.slice (some ⟨b, 0, none⟩) 8 c, .slice A2 n2 c2]) 0).run Tryz.prog w = .ok (.slice (some ⟨b, 0, none⟩) 8 c) w := fun _ => by kernel_rfl
  have HO := Lib.hid hO; have HT4 := Lib.hid (HT2.out.up hb4); have HB4 := Lib.hid (HB2.out.trans (hb4.mono HB2.out.size)); have HN2 := Lib.hid HB2.out.size; have HS4 := Lib.hid hb4.size
  clear hTw hO hdz hb4 HT2 HB2
  simp only [List.length_replicate]
  go_upto_region 9 with fail
  obtain ⟨w5, hw5⟩ : ∃ q, q = w4.alloc (.cells #[.int .i64 most, .slice none 0 0, .slice (some ⟨b, 0, none⟩) 8 c, .slice none 0 0, .bool false] 53) := ⟨_, rfl⟩
  obtain ⟨w6, hw6⟩ : ∃ q, q = w5.alloc (.cells #[.slice none 0 0] 22) := ⟨_, rfl⟩
  obtain ⟨w7, hw7⟩ : ∃ q, q = w6.alloc (.cells #[.bool false] 4) := ⟨_, rfl⟩
  have z5 : w5.heap.size = w4.heap.size + 1 := by rw [hw5]; simp
  have z6 : w6.heap.size = w4.heap.size + 1 + 1 := by rw [hw6]; simp [z5]
  have z7 : w7.heap.size = w4.heap.size + 3 := by rw [hw7]; simp [z6]
  have b5 : Below w4.heap.size w4 w5 := by rw [hw5]; exact (Below.refl _ _).alloc (Nat.le_refl _) _
  have b6 : Below w5.heap.size w5 w6 := by rw [hw6]; exact (Below.refl _ _).alloc (Nat.le_refl _) _
  have b7 : Below w6.heap.size w6 w7 := by rw [hw7]; exact (Below.refl _ _).alloc (Nat.le_refl _) _
  have k5 : Blk w5 w4.heap.size 53 #[.int .i64 most, .slice none 0 0, .slice (some ⟨b, 0, none⟩) 8 c, .slice none 0 0, .bool false] := by rw [hw5]; exact Blk.made _ _ _
  have k6 : Blk w6 w5.heap.size 22 #[.slice none 0 0] := by rw [hw6]; exact Blk.made _ _ _
  have k7 : Blk w7 w6.heap.size 4 #[.bool false] := by rw [hw7]; exact Blk.made _ _ _
  have b47 : Below w4.heap.size w4 w7 := b5.trans ((b6.mono (by omega)).trans (b7.mono (by omega)))
  have hPB := (k5.up b6).up b7
  have hB1 := k6.up b7
  have hD7 : DocAt w.heap.size w7 w4.heap.size (.slice none 0 0) (.slice (some ⟨b, 0, none⟩) 8 c) (.slice none 0 0) (docOf most ⟨[], [], ([], false), fun _ => zer⟩) :=
    ⟨Nat.le_trans HN2.out (Nat.le_trans HS4.out (by omega)), Nat.le_trans HN2.out HS4.out, hPB, World.ownsRow_nil _ _ _ _, own_low (ownsRow_grown HO.out (grown_of_below b47 none) (by simp)) HN2.out, World.ownsRow_nil _ _ _ _⟩
  have hE7 : EA w.heap.size (w4.heap.size + 1) (w4.heap.size + 1 + 1) ([], false) w7 := ⟨.slice none 0 0, by rw [← z5]; exact hB1, by rw [← z6]; exact k7, World.ownsRow_nil _ _ _ _, by have := HN2.out; have := HS4.out; omega, by have := HN2.out; have := HS4.out; omega⟩
  have hT7 := HT4.out.up b47
  have hn7 : w.heap.size ≤ w7.heap.size := hT7.n0le
  have hpn := ponew_ok w.heap.size ga most 22 #[] #[.pointer (some ⟨w4.heap.size + 1, 0, none⟩), .pointer (some ⟨w4.heap.size + 1 + 1, 0, none⟩)] w7 HMI.out.1 (by have := HMI.out.2; omega) hn7
  have hB7 := HB4.out.trans (b47.mono HB4.out.size)
  rw [← hw5, ← hw6, ← hw7]
  have hvB : w7.cell? ⟨w4.heap.size + 1, 0, none⟩ = some (.slice none 0 0) := by rw [← z5]; exact hB1.cell 0
  have hbl : b < w4.heap.size := (HO.out.lt b rfl).2
  obtain ⟨cb, hbk⟩ := own_blk hD7.rD (b := b) rfl
  have HPB := Lib.hid hPB; have HD7 := Lib.hid hD7; have HE7 := Lib.hid hE7; have HT7 := Lib.hid hT7; have HB7 := Lib.hid hB7; have HVB := Lib.hid hvB; have HZ7 := Lib.hid z7; have HBL := Lib.hid hbl; have HBK := Lib.hid hbk
  clear z5 z6 z7 b5 b6 b7 k5 k6 k7 b47 hPB hB1 hD7 hE7 hT7 hn7 hB7 hvB hbl hbk hw5 hw6 hw7 HO HT4 HB4 HN2 HS4 w5 w6
  go_wp2_with fail
  refine hpn.mono ?_
  clear hpn
  rintro e w8 ⟨gp, rfl, hP8, hgp, hb8⟩
  have hS8 : St w.heap.size w8 gp ga g m most 22 #[] #[.pointer (some ⟨w4.heap.size + 1, 0, none⟩), .pointer (some ⟨w4.heap.size + 1 + 1, 0, none⟩)] (EA w.heap.size (w4.heap.size + 1) (w4.heap.size + 1 + 1)) (XA (w4.heap.size + 1) (w4.heap.size + 1 + 1)) ⟨[], [], ([], false), fun _ => zer⟩ 0 (DO w4.heap.size (.slice none 0 0) (.slice (some ⟨b, 0, none⟩) 8 c) (.slice none 0 0)) := by
    have z7 := HZ7.out
    refine St.firstA hP8 (HT7.out.up hb8) (HE7.out.fr (Fr.up (F := fun _ => False) hb8) (fun _ _ e => e)).1 (up_cell hb8 HVB.out) (by omega) (by omega) (by have := HMI.out.1; omega) (fun y e => ?_)
    rcases e with e | e | e | e
    · subst e
      exact ⟨by omega, by omega, by omega, _, _, HPB.out.up hb8, by decide, by decide, by decide⟩
    · cases e
    · injection e with e
      subst e
      have := HBL.out
      exact ⟨by omega, by omega, by omega, _, _, HBK.out.up hb8, by decide, by decide, by decide⟩
    · cases e
  have HS8 := Lib.hid hS8; have HD8 := Lib.hid (HD7.out.up hb8); have HB8 := Lib.hid (HB7.out.trans (hb8.mono HB7.out.size))
  clear hP8 hgp hb8 hS8 HPB HD7 HE7 HT7 HB7 HVB HZ7 HBL HBK hfd hm1 hm2
  generalize w4.heap.size + 1 + 1 = B2 at *
  generalize w4.heap.size + 1 = B1 at *
  generalize w4.heap.size = pb at *
  have HQZ : Hid ((⟨[], [], ([], false), fun _ => zer⟩ : Sm AskS).s.1.length ≤ 0) := Lib.hid (Nat.le_refl 0)
  generalize (⟨[], [], ([], false), fun _ => zer⟩ : Sm AskS) = q0 at *
  have HK : Hid (FlOk w.heap.size ga g m arm8 22 #[] #[.pointer (some ⟨B1, 0, none⟩), .pointer (some ⟨B2, 0, none⟩)] (EA w.heap.size B1 B2) (XA B1 B2) (onD lsA) SMA) := Lib.hid flA_ok
  have HQ0 : Hid (q0.s.1.length ≤ 0) := Lib.hid HQZ.out
  go_wp2_with fail
  obtain ⟨nn, hnn⟩ : ∃ nn, nn = min l.length 50 := ⟨_, rfl⟩
  have HNN := Lib.hid hnn
  clear hnn
  go_loopg [14] nn (fun gh i wr => ∃ k : Nat, k ≤ nn ∧ gh = nn - k ∧ i = .int .i64 k ∧ ∃ q vF vD vA, St w.heap.size wr gp ga g m most 22 #[] #[.pointer (some ⟨B1, 0, none⟩), .pointer (some ⟨B2, 0, none⟩)] (EA w.heap.size B1 B2) (XA B1 B2) q (2 * k) (DO pb vF vD vA) ∧
    DocAt w.heap.size wr pb vF vD vA (docOf most q) ∧ q.s.1.length ≤ 2 * k ∧ Below w.heap.size w wr)
  case atStart => exact ⟨0, Nat.zero_le _, rfl, rfl, q0, _, _, _, HS8.out, HD8.out, HQ0.out, HB8.out⟩
  case round =>
    clear HS8 HD8 HB8
    obtain ⟨k, hk, rfl, rfl, q, vF, vD, vA, hS, hD, hq, hB⟩ := hrel
    have hk50 : k ≤ 50 := by have := HNN.out; omega
    by_cases hlt : k < nn
    · have hkl : k < l.length := by have := HNN.out; omega
      have hk50 : k < 50 := by have := HNN.out; omega
      obtain ⟨bA, oA, rfl, hbn, e0, e1, e2⟩ := HAS.out.below hB k hkl
      obtain ⟨x, hxx⟩ : ∃ x, x = l[k] := ⟨_, rfl⟩
      rw [← hxx] at e0 e1 e2
      have hxl := HX.out x (by rw [hxx]; exact List.getElem_mem hkl)
      obtain ⟨what, n, t⟩ := x
      dsimp only at e0 e1 e2 hxl
      have r4 : (k : Int) < (l.length : Int) := by omega
      obtain ⟨d, hps⟩ := hS.ps
      obtain ⟨AA, cA, rfl⟩ := hD.rA.form
      obtain ⟨AD, cD, rfl⟩ := hD.rD.slice
      obtain ⟨AF, cF, rfl⟩ := row4_form hD.rF
      have hfl : (docOf most q).F.length = q.us.length := docF_length _ _
      have hul : q.us.length ≤ 4 := by have := hps.gd.len; have := hps.gd.same; have := HMI.out.2; omega
      have hfind := rfind_any wr n hD (by rw [hfl]; omega)
      have c1 := hD.cells.2.1
      rw [show findI (docOf most q).F n = if n ∈ q.us then (q.us.idxOf n : Int) else -1 from docF_findI hps.gd.nod] at hfind
      have HS := Lib.hid hS; have HD := Lib.hid hD; have HB := Lib.hid hB; have HPS := Lib.hid hps; have HQ := Lib.hid hq
      obtain ⟨at_, hat⟩ : ∃ z : Int, z = if n ∈ q.us then (q.us.idxOf n : Int) else -1 := ⟨_, rfl⟩
      rw [← hat] at hfind
      have HAT := Lib.hid hat; have HFL := Lib.hid hfl
      clear hS hD hB hps hq hxx hat hfl
      go_wp2_with fail
      refine hfind.mono ?_
      clear hfind
      rintro e w9 ⟨rfl, rfl⟩
      go_upto_region 17 with fail
      go_cut [17] (fun pv wx => pv = .bool (pinB q n) ∧ wx = wr)
      case first => as_aux_lemma =>
        cases hy : fd q.hs n with
        | none =>
          have hk : n ∉ q.us := fun e => by have := (HPS.out.gd.keys n).1 e; rw [hy] at this; cases this
          have ha : at_ = -1 := by rw [HAT.out, if_neg hk]
          have HPB : Hid (pinB q n = false) := Lib.hid (by unfold pinB; rw [hy])
          subst ha
          clear hy hk
          go_wp2_with fail
          go_meet
          case rel => exact ⟨by rw [HPB.out], rfl⟩
        | some y =>
          have hk : n ∈ q.us := (HPS.out.gd.keys n).2 (by rw [hy]; rfl)
          obtain ⟨h1, h2⟩ := idx_at hk
          have ha : at_ = (q.us.idxOf n : Int) := by rw [HAT.out, if_pos hk]
          obtain ⟨bF, cF', ev, -, q1, -⟩ := row4_cells HD.out.rF (q.us.idxOf n) (by rw [HFL.out]; exact h1)
          injection ev with ev _ ec
          subst ev ec
          have hx4 : ((docOf most q).F[q.us.idxOf n]'(by rw [HFL.out]; exact h1)).2.pins = y.2.pins := by
            rw [docOf_at most q _ h1, h2, frOf_fd hy]
          rw [hx4] at q1
          have HPB : Hid (pinB q n = decide (0 < (y.2.pins : Int))) := Lib.hid (by unfold pinB; rw [hy])
          have hlt3 : (q.us.idxOf n : Int) < ((docOf most q).F.length : Int) := by rw [HFL.out]; omega
          generalize q.us.idxOf n = ix at *
          subst ha
          have h0 : (0 : Int) ≤ (ix : Int) := Int.natCast_nonneg ix
          clear hy hk h1 h2 hx4
          go_wp2_with fail
          go_meet
          case rel => exact ⟨by rw [HPB.out]; simp, rfl⟩
      case rest =>
        obtain ⟨rfl, rfl⟩ := hcut
        obtain ⟨pn, hpn⟩ : ∃ z, z = pinB q n := ⟨_, rfl⟩
        rw [← hpn]
        have HPN := Lib.hid hpn
        clear hpn
        have t9 := Int.tmod_lt_of_pos what (show (0 : Int) < 9 by decide)
        have t9' := Int.tmod_lt_of_pos (-what) (show (0 : Int) < 9 by decide)
        rw [Int.neg_tmod] at t9'
        have r1 : IntKind.i64.wrap (what.tmod 9 + 9) = what.tmod 9 + 9 := by rw [IntKind.wrap_i64]; omega
        obtain ⟨kd, hkd⟩ : ∃ z, z = what.tmod 9 % 9 := ⟨_, rfl⟩
        have r2 : (what.tmod 9 + 9).tmod 9 = kd := by rw [Int.tmod_eq_emod_of_nonneg (by omega)]; omega
        have hkr : 0 ≤ kd ∧ kd < 9 := by omega
        have HKR := Lib.hid hkr
        clear t9 t9' hkd hkr c1
        go_upto_block 2 with fail
        go_cut [18, 19, 20, 21, 22, 23, 24, 25, 26, 27, 28, 121, 150, 229, 243, 252] (fun s18 s19 s20 s21 s22 s23 s24 s25 s26 s27 s28 s121 s150 s229 s243 s252 wx => ∃ q' vF vD vA, St w.heap.size wx gp ga g m most 22 #[] #[.pointer (some ⟨B1, 0, none⟩), .pointer (some ⟨B2, 0, none⟩)] (EA w.heap.size B1 B2) (XA B1 B2) q' (2 * k + 2) (DO pb vF vD vA) ∧
          DocAt w.heap.size wx pb vF vD vA (docOf most q') ∧ q'.s.1.length ≤ 2 * k + 2 ∧ Below w.heap.size w wx)
        case first =>
          clear r1 r2
          rcases (show kd = 3 ∨ (kd = 4 ∨ kd = 5) ∨ kd = 6 ∨ kd = 7 ∨ kd = 8 ∨ (kd = 0 ∨ kd = 1 ∨ kd = 2) by have := HKR.out; omega) with h3 | h4 | h6 | h7 | h8 | h0
          · -- Unpin
            subst h3
            have hun := HS.out.unpin HK.out (n := n) (by omega)
            cases pn with
            | false => as_aux_lemma =>
              have hp : pinB q n = false := HPN.out.symm
              have hu : unpinS q n = (17, q) := by
                have : unpinM q.hs n = (17, q.hs) := by
                  rcases unpinM_cases q.hs n with ⟨y, hy, h1, _⟩ | ⟨_, e⟩
                  · exfalso
                    unfold pinB at hp
                    rw [hy] at hp
                    simp at hp
                    omega
                  · exact e
                unfold unpinS
                rw [this]
              rw [hu] at hun
              clear hp hu
              go_wp2_with fail
              refine hun.mono ?_
              clear hun
              rintro e w10 ⟨rfl, hS10, hA10⟩
              have HS10 := Lib.hid hS10; have HD10 := Lib.hid (hA10.doc HD.out); have HB10 := Lib.hid (HB.out.trans (hA10.below HB.out.size))
              clear hS10 hA10
              go_wp2_with fail
              go_meet
              case rel => exact ⟨q, _, _, _, HS10.out.mono (by omega), HD10.out, by have := HQ.out; omega, HB10.out⟩
            | true => as_aux_lemma =>
              have hp : pinB q n = true := HPN.out.symm
              obtain ⟨y, hy, hyp⟩ : ∃ y, fd q.hs n = some y ∧ y.2.pins ≠ 0 := by
                unfold pinB at hp
                cases hy : fd q.hs n with
                | none => rw [hy] at hp; cases hp
                | some y =>
                  rw [hy] at hp
                  refine ⟨y, rfl, ?_⟩
                  simp at hp
                  omega
              have hk : n ∈ q.us := (HPS.out.gd.keys n).2 (by rw [hy]; rfl)
              obtain ⟨h1, h2⟩ := idx_at hk
              obtain ⟨u1, u2⟩ := unpin_pinned hy hyp
              have hset : (docF q.hs q.us).set (q.us.idxOf n) (n, unpinF y.2) = docF (unpinS q n).2.hs q.us := by rw [u2]; exact set_doc HPS.out hk _
              rw [u1] at hun
              have ha : at_ = (q.us.idxOf n : Int) := by rw [HAT.out, if_pos hk]
              have hfx : q.us.idxOf n < (docOf most q).F.length := by rw [HFL.out]; exact h1
              have hFx : (docOf most q).F[q.us.idxOf n] = (n, y.2) := by rw [docOf_at most q _ h1, h2, frOf_fd hy]
              obtain ⟨bF, cF', ev, -⟩ := row4_cells HD.out.rF _ hfx
              injection ev with ev _ ec
              subst ev ec
              generalize q.us.idxOf n = ix at *
              subst ha
              have hlt3 : (ix : Int) < ((docOf most q).F.length : Int) := by omega
              have h0 : (0 : Int) ≤ (ix : Int) := Int.natCast_nonneg ix
              have hyb : (y.2.pins : Int) ≤ 1000 := by
                obtain ⟨_, _, _, _, _, _, hpb', _⟩ := HS.out
                have := hpb'.fd hy
                omega
              have r1 : IntKind.i64.wrap ((y.2.pins : Int) - 1) = ((y.2.pins - 1 : Nat) : Int) := by rw [IntKind.wrap_i64]; omega
              have HSET := Lib.hid hset; have HFX := Lib.hid hFx; have HYP := Lib.hid hyp
              clear hp hset hFx hk h1 h2 u1 u2 hyp hy
              go_wp2_with fail
              refine hun.mono ?_
              clear hun
              rintro e w10 ⟨rfl, hS10, hA10⟩
              have hD10 := hA10.doc HD.out
              obtain ⟨_, x1, _, _, xf, _⟩ := row4_at hD10.rF ix hfx
              rw [HFX.out] at x1
              have f1 := xf (ix * 4 + 1)
              have c1 := hD10.cells.2.1
              have hD11 := hD10.row4 ix hfx 1 (by decide) (.int .i64 ((y.2.pins - 1 : Nat) : Int)) (n, unpinF y.2) (by rw [HFX.out]; rfl)
              have hS11 := hS10.row4 HK.out hD10 (ix * 4 + 1) (.int .i64 ((y.2.pins - 1 : Nat) : Int))
              have hB11 := (HB.out.trans (hA10.below HB.out.size)).setCell (p := ⟨bF, ix * 4 + 1, none⟩) (hD10.rF.lt bF rfl).1 (.int .i64 ((y.2.pins - 1 : Nat) : Int))
              have hDq : DocAt w.heap.size (w10.setCell ⟨bF, ix * 4 + 1, none⟩ (.int .i64 ((y.2.pins - 1 : Nat) : Int))) pb (.slice (some ⟨bF, 0, none⟩) (docOf most q).F.length cF) (.slice AD (docOf most q).disk.length cD) (.slice AA (docOf most q).asked.length cA) (docOf most (unpinS q n).2) := by
                have : ({ docOf most q with F := (docOf most q).F.set ix (n, unpinF y.2) } : Doc) = docOf most (unpinS q n).2 := by
                  show Doc.mk _ ((docF q.hs q.us).set ix (n, unpinF y.2)) _ _ _ = _
                  rw [HSET.out]
                  rfl
                rw [← this]
                exact hD11
              have HS11 := Lib.hid hS11; have HD11 := Lib.hid hDq; have HB11 := Lib.hid hB11
              clear hS10 hA10 hD10 hD11 hS11 hB11 hDq
              replace x1 : w10.cell? ⟨bF, ix * 4 + 1, none⟩ = some (.int .i64 (y.2.pins : Int)) := x1
              go_wp2_with fail
              go_meet
              case rel => exact ⟨(unpinS q n).2, _, _, _, HS11.out.mono (by omega), HD11.out, by have := HQ.out; show q.s.1.length ≤ _; omega, HB11.out⟩
          · -- Put
            rcases h4 with rfl | rfl
            · as_aux_lemma =>
              have HPN2 : Hid (pinB q n = pn) := Lib.hid HPN.out.symm
              have r3 : IntKind.i64.wrap (1 + (k : Int)) = 1 + (k : Int) := by rw [IntKind.wrap_i64]; omega
              have e60 : t.take (min (t.length : Int) 60).toNat = t.take 60 := by
                by_cases h : t.length ≤ 60
                · rw [show (min (t.length : Int) 60).toNat = t.length by omega, List.take_length, List.take_of_length_le h]
                · rw [show (min (t.length : Int) 60).toNat = 60 by omega]
              have e6a : 0 ≤ min (t.length : Int) 60 := by omega
              have e6b : min (t.length : Int) 60 ≤ (t.length : Int) := by omega
              have HEN0 := Lib.hid (enc_one (n := 1 + (k : Int)) (t := t) (by omega) (by omega))
              obtain ⟨s, hs⟩ : ∃ s, s = imgB (1 + (k : Int)) t := ⟨_, rfl⟩
              have HS512 : Hid (s.length = 512 ∧ wholeB s = true) := Lib.hid (by rw [hs]; exact ⟨imgB_length (by omega) (by omega), imgB_whole (by omega) (by omega)⟩)
              rw [← hs] at HEN0
              clear hs
              go_upto_region 31 with fail
              refine wp_region_any (by kernel_rfl) ?_
              show wpAny _ _ _ _ 24 #[false,false,false,false,false,false,false,false,false,false,false,false,false,false,false,false,false,false,false,false,false,false,false,false] _ (World.drew _)
              refine wpAny_take (i := 0) (oi := ⟨some 154, _, _, _, _, _⟩) (v := ?_) rfl (by kernel_rfl) (by kernel_rfl) (by kernel_rfl) (fun _ _ _ h => h) (Or.inl ⟨by kernel_rfl, ?_⟩) ?_
              rotate_left
              · intro w'; go_simp; rfl
              try simp only [Act.put, List.setIfInBounds_toArray, List.set_cons_zero, List.set_cons_succ]
              refine wpAny_take (i := 1) (oi := ⟨some 155, _, _, _, _, _⟩) (v := ?_) rfl (by kernel_rfl) (by kernel_rfl) (by kernel_rfl) (fun _ _ _ h => h) (Or.inl ⟨by kernel_rfl, ?_⟩) ?_
              rotate_left
              · intro w'; go_simp; rfl
              try simp only [Act.put, List.setIfInBounds_toArray, List.set_cons_zero, List.set_cons_succ]
              refine wpAny_upto 16 [2, 3, 4, 5, 6, 7, 8, 9, 10, 11, 12, 13, 14, 15] (fun W => Below wc.heap.size wc W) (g := 8) (by kernel_rfl) (by kernel_rfl) (by kernel_rfl) (by kernel_rfl) (Below.refl _ _).drew ?_
              refine q_val (o := ⟨some 156, _, _, _, _, _⟩) (v := ?_) (by kernel_rfl) (fun W hW => ?_) ?_
              rotate_left
              · go_simp; rfl
              try simp only [Act.put, List.setIfInBounds_toArray, List.set_cons_zero, List.set_cons_succ]
              refine q_val (o := ⟨some 157, _, _, _, _, _⟩) (v := ?_) (by kernel_rfl) (fun W hW => ?_) ?_
              rotate_left
              · go_simp; rfl
              try simp only [Act.put, List.setIfInBounds_toArray, List.set_cons_zero, List.set_cons_succ]
              refine q_val (o := ⟨some 158, _, _, _, _, _⟩) (v := ?_) (by kernel_rfl) (fun W hW => ?_) ?_
              rotate_left
              · go_simp; rfl
              try simp only [Act.put, List.setIfInBounds_toArray, List.set_cons_zero, List.set_cons_succ]
              refine q_val (o := ⟨some 159, _, _, _, _, _⟩) (v := ?_) (by kernel_rfl) (fun W hW => ?_) ?_
              rotate_left
              · go_simp; rfl
              try simp only [Act.put, List.setIfInBounds_toArray, List.set_cons_zero, List.set_cons_succ]
              refine q_val (o := ⟨some 160, _, _, _, _, _⟩) (v := ?_) (by kernel_rfl) (fun W hW => ?_) ?_
              rotate_left
              · have e2 := up_cell hW e2; go_simp; rfl
              try simp only [Act.put, List.setIfInBounds_toArray, List.set_cons_zero, List.set_cons_succ]
              refine q_val (o := ⟨some 161, _, _, _, _, _⟩) (v := ?_) (by kernel_rfl) (fun W hW => ?_) ?_
              rotate_left
              · go_simp; rfl
              try simp only [Act.put, List.setIfInBounds_toArray, List.set_cons_zero, List.set_cons_succ]
              refine q_val (o := ⟨some 162, _, _, _, _, _⟩) (v := ?_) (by kernel_rfl) (fun W hW => ?_) ?_
              rotate_left
              · go_simp; rfl
              try simp only [Act.put, List.setIfInBounds_toArray, List.set_cons_zero, List.set_cons_succ]
              refine q_val (o := ⟨some 163, _, _, _, _, _⟩) (v := ?_) (by kernel_rfl) (fun W hW => ?_) ?_
              rotate_left
              · go_simp; rfl
              try simp only [Act.put, List.setIfInBounds_toArray, List.set_cons_zero, List.set_cons_succ]
              refine q_val (o := ⟨some 164, _, _, _, _, _⟩) (v := ?_) (by kernel_rfl) (fun W hW => ?_) ?_
              rotate_left
              · go_simp; rfl
              try simp only [Act.put, List.setIfInBounds_toArray, List.set_cons_zero, List.set_cons_succ]
              refine q_val (o := ⟨some 165, _, _, _, _, _⟩) (v := ?_) (by kernel_rfl) (fun W hW => ?_) ?_
              rotate_left
              · have e2 := up_cell hW e2; go_simp; rfl
              try simp only [Act.put, List.setIfInBounds_toArray, List.set_cons_zero, List.set_cons_succ]
              refine q_val (o := ⟨some 166, _, _, _, _, _⟩) (v := ?_) (by kernel_rfl) (fun W hW => ?_) ?_
              rotate_left
              · go_simp; rfl
              try simp only [Act.put, List.setIfInBounds_toArray, List.set_cons_zero, List.set_cons_succ]
              refine q_val (o := ⟨some 167, _, _, _, _, _⟩) (v := ?_) (by kernel_rfl) (fun W hW => ?_) ?_
              rotate_left
              · go_simp; rfl
              try simp only [Act.put, List.setIfInBounds_toArray, List.set_cons_zero, List.set_cons_succ]
              refine q_val (o := ⟨some 168, _, _, _, _, _⟩) (v := ?_) (by kernel_rfl) (fun W hW => ?_) ?_
              rotate_left
              · go_simp; rfl
              try simp only [Act.put, List.setIfInBounds_toArray, List.set_cons_zero, List.set_cons_succ]
              refine q_val (o := ⟨some 169, _, _, _, _, _⟩) (v := ?_) (by kernel_rfl) (fun W hW => ?_) ?_
              rotate_left
              · go_simp; rfl
              try simp only [Act.put, List.setIfInBounds_toArray, List.set_cons_zero, List.set_cons_succ]
              refine q_end (fun W hW => ?_)
              show wpAny _ _ _ _ 8 #[true,true,true,true,true,true,true,true,true,true,true,true,true,true,true,true,false,false,false,false,false,false,false,false] _ _
              refine wpAny_ready (rs := [16]) (by kernel_rfl) (by simp) ?_
              refine AllReady.cons (o := ⟨some 170, _, _, _, _, _⟩) rfl (fun K hK => ?_) AllReady.nil
              go_simp
              refine hK _ _ ?_
              clear hK K
              refine wpAny_take (i := 17) (oi := ⟨some 171, _, _, _, _, _⟩) (v := ?_) rfl (by kernel_rfl) (by kernel_rfl) (by kernel_rfl) (fun _ _ _ h => h) (Or.inl ⟨by kernel_rfl, ?_⟩) ?_
              rotate_left
              · intro w'; go_simp; rfl
              try simp only [Act.put, List.setIfInBounds_toArray, List.set_cons_zero, List.set_cons_succ]
              refine wpAny_ready (rs := [18]) (by kernel_rfl) (by simp) ?_
              refine AllReady.cons (o := ⟨some 172, _, _, _, _, _⟩) rfl (fun K hK => ?_) AllReady.nil
              have hb1 : Below W.heap.size W (W.alloc (.cells #[.string (bs (t.take 60)), .string ⟨#[]⟩, .bool false] 61)) := (Below.refl _ _).alloc (Nat.le_refl _) _
              have hb2 := hW.trans (hb1.mono hW.size)
              have hen := HEN0.out W _ rfl ((HS.out.up HK.out hb2).turns)
              go_simp
              refine hen.mono ?_
              clear hen
              rintro e w9 ⟨rfl, hb9⟩
              have hb10 := hb2.trans (hb9.mono hb2.size)
              clear hb1 hb2 hb9 hW
              refine hK _ _ ?_
              clear hK K
              refine wpAny_take (i := 19) (oi := ⟨some 153, _, _, _, _, _⟩) (v := ?_) rfl (by kernel_rfl) (by kernel_rfl) (by kernel_rfl) (fun _ _ _ h => h) (Or.inl ⟨by kernel_rfl, ?_⟩) ?_
              rotate_left
              · intro w'; go_simp; rfl
              try simp only [Act.put, List.setIfInBounds_toArray, List.set_cons_zero, List.set_cons_succ]
              refine wpAny_take (i := 20) (oi := ⟨some 173, _, _, _, _, _⟩) (v := ?_) rfl (by kernel_rfl) (by kernel_rfl) (by kernel_rfl) (fun _ _ _ h => h) (Or.inl ⟨by kernel_rfl, ?_⟩) ?_
              rotate_left
              · intro w'; go_simp; rfl
              try simp only [Act.put, List.setIfInBounds_toArray, List.set_cons_zero, List.set_cons_succ]
              refine wpAny_take (i := 21) (oi := ⟨some 174, _, _, _, _, _⟩) (v := ?_) rfl (by kernel_rfl) (by kernel_rfl) (by kernel_rfl) (fun _ _ _ h => h) (Or.inl ⟨by kernel_rfl, ?_⟩) ?_
              rotate_left
              · intro w'; go_simp; rfl
              try simp only [Act.put, List.setIfInBounds_toArray, List.set_cons_zero, List.set_cons_succ]
              refine wpAny_take (i := 22) (oi := ⟨some 19, _, _, _, _, _⟩) (v := ?_) rfl (by kernel_rfl) (by kernel_rfl) (by kernel_rfl) (fun _ _ _ h => h) (Or.inl ⟨by kernel_rfl, ?_⟩) ?_
              rotate_left
              · intro w'; go_simp; rfl
              try simp only [Act.put, List.setIfInBounds_toArray, List.set_cons_zero, List.set_cons_succ]
              refine wpAny_take (i := 23) (oi := ⟨some 20, _, _, _, _, _⟩) (v := ?_) rfl (by kernel_rfl) (by kernel_rfl) (by kernel_rfl) (fun _ _ _ h => h) (Or.inl ⟨by kernel_rfl, ?_⟩) ?_
              rotate_left
              · intro w'; go_simp; rfl
              try simp only [Act.put, List.setIfInBounds_toArray, List.set_cons_zero, List.set_cons_succ]
              refine wpAny_done (by kernel_rfl) ?_ _
              have e29 : w9.cell? ⟨bA, oA + k * 3 + 2, none⟩ = some (.string (bs t)) := up_cell hb10 e2
              have HS9 := Lib.hid (HS.out.up HK.out hb10); have HD9 := Lib.hid (HD.out.up hb10); have HB9 := Lib.hid (HB.out.trans (hb10.mono HB.out.size))
              clear HS HD HB hb10 e0 e1 e2 HEN0 r3 e60 e6a e6b
              by_cases hbad : t = [98, 97, 100]
              · as_aux_lemma =>
                subst hbad
                have hpu := HS9.out.put HK.out (n := n) [98, 97, 100] (by decide)
                cases pn with
                | false =>
                  rw [put_free HPN2.out] at hpu
                  go_wp2_with fail
                  refine hpu.mono ?_
                  clear hpu
                  rintro e w10 ⟨rfl, hS10, hA10⟩
                  have HS10 := Lib.hid hS10; have HD10 := Lib.hid (hA10.doc HD9.out); have HB10 := Lib.hid (HB9.out.trans (hA10.below HB9.out.size))
                  clear hS10 hA10
                  go_wp2_with fail
                  go_meet
                  case rel => exact ⟨q, _, _, _, HS10.out.mono (by omega), HD10.out, by have := HQ.out; omega, HB10.out⟩
                | true =>
                  rw [put_short HPN2.out (by decide)] at hpu
                  go_wp2_with fail
                  refine hpu.mono ?_
                  clear hpu
                  rintro e w10 ⟨rfl, hS10, hA10⟩
                  have HS10 := Lib.hid hS10; have HD10 := Lib.hid (hA10.doc HD9.out); have HB10 := Lib.hid (HB9.out.trans (hA10.below HB9.out.size))
                  clear hS10 hA10
                  go_wp2_with fail
                  go_meet
                  case rel => exact ⟨q, _, _, _, HS10.out.mono (by omega), HD10.out, by have := HQ.out; omega, HB10.out⟩
              · have hbad2 : s ≠ [98, 97, 100] := fun e => by have := HS512.out.1; rw [e] at this; revert this; decide
                have b1 : (bs t == (⟨#[98, 97, 100]⟩ : ByteArray)) = false := bs_const hbad
                have b1 : (t == [98, 97, 100]) = false := beq_eq_false_iff_ne.2 hbad
                have b2 : (s == [98, 97, 100]) = false := beq_eq_false_iff_ne.2 hbad2
                have hpu := HS9.out.put HK.out (n := n) s (by have := HS512.out.1; omega)
                clear hbad hbad2
                cases pn with
                | false => as_aux_lemma =>
                  rw [put_free HPN2.out] at hpu
                  go_wp2_with fail
                  refine hpu.mono ?_
                  clear hpu
                  rintro e w10 ⟨rfl, hS10, hA10⟩
                  have HS10 := Lib.hid hS10; have HD10 := Lib.hid (hA10.doc HD9.out); have HB10 := Lib.hid (HB9.out.trans (hA10.below HB9.out.size))
                  clear hS10 hA10
                  go_wp2_with fail
                  go_meet
                  case rel => exact ⟨q, _, _, _, HS10.out.mono (by omega), HD10.out, by have := HQ.out; omega, HB10.out⟩
                | true => as_aux_lemma =>
                  obtain ⟨y, hy, hyp⟩ := pin_fd HPN2.out
                  have hk : n ∈ q.us := (HPS.out.gd.keys n).2 (by rw [hy]; rfl)
                  obtain ⟨h1, h2⟩ := idx_at hk
                  obtain ⟨u1, u2⟩ := put_pinned hy hyp HS512.out.1 HS512.out.2
                  have hset : (docF q.hs q.us).set (q.us.idxOf n) (n, putF y.2 s) = docF (putS q n s).2.hs q.us := by rw [u2]; exact set_doc HPS.out hk _
                  rw [u1] at hpu
                  have ha : at_ = (q.us.idxOf n : Int) := by rw [HAT.out, if_pos hk]
                  have hfx : q.us.idxOf n < (docOf most q).F.length := by rw [HFL.out]; exact h1
                  have hFx : (docOf most q).F[q.us.idxOf n] = (n, y.2) := by rw [docOf_at most q _ h1, h2, frOf_fd hy]
                  obtain ⟨bF, cF', ev, -⟩ := row4_cells HD9.out.rF _ hfx
                  injection ev with ev _ ec
                  subst ev ec
                  have HST : Hid (({ docOf most q with F := (docOf most q).F.set (q.us.idxOf n) (n, putF y.2 s) } : Doc) = docOf most (putS q n s).2) := Lib.hid (by
                    show Doc.mk _ ((docF q.hs q.us).set _ (n, putF y.2 s)) _ _ _ = _
                    rw [hset]
                    rfl)
                  have HQ2 : Hid ((putS q n s).2.s = q.s) := Lib.hid rfl
                  generalize (putS q n s).2 = q2 at *
                  generalize q.us.idxOf n = ix at *
                  subst ha
                  have hlt3 : (ix : Int) < ((docOf most q).F.length : Int) := by omega
                  have h0 : (0 : Int) ≤ (ix : Int) := Int.natCast_nonneg ix
                  have HFX := Lib.hid hFx
                  clear hset hFx hk h1 h2 u1 u2 hyp hy
                  go_wp2_with fail
                  refine hpu.mono ?_
                  clear hpu
                  rintro e w10 ⟨rfl, hS10, hA10⟩
                  have HS10 := Lib.hid hS10; have HD10 := Lib.hid (hA10.doc HD9.out); have HB10 := Lib.hid (HB9.out.trans (hA10.below HB9.out.size))
                  have c1 := HD10.out.cells.2.1
                  obtain ⟨_, _, x2, x3, _⟩ := row4_at HD10.out.rF ix hfx
                  rw [HFX.out] at x2 x3
                  replace x2 : w10.cell? ⟨bF, ix * 4 + 2, none⟩ = some (.string (bs y.2.bytes)) := x2
                  replace x3 : w10.cell? ⟨bF, ix * 4 + 3, none⟩ = some (.bool y.2.dirty) := x3
                  clear hS10 hA10
                  go_upto_region 43 with fail
                  cases hdy : y.2.dirty with
                  | true =>
                    rw [hdy] at x3
                    have hdv : (putF y.2 s).dirty = true := by show (y.2.dirty || !(y.2.bytes == s)) = _; rw [hdy]; simp
                    have HDV := Lib.hid hdv
                    clear hdy hdv
                    go_region
                    have hD10 := HD10.out
                    have hb11 : Below (w10.setCell ⟨bF, ix * 4 + 3, none⟩ (.bool true)).heap.size (w10.setCell ⟨bF, ix * 4 + 3, none⟩ (.bool true)) (w10.setCell ⟨bF, ix * 4 + 3, none⟩ (.bool true)).drew := (Below.refl _ _).drew
                    have hD11 := (hD10.row4 ix hfx 3 (by decide) (.bool true) (n, { y.2 with dirty := (putF y.2 s).dirty }) (by rw [HFX.out, HDV.out]; rfl)).up hb11
                    have hS11 := (HS10.out.row4 HK.out hD10 (ix * 4 + 3) (.bool true)).up HK.out hb11
                    have hB11 := (HB10.out.setCell (p := ⟨bF, ix * 4 + 3, none⟩) (hD10.rF.lt bF rfl).1 (.bool true)).drew
                    generalize (w10.setCell ⟨bF, ix * 4 + 3, none⟩ (.bool true)).drew = w11 at *
                    have c11 : w11.cell? ⟨pb, 1, none⟩ = some (.slice (some ⟨bF, 0, none⟩) (docOf most q).F.length cF) := hD11.cells.2.1
                    have hfx2 : ix < ((docOf most q).F.set ix (n, { y.2 with dirty := (putF y.2 s).dirty })).length := by simpa using hfx
                    have hrF : w11.ownsRow w.heap.size 58 4 (.slice (some ⟨bF, 0, none⟩) (docOf most q).F.length cF) ((docOf most q).F.set ix (n, { y.2 with dirty := (putF y.2 s).dirty })).length (f4Cells ((docOf most q).F.set ix (n, { y.2 with dirty := (putF y.2 s).dirty }))) := hD11.rF
                    obtain ⟨-, -, x21, -, f21, -⟩ := row4_at hrF ix hfx2
                    rw [List.getElem_set_self] at x21
                    replace x21 : w11.cell? ⟨bF, ix * 4 + 2, none⟩ = some (.string (bs y.2.bytes)) := x21
                    have xf2 := f21 (ix * 4 + 2)
                    have hD12 := hD11.row4 ix hfx2 2 (by decide) (.string (bs s)) (n, putF y.2 s) (by show _ = (f4C ((docOf most q).F.set ix _)[ix]).set 2 _; rw [List.getElem_set_self]; rfl)
                    have hS12 := hS11.row4 HK.out hD11 (ix * 4 + 2) (.string (bs s))
                    have hB12 := hB11.setCell (p := ⟨bF, ix * 4 + 2, none⟩) (hD10.rF.lt bF rfl).1 (.string (bs s))
                    have hDq : DocAt w.heap.size (w11.setCell ⟨bF, ix * 4 + 2, none⟩ (.string (bs s))) pb (.slice (some ⟨bF, 0, none⟩) (docOf most q).F.length cF) (.slice AD (docOf most q).disk.length cD) (.slice AA (docOf most q).asked.length cA) (docOf most q2) := by
                      rw [← HST.out]
                      have e : ((docOf most q).F.set ix (n, { y.2 with dirty := (putF y.2 s).dirty })).set ix (n, putF y.2 s) = (docOf most q).F.set ix (n, putF y.2 s) := List.set_set ..
                      have h := hD12
                      dsimp only at h
                      rw [e] at h
                      exact h
                    have HS12 := Lib.hid hS12; have HD12 := Lib.hid hDq; have HB12 := Lib.hid hB12
                    clear hD10 hb11 hD11 hS11 hB11 hfx2 hrF f21 hD12 hS12 hB12 hDq HS10 HD10 HB10 x2 x3 c1
                    go_wp2_with fail
                    go_meet
                    case rel => exact ⟨q2, _, _, _, HS12.out.mono (by omega), HD12.out, by have := HQ.out; rw [HQ2.out]; omega, HB12.out⟩
                  | false =>
                    rw [hdy] at x3
                    have hdv : (putF y.2 s).dirty = (!(y.2.bytes == s)) := by show (y.2.dirty || !(y.2.bytes == s)) = _; rw [hdy]; simp
                    have HDV := Lib.hid hdv
                    clear hdy hdv
                    go_region
                    have hD10 := HD10.out
                    have hb11 : Below (w10.setCell ⟨bF, ix * 4 + 3, none⟩ (.bool (!(y.2.bytes == s)))).heap.size (w10.setCell ⟨bF, ix * 4 + 3, none⟩ (.bool (!(y.2.bytes == s)))) (w10.setCell ⟨bF, ix * 4 + 3, none⟩ (.bool (!(y.2.bytes == s)))).drew := (Below.refl _ _).drew
                    have hD11 := (hD10.row4 ix hfx 3 (by decide) (.bool (!(y.2.bytes == s))) (n, { y.2 with dirty := (putF y.2 s).dirty }) (by rw [HFX.out, HDV.out]; rfl)).up hb11
                    have hS11 := (HS10.out.row4 HK.out hD10 (ix * 4 + 3) (.bool (!(y.2.bytes == s)))).up HK.out hb11
                    have hB11 := (HB10.out.setCell (p := ⟨bF, ix * 4 + 3, none⟩) (hD10.rF.lt bF rfl).1 (.bool (!(y.2.bytes == s)))).drew
                    generalize (w10.setCell ⟨bF, ix * 4 + 3, none⟩ (.bool (!(y.2.bytes == s)))).drew = w11 at *
                    have c11 : w11.cell? ⟨pb, 1, none⟩ = some (.slice (some ⟨bF, 0, none⟩) (docOf most q).F.length cF) := hD11.cells.2.1
                    have hfx2 : ix < ((docOf most q).F.set ix (n, { y.2 with dirty := (putF y.2 s).dirty })).length := by simpa using hfx
                    have hrF : w11.ownsRow w.heap.size 58 4 (.slice (some ⟨bF, 0, none⟩) (docOf most q).F.length cF) ((docOf most q).F.set ix (n, { y.2 with dirty := (putF y.2 s).dirty })).length (f4Cells ((docOf most q).F.set ix (n, { y.2 with dirty := (putF y.2 s).dirty }))) := hD11.rF
                    obtain ⟨-, -, x21, -, f21, -⟩ := row4_at hrF ix hfx2
                    rw [List.getElem_set_self] at x21
                    replace x21 : w11.cell? ⟨bF, ix * 4 + 2, none⟩ = some (.string (bs y.2.bytes)) := x21
                    have xf2 := f21 (ix * 4 + 2)
                    have hD12 := hD11.row4 ix hfx2 2 (by decide) (.string (bs s)) (n, putF y.2 s) (by show _ = (f4C ((docOf most q).F.set ix _)[ix]).set 2 _; rw [List.getElem_set_self]; rfl)
                    have hS12 := hS11.row4 HK.out hD11 (ix * 4 + 2) (.string (bs s))
                    have hB12 := hB11.setCell (p := ⟨bF, ix * 4 + 2, none⟩) (hD10.rF.lt bF rfl).1 (.string (bs s))
                    have hDq : DocAt w.heap.size (w11.setCell ⟨bF, ix * 4 + 2, none⟩ (.string (bs s))) pb (.slice (some ⟨bF, 0, none⟩) (docOf most q).F.length cF) (.slice AD (docOf most q).disk.length cD) (.slice AA (docOf most q).asked.length cA) (docOf most q2) := by
                      rw [← HST.out]
                      have e : ((docOf most q).F.set ix (n, { y.2 with dirty := (putF y.2 s).dirty })).set ix (n, putF y.2 s) = (docOf most q).F.set ix (n, putF y.2 s) := List.set_set ..
                      have h := hD12
                      dsimp only at h
                      rw [e] at h
                      exact h
                    have HS12 := Lib.hid hS12; have HD12 := Lib.hid hDq; have HB12 := Lib.hid hB12
                    clear hD10 hb11 hD11 hS11 hB11 hfx2 hrF f21 hD12 hS12 hB12 hDq HS10 HD10 HB10 x2 x3 c1
                    go_wp2_with fail
                    go_meet
                    case rel => exact ⟨q2, _, _, _, HS12.out.mono (by omega), HD12.out, by have := HQ.out; rw [HQ2.out]; omega, HB12.out⟩
            · as_aux_lemma =>
              have HPN2 : Hid (pinB q n = pn) := Lib.hid HPN.out.symm
              have r3 : IntKind.i64.wrap (1 + (k : Int)) = 1 + (k : Int) := by rw [IntKind.wrap_i64]; omega
              have e60 : t.take (min (t.length : Int) 60).toNat = t.take 60 := by
                by_cases h : t.length ≤ 60
                · rw [show (min (t.length : Int) 60).toNat = t.length by omega, List.take_length, List.take_of_length_le h]
                · rw [show (min (t.length : Int) 60).toNat = 60 by omega]
              have e6a : 0 ≤ min (t.length : Int) 60 := by omega
              have e6b : min (t.length : Int) 60 ≤ (t.length : Int) := by omega
              have HEN0 := Lib.hid (enc_one (n := 1 + (k : Int)) (t := t) (by omega) (by omega))
              obtain ⟨s, hs⟩ : ∃ s, s = imgB (1 + (k : Int)) t := ⟨_, rfl⟩
              have HS512 : Hid (s.length = 512 ∧ wholeB s = true) := Lib.hid (by rw [hs]; exact ⟨imgB_length (by omega) (by omega), imgB_whole (by omega) (by omega)⟩)
              rw [← hs] at HEN0
              clear hs
              go_upto_region 31 with fail
              refine wp_region_any (by kernel_rfl) ?_
              show wpAny _ _ _ _ 24 #[false,false,false,false,false,false,false,false,false,false,false,false,false,false,false,false,false,false,false,false,false,false,false,false] _ (World.drew _)
              refine wpAny_take (i := 0) (oi := ⟨some 154, _, _, _, _, _⟩) (v := ?_) rfl (by kernel_rfl) (by kernel_rfl) (by kernel_rfl) (fun _ _ _ h => h) (Or.inl ⟨by kernel_rfl, ?_⟩) ?_
              rotate_left
              · intro w'; go_simp; rfl
              try simp only [Act.put, List.setIfInBounds_toArray, List.set_cons_zero, List.set_cons_succ]
              refine wpAny_take (i := 1) (oi := ⟨some 155, _, _, _, _, _⟩) (v := ?_) rfl (by kernel_rfl) (by kernel_rfl) (by kernel_rfl) (fun _ _ _ h => h) (Or.inl ⟨by kernel_rfl, ?_⟩) ?_
              rotate_left
              · intro w'; go_simp; rfl
              try simp only [Act.put, List.setIfInBounds_toArray, List.set_cons_zero, List.set_cons_succ]
              refine wpAny_upto 16 [2, 3, 4, 5, 6, 7, 8, 9, 10, 11, 12, 13, 14, 15] (fun W => Below wc.heap.size wc W) (g := 8) (by kernel_rfl) (by kernel_rfl) (by kernel_rfl) (by kernel_rfl) (Below.refl _ _).drew ?_
              refine q_val (o := ⟨some 156, _, _, _, _, _⟩) (v := ?_) (by kernel_rfl) (fun W hW => ?_) ?_
              rotate_left
              · go_simp; rfl
              try simp only [Act.put, List.setIfInBounds_toArray, List.set_cons_zero, List.set_cons_succ]
              refine q_val (o := ⟨some 157, _, _, _, _, _⟩) (v := ?_) (by kernel_rfl) (fun W hW => ?_) ?_
              rotate_left
              · go_simp; rfl
              try simp only [Act.put, List.setIfInBounds_toArray, List.set_cons_zero, List.set_cons_succ]
              refine q_val (o := ⟨some 158, _, _, _, _, _⟩) (v := ?_) (by kernel_rfl) (fun W hW => ?_) ?_
              rotate_left
              · go_simp; rfl
              try simp only [Act.put, List.setIfInBounds_toArray, List.set_cons_zero, List.set_cons_succ]
              refine q_val (o := ⟨some 159, _, _, _, _, _⟩) (v := ?_) (by kernel_rfl) (fun W hW => ?_) ?_
              rotate_left
              · go_simp; rfl
              try simp only [Act.put, List.setIfInBounds_toArray, List.set_cons_zero, List.set_cons_succ]
              refine q_val (o := ⟨some 160, _, _, _, _, _⟩) (v := ?_) (by kernel_rfl) (fun W hW => ?_) ?_
              rotate_left
              · have e2 := up_cell hW e2; go_simp; rfl
              try simp only [Act.put, List.setIfInBounds_toArray, List.set_cons_zero, List.set_cons_succ]
              refine q_val (o := ⟨some 161, _, _, _, _, _⟩) (v := ?_) (by kernel_rfl) (fun W hW => ?_) ?_
              rotate_left
              · go_simp; rfl
              try simp only [Act.put, List.setIfInBounds_toArray, List.set_cons_zero, List.set_cons_succ]
              refine q_val (o := ⟨some 162, _, _, _, _, _⟩) (v := ?_) (by kernel_rfl) (fun W hW => ?_) ?_
              rotate_left
              · go_simp; rfl
              try simp only [Act.put, List.setIfInBounds_toArray, List.set_cons_zero, List.set_cons_succ]
              refine q_val (o := ⟨some 163, _, _, _, _, _⟩) (v := ?_) (by kernel_rfl) (fun W hW => ?_) ?_
              rotate_left
              · go_simp; rfl
              try simp only [Act.put, List.setIfInBounds_toArray, List.set_cons_zero, List.set_cons_succ]
              refine q_val (o := ⟨some 164, _, _, _, _, _⟩) (v := ?_) (by kernel_rfl) (fun W hW => ?_) ?_
              rotate_left
              · go_simp; rfl
              try simp only [Act.put, List.setIfInBounds_toArray, List.set_cons_zero, List.set_cons_succ]
              refine q_val (o := ⟨some 165, _, _, _, _, _⟩) (v := ?_) (by kernel_rfl) (fun W hW => ?_) ?_
              rotate_left
              · have e2 := up_cell hW e2; go_simp; rfl
              try simp only [Act.put, List.setIfInBounds_toArray, List.set_cons_zero, List.set_cons_succ]
              refine q_val (o := ⟨some 166, _, _, _, _, _⟩) (v := ?_) (by kernel_rfl) (fun W hW => ?_) ?_
              rotate_left
              · go_simp; rfl
              try simp only [Act.put, List.setIfInBounds_toArray, List.set_cons_zero, List.set_cons_succ]
              refine q_val (o := ⟨some 167, _, _, _, _, _⟩) (v := ?_) (by kernel_rfl) (fun W hW => ?_) ?_
              rotate_left
              · go_simp; rfl
              try simp only [Act.put, List.setIfInBounds_toArray, List.set_cons_zero, List.set_cons_succ]
              refine q_val (o := ⟨some 168, _, _, _, _, _⟩) (v := ?_) (by kernel_rfl) (fun W hW => ?_) ?_
              rotate_left
              · go_simp; rfl
              try simp only [Act.put, List.setIfInBounds_toArray, List.set_cons_zero, List.set_cons_succ]
              refine q_val (o := ⟨some 169, _, _, _, _, _⟩) (v := ?_) (by kernel_rfl) (fun W hW => ?_) ?_
              rotate_left
              · go_simp; rfl
              try simp only [Act.put, List.setIfInBounds_toArray, List.set_cons_zero, List.set_cons_succ]
              refine q_end (fun W hW => ?_)
              show wpAny _ _ _ _ 8 #[true,true,true,true,true,true,true,true,true,true,true,true,true,true,true,true,false,false,false,false,false,false,false,false] _ _
              refine wpAny_ready (rs := [16]) (by kernel_rfl) (by simp) ?_
              refine AllReady.cons (o := ⟨some 170, _, _, _, _, _⟩) rfl (fun K hK => ?_) AllReady.nil
              go_simp
              refine hK _ _ ?_
              clear hK K
              refine wpAny_take (i := 17) (oi := ⟨some 171, _, _, _, _, _⟩) (v := ?_) rfl (by kernel_rfl) (by kernel_rfl) (by kernel_rfl) (fun _ _ _ h => h) (Or.inl ⟨by kernel_rfl, ?_⟩) ?_
              rotate_left
              · intro w'; go_simp; rfl
              try simp only [Act.put, List.setIfInBounds_toArray, List.set_cons_zero, List.set_cons_succ]
              refine wpAny_ready (rs := [18]) (by kernel_rfl) (by simp) ?_
              refine AllReady.cons (o := ⟨some 172, _, _, _, _, _⟩) rfl (fun K hK => ?_) AllReady.nil
              have hb1 : Below W.heap.size W (W.alloc (.cells #[.string (bs (t.take 60)), .string ⟨#[]⟩, .bool false] 61)) := (Below.refl _ _).alloc (Nat.le_refl _) _
              have hb2 := hW.trans (hb1.mono hW.size)
              have hen := HEN0.out W _ rfl ((HS.out.up HK.out hb2).turns)
              go_simp
              refine hen.mono ?_
              clear hen
              rintro e w9 ⟨rfl, hb9⟩
              have hb10 := hb2.trans (hb9.mono hb2.size)
              clear hb1 hb2 hb9 hW
              refine hK _ _ ?_
              clear hK K
              refine wpAny_take (i := 19) (oi := ⟨some 153, _, _, _, _, _⟩) (v := ?_) rfl (by kernel_rfl) (by kernel_rfl) (by kernel_rfl) (fun _ _ _ h => h) (Or.inl ⟨by kernel_rfl, ?_⟩) ?_
              rotate_left
              · intro w'; go_simp; rfl
              try simp only [Act.put, List.setIfInBounds_toArray, List.set_cons_zero, List.set_cons_succ]
              refine wpAny_take (i := 20) (oi := ⟨some 173, _, _, _, _, _⟩) (v := ?_) rfl (by kernel_rfl) (by kernel_rfl) (by kernel_rfl) (fun _ _ _ h => h) (Or.inl ⟨by kernel_rfl, ?_⟩) ?_
              rotate_left
              · intro w'; go_simp; rfl
              try simp only [Act.put, List.setIfInBounds_toArray, List.set_cons_zero, List.set_cons_succ]
              refine wpAny_take (i := 21) (oi := ⟨some 174, _, _, _, _, _⟩) (v := ?_) rfl (by kernel_rfl) (by kernel_rfl) (by kernel_rfl) (fun _ _ _ h => h) (Or.inl ⟨by kernel_rfl, ?_⟩) ?_
              rotate_left
              · intro w'; go_simp; rfl
              try simp only [Act.put, List.setIfInBounds_toArray, List.set_cons_zero, List.set_cons_succ]
              refine wpAny_take (i := 22) (oi := ⟨some 19, _, _, _, _, _⟩) (v := ?_) rfl (by kernel_rfl) (by kernel_rfl) (by kernel_rfl) (fun _ _ _ h => h) (Or.inl ⟨by kernel_rfl, ?_⟩) ?_
              rotate_left
              · intro w'; go_simp; rfl
              try simp only [Act.put, List.setIfInBounds_toArray, List.set_cons_zero, List.set_cons_succ]
              refine wpAny_take (i := 23) (oi := ⟨some 20, _, _, _, _, _⟩) (v := ?_) rfl (by kernel_rfl) (by kernel_rfl) (by kernel_rfl) (fun _ _ _ h => h) (Or.inl ⟨by kernel_rfl, ?_⟩) ?_
              rotate_left
              · intro w'; go_simp; rfl
              try simp only [Act.put, List.setIfInBounds_toArray, List.set_cons_zero, List.set_cons_succ]
              refine wpAny_done (by kernel_rfl) ?_ _
              have e29 : w9.cell? ⟨bA, oA + k * 3 + 2, none⟩ = some (.string (bs t)) := up_cell hb10 e2
              have HS9 := Lib.hid (HS.out.up HK.out hb10); have HD9 := Lib.hid (HD.out.up hb10); have HB9 := Lib.hid (HB.out.trans (hb10.mono HB.out.size))
              clear HS HD HB hb10 e0 e1 e2 HEN0 r3 e60 e6a e6b
              by_cases hbad : t = [98, 97, 100]
              · as_aux_lemma =>
                subst hbad
                have hpu := HS9.out.put HK.out (n := n) [98, 97, 100] (by decide)
                cases pn with
                | false =>
                  rw [put_free HPN2.out] at hpu
                  go_wp2_with fail
                  refine hpu.mono ?_
                  clear hpu
                  rintro e w10 ⟨rfl, hS10, hA10⟩
                  have HS10 := Lib.hid hS10; have HD10 := Lib.hid (hA10.doc HD9.out); have HB10 := Lib.hid (HB9.out.trans (hA10.below HB9.out.size))
                  clear hS10 hA10
                  go_wp2_with fail
                  go_meet
                  case rel => exact ⟨q, _, _, _, HS10.out.mono (by omega), HD10.out, by have := HQ.out; omega, HB10.out⟩
                | true =>
                  rw [put_short HPN2.out (by decide)] at hpu
                  go_wp2_with fail
                  refine hpu.mono ?_
                  clear hpu
                  rintro e w10 ⟨rfl, hS10, hA10⟩
                  have HS10 := Lib.hid hS10; have HD10 := Lib.hid (hA10.doc HD9.out); have HB10 := Lib.hid (HB9.out.trans (hA10.below HB9.out.size))
                  clear hS10 hA10
                  go_wp2_with fail
                  go_meet
                  case rel => exact ⟨q, _, _, _, HS10.out.mono (by omega), HD10.out, by have := HQ.out; omega, HB10.out⟩
              · have hbad2 : s ≠ [98, 97, 100] := fun e => by have := HS512.out.1; rw [e] at this; revert this; decide
                have b1 : (bs t == (⟨#[98, 97, 100]⟩ : ByteArray)) = false := bs_const hbad
                have b1 : (t == [98, 97, 100]) = false := beq_eq_false_iff_ne.2 hbad
                have b2 : (s == [98, 97, 100]) = false := beq_eq_false_iff_ne.2 hbad2
                have hpu := HS9.out.put HK.out (n := n) s (by have := HS512.out.1; omega)
                clear hbad hbad2
                cases pn with
                | false => as_aux_lemma =>
                  rw [put_free HPN2.out] at hpu
                  go_wp2_with fail
                  refine hpu.mono ?_
                  clear hpu
                  rintro e w10 ⟨rfl, hS10, hA10⟩
                  have HS10 := Lib.hid hS10; have HD10 := Lib.hid (hA10.doc HD9.out); have HB10 := Lib.hid (HB9.out.trans (hA10.below HB9.out.size))
                  clear hS10 hA10
                  go_wp2_with fail
                  go_meet
                  case rel => exact ⟨q, _, _, _, HS10.out.mono (by omega), HD10.out, by have := HQ.out; omega, HB10.out⟩
                | true => as_aux_lemma =>
                  obtain ⟨y, hy, hyp⟩ := pin_fd HPN2.out
                  have hk : n ∈ q.us := (HPS.out.gd.keys n).2 (by rw [hy]; rfl)
                  obtain ⟨h1, h2⟩ := idx_at hk
                  obtain ⟨u1, u2⟩ := put_pinned hy hyp HS512.out.1 HS512.out.2
                  have hset : (docF q.hs q.us).set (q.us.idxOf n) (n, putF y.2 s) = docF (putS q n s).2.hs q.us := by rw [u2]; exact set_doc HPS.out hk _
                  rw [u1] at hpu
                  have ha : at_ = (q.us.idxOf n : Int) := by rw [HAT.out, if_pos hk]
                  have hfx : q.us.idxOf n < (docOf most q).F.length := by rw [HFL.out]; exact h1
                  have hFx : (docOf most q).F[q.us.idxOf n] = (n, y.2) := by rw [docOf_at most q _ h1, h2, frOf_fd hy]
                  obtain ⟨bF, cF', ev, -⟩ := row4_cells HD9.out.rF _ hfx
                  injection ev with ev _ ec
                  subst ev ec
                  have HST : Hid (({ docOf most q with F := (docOf most q).F.set (q.us.idxOf n) (n, putF y.2 s) } : Doc) = docOf most (putS q n s).2) := Lib.hid (by
                    show Doc.mk _ ((docF q.hs q.us).set _ (n, putF y.2 s)) _ _ _ = _
                    rw [hset]
                    rfl)
                  have HQ2 : Hid ((putS q n s).2.s = q.s) := Lib.hid rfl
                  generalize (putS q n s).2 = q2 at *
                  generalize q.us.idxOf n = ix at *
                  subst ha
                  have hlt3 : (ix : Int) < ((docOf most q).F.length : Int) := by omega
                  have h0 : (0 : Int) ≤ (ix : Int) := Int.natCast_nonneg ix
                  have HFX := Lib.hid hFx
                  clear hset hFx hk h1 h2 u1 u2 hyp hy
                  go_wp2_with fail
                  refine hpu.mono ?_
                  clear hpu
                  rintro e w10 ⟨rfl, hS10, hA10⟩
                  have HS10 := Lib.hid hS10; have HD10 := Lib.hid (hA10.doc HD9.out); have HB10 := Lib.hid (HB9.out.trans (hA10.below HB9.out.size))
                  have c1 := HD10.out.cells.2.1
                  obtain ⟨_, _, x2, x3, _⟩ := row4_at HD10.out.rF ix hfx
                  rw [HFX.out] at x2 x3
                  replace x2 : w10.cell? ⟨bF, ix * 4 + 2, none⟩ = some (.string (bs y.2.bytes)) := x2
                  replace x3 : w10.cell? ⟨bF, ix * 4 + 3, none⟩ = some (.bool y.2.dirty) := x3
                  clear hS10 hA10
                  go_upto_region 43 with fail
                  cases hdy : y.2.dirty with
                  | true =>
                    rw [hdy] at x3
                    have hdv : (putF y.2 s).dirty = true := by show (y.2.dirty || !(y.2.bytes == s)) = _; rw [hdy]; simp
                    have HDV := Lib.hid hdv
                    clear hdy hdv
                    go_region
                    have hD10 := HD10.out
                    have hb11 : Below (w10.setCell ⟨bF, ix * 4 + 3, none⟩ (.bool true)).heap.size (w10.setCell ⟨bF, ix * 4 + 3, none⟩ (.bool true)) (w10.setCell ⟨bF, ix * 4 + 3, none⟩ (.bool true)).drew := (Below.refl _ _).drew
                    have hD11 := (hD10.row4 ix hfx 3 (by decide) (.bool true) (n, { y.2 with dirty := (putF y.2 s).dirty }) (by rw [HFX.out, HDV.out]; rfl)).up hb11
                    have hS11 := (HS10.out.row4 HK.out hD10 (ix * 4 + 3) (.bool true)).up HK.out hb11
                    have hB11 := (HB10.out.setCell (p := ⟨bF, ix * 4 + 3, none⟩) (hD10.rF.lt bF rfl).1 (.bool true)).drew
                    generalize (w10.setCell ⟨bF, ix * 4 + 3, none⟩ (.bool true)).drew = w11 at *
                    have c11 : w11.cell? ⟨pb, 1, none⟩ = some (.slice (some ⟨bF, 0, none⟩) (docOf most q).F.length cF) := hD11.cells.2.1
                    have hfx2 : ix < ((docOf most q).F.set ix (n, { y.2 with dirty := (putF y.2 s).dirty })).length := by simpa using hfx
                    have hrF : w11.ownsRow w.heap.size 58 4 (.slice (some ⟨bF, 0, none⟩) (docOf most q).F.length cF) ((docOf most q).F.set ix (n, { y.2 with dirty := (putF y.2 s).dirty })).length (f4Cells ((docOf most q).F.set ix (n, { y.2 with dirty := (putF y.2 s).dirty }))) := hD11.rF
                    obtain ⟨-, -, x21, -, f21, -⟩ := row4_at hrF ix hfx2
                    rw [List.getElem_set_self] at x21
                    replace x21 : w11.cell? ⟨bF, ix * 4 + 2, none⟩ = some (.string (bs y.2.bytes)) := x21
                    have xf2 := f21 (ix * 4 + 2)
                    have hD12 := hD11.row4 ix hfx2 2 (by decide) (.string (bs s)) (n, putF y.2 s) (by show _ = (f4C ((docOf most q).F.set ix _)[ix]).set 2 _; rw [List.getElem_set_self]; rfl)
                    have hS12 := hS11.row4 HK.out hD11 (ix * 4 + 2) (.string (bs s))
                    have hB12 := hB11.setCell (p := ⟨bF, ix * 4 + 2, none⟩) (hD10.rF.lt bF rfl).1 (.string (bs s))
                    have hDq : DocAt w.heap.size (w11.setCell ⟨bF, ix * 4 + 2, none⟩ (.string (bs s))) pb (.slice (some ⟨bF, 0, none⟩) (docOf most q).F.length cF) (.slice AD (docOf most q).disk.length cD) (.slice AA (docOf most q).asked.length cA) (docOf most q2) := by
                      rw [← HST.out]
                      have e : ((docOf most q).F.set ix (n, { y.2 with dirty := (putF y.2 s).dirty })).set ix (n, putF y.2 s) = (docOf most q).F.set ix (n, putF y.2 s) := List.set_set ..
                      have h := hD12
                      dsimp only at h
                      rw [e] at h
                      exact h
                    have HS12 := Lib.hid hS12; have HD12 := Lib.hid hDq; have HB12 := Lib.hid hB12
                    clear hD10 hb11 hD11 hS11 hB11 hfx2 hrF f21 hD12 hS12 hB12 hDq HS10 HD10 HB10 x2 x3 c1
                    go_wp2_with fail
                    go_meet
                    case rel => exact ⟨q2, _, _, _, HS12.out.mono (by omega), HD12.out, by have := HQ.out; rw [HQ2.out]; omega, HB12.out⟩
                  | false =>
                    rw [hdy] at x3
                    have hdv : (putF y.2 s).dirty = (!(y.2.bytes == s)) := by show (y.2.dirty || !(y.2.bytes == s)) = _; rw [hdy]; simp
                    have HDV := Lib.hid hdv
                    clear hdy hdv
                    go_region
                    have hD10 := HD10.out
                    have hb11 : Below (w10.setCell ⟨bF, ix * 4 + 3, none⟩ (.bool (!(y.2.bytes == s)))).heap.size (w10.setCell ⟨bF, ix * 4 + 3, none⟩ (.bool (!(y.2.bytes == s)))) (w10.setCell ⟨bF, ix * 4 + 3, none⟩ (.bool (!(y.2.bytes == s)))).drew := (Below.refl _ _).drew
                    have hD11 := (hD10.row4 ix hfx 3 (by decide) (.bool (!(y.2.bytes == s))) (n, { y.2 with dirty := (putF y.2 s).dirty }) (by rw [HFX.out, HDV.out]; rfl)).up hb11
                    have hS11 := (HS10.out.row4 HK.out hD10 (ix * 4 + 3) (.bool (!(y.2.bytes == s)))).up HK.out hb11
                    have hB11 := (HB10.out.setCell (p := ⟨bF, ix * 4 + 3, none⟩) (hD10.rF.lt bF rfl).1 (.bool (!(y.2.bytes == s)))).drew
                    generalize (w10.setCell ⟨bF, ix * 4 + 3, none⟩ (.bool (!(y.2.bytes == s)))).drew = w11 at *
                    have c11 : w11.cell? ⟨pb, 1, none⟩ = some (.slice (some ⟨bF, 0, none⟩) (docOf most q).F.length cF) := hD11.cells.2.1
                    have hfx2 : ix < ((docOf most q).F.set ix (n, { y.2 with dirty := (putF y.2 s).dirty })).length := by simpa using hfx
                    have hrF : w11.ownsRow w.heap.size 58 4 (.slice (some ⟨bF, 0, none⟩) (docOf most q).F.length cF) ((docOf most q).F.set ix (n, { y.2 with dirty := (putF y.2 s).dirty })).length (f4Cells ((docOf most q).F.set ix (n, { y.2 with dirty := (putF y.2 s).dirty }))) := hD11.rF
                    obtain ⟨-, -, x21, -, f21, -⟩ := row4_at hrF ix hfx2
                    rw [List.getElem_set_self] at x21
                    replace x21 : w11.cell? ⟨bF, ix * 4 + 2, none⟩ = some (.string (bs y.2.bytes)) := x21
                    have xf2 := f21 (ix * 4 + 2)
                    have hD12 := hD11.row4 ix hfx2 2 (by decide) (.string (bs s)) (n, putF y.2 s) (by show _ = (f4C ((docOf most q).F.set ix _)[ix]).set 2 _; rw [List.getElem_set_self]; rfl)
                    have hS12 := hS11.row4 HK.out hD11 (ix * 4 + 2) (.string (bs s))
                    have hB12 := hB11.setCell (p := ⟨bF, ix * 4 + 2, none⟩) (hD10.rF.lt bF rfl).1 (.string (bs s))
                    have hDq : DocAt w.heap.size (w11.setCell ⟨bF, ix * 4 + 2, none⟩ (.string (bs s))) pb (.slice (some ⟨bF, 0, none⟩) (docOf most q).F.length cF) (.slice AD (docOf most q).disk.length cD) (.slice AA (docOf most q).asked.length cA) (docOf most q2) := by
                      rw [← HST.out]
                      have e : ((docOf most q).F.set ix (n, { y.2 with dirty := (putF y.2 s).dirty })).set ix (n, putF y.2 s) = (docOf most q).F.set ix (n, putF y.2 s) := List.set_set ..
                      have h := hD12
                      dsimp only at h
                      rw [e] at h
                      exact h
                    have HS12 := Lib.hid hS12; have HD12 := Lib.hid hDq; have HB12 := Lib.hid hB12
                    clear hD10 hb11 hD11 hS11 hB11 hfx2 hrF f21 hD12 hS12 hB12 hDq HS10 HD10 HB10 x2 x3 c1
                    go_wp2_with fail
                    go_meet
                    case rel => exact ⟨q2, _, _, _, HS12.out.mono (by omega), HD12.out, by have := HQ.out; rw [HQ2.out]; omega, HB12.out⟩
          · -- Evict
            subst h6
            have hsm : SMA q.s := by unfold SMA; have := HQ.out; omega
            have hev := HS.out.evict HK.out hsm (n := n) (by omega)
            have HPN2 : Hid (pinB q n = pn) := Lib.hid HPN.out.symm
            cases pn with
            | true => as_aux_lemma =>
              rw [evict_pinned HPN2.out] at hev
              go_wp2_with fail
              refine hev.mono ?_
              clear hev
              rintro e w10 ⟨rfl, hS10, hA10⟩
              have HS10 := Lib.hid hS10; have HD10 := Lib.hid (hA10.doc HD.out); have HB10 := Lib.hid (HB.out.trans (hA10.below HB.out.size))
              clear hS10 hA10
              go_wp2_with fail
              go_meet
              case rel => exact ⟨q, _, _, _, HS10.out.mono (by omega), HD10.out, by have := HQ.out; omega, HB10.out⟩
            | false =>
              cases hy : fd q.hs n with
              | none => as_aux_lemma =>
                have hk : n ∉ q.us := fun e => by have := (HPS.out.gd.keys n).1 e; rw [hy] at this; cases this
                have ha : at_ = -1 := by rw [HAT.out, if_neg hk]
                subst ha
                rw [evict_gone hy] at hev
                clear hk hy
                go_wp2_with fail
                refine hev.mono ?_
                clear hev
                rintro e w10 ⟨rfl, hS10, hA10⟩
                have HS10 := Lib.hid hS10; have HD10 := Lib.hid (hA10.doc HD.out); have HB10 := Lib.hid (HB.out.trans (hA10.below HB.out.size))
                clear hS10 hA10
                go_wp2_with fail
                go_meet
                case rel => exact ⟨q, _, _, _, HS10.out.mono (by omega), HD10.out, by have := HQ.out; omega, HB10.out⟩
              | some y => as_aux_lemma =>
                have hk : n ∈ q.us := (HPS.out.gd.keys n).2 (by rw [hy]; rfl)
                have ha : at_ = (q.us.idxOf n : Int) := by rw [HAT.out, if_pos hk]
                rw [evict_free hy HPN2.out] at hev
                obtain ⟨N', hpb, hN'⟩ := HS.out.pbs
                have ho := fun W hW => doc_out (n0 := w.heap.size) (pb := pb) (vF := .slice AF (docOf most q).F.length cF) (vD := .slice AD (docOf most q).disk.length cD) (vA := .slice AA (docOf most q).asked.length cA) W HPS.out hpb (by omega) (by have := HMI.out.2; omega) (by have := HQ.out; omega) hk hW
                obtain ⟨q2, hq2⟩ : ∃ z, z = (outS lsA q n).2 := ⟨_, rfl⟩
                obtain ⟨r2, hr2⟩ : ∃ z, z = (outS lsA q n).1 := ⟨_, rfl⟩
                have HA2 : Hid (q2.s.1.length ≤ q.s.1.length + 1) := Lib.hid (by rw [hq2]; exact asks_out n)
                rw [← hq2, ← hr2] at hev ho
                clear hq2 hr2 hpb hN'
                have h0 : (0 : Int) ≤ at_ := by rw [ha]; exact Int.natCast_nonneg _
                rw [← ha] at ho
                have HO := Lib.hid ho
                clear ha hk hy ho
                go_wp2_with fail
                refine hev.mono ?_
                clear hev
                rintro e w10 ⟨rfl, hS10, hA10⟩
                have ho := HO.out w10 (hA10.doc HD.out)
                have HS10 := Lib.hid hS10; have HD10 := Lib.hid (hA10.doc HD.out); have HB10 := Lib.hid (HB.out.trans (hA10.below HB.out.size))
                clear hS10 hA10 HO
                go_wp2_with fail
                refine ho.mono ?_
                clear ho
                rintro e w11 ⟨rfl, hP11⟩
                obtain ⟨vF', vD', vA', hS11, hD11, hB11⟩ := St.doc HK.out HS10.out HD10.out hP11
                have HS11 := Lib.hid hS11; have HD11 := Lib.hid hD11; have HB11 := Lib.hid (HB10.out.trans hB11)
                clear hS11 hD11 hB11 hP11
                go_wp2_with fail
                go_meet
                case rel => exact ⟨q2, _, _, _, HS11.out.mono (by omega), HD11.out, by have := HQ.out; have := HA2.out; omega, HB11.out⟩
          · -- Flush
            as_aux_lemma =>
            subst h7
            have hsm : SMA q.s := by unfold SMA; have := HQ.out; omega
            have hfl := HS.out.flush HK.out hsm (by have := HMI.out.2; omega) (by omega)
            obtain ⟨N', hpb, hN'⟩ := HS.out.pbs
            have hdi := fun W hW => doc_dirty (n0 := w.heap.size) (pb := pb) (vF := .slice AF (docOf most q).F.length cF) (vD := .slice AD (docOf most q).disk.length cD) (vA := .slice AA (docOf most q).asked.length cA) W HPS.out (by have := HMI.out.2; omega) hW
            have hwr := fun v b W hW hv => doc_write (n0 := w.heap.size) (pb := pb) (vF := .slice AF (docOf most q).F.length cF) (vD := .slice AD (docOf most q).disk.length cD) (vA := .slice AA (docOf most q).asked.length cA) (vp := v) (base := b) W HPS.out hpb (by omega) (by have := HMI.out.2; omega) (by have := HQ.out; omega) hW hv
            obtain ⟨q2, hq2⟩ : ∃ z, z = (wrS lsA q (dirtyOf q.hs)).2 := ⟨_, rfl⟩
            obtain ⟨r2, hr2⟩ : ∃ z, z = (wrS lsA q (dirtyOf q.hs)).1 := ⟨_, rfl⟩
            have HA2 : Hid (q2.s.1.length ≤ q.s.1.length + 1) := Lib.hid (by rw [hq2]; exact asks_wr _)
            rw [← hq2, ← hr2] at hfl
            have HW : Hid (∀ v b W, DocAt w.heap.size W pb (.slice AF (docOf most q).F.length cF) (.slice AD (docOf most q).disk.length cD) (.slice AA (docOf most q).asked.length cA) (docOf most q) → Ints b W v (dirtyOf q.hs) → Calls Tryz.prog 26 #[.pointer (some ⟨pb, 0, none⟩), v] W fun e w' => e = .returned (.int .i64 r2) ∧ DocP w.heap.size W w' pb (.slice AF (docOf most q).F.length cF) (.slice AD (docOf most q).disk.length cD) (.slice AA (docOf most q).asked.length cA) (docOf most q2)) := Lib.hid (fun v b W h1 h2 => by rw [hq2, hr2]; exact hwr v b W h1 h2)
            have HDI := Lib.hid hdi
            clear hq2 hr2 hpb hN' hwr hdi
            go_wp2_with fail
            refine hfl.mono ?_
            clear hfl
            rintro e w10 ⟨rfl, hS10, hA10⟩
            have hdi := HDI.out w10 (hA10.doc HD.out)
            have HS10 := Lib.hid hS10; have HD10 := Lib.hid (hA10.doc HD.out); have HB10 := Lib.hid (HB.out.trans (hA10.below HB.out.size))
            clear hS10 hA10 HDI
            go_wp2_with fail
            refine hdi.mono ?_
            clear hdi
            rintro e w11 ⟨vp, rfl, hI11, hb11⟩
            have hwr := HW.out vp _ w11 (HD10.out.up hb11) hI11
            have HS11 := Lib.hid (HS10.out.up HK.out hb11); have HD11 := Lib.hid (HD10.out.up hb11); have HB11 := Lib.hid (HB10.out.trans (hb11.mono HB10.out.size))
            clear hI11 hb11 HW HS10 HD10 HB10
            go_wp2_with fail
            refine hwr.mono ?_
            clear hwr
            rintro e w12 ⟨rfl, hP12⟩
            obtain ⟨vF', vD', vA', hS12, hD12, hB12⟩ := St.doc HK.out HS11.out HD11.out hP12
            have HS12 := Lib.hid hS12; have HD12 := Lib.hid hD12; have HB12 := Lib.hid (HB11.out.trans hB12)
            clear hS12 hD12 hB12 hP12
            go_wp2_with fail
            go_meet
            case rel => exact ⟨q2, _, _, _, HS12.out.mono (by omega), HD12.out, by have := HQ.out; have := HA2.out; omega, HB12.out⟩
          · -- the log refuses from now on, or doesn't
            as_aux_lemma =>
            subst h8
            obtain ⟨hS10, cR, fR⟩ := HS.out.toggle (!q.s.2)
            have hf := Fr.setCell wc B2 0 (.bool (!q.s.2))
            have hO : pb ≠ B2 ∧ ∀ b, DO pb (.slice AF (docOf most q).F.length cF) (.slice AD (docOf most q).disk.length cD) (.slice AA (docOf most q).asked.length cA) b → b ≠ B2 := ⟨HS.out.asideB2 _ (Or.inl rfl), HS.out.asideB2⟩
            have hD10 := HD.out.fr hf hO.1 (fun b e e2 => hO.2 b (Or.inr (Or.inl e.symm)) e2) (fun b e e2 => hO.2 b (Or.inr (Or.inr (Or.inl e.symm))) e2) (fun b e e2 => hO.2 b (Or.inr (Or.inr (Or.inr e.symm))) e2)
            obtain ⟨cR2, fR2, _, _⟩ := hS10.cellB
            have fb2 := fR2
            have hS11 := hS10.docCell HK.out hD10 4 (.bool (!q.s.2))
            have hD11 := hD10.setR (!q.s.2)
            have c4 := hD10.cells.2.2.2.2
            have f4 := hD10.blk.frozen 4
            have HS11 := Lib.hid hS11
            have HD11 : Hid (DocAt w.heap.size ((wc.setCell ⟨B2, 0, none⟩ (.bool (!q.s.2))).setCell ⟨pb, 4, none⟩ (.bool (!q.s.2))) pb (.slice AF (docOf most q).F.length cF) (.slice AD (docOf most q).disk.length cD) (.slice AA (docOf most q).asked.length cA) (docOf most { q with s := (q.s.1, !q.s.2) })) := Lib.hid hD11
            have HB11 := Lib.hid ((HB.out.setCell (p := ⟨B2, 0, none⟩) HS.out.cellB.2.2.1 (.bool (!q.s.2))).setCell (p := ⟨pb, 4, none⟩) HD.out.pbn (.bool (!q.s.2)))
            clear hS10 hO hD10 hS11 hD11 hf
            go_wp2_with fail
            go_meet
            case rel => exact ⟨{ q with s := (q.s.1, !q.s.2) }, _, _, _, HS11.out.mono (by omega), HD11.out, by have := HQ.out; show q.s.1.length ≤ _; omega, HB11.out⟩
          · -- Pin
            have hsm : SMA q.s := by unfold SMA; have := HQ.out; omega
            have hne : ¬ kd = 3 ∧ ¬ kd = 4 ∧ ¬ kd = 5 ∧ ¬ kd = 6 ∧ ¬ kd = 7 ∧ ¬ kd = 8 := by omega
            obtain ⟨n3, n4, n5, n6, n7, n8⟩ := hne
            clear h0
            obtain ⟨N', hpb, hN'⟩ := HS.out.pbs
            by_cases hn : 0 ≤ n ∧ n < 8
            · as_aux_lemma =>
              have hpi := HS.out.pin HK.out hsm ⟨HMI.out.1, by have := HMI.out.2; omega⟩ hn (by omega)
              have hdo := fun W hW x => doc_pin (n0 := w.heap.size) (pb := pb) (vF := .slice AF (docOf most q).F.length cF) (vD := .slice AD (docOf most q).disk.length cD) (vA := .slice AA (docOf most q).asked.length cA) W HPS.out hpb (by omega) ⟨HMI.out.1, by have := HMI.out.2; omega⟩ (by have := HQ.out; omega) hn.1 hn.2 hW x
              have HDO := Lib.hid hdo
              clear hpb hN' hdo hn
              go_wp2_with fail
              refine hpi.mono ?_
              clear hpi
              rintro e w10 ⟨x, rfl, hS10, hA10⟩
              have hdo := HDO.out w10 (hA10.doc HD.out) x
              have HA2 := Lib.hid (asks_pin (most := most) (q := q) (n := n) x)
              generalize (pinS lsA most q n x).2 = q2 at *
              generalize (pinS lsA most q n x).1.1 = r1 at *
              generalize (pinS lsA most q n x).1.2 = r2 at *
              have HS10 := Lib.hid hS10; have HD10 := Lib.hid (hA10.doc HD.out); have HB10 := Lib.hid (HB.out.trans (hA10.below HB.out.size))
              clear hS10 hA10 HDO
              go_wp2_with fail
              refine hdo.mono ?_
              clear hdo
              rintro e w11 ⟨rfl, hP11⟩
              obtain ⟨vF', vD', vA', hS11, hD11, hB11⟩ := St.doc HK.out HS10.out HD10.out hP11
              have HS11 := Lib.hid hS11; have HD11 := Lib.hid hD11; have HB11 := Lib.hid (HB10.out.trans hB11)
              clear hS11 hD11 hB11 hP11
              go_wp2_with fail
              go_meet
              case rel => exact ⟨q2, _, _, _, HS11.out.mono (by omega), HD11.out, by have := HQ.out; have := HA2.out; omega, HB11.out⟩
            · as_aux_lemma =>
              have hn2 : n < 0 ∨ 8 ≤ n := by omega
              have hpi := HS.out.pinBad hn2
              have hdo := doc_pinBad (n0 := w.heap.size) (pb := pb) (vF := .slice AF (docOf most q).F.length cF) (vD := .slice AD (docOf most q).disk.length cD) (vA := .slice AA (docOf most q).asked.length cA) wc HPS.out hpb (by omega) ⟨HMI.out.1, by have := HMI.out.2; omega⟩ (by have := HQ.out; omega) hn2 HD.out
              clear hpb hN' hn hn2
              go_wp2_with fail
              refine hpi.mono ?_
              clear hpi
              rintro e w10 ⟨rfl, rfl⟩
              go_wp2_with fail
              refine hdo.mono ?_
              clear hdo
              rintro e w11 ⟨rfl, hP11⟩
              obtain ⟨vF', vD', vA', hS11, hD11, hB11⟩ := St.doc HK.out HS.out HD.out hP11
              have HS11 := Lib.hid hS11; have HD11 := Lib.hid hD11; have HB11 := Lib.hid (HB.out.trans hB11)
              clear hS11 hD11 hB11 hP11
              go_wp2_with fail
              go_meet
              case rel => exact ⟨q, _, _, _, HS11.out.mono (by omega), HD11.out, by have := HQ.out; omega, HB11.out⟩
        case rest =>
          clear HS HD HB HPS HQ HAT HFL
          rename World => wx
          obtain ⟨q', vF', vD', vA', hS', hD', hq', hB'⟩ := hcut
          as_aux_lemma =>
          obtain ⟨d', hps⟩ := hS'.ps
          have hhe := hS'.held
          have HS1 := Lib.hid hS'; have HD1 := Lib.hid hD'; have HB1 := Lib.hid hB'; have HPS := Lib.hid hps; have HQ1 := Lib.hid hq'
          clear hS' hD' hB' hps hq'
          go_wp2_with fail
          refine hhe.mono ?_
          clear hhe
          rintro e w20 ⟨va, vd, rfl, hIa, hId, hb20⟩
          have hS20 := HS1.out.up HK.out hb20
          have hD20 := HD1.out.up hb20
          obtain ⟨_, _, _, vB, cB, hIB⟩ := hS20.cellB
          have cP := hD20.cells.2.2.2.1
          have HB20 := Lib.hid (HB1.out.trans (hb20.mono HB1.out.size))
          have HS20 := Lib.hid hS20; have HD20 := Lib.hid hD20; have HIA := Lib.hid (IntsAt.of_own hIa); have HID := Lib.hid (IntsAt.of_own hId); have HIB := Lib.hid hIB; have HIP := Lib.hid (IntsAt.of_own hD20.rA)
          have hlk : (keysOf q'.hs).length ≤ 1000000 ∧ (dirtyOf q'.hs).length ≤ 1000000 := by
            have h1 := HPS.out.gd.len
            have h2 : (dirtyOf q'.hs).length ≤ q'.hs.length := by unfold dirtyOf; rw [List.length_map]; exact List.length_filter_le _ _
            have h3 : (keysOf q'.hs).length = q'.hs.length := by unfold keysOf; exact List.length_map _
            have := HMI.out.2
            omega
          obtain ⟨zf, hzf⟩ : ∃ z, z = findI (docOf most q').F n := ⟨_, rfl⟩
          obtain ⟨zb, hzb⟩ : ∃ z, z = (fd q'.hs n).isSome := ⟨_, rfl⟩
          have hzz : decide (0 ≤ zf) = zb := by
            rw [hzf, hzb, show findI (docOf most q').F n = if n ∈ q'.us then (q'.us.idxOf n : Int) else -1 from docF_findI HPS.out.gd.nod]
            by_cases hk : n ∈ q'.us
            · rw [if_pos hk, (HPS.out.gd.keys n).1 hk]
              simp
            · rw [if_neg hk]
              cases hy : fd q'.hs n with
              | none => rfl
              | some y => exact absurd ((HPS.out.gd.keys n).2 (by rw [hy]; rfl)) hk
          have HZF := Lib.hid hzf; have HZB := Lib.hid hzb; have HLK := Lib.hid hlk
          clear hIa hId hb20 hS20 hD20 hIB hlk hzf hzb HS1 HD1 HB1
          go_upto_region 61 with fail
          have hB0 : Below w20.heap.size w20 w20.drew := (Below.refl _ _).drew
          refine wp_region_late 18 (fun W => W.cell? ⟨B1, 0, none⟩ = some vB ∧ W.cell? ⟨pb, 3, none⟩ = some vA') (by kernel_rfl) ?_
          show wpAnyK _ _ _ _ _ 18 31 #[false,false,false,false,false,false,false,false,false,false,false,false,false,false,false,false,false,false,false,false,false,false,false,false,false,false,false,false,false,false,false] _ (World.drew _)
          generalize w20.drew = W0 at *
          refine wpAnyK_takeAny (i := 0) (oi := ⟨some 265, _, _, _, _, _⟩) (v := ?_) rfl (by kernel_rfl) (by kernel_rfl) (by kernel_rfl) (by kernel_rfl) (fun _ _ _ h => h) (Or.inl ⟨by kernel_rfl, ?_⟩) (fun _ => ⟨up_cell hB0 cB, up_cell hB0 cP⟩) ?_
          rotate_left
          · intro w'; go_simp; rfl
          try simp only [Act.put, List.setIfInBounds_toArray, List.set_cons_zero, List.set_cons_succ]
          refine wpAnyK_takeAny (i := 1) (oi := ⟨some 266, _, _, _, _, _⟩) (v := ?_) rfl (by kernel_rfl) (by kernel_rfl) (by kernel_rfl) (by kernel_rfl) (fun _ _ _ h => h) (Or.inl ⟨by kernel_rfl, ?_⟩) (fun _ => ⟨up_cell hB0 cB, up_cell hB0 cP⟩) ?_
          rotate_left
          · intro w'; go_simp; rfl
          try simp only [Act.put, List.setIfInBounds_toArray, List.set_cons_zero, List.set_cons_succ]
          refine wpAnyK_ready (rs := [2]) (by kernel_rfl) (by simp) ?_
          refine AllReadyK.cons (o := ⟨some 267, _, _, _, _, _⟩) rfl (fun K hK => ?_) AllReadyK.nil
          have hc1 := doc_keys W0 HPS.out (by have := HMI.out.2; omega) (HD20.out.up hB0)
          go_simp
          refine hc1.mono ?_
          clear hc1
          rintro e W1 ⟨v1, rfl, hI1, hb1⟩
          have hB1 := hB0.trans (hb1.mono hB0.size)
          have HI1 := Lib.hid (IntsAt.of_own hI1)
          clear hI1 hb1
          refine hK _ _ (fun _ => ⟨up_cell hB1 cB, up_cell hB1 cP⟩) ?_
          clear hK K
          refine wpAnyK_ready (rs := [3]) (by kernel_rfl) (by simp) ?_
          refine AllReadyK.cons (o := ⟨some 268, _, _, _, _, _⟩) rfl (fun K hK => ?_) AllReadyK.nil
          have hc2 := numbers_any W1 va v1 (keysOf q'.hs) (keysOf q'.hs) (HIA.out.below hB1) HI1.out HLK.out.1 HLK.out.1
          rw [decide_eq_true rfl] at hc2
          go_simp
          refine hc2.mono ?_
          clear hc2
          rintro e W2 ⟨rfl, hb2⟩
          have hB2 := hB1.trans (hb2.mono hB1.size)
          clear hb2
          refine hK _ _ (fun _ => ⟨up_cell hB2 cB, up_cell hB2 cP⟩) ?_
          clear hK K
          refine wpAnyK_takeAny (i := 4) (oi := ⟨some 269, _, _, _, _, _⟩) (v := ?_) rfl (by kernel_rfl) (by kernel_rfl) (by kernel_rfl) (by kernel_rfl) (fun _ _ _ h => h) (Or.inl ⟨by kernel_rfl, ?_⟩) (fun _ => ⟨up_cell hB2 cB, up_cell hB2 cP⟩) ?_
          rotate_left
          · intro w'; go_simp; rfl
          try simp only [Act.put, List.setIfInBounds_toArray, List.set_cons_zero, List.set_cons_succ]
          refine wpAnyK_takeAny (i := 5) (oi := ⟨some 270, _, _, _, _, _⟩) (v := ?_) rfl (by kernel_rfl) (by kernel_rfl) (by kernel_rfl) (by kernel_rfl) (fun _ _ _ h => h) (Or.inl ⟨by kernel_rfl, ?_⟩) (fun _ => ⟨up_cell hB2 cB, up_cell hB2 cP⟩) ?_
          rotate_left
          · intro w'; go_simp; rfl
          try simp only [Act.put, List.setIfInBounds_toArray, List.set_cons_zero, List.set_cons_succ]
          refine wpAnyK_takeAny (i := 6) (oi := ⟨some 271, _, _, _, _, _⟩) (v := ?_) rfl (by kernel_rfl) (by kernel_rfl) (by kernel_rfl) (by kernel_rfl) (fun _ _ _ h => h) (Or.inl ⟨by kernel_rfl, ?_⟩) (fun _ => ⟨up_cell hB2 cB, up_cell hB2 cP⟩) ?_
          rotate_left
          · intro w'; go_simp; rfl
          try simp only [Act.put, List.setIfInBounds_toArray, List.set_cons_zero, List.set_cons_succ]
          refine wpAnyK_takeAny (i := 7) (oi := ⟨some 272, _, _, _, _, _⟩) (v := ?_) rfl (by kernel_rfl) (by kernel_rfl) (by kernel_rfl) (by kernel_rfl) (fun _ _ _ h => h) (Or.inl ⟨by kernel_rfl, ?_⟩) (fun _ => ⟨up_cell hB2 cB, up_cell hB2 cP⟩) ?_
          rotate_left
          · intro w'; go_simp; rfl
          try simp only [Act.put, List.setIfInBounds_toArray, List.set_cons_zero, List.set_cons_succ]
          refine wpAnyK_ready (rs := [8]) (by kernel_rfl) (by simp) ?_
          refine AllReadyK.cons (o := ⟨some 273, _, _, _, _, _⟩) rfl (fun K hK => ?_) AllReadyK.nil
          have hc3 := doc_dirty W2 HPS.out (by have := HMI.out.2; omega) (HD20.out.up hB2)
          go_simp
          refine hc3.mono ?_
          clear hc3
          rintro e W3 ⟨v3, rfl, hI3, hb3⟩
          have hB3 := hB2.trans (hb3.mono hB2.size)
          have HI3 := Lib.hid (IntsAt.of_own hI3)
          clear hI3 hb3
          refine hK _ _ (fun _ => ⟨up_cell hB3 cB, up_cell hB3 cP⟩) ?_
          clear hK K
          refine wpAnyK_ready (rs := [9]) (by kernel_rfl) (by simp) ?_
          refine AllReadyK.cons (o := ⟨some 274, _, _, _, _, _⟩) rfl (fun K hK => ?_) AllReadyK.nil
          have hc4 := numbers_any W3 vd v3 (dirtyOf q'.hs) (dirtyOf q'.hs) (HID.out.below hB3) HI3.out HLK.out.2 HLK.out.2
          rw [decide_eq_true rfl] at hc4
          go_simp
          refine hc4.mono ?_
          clear hc4
          rintro e W4 ⟨rfl, hb4⟩
          have hB4 := hB3.trans (hb4.mono hB3.size)
          clear hb4
          refine hK _ _ (fun _ => ⟨up_cell hB4 cB, up_cell hB4 cP⟩) ?_
          clear hK K
          refine wpAnyK_takeAny (i := 10) (oi := ⟨some 275, _, _, _, _, _⟩) (v := ?_) rfl (by kernel_rfl) (by kernel_rfl) (by kernel_rfl) (by kernel_rfl) (fun _ _ _ h => h) (Or.inl ⟨by kernel_rfl, ?_⟩) (fun _ => ⟨up_cell hB4 cB, up_cell hB4 cP⟩) ?_
          rotate_left
          · intro w'; go_simp; rfl
          try simp only [Act.put, List.setIfInBounds_toArray, List.set_cons_zero, List.set_cons_succ]
          refine wpAnyK_takeAny (i := 11) (oi := ⟨some 276, _, _, _, _, _⟩) (v := ?_) rfl (by kernel_rfl) (by kernel_rfl) (by kernel_rfl) (by kernel_rfl) (fun _ _ _ h => h) (Or.inl ⟨by kernel_rfl, ?_⟩) (fun _ => ⟨up_cell hB4 cB, up_cell hB4 cP⟩) ?_
          rotate_left
          · intro w'; go_simp; rfl
          try simp only [Act.put, List.setIfInBounds_toArray, List.set_cons_zero, List.set_cons_succ]
          refine wpAnyK_takeAny (i := 12) (oi := ⟨some 277, _, _, _, _, _⟩) (v := ?_) rfl (by kernel_rfl) (by kernel_rfl) (by kernel_rfl) (by kernel_rfl) (fun _ _ _ h => h) (Or.inl ⟨by kernel_rfl, ?_⟩) (fun _ => ⟨up_cell hB4 cB, up_cell hB4 cP⟩) ?_
          rotate_left
          · intro w'; go_simp; rfl
          try simp only [Act.put, List.setIfInBounds_toArray, List.set_cons_zero, List.set_cons_succ]
          refine wpAnyK_takeAny (i := 14) (oi := ⟨some 279, _, _, _, _, _⟩) (v := ?_) rfl (by kernel_rfl) (by kernel_rfl) (by kernel_rfl) (by kernel_rfl) (fun _ _ _ h => h) (Or.inl ⟨by kernel_rfl, ?_⟩) (fun _ => ⟨up_cell hB4 cB, up_cell hB4 cP⟩) ?_
          rotate_left
          · intro w'; go_simp; rfl
          try simp only [Act.put, List.setIfInBounds_toArray, List.set_cons_zero, List.set_cons_succ]
          refine wpAnyK_takeAny (i := 15) (oi := ⟨some 280, _, _, _, _, _⟩) (v := ?_) rfl (by kernel_rfl) (by kernel_rfl) (by kernel_rfl) (by kernel_rfl) (fun _ _ _ h => h) (Or.inl ⟨by kernel_rfl, ?_⟩) (fun _ => ⟨up_cell hB4 cB, up_cell hB4 cP⟩) ?_
          rotate_left
          · intro w'; go_simp; rfl
          try simp only [Act.put, List.setIfInBounds_toArray, List.set_cons_zero, List.set_cons_succ]
          refine wpAnyK_takeAny (i := 16) (oi := ⟨some 281, _, _, _, _, _⟩) (v := ?_) rfl (by kernel_rfl) (by kernel_rfl) (by kernel_rfl) (by kernel_rfl) (fun _ _ _ h => h) (Or.inl ⟨by kernel_rfl, ?_⟩) (fun _ => ⟨up_cell hB4 cB, up_cell hB4 cP⟩) ?_
          rotate_left
          · intro w'; go_simp; rfl
          try simp only [Act.put, List.setIfInBounds_toArray, List.set_cons_zero, List.set_cons_succ]
          refine wpAnyK_take (i := 13) (oi := ⟨some 278, _, _, _, _, _⟩) (L := [18, 19, 20, 21, 22, 23, 24, 25, 26, 27, 28, 29, 30]) (v := ?_) rfl (by kernel_rfl) (by kernel_rfl) (by kernel_rfl) (by kernel_rfl) (fun _ _ _ h => h) (Or.inl ⟨by kernel_rfl, ?_⟩) ⟨up_cell hB4 cB, up_cell hB4 cP⟩ ?_
          rotate_left
          · rintro w' ⟨e0, e1⟩; go_simp; rfl
          try simp only [Act.put, List.setIfInBounds_toArray, List.set_cons_zero, List.set_cons_succ]
          refine wpAnyK_take (i := 17) (oi := ⟨some 282, _, _, _, _, _⟩) (L := [18, 19, 20, 21, 22, 23, 24, 25, 26, 27, 28, 29, 30]) (v := ?_) rfl (by kernel_rfl) (by kernel_rfl) (by kernel_rfl) (by kernel_rfl) (fun _ _ _ h => h) (Or.inl ⟨by kernel_rfl, ?_⟩) ⟨up_cell hB4 cB, up_cell hB4 cP⟩ ?_
          rotate_left
          · rintro w' ⟨e0, e1⟩; go_simp; rfl
          try simp only [Act.put, List.setIfInBounds_toArray, List.set_cons_zero, List.set_cons_succ]
          refine wpAnyK_ready (rs := [18]) (by kernel_rfl) (by simp) ?_
          refine AllReadyK.cons (o := ⟨some 283, _, _, _, _, _⟩) rfl (fun K hK => ?_) AllReadyK.nil
          have hc5 := numbers_any W4 vB vA' q'.s.1 q'.s.1 (HIB.out.below hB4) (HIP.out.below hB4) (by have := HQ1.out; omega) (by have := HQ1.out; omega)
          rw [decide_eq_true rfl] at hc5
          go_simp
          refine hc5.mono ?_
          clear hc5
          rintro e W5 ⟨rfl, hb5⟩
          have hB5 := hB4.trans (hb5.mono hB4.size)
          clear hb5
          refine hK _ _ (fun h => by cases h) ?_
          clear hK K
          refine wpAnyK_takeAny (i := 19) (oi := ⟨some 284, _, _, _, _, _⟩) (v := ?_) rfl (by kernel_rfl) (by kernel_rfl) (by kernel_rfl) (by kernel_rfl) (fun _ _ _ h => h) (Or.inl ⟨by kernel_rfl, ?_⟩) (fun h => by cases h) ?_
          rotate_left
          · intro w'; go_simp; rfl
          try simp only [Act.put, List.setIfInBounds_toArray, List.set_cons_zero, List.set_cons_succ]
          refine wpAnyK_takeAny (i := 20) (oi := ⟨some 285, _, _, _, _, _⟩) (v := ?_) rfl (by kernel_rfl) (by kernel_rfl) (by kernel_rfl) (by kernel_rfl) (fun _ _ _ h => h) (Or.inl ⟨by kernel_rfl, ?_⟩) (fun h => by cases h) ?_
          rotate_left
          · intro w'; go_simp; rfl
          try simp only [Act.put, List.setIfInBounds_toArray, List.set_cons_zero, List.set_cons_succ]
          refine wpAnyK_takeAny (i := 21) (oi := ⟨some 286, _, _, _, _, _⟩) (v := ?_) rfl (by kernel_rfl) (by kernel_rfl) (by kernel_rfl) (by kernel_rfl) (fun _ _ _ h => h) (Or.inl ⟨by kernel_rfl, ?_⟩) (fun h => by cases h) ?_
          rotate_left
          · intro w'; go_simp; rfl
          try simp only [Act.put, List.setIfInBounds_toArray, List.set_cons_zero, List.set_cons_succ]
          refine wpAnyK_takeAny (i := 22) (oi := ⟨some 287, _, _, _, _, _⟩) (v := ?_) rfl (by kernel_rfl) (by kernel_rfl) (by kernel_rfl) (by kernel_rfl) (fun _ _ _ h => h) (Or.inl ⟨by kernel_rfl, ?_⟩) (fun h => by cases h) ?_
          rotate_left
          · intro w'; go_simp; rfl
          try simp only [Act.put, List.setIfInBounds_toArray, List.set_cons_zero, List.set_cons_succ]
          refine wpAnyK_takeAny (i := 23) (oi := ⟨some 288, _, _, _, _, _⟩) (v := ?_) rfl (by kernel_rfl) (by kernel_rfl) (by kernel_rfl) (by kernel_rfl) (fun _ _ _ h => h) (Or.inl ⟨by kernel_rfl, ?_⟩) (fun h => by cases h) ?_
          rotate_left
          · intro w'; go_simp; rfl
          try simp only [Act.put, List.setIfInBounds_toArray, List.set_cons_zero, List.set_cons_succ]
          refine wpAnyK_takeAny (i := 25) (oi := ⟨some 290, _, _, _, _, _⟩) (v := ?_) rfl (by kernel_rfl) (by kernel_rfl) (by kernel_rfl) (by kernel_rfl) (fun _ _ _ h => h) (Or.inl ⟨by kernel_rfl, ?_⟩) (fun h => by cases h) ?_
          rotate_left
          · intro w'; go_simp; rfl
          try simp only [Act.put, List.setIfInBounds_toArray, List.set_cons_zero, List.set_cons_succ]
          refine wpAnyK_takeAny (i := 26) (oi := ⟨some 291, _, _, _, _, _⟩) (v := ?_) rfl (by kernel_rfl) (by kernel_rfl) (by kernel_rfl) (by kernel_rfl) (fun _ _ _ h => h) (Or.inl ⟨by kernel_rfl, ?_⟩) (fun h => by cases h) ?_
          rotate_left
          · intro w'; go_simp; rfl
          try simp only [Act.put, List.setIfInBounds_toArray, List.set_cons_zero, List.set_cons_succ]
          refine wpAnyK_ready (rs := [24]) (by kernel_rfl) (by simp) ?_
          refine AllReadyK.cons (o := ⟨some 289, _, _, _, _, _⟩) rfl (fun K hK => ?_) AllReadyK.nil
          have hc6 := (HS20.out.up HK.out hB5).has (n := n)
          rw [← HZB.out] at hc6
          go_simp
          refine hc6.mono ?_
          clear hc6
          rintro e W6 ⟨rfl, hb6⟩
          have hB6 := hB5.trans (hb6.mono hB5.size)
          clear hb6
          refine hK _ _ (fun h => by cases h) ?_
          clear hK K
          refine wpAnyK_ready (rs := [27]) (by kernel_rfl) (by simp) ?_
          refine AllReadyK.cons (o := ⟨some 292, _, _, _, _, _⟩) rfl (fun K hK => ?_) AllReadyK.nil
          have hc7 := rfind_any W6 n (HD20.out.up hB6) (by rw [show (docOf most q').F = docF q'.hs q'.us from rfl, docF_length]; have := HPS.out.gd.len; have := HPS.out.gd.same; have := HMI.out.2; omega)
          rw [← HZF.out] at hc7
          go_simp
          refine hc7.mono ?_
          clear hc7
          rintro e W7 ⟨rfl, rfl⟩
          refine hK _ _ (fun h => by cases h) ?_
          clear hK K
          refine wpAnyK_takeAny (i := 28) (oi := ⟨some 293, _, _, _, _, _⟩) (v := ?_) rfl (by kernel_rfl) (by kernel_rfl) (by kernel_rfl) (by kernel_rfl) (fun _ _ _ h => h) (Or.inl ⟨by kernel_rfl, ?_⟩) (fun h => by cases h) ?_
          rotate_left
          · intro w'; go_simp; rfl
          try simp only [Act.put, List.setIfInBounds_toArray, List.set_cons_zero, List.set_cons_succ]
          refine wpAnyK_takeAny (i := 29) (oi := ⟨some 294, _, _, _, _, _⟩) (v := ?_) rfl (by kernel_rfl) (by kernel_rfl) (by kernel_rfl) (by kernel_rfl) (fun _ _ _ h => h) (Or.inl ⟨by kernel_rfl, ?_⟩) (fun h => by cases h) ?_
          rotate_left
          · intro w'; go_simp; rfl
          try simp only [Act.put, List.setIfInBounds_toArray, List.set_cons_zero, List.set_cons_succ]
          refine wpAnyK_takeAny (i := 30) (oi := ⟨some 295, _, _, _, _, _⟩) (v := ?_) rfl (by kernel_rfl) (by kernel_rfl) (by kernel_rfl) (by kernel_rfl) (fun _ _ _ h => h) (Or.inl ⟨by kernel_rfl, ?_⟩) (fun h => by cases h) ?_
          rotate_left
          · intro w'; go_simp; rfl
          try simp only [Act.put, List.setIfInBounds_toArray, List.set_cons_zero, List.set_cons_succ]
          refine wpAnyK_done (by kernel_rfl) ?_ _
          have HS21 := Lib.hid (HS20.out.up HK.out hB6)
          have HD21 := Lib.hid (HD20.out.up hB6)
          have HB21 := Lib.hid (HB20.out.trans (hB6.mono HB20.out.size))
          clear HS20 HD20 HB20 cB cP hB6
          go_wp2_with fail
          go_roundg (nn - (k + 1))
          case measure => omega
          case rel => exact ⟨k + 1, by omega, rfl, by go_num, q', _, _, _, HS21.out.mono (by omega), HD21.out, by have := HQ1.out; omega, HB21.out⟩
    · as_aux_lemma =>
      have hkn : k = nn := by omega
      obtain ⟨d, hps⟩ := hS.ps
      have hno : (k : Int) < (l.length : Int) → ¬ (k : Int) < 50 := by have := HNN.out; omega
      have HS := Lib.hid hS; have HD := Lib.hid hD; have HB := Lib.hid hB; have HPS := Lib.hid hps
      clear hS hD hB hps hkn hlt hq
      by_cases hl2 : (k : Int) < (l.length : Int)
      · replace hno := hno hl2
        go_wp2_with fail
        go_loopg [31, 32, 33] 8 (fun gh i s32 s33 wr => ∃ n : Nat, n ≤ 8 ∧ gh = 8 - n ∧ i = .int .i64 n ∧ St w.heap.size wr gp ga g m most 22 #[] #[.pointer (some ⟨B1, 0, none⟩), .pointer (some ⟨B2, 0, none⟩)] (EA w.heap.size B1 B2) (XA B1 B2) q (2 * k) (DO pb vF vD vA) ∧ DocAt w.heap.size wr pb vF vD vA (docOf most q) ∧ Below w.heap.size w wr)
        case atStart => exact ⟨0, Nat.zero_le _, rfl, rfl, HS.out, HD.out, HB.out⟩
        case round =>
          clear HS HD HB
          obtain ⟨n, hn, rfl, rfl, hS, hD, hB⟩ := hrel
          by_cases hn8 : n < 8
          · have hn8' : (n : Int) < 8 := by omega
            obtain ⟨d7, hps7, hT7, hc7⟩ := hS.psTw
            have hrd := tread_any w.heap.size ga g m arm8 d7 (n : Int) wr hT7 (by omega)
            rw [hps7.read (by omega) (by omega)] at hrd
            obtain ⟨AD, cD, rfl⟩ := hD.rD.slice
            have HS := Lib.hid hS; have HD := Lib.hid hD; have HB := Lib.hid hB
            clear hS hD hB hps7 hT7
            go_wp2_with fail
            refine hrd.mono ?_
            clear hrd
            rintro e w8 ⟨rfl, hb8⟩
            have hD8 := HD.out.up hb8
            have c2 := hD8.cells.2.2.1
            have hdl : (docOf most q).disk.length = 8 := docD_length _
            obtain ⟨bD, cD', evD, cn⟩ := docD_cell hD8 n hn8
            injection evD with evD _ evc
            subst evD evc
            have HS8 := Lib.hid (HS.out.up HK.out hb8); have HD8 := Lib.hid hD8; have HB8 := Lib.hid (HB.out.trans (hb8.mono HB.out.size))
            rw [hdl] at c2
            clear hD8 hb8 HS HD HB hdl
            go_wp2_with fail
            go_roundg (8 - (n + 1))
            case measure => omega
            case rel => exact ⟨n + 1, by omega, rfl, by go_num, HS8.out, HD8.out, HB8.out⟩
          · have hn8' : ¬ (n : Int) < 8 := by omega
            have HB := Lib.hid hB
            clear hS hD hB
            go_wp2_with fail
            go_ret
            exact ⟨rfl, HB.out⟩
      · clear hno
        go_wp2_with fail
        go_loopg [31, 32, 33] 8 (fun gh i s32 s33 wr => ∃ n : Nat, n ≤ 8 ∧ gh = 8 - n ∧ i = .int .i64 n ∧ St w.heap.size wr gp ga g m most 22 #[] #[.pointer (some ⟨B1, 0, none⟩), .pointer (some ⟨B2, 0, none⟩)] (EA w.heap.size B1 B2) (XA B1 B2) q (2 * k) (DO pb vF vD vA) ∧ DocAt w.heap.size wr pb vF vD vA (docOf most q) ∧ Below w.heap.size w wr)
        case atStart => exact ⟨0, Nat.zero_le _, rfl, rfl, HS.out, HD.out, HB.out⟩
        case round =>
          clear HS HD HB
          obtain ⟨n, hn, rfl, rfl, hS, hD, hB⟩ := hrel
          by_cases hn8 : n < 8
          · have hn8' : (n : Int) < 8 := by omega
            obtain ⟨d7, hps7, hT7, hc7⟩ := hS.psTw
            have hrd := tread_any w.heap.size ga g m arm8 d7 (n : Int) wr hT7 (by omega)
            rw [hps7.read (by omega) (by omega)] at hrd
            obtain ⟨AD, cD, rfl⟩ := hD.rD.slice
            have HS := Lib.hid hS; have HD := Lib.hid hD; have HB := Lib.hid hB
            clear hS hD hB hps7 hT7
            go_wp2_with fail
            refine hrd.mono ?_
            clear hrd
            rintro e w8 ⟨rfl, hb8⟩
            have hD8 := HD.out.up hb8
            have c2 := hD8.cells.2.2.1
            have hdl : (docOf most q).disk.length = 8 := docD_length _
            obtain ⟨bD, cD', evD, cn⟩ := docD_cell hD8 n hn8
            injection evD with evD _ evc
            subst evD evc
            have HS8 := Lib.hid (HS.out.up HK.out hb8); have HD8 := Lib.hid hD8; have HB8 := Lib.hid (HB.out.trans (hb8.mono HB.out.size))
            rw [hdl] at c2
            clear hD8 hb8 HS HD HB hdl
            go_wp2_with fail
            go_roundg (8 - (n + 1))
            case measure => omega
            case rel => exact ⟨n + 1, by omega, rfl, by go_num, HS8.out, HD8.out, HB8.out⟩
          · have hn8' : ¬ (n : Int) < 8 := by omega
            have HB := Lib.hid hB
            clear hS hD hB
            go_wp2_with fail
            go_ret
            exact ⟨rfl, HB.out⟩
end
end Go.Proofs.YtjlcbabnkhdgpaaGreatDoor
namespace Go.Proofs.YtjlcbabnkhdgpaaGreatDoor.poolPlays
set_option linter.unusedSimpArgs false
set_option linter.unusedVariables false
open Go.ChangeShapes Go.WideShapes Go.ChangeAt Go.RowKit

/-- What the row's list gives: the sum's table. -/
theorem turns_of {W : World} (h : laidMetH Tryz.prog Rows.poolPlaysRow.laid W) : Turns W := by
  have ht : Lib.TabIs Tryz.prog W "concordance/sum.turns" .u32 [0, 498536548, 997073096, 651767980, 1994146192, 1802195444, 1303535960, 1342533948, 3988292384, 4027552580, 3604390888, 3412177804, 2607071920, 2262029012, 2685067896, 3183342108] :=
    Lib.tabIs_of_head (t := 176) (e := 152) (n := 16) (g := 0) (by kernel_rfl) (by kernel_rfl) Tryz.underlying176 Tryz.underlying152 (by kernel_rfl) (by kernel_rfl) (by rw [MakeChecks.laidMetH_plain _ _ _ (by kernel_rfl)] at h; exact h)
  intro i hi
  have := ht.cell (g := 0) (by kernel_rfl) i hi
  rw [this]
  exact congrArg (fun z => some (Value.int .u32 z)) ((by decide +kernel : ∀ i, i < 16 → [(0 : Int), 498536548, 997073096, 651767980, 1994146192, 1802195444, 1303535960, 1342533948, 3988292384, 4027552580, 3604390888, 3412177804, 2607071920, 2262029012, 2685067896, 3183342108].getD i 0 = turnAt i) i hi)

set_option maxRecDepth 100000 in
theorem contract (H : Type) (enc : TypeId × Value → H) (W : World) (base : Nat) (args : Array Value) (ds gs : List (DataW H)) (before : List MemPlace)
    (hval : ∀ (j : Nat) t v, Tryz.f5.params[j]? = some t → args[j]? = some v → Value.okWide Tryz.prog W .any base t v)
    (hW : DataW.Whole enc Tryz.prog Tryz.f5.params.toList Rows.poolPlaysSpec.vars false W args.toList ds gs before)
    (hz : (DataW.weightsEach Tryz.prog (Tryz.f5.params.toList ++ (OpenSpec.ofChange Rows.poolPlaysSpec).bare.plain.varTypes Tryz.prog) (ds ++ gs)).all (· ≤ reachBytes) = true)
    (hL : laidMetH Tryz.prog Rows.poolPlaysRow.laid W) :
    Calls Tryz.prog 5 args W fun e W' => ∃ v, e = .returned v ∧ Rows.poolPlaysSpec.post enc Tryz.prog Tryz.f5 false true false false W args v W' := by
  have hW' := hW
  have hlt := hW.lt
  obtain ⟨p, q, hA0, hV, rfl, _, _⟩ := hW
  have hA : DataW.TrodAll enc Tryz.prog W 0 (fun _ => true) true Tryz.f5.params.toList args.toList ds p := hA0
  obtain ⟨rfl, rfl⟩ := trodVars_none hV
  rw [Tryz.params5] at hA hval hz
  obtain ⟨v0, v1, d0, d1, p0, p1, rfl, rfl, rfl, h0, h1⟩ := trodAll_two hA
  have k0 := h0
  have k1 := h1
  simp only [List.append_nil] at hlt hW'
  have l0 : ∀ x ∈ p0, x.block < W.heap.size := fun x hx => by
    refine hlt x ?_
    simp [hx]
  have z0 : ∀ n ∈ d0.weights Tryz.prog 45, n ≤ reachBytes := fun n hn => by simpa using List.all_eq_true.1 hz _ (DataW.weights_mem_each (j := 0) (t := 45) rfl rfl n hn)
  have o0 := hval 0 45 v0 rfl rfl
  have l1 : ∀ x ∈ p1, x.block < W.heap.size := fun x hx => by
    refine hlt x ?_
    simp [hx]
  have z1 : ∀ n ∈ d1.weights Tryz.prog 3, n ≤ reachBytes := fun n hn => by simpa using List.all_eq_true.1 hz _ (DataW.weights_mem_each (j := 1) (t := 3) rfl rfl n hn)
  have o1 := hval 1 3 v1 rfl rfl
  have hT := turns_of hL
  obtain ⟨A, cap, l, rfl, hPA, hl, hx⟩ := open_acts10 o0 h0 z0 l0
  obtain ⟨fs, rfl, rfl, rfl, hf⟩ := open_int Tryz.underlying3 o1 h1
  have hc := pplays_any l A cap fs W hT hPA hl hx
  refine hc.mono fun e W' ⟨he, hb⟩ => ?_
  subst he
  exact ⟨_, rfl, post_below (pv := []) hW' hb (fun _ _ _ => trodAll_cons_mk (shut_bool Tryz.underlying4 _) trodAll_mk0)
    (trodAll_mk2 (Below.trod laidOut (by kernel_rfl) (of_decide_eq_true (by kernel_rfl)) k0 hb l0) (Below.trod laidOut (by kernel_rfl) (of_decide_eq_true (by kernel_rfl)) k1 hb l1)) rfl⟩

theorem laid_met (os : Os) : laidMetH Tryz.prog Rows.poolPlaysRow.laid (((World.laidAll Tryz.prog os Rows.poolPlaysRow.laid).forCall (fun _ _ => 0) ⟨#[], #[.slice none 0 0, .int .i64 0], []⟩).memory) := by
  rw [MakeChecks.laidMetH_plain _ _ _ (by kernel_rfl)]; exact laidMet_laidAll _ (by kernel_rfl) (by kernel_rfl)
theorem reads (os : Os) {H : Type} (enc : TypeId × Value → H) : ∃ places, DataW.whole enc Tryz.prog ((World.laidAll Tryz.prog os Rows.poolPlaysRow.laid).forCall (fun _ _ => 0) ⟨#[], #[.slice none 0 0, .int .i64 0], []⟩).memory Tryz.f5.params.toList Rows.poolPlaysSpec.vars false #[.slice none 0 0, .int .i64 0].toList 8 = some ([.nil, .lit (.int .i64 0)], [], places) :=
  ⟨[], by kernel_rfl⟩

set_option maxRecDepth 100000 in
theorem lifted (os : Os) (started : os.Started) (H : Type) (enc : TypeId × Value → H) (F : Stop.Interp) :
    ReturnsInHanded {} Tryz.checked os 5 .any ((OpenSpec.ofChange Rows.poolPlaysSpec).preRow enc Tryz.prog Tryz.f5 Rows.poolPlaysRow.domain false Rows.poolPlaysRow.laid) (((OpenSpec.ofChange Rows.poolPlaysSpec).at F).post enc Tryz.prog Tryz.f5 false true false false) := by
  obtain ⟨places, hx⟩ := reads os enc
  refine returnsInHanded_of_row (C := Tryz.checked) (s := OpenSpec.ofChange Rows.poolPlaysSpec) own started (by kernel_rfl) Tryz.func5
    (witness_row_at (enc := enc) (C := Tryz.checked) false (World.laidAll Tryz.prog os Rows.poolPlaysRow.laid) #[.slice none 0 0, .int .i64 0] (World.laidAll_os _ _ _) (by kernel_rfl) (by kernel_rfl) (by kernel_rfl)
      (OpenSpec.preRow_of_cond 8 hx (by kernel_rfl) (fun k hk => by cases hk) (by kernel_rfl) (laid_met os))) ?_
  intro W base args ds gs before hval hW _ _ hz hL _ _
  exact contract H enc W base args ds gs before hval hW hz hL

theorem said : Rows.PoolPlaysSaid :=
  OpenClaim.holds_of_cond 5 Tryz.f5 rfl rfl rfl rfl rfl rfl rfl ⟨rfl, rfl, rfl, rfl, rfl⟩ rfl rfl rfl rfl rfl (by kernel_rfl) Tryz.func5 (by kernel_rfl)
    (of_decide_eq_true (by kernel_rfl)) (by unfold Func.isWrapper; first | (rw [if_pos (by decide +kernel)]; kernel_rfl) | (rw [if_neg (by decide +kernel)]; exact ⟨rfl, rfl⟩))
    (fun os started H enc _ F => by rw [OpenClaim.pre_eq_preRow]; exact lifted os started H enc F)

theorem plain (f : FuncId) (fn : Func) (hf : Tryz.pinned.checked.prog.funcNamed "concordance/concordancelaw10.PoolPlays" = some f) (hfn : Tryz.pinned.checked.prog.funcs[f]? = some fn) :
    false = Tryz.pinned.checked.prog.looks [] ∧ ∀ (j : Nat) t, fn.params[j]? = some t → Tryz.pinned.checked.prog.wantsStandIn t = false := by
  obtain rfl : f = 5 := Option.some.inj ((show Tryz.prog.funcNamed "concordance/concordancelaw10.PoolPlays" = some 5 by kernel_rfl).symm.trans hf) |>.symm
  obtain rfl : fn = Tryz.f5 := (Option.some.inj (Tryz.func5.symm.trans hfn)).symm
  refine ⟨by kernel_rfl, fun j t ht => ?_⟩
  rw [Tryz.params5] at ht
  have hm : t = 45 ∨ t = 3 := by simpa using Array.mem_of_getElem? ht
  rcases hm with rfl | rfl
  · exact (show Tryz.prog.wantsStandIn 45 = false by kernel_rfl)
  · exact (show Tryz.prog.wantsStandIn 3 = false by kernel_rfl)

/-- THE CARD. -/
theorem card : Rows.PoolPlaysCardSaid :=
  Claim7.holds_tied_plain_at .later [] _ _ _ _ said (fun _ h => by cases h) (by kernel_rfl) (fun _ h => by cases h) poolPlays_row_tie rfl ⟨rfl, rfl⟩ (by kernel_rfl) rfl plain (by kernel_rfl)
end Go.Proofs.YtjlcbabnkhdgpaaGreatDoor.poolPlays
