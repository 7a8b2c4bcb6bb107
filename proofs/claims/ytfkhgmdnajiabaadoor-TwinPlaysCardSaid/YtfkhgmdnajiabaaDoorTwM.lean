/-
  Walks: TwinLeaves.
-/
import Derived.Test.YtfkhgmdnajiabaaDoorTwL
namespace Go.Proofs.YtfkhgmdnajiabaaDoor
set_option linter.unusedSimpArgs false
set_option linter.unusedVariables false
open Go.RowKit Go.Maps

theorem i64_mask (n : Int) (i : Nat) (hi : i ≤ 62) : bits .and .i64 n ((2 ^ i - 1 : Nat) : Int) = n % ((2 ^ i : Nat) : Int) := by
  have hp : 0 < 2 ^ i := Nat.two_pow_pos i
  have hle : 2 ^ i ≤ 2 ^ 62 := Nat.pow_le_pow_right (by decide) hi
  have hm : (BitVec.ofInt 64 ((2 ^ i - 1 : Nat) : Int)).toNat = 2 ^ i - 1 := by
    rw [BitVec.toNat_ofInt]
    have : ((2 ^ i - 1 : Nat) : Int) % ((2 ^ 64 : Nat) : Int) = ((2 ^ i - 1 : Nat) : Int) := Int.emod_eq_of_lt (by omega) (by omega)
    rw [this]
    simp
  have key : (BitVec.ofInt 64 n &&& BitVec.ofInt 64 ((2 ^ i - 1 : Nat) : Int)).toNat = (n % ((2 ^ 64 : Nat) : Int)).toNat % 2 ^ i := by
    rw [BitVec.toNat_and, BitVec.toNat_ofInt, hm, Nat.and_two_pow_sub_one_eq_mod]
  show IntKind.i64.wrap ((BitVec.ofInt 64 n &&& BitVec.ofInt 64 ((2 ^ i - 1 : Nat) : Int)).toNat : Nat) = _
  rw [key]
  have hd : ((2 ^ i : Nat) : Int) ∣ ((2 ^ 64 : Nat) : Int) := Int.natCast_dvd_natCast.2 (Nat.pow_dvd_pow 2 (by omega))
  have h0 : 0 ≤ n % ((2 ^ 64 : Nat) : Int) := Int.emod_nonneg _ (by decide)
  have e : (((n % ((2 ^ 64 : Nat) : Int)).toNat % 2 ^ i : Nat) : Int) = n % ((2 ^ i : Nat) : Int) := by
    rw [Int.natCast_emod, Int.toNat_of_nonneg h0, Int.emod_emod_of_dvd _ hd]
  rw [e]
  have h1 : 0 ≤ n % ((2 ^ i : Nat) : Int) := Int.emod_nonneg _ (by omega)
  have h2 : n % ((2 ^ i : Nat) : Int) < ((2 ^ i : Nat) : Int) := Int.emod_lt_of_pos _ (by omega)
  rw [IntKind.wrap_i64]
  omega

abbrev leafA : ArM := ⟨0, 3, 10, 8⟩
theorem leaves_plain {d1 : DevM} {other : List UInt8} {imgs : List Img} {n : Int} {ks : List Int} (hw : d1.wait = []) (hs : d1.size = 40) (hp : pgv leafA d1 7 = other) (hi : ∀ x ∈ imgs, (0 ≤ x.1 ∧ x.1 ≤ 6) ∧ x.2.length = 512) :
    pgv leafA (onM (twriteM leafA (fuseM d1 n ks) imgs).2) 7 = other := by
  have hG : AllG (fun j s => (j = 24 → s = readM d1 24) ∧ (j = 25 → s = readM d1 25)) d1 := AllG.of_nowait hw (fun j => ⟨fun e => by rw [e], fun e => by rw [e]⟩)
  have hL : Lays leafA (fun j s => (j = 24 → s = readM d1 24) ∧ (j = 25 → s = readM d1 25)) imgs := by
    constructor
    · intro x hx i hi'
      have hi3 : (i : Int) < 3 := hi'
      refine ⟨⟨fun e => ?_, fun e => ?_⟩, ⟨fun e => ?_, fun e => ?_⟩, ⟨fun e => ?_, fun e => ?_⟩⟩ <;> (exfalso; revert e; simp only [leafA]; omega)
    · intro x hx
      obtain ⟨⟨h0, h6⟩, _⟩ := hi x hx
      refine ⟨⟨fun e => ?_, fun e => ?_⟩, ⟨fun e => ?_, fun e => ?_⟩⟩ <;> (exfalso; revert e; simp only [leafA]; omega)
  have h := ((hG.fuse n ks).twrite hL (fun x hx => (hi x hx).2) (by decide)).on
  rw [← hp]
  show readM _ 24 ++ readM _ 25 = readM d1 24 ++ readM d1 25
  rw [(h.read 24).1 rfl, (h.read 25).2 rfl]
theorem leaves_end {d4 : DevM} {other : List UInt8} (hd : d4.fits) (hs : d4.size = 40) (ho : d4.off = false) (hf : d4.fuse = 0) (hp : pgv leafA d4 7 = other) (hwh : wholeB other = true) :
    ∃ c : Nat, c ≤ 7 ∧ (trepairM leafA d4).1 = ((c : Int), 0) ∧ (trepairM leafA d4).2.size = 40 ∧ (trepairM leafA d4).2.off = false ∧ trepairM leafA (trepairM leafA d4).2 = ((0, 0), (trepairM leafA d4).2) ∧ treadM leafA (trepairM leafA d4).2 7 = (other, 0) := by
  have hfit : leafA.fits d4.size := by rw [hs]; simp [ArM.fits, leafA]
  obtain ⟨h1, h2, _⟩ := repair_calm hfit hd ho hf
  have h7 : fixB leafA (bestN leafA d4 leafA.sl.toNat) d4 7 = none := fixB_whole (by rw [show ((7 : Nat) : Int) = 7 from rfl, hp]; exact hwh)
  refine ⟨_, ?_, h1, h2.size.trans hs, h2.off, repair_again hfit h2, ?_⟩
  · show fixes leafA (bestN leafA d4 leafA.sl.toNat) d4 8 ≤ 7
    have := fixes_le leafA (bestN leafA d4 leafA.sl.toNat) d4 7
    have e : fixes leafA (bestN leafA d4 leafA.sl.toNat) d4 8 = fixes leafA (bestN leafA d4 leafA.sl.toNat) d4 7 := by
      show _ + (if (fixB leafA (bestN leafA d4 leafA.sl.toNat) d4 7).isSome = true then 1 else 0) = _
      rw [h7]; rfl
    rw [e]; exact this
  · rw [tread_on h2.off (by decide) (by decide)]
    have := h2.done 7 (by decide)
    rw [h7] at this
    rw [show ((7 : Nat) : Int) = 7 from rfl] at this
    rw [this]
    show (pgv leafA d4 7, (0 : Int)) = _
    rw [hp]

/-- The first k images of the law. -/
def leafI (l : List (Int × List UInt8)) (k : Nat) : List Img := upto (fun i => ((l.getD i (0, [])).1 % 8 % 7, imgB (2 + i) (l.getD i (0, [])).2)) k
theorem leafI_succ (l : List (Int × List UInt8)) (k : Nat) (hk : k < l.length) : leafI l (k + 1) = leafI l k ++ [(l[k].1 % 8 % 7, imgB (2 + k) l[k].2)] := by
  unfold leafI
  rw [upto_succ]
  simp [List.getD, hk]
theorem leafI_length (l : List (Int × List UInt8)) (k : Nat) : (leafI l k).length = k := upto_length _ _
theorem leafI_mem (l : List (Int × List UInt8)) (k : Nat) (hk : k ≤ 1000000) (x : Img) (hx : x ∈ leafI l k) : (0 ≤ x.1 ∧ x.1 ≤ 6) ∧ x.2.length = 512 := by
  unfold leafI upto at hx
  obtain ⟨i, hi, rfl⟩ := List.mem_map.1 hx
  rw [List.mem_range] at hi
  exact ⟨by dsimp only; omega, imgB_length (by omega) (by omega)⟩
theorem below_sz {n0 : Nat} {w w' : World} (h : Below n0 w w') (hn : n0 ≤ w.heap.size) : n0 ≤ w'.heap.size := Nat.le_trans hn h.size

set_option maxHeartbeats 6400000 in
set_option maxRecDepth 100000 in
theorem leaves_any (l : List (Int × List UInt8)) (A : Option Addr) (cap : Nat) (cut : Int) (ks : List Int) (AK : Option Addr) (capK : Nat) (w : World) (hT : Turns w) (hA : PutsAt w w.heap.size A l) (hl : l.length ≤ 140737488355328)
    (hx : ∀ x ∈ l, x.2.length ≤ 140737488355328) (hK : IntsIn w w.heap.size AK ks) (hkn : AK = none → capK = 0 ∧ ks = []) (hkc : ks.length ≤ capK) (hkl : ks.length ≤ 140737488355328) (hcc : capK ≤ 9223372036854775807) :
    Calls Tryd.prog 5 #[.slice A l.length cap, .int .i64 cut, .slice AK ks.length capK] w fun e w' => e = .returned (.bool true) ∧ Below w.heap.size w w' := by
  have hsp := speaks_any w hT
  obtain ⟨other, hother⟩ : ∃ s, s = imgB 1 [111, 116, 104, 101, 114] := ⟨_, rfl⟩
  have himg := fun W hW => image_any 0 1 [111, 116, 104, 101, 114] (by decide) (by decide) (by decide) W hW
  have hot : bs [111, 116, 104, 101, 114] = ⟨#[111, 116, 104, 101, 114]⟩ := rfl
  rw [← hother, hot] at himg
  have hol : other.length = 512 := by rw [hother]; exact imgB_length (by decide) (by decide)
  have how : wholeB other = true := by rw [hother]; exact imgB_whole (by decide) (by decide)
  have hlt := hT.lt
  have hfit : leafA.fits (newM 40).size := by simp [ArM.fits, newM, leafA]
  have hgd : ∀ x ∈ [((7 : Int), other)], goodB leafA x = true := by
    intro x hx
    simp at hx
    subst hx
    exact goodB_iff.2 ⟨⟨by simp [leafA], hol⟩, how⟩
  obtain ⟨q1, q2⟩ := write_calm_all (a := leafA) (d := newM 40) hfit hgd rfl rfl
  have hwr := fun (ga g m : Nat) (W : World) h1 h2 => twrite_any w.heap.size ga g m leafA (newM 40) (some ⟨W.heap.size, 0, none⟩) 1 [((7 : Int), other)] (W.alloc (.cells #[.int .i64 7, .string (bs other)] 36)) h1 h2 (by simp) (by simp) (fun x hx => by simp at hx; subst hx; show other.length ≤ _; omega) (by decide)
  rw [show twriteM leafA (newM 40) [((7 : Int), other)] = ((twriteM leafA (newM 40) [((7 : Int), other)]).1, (twriteM leafA (newM 40) [((7 : Int), other)]).2) from rfl, q1] at hwr
  generalize (twriteM leafA (newM 40) [((7 : Int), other)]).2 = d1 at *
  have hp7 : pgv leafA d1 7 = other := by rw [q2.page 7 (by decide) (by decide)]; rfl
  have hc1 : d1.cmds ≤ 100 := by rw [q2.cmds]; simp [newM, leafA]
  have hw1 : d1.wait = [] := q2.wait rfl
  have hs1 : d1.size = 40 := q2.size
  have ho1 : d1.off = false := q2.off
  have hnew := fun g m W h1 h2 => twnew_ok w.heap.size g m leafA (newM 40) W h1 h2 hlt hfit
  have HSP := Lib.hid hsp; have HI := Lib.hid himg; have HNW := Lib.hid hnew; have HWR := Lib.hid hwr; have HT := Lib.hid hT; have HX := Lib.hid hx; have HOW := Lib.hid how; have HP7 := Lib.hid hp7; have HD1 := Lib.hid hw1; have HS1 := Lib.hid hs1; have HO1 := Lib.hid ho1; have HPA := Lib.hid hA; have HKA := Lib.hid hK; have HKN := Lib.hid hkn
  obtain ⟨nn, hnn⟩ : ∃ n : Nat, n = min l.length 9 := ⟨_, rfl⟩
  have HNN := Lib.hid hnn
  clear hsp hother himg hot hol how hlt hfit hgd q1 q2 hwr hp7 hw1 hs1 ho1 hnew hT hx hA hK hkn hnn
  go_enter Tryd.func5, Tryd.ntmps5
  go_wp2_with fail
  refine HSP.out.mono ?_
  rintro e w1 ⟨rfl, hb1⟩
  have HB1 := Lib.hid hb1; have HT1 := Lib.hid (HT.out.below hb1)
  clear hb1 HSP HT
  go_wp2_with fail
  refine (devnew_dv w.heap.size 40 (by decide) (by decide) w1 HB1.out.size).mono ?_
  rintro e w2 ⟨m, rfl, hD, hb2⟩
  have HB2 := Lib.hid (HB1.out.trans (hb2.mono HB1.out.size)); have HT2 := Lib.hid (HT1.out.below hb2); have HD2 := Lib.hid hD
  clear hb2 hD HB1 HT1
  generalize w1.heap.size + 1 = g at *
  go_wp2_with fail
  refine (HNW.out g m w2 HD2.out HT2.out).mono ?_
  rintro e w3 ⟨rfl, hT3, hb3⟩
  have HT3 := Lib.hid hT3; have HB3 := Lib.hid (HB2.out.trans (hb3.mono HB2.out.size))
  clear hT3 hb3 HB2 HT2 HD2 HNW
  generalize w2.heap.size = ga at *
  go_wp2_with fail
  refine (HI.out w3 HT3.out.turns).mono ?_
  rintro e w4 ⟨rfl, hb4⟩
  have HT4 := Lib.hid (HT3.out.up hb4); have HB4 := Lib.hid (HB3.out.trans (hb4.mono HB3.out.size))
  clear hb4 HT3 HB3 HI
  have hb5 : Below w4.heap.size w4 (w4.alloc (.cells #[.int .i64 7, .string (bs other)] 36)) := (Below.refl _ _).alloc (Nat.le_refl _) _
  have hw5 := HWR.out ga g m w4 (HT4.out.up hb5) (imgs_one 7 other HT4.out.glt HT4.out.mlt)
  have HB5 := Lib.hid (HB4.out.trans (hb5.mono HB4.out.size))
  clear hb5 HT4 HB4 HWR
  go_wp2_with fail
  refine hw5.mono ?_
  clear hw5
  rintro e w6 ⟨rfl, hT6, hk6⟩
  have HT6 := Lib.hid hT6; have HB6 := Lib.hid (HB5.out.trans hk6.below)
  clear hT6 hk6 HB5
  go_wp2_with fail
  go_loopg [12, 13] nn (fun gh v i wr => ∃ k : Nat, k ≤ nn ∧ gh = nn - k ∧ i = .int .i64 k ∧ wr.ownsRow w.heap.size 36 2 v (leafI l k).length (imgCells (leafI l k)) ∧ Tw w.heap.size wr ga g m leafA d1 ∧ Below w.heap.size w wr)
  case atStart => exact ⟨0, Nat.zero_le _, rfl, rfl, World.ownsRow_nil _ _ _ _, HT6.out, HB6.out⟩
  case round =>
    clear HT6 HB6
    obtain ⟨k, hk, rfl, rfl, hO, hT, hB⟩ := hrel
    have hk9 : k ≤ 9 := by have := HNN.out; omega
    by_cases hlt : k < nn
    · have hkl2 : k < l.length := by have := HNN.out; omega
      have hk8 : k < 9 := by have := HNN.out; omega
      obtain ⟨b, o, rfl, hbn, e0, e1⟩ := HPA.out.below hB k hkl2
      obtain ⟨x, hxx⟩ : ∃ x, x = l[k] := ⟨_, rfl⟩
      rw [← hxx] at e0 e1
      have hxl := HX.out x (by rw [hxx]; exact List.getElem_mem hkl2)
      have hnext : leafI l (k + 1) = leafI l k ++ [(x.1 % 8 % 7, imgB (2 + k) x.2)] := by rw [hxx]; exact leafI_succ l k hkl2
      obtain ⟨xp, xt⟩ := x
      dsimp only at e0 e1 hxl hnext
      have him := fun W hW => image_any xp (2 + (k : Int)) xt (by omega) (by omega) hxl W hW
      generalize imgB (2 + (k : Int)) xt = s at *
      have r1 : bits .and .i64 xp 7 = xp % 8 := i64_mask xp 3 (by decide)
      have r2 : (xp % 8).tmod 7 = xp % 8 % 7 := Int.tmod_eq_emod_of_nonneg (by omega)
      have r3 : IntKind.i64.wrap (2 + (k : Int)) = 2 + (k : Int) := by rw [IntKind.wrap_i64]; omega
      have r4 : (k : Int) < (l.length : Int) := by omega
      have hlen : (leafI l k).length = k := leafI_length l k
      have HO := Lib.hid hO; have HT := Lib.hid hT; have HB := Lib.hid hB; have HNX := Lib.hid hnext; have HLEN := Lib.hid hlen
      clear hO hT hB hxx hnext hlen
      go_wp2_with fail
      have hO := HO.out
      have hT := HT.out
      have hB := HB.out
      have hT0 := hT.turns
      refine wp_region_any (by kernel_rfl) ?_
      show wpAny _ _ _ _ 19 #[false,false,false,false,false,false,false,false,false,false,false,false,false,false,false,false,false,false,false] _ (World.drew _)
      refine wpAny_take (i := 0) (oi := ⟨some 49, _, _, _, _, _⟩) (v := ?_) rfl (by kernel_rfl) (by kernel_rfl) (by kernel_rfl) (fun _ _ _ h => h) (Or.inl ⟨by kernel_rfl, ?_⟩) ?_
      rotate_left
      · intro w'; go_simp; rfl
      try simp only [Act.put, List.setIfInBounds_toArray, List.set_cons_zero, List.set_cons_succ]
      refine wpAny_upto 16 [1, 2, 3, 4, 5, 6, 7, 8, 9, 10, 11, 12, 13, 14, 15] (fun W => Below wr.heap.size wr W) (g := 3) (by kernel_rfl) (by kernel_rfl) (by kernel_rfl) (by kernel_rfl) (Below.refl _ _).drew ?_
      refine q_val (o := ⟨some 50, _, _, _, _, _⟩) (v := ?_) (by kernel_rfl) (fun W hW => ?_) ?_
      rotate_left
      · go_simp; rfl
      try simp only [Act.put, List.setIfInBounds_toArray, List.set_cons_zero, List.set_cons_succ]
      refine q_val (o := ⟨some 51, _, _, _, _, _⟩) (v := ?_) (by kernel_rfl) (fun W hW => ?_) ?_
      rotate_left
      · go_simp; rfl
      try simp only [Act.put, List.setIfInBounds_toArray, List.set_cons_zero, List.set_cons_succ]
      refine q_val (o := ⟨some 52, _, _, _, _, _⟩) (v := ?_) (by kernel_rfl) (fun W hW => ?_) ?_
      rotate_left
      · go_simp; rfl
      try simp only [Act.put, List.setIfInBounds_toArray, List.set_cons_zero, List.set_cons_succ]
      refine q_val (o := ⟨some 53, _, _, _, _, _⟩) (v := ?_) (by kernel_rfl) (fun W hW => ?_) ?_
      rotate_left
      · go_simp; rfl
      try simp only [Act.put, List.setIfInBounds_toArray, List.set_cons_zero, List.set_cons_succ]
      refine q_val (o := ⟨some 54, _, _, _, _, _⟩) (v := ?_) (by kernel_rfl) (fun W hW => ?_) ?_
      rotate_left
      · have e0 := up_cell hW e0; have e1 := up_cell hW e1; go_simp; rfl
      try simp only [Act.put, List.setIfInBounds_toArray, List.set_cons_zero, List.set_cons_succ]
      refine q_val (o := ⟨some 55, _, _, _, _, _⟩) (v := ?_) (by kernel_rfl) (fun W hW => ?_) ?_
      rotate_left
      · go_simp; rfl
      try simp only [Act.put, List.setIfInBounds_toArray, List.set_cons_zero, List.set_cons_succ]
      refine q_val (o := ⟨some 56, _, _, _, _, _⟩) (v := ?_) (by kernel_rfl) (fun W hW => ?_) ?_
      rotate_left
      · go_simp; rfl
      try simp only [Act.put, List.setIfInBounds_toArray, List.set_cons_zero, List.set_cons_succ]
      refine q_val (o := ⟨some 57, _, _, _, _, _⟩) (v := ?_) (by kernel_rfl) (fun W hW => ?_) ?_
      rotate_left
      · go_simp; rfl
      try simp only [Act.put, List.setIfInBounds_toArray, List.set_cons_zero, List.set_cons_succ]
      refine q_val (o := ⟨some 58, _, _, _, _, _⟩) (v := ?_) (by kernel_rfl) (fun W hW => ?_) ?_
      rotate_left
      · go_simp; rfl
      try simp only [Act.put, List.setIfInBounds_toArray, List.set_cons_zero, List.set_cons_succ]
      refine q_val (o := ⟨some 59, _, _, _, _, _⟩) (v := ?_) (by kernel_rfl) (fun W hW => ?_) ?_
      rotate_left
      · go_simp; rfl
      try simp only [Act.put, List.setIfInBounds_toArray, List.set_cons_zero, List.set_cons_succ]
      refine q_val (o := ⟨some 60, _, _, _, _, _⟩) (v := ?_) (by kernel_rfl) (fun W hW => ?_) ?_
      rotate_left
      · have e0 := up_cell hW e0; have e1 := up_cell hW e1; go_simp; rfl
      try simp only [Act.put, List.setIfInBounds_toArray, List.set_cons_zero, List.set_cons_succ]
      refine q_val (o := ⟨some 61, _, _, _, _, _⟩) (v := ?_) (by kernel_rfl) (fun W hW => ?_) ?_
      rotate_left
      · go_simp; rfl
      try simp only [Act.put, List.setIfInBounds_toArray, List.set_cons_zero, List.set_cons_succ]
      refine q_val (o := ⟨some 62, _, _, _, _, _⟩) (v := ?_) (by kernel_rfl) (fun W hW => ?_) ?_
      rotate_left
      · go_simp; rfl
      try simp only [Act.put, List.setIfInBounds_toArray, List.set_cons_zero, List.set_cons_succ]
      refine q_call (o := ⟨some 63, _, _, _, _, _⟩) (by kernel_rfl) (fun W hW => ?_) (fun W hW => q_of hW (him W (hT0.below hW))) ?_
      · go_simp
      try simp only [Act.put, List.setIfInBounds_toArray, List.set_cons_zero, List.set_cons_succ]
      refine q_val (o := ⟨some 64, _, _, _, _, _⟩) (v := ?_) (by kernel_rfl) (fun W hW => ?_) ?_
      rotate_left
      · go_simp; rfl
      try simp only [Act.put, List.setIfInBounds_toArray, List.set_cons_zero, List.set_cons_succ]
      refine q_end (fun W hW => ?_)
      show wpAny _ _ _ _ 3 #[true,true,true,true,true,true,true,true,true,true,true,true,true,true,true,true,false,false,false] _ _
      refine wpAny_ready (rs := [16]) (by kernel_rfl) (by simp) ?_
      refine AllReady.cons (o := ⟨some 65, _, _, _, _, _⟩) rfl (fun K hK => ?_) AllReady.nil
      go_simp
      refine hK _ _ ?_
      clear hK K
      refine wpAny_ready (rs := [17]) (by kernel_rfl) (by simp) ?_
      refine AllReady.cons (o := ⟨some 66, _, _, _, _, _⟩) rfl (fun K hK => ?_) AllReady.nil
      have hb1 : Below W.heap.size W (W.alloc (.cells #[.int .i64 (xp % 8 % 7), .string (bs s)] 36)) := (Below.refl _ _).alloc (Nat.le_refl _) _
      have hBk := Blk.made W #[.int .i64 (xp % 8 % 7), .string (bs s)] 36
      have hO1 := ownsRow_grown (ownsRow_grown hO (grown_of_below hW none) (by simp)) (grown_of_below hb1 none) (by simp)
      have hT1 := (hT.up hW).up hb1
      have hB1 := (hB.trans (hW.mono (below_sz hB (Nat.le_refl _)))).trans (hb1.mono (below_sz (hB.trans (hW.mono (below_sz hB (Nat.le_refl _)))) (Nat.le_refl _)))
      obtain ⟨v', w', hr, hO2, hg2⟩ := imgs_append w.heap.size u12 (leafI l k) (xp % 8 % 7) s W.heap.size _ hO1 hBk (by have := HLEN.out; omega) (below_sz hB1 (Nat.le_refl _))
      rw [if_pos (by kernel_rfl)]
      refine Lib.wp_append_run _ (.tmp 49) (.tmp 65) 37 37 rfl _ _ rfl rfl _ _ hr ?_
      try simp only [Act.put, List.setIfInBounds_toArray, List.set_cons_zero, List.set_cons_succ]
      have hT2 := hT1.far hO1 hg2 (by decide) (by decide) (by decide) (by decide)
      have hB2 := below_far hB1 hO1 hg2 (Nat.le_refl _) (below_sz hB1 (Nat.le_refl _))
      clear hr hb1 hBk hO1 hT1 hB1 hg2
      refine hK _ _ ?_
      clear hK K
      refine wpAny_take (i := 18) (oi := ⟨some 12, _, _, _, _, _⟩) (v := ?_) rfl (by kernel_rfl) (by kernel_rfl) (by kernel_rfl) (fun _ _ _ h => h) (Or.inl ⟨by kernel_rfl, ?_⟩) ?_
      rotate_left
      · intro w'; go_simp; rfl
      try simp only [Act.put, List.setIfInBounds_toArray, List.set_cons_zero, List.set_cons_succ]
      refine wpAny_done (by kernel_rfl) ?_ _
      rw [← HNX.out] at hO2
      have HO := Lib.hid hO2; have HT := Lib.hid hT2; have HB := Lib.hid hB2
      clear hO hT hB hO2 hT2 hB2 hT0 him e0 e1 hW
      go_wp2_with fail
      go_roundg (nn - (k + 1))
      case measure => omega
      case rel => exact ⟨k + 1, by omega, rfl, by go_num, HO.out, HT.out, HB.out⟩
    · have hkk : k = nn := by omega
      subst hkk
      obtain ⟨imgs, himgs⟩ : ∃ x, x = leafI l k := ⟨_, rfl⟩
      have hmem : ∀ x ∈ imgs, (0 ≤ x.1 ∧ x.1 ≤ 6) ∧ x.2.length = 512 := fun x hx => leafI_mem l k (by omega) x (himgs ▸ hx)
      have hil : imgs.length ≤ 9 := by rw [himgs, leafI_length]; exact hk9
      rw [← himgs] at hO
      -- the fuse
      obtain ⟨kt, hkt⟩ : ∃ x, x = ks.take (min ks.length 9) := ⟨_, rfl⟩
      have hktl : kt.length ≤ 9 := by rw [hkt]; simp; omega
      obtain ⟨w7, hw7⟩ : ∃ x, x = wr.alloc (.cells #[] 3) := ⟨_, rfl⟩
      have hb7 : Below wr.heap.size wr w7 := by rw [hw7]; exact (Below.refl _ _).alloc (Nat.le_refl _) _
      have hB7 := hB.trans (hb7.mono (below_sz hB (Nat.le_refl _)))
      have hE : w7.ownsRow w.heap.size 3 1 (.slice (some ⟨wr.heap.size, 0, none⟩) 0 0) ([] : List Int).length (([] : List Int).map (Value.int .i64)) := by
        rw [hw7]
        exact World.ownsRow_made wr #[] 0 (below_sz hB (Nat.le_refl _)) (by unfold maxLen; omega) (by simp)
      have hKT : IntsAt w7 (.slice AK (min ks.length 9) capK) kt := by rw [hkt]; exact (HKA.out.below hB7).take _ _ (Nat.min_le_left _ _) HKN.out
      obtain ⟨v8, w8, hr8, hO8, hg8⟩ := ints_append w.heap.size _ [] kt _ w7 hE hKT (by simp) (by omega) (below_sz hB7 (Nat.le_refl _))
      simp only [List.nil_append] at hO8
      have hw8g : ∀ n T (sz : Nat) (u : Value) xs, wr.ownsRow w.heap.size T sz u n xs → w8.ownsRow w.heap.size T sz u n xs := fun n T sz u xs h => by
        have h7 := ownsRow_grown h (grown_of_below hb7 none) (by simp)
        refine h7.kept hg8 ?_
        cases hu : u.ownBlock with
        | none => exact Or.inl rfl
        | some gg =>
          right
          intro e
          simp [Value.ownBlock] at e
          have := (h.lt gg hu).2
          omega
      have hT8 : Tw w.heap.size w8 ga g m leafA d1 := by
        have h7 := hT.up hb7
        have hb8 : Below wr.heap.size w7 w8 := (Below.refl _ _).grown hg8 hb7.size (fun k e => by simp [Value.ownBlock] at e; omega)
        exact hT.up (hb7.trans hb8)
      have hB8 : Below w.heap.size w w8 := hB7.grown hg8 (below_sz hB7 (Nat.le_refl _)) (fun k e => by simp [Value.ownBlock] at e; have := below_sz hB (Nat.le_refl w.heap.size); omega)
      have hO8i := hw8g _ _ _ _ _ hO
      have c1 : bits .and .i64 cut 63 = cut % 64 := i64_mask cut 6 (by decide)
      have c2 : IntKind.i64.wrap (1 + cut % 64) = 1 + cut % 64 := by rw [IntKind.wrap_i64]; omega
      have hI8 : IntsAt w8 v8 kt := IntsAt.of_own hO8
      have hfu := devfuse_any w.heap.size g m d1 (1 + cut % 64) kt v8 w8 hT8.dv hI8 (by omega) HO1.out (by omega)
      have hmin : (min (ks.length : Int) 9).toNat = min ks.length 9 := by omega
      have hle : min ks.length 9 ≤ capK := by omega
      rw [hw7] at hr8
      -- the plain side
      have hpl := leaves_plain (n := 1 + cut % 64) (ks := kt) HD1.out HS1.out HP7.out hmem
      have hdg := hT8.dv.blk2
      have hdm := hT8.dv.map2
      obtain ⟨d3, hd3⟩ : ∃ x, x = twriteM leafA (fuseM d1 (1 + cut % 64) kt) imgs := ⟨_, rfl⟩
      rw [← hd3] at hpl
      have hc3 : d3.2.cmds ≤ 200 ∧ d3.2.size = 40 := by
        rw [hd3]
        have hq := roundsM_all leafA (by decide) imgs.length (fuseM d1 (1 + cut % 64) kt) imgs
        unfold twriteM
        split
        · refine ⟨Nat.le_trans hq.2 ?_, hq.1.trans HS1.out⟩
          show d1.cmds + 7 * imgs.length ≤ 200
          omega
        · exact ⟨by show d1.cmds ≤ 200; omega, HS1.out⟩
      have HT := Lib.hid hT8; have HB := Lib.hid hB8; have HO := Lib.hid hO8i; have HPL := Lib.hid hpl; have HD3 := Lib.hid hd3; have HC3 := Lib.hid hc3; have HM := Lib.hid hmem
      clear hO hT hB himgs hmem hkt hw7 hb7 hB7 hE hKT hO8 hg8 hw8g hT8 hB8 hO8i hI8 hpl hd3 hc3 hdg hdm
      by_cases h9 : l.length ≤ 9
      · have e9 : ¬ ((k : Int) < (l.length : Int)) := by have := HNN.out; omega
        go_wp2_with (at_builtin; refine Lib.wpList_append_run _ rfl _ _ _ _ rfl _ _ rfl rfl _ _ hr8 ?_)
        refine hfu.mono ?_
        clear hfu hr8 c1 c2
        rintro e w9 ⟨rfl, hD9, hk9⟩
        have hdg := HT.out.dv.blk2
        have hdm := HT.out.dv.map2
        have hT9 := HT.out.kept hD9 rfl hk9
        have hO9 := ownsRow_kept HO.out hk9 hdg hdm (by decide) (by decide)
        have HB9 := Lib.hid (HB.out.trans hk9.below)
        obtain ⟨A', cap', hu12, hIm, hcap⟩ := imgs_at hO9 hT9.dv.blk2 hT9.dv.map2
        subst hu12
        have hwr := twrite_any w.heap.size ga g m leafA (fuseM d1 (1 + cut % 64) kt) A' cap' imgs w9 hT9 hIm hcap (by omega) (fun x hx => by have := (HM.out x hx).2; omega) (show d1.cmds < _ by omega)
        rw [← HD3.out] at hwr
        clear hdg hdm hT9 hO9 hIm hcap hD9 hk9 HT HB HO
        go_wp2_with fail
        refine hwr.mono ?_
        clear hwr
        rintro e w10 ⟨rfl, hT10, hk10⟩
        have HB10 := Lib.hid (HB9.out.trans hk10.below); have HT10 := Lib.hid hT10
        clear hT10 hk10 HB9
        go_wp2_with fail
        refine (devon_any w.heap.size g m d3.2 w10 HT10.out.dv).mono ?_
        rintro e w11 ⟨rfl, hD11, hk11⟩
        have HT11 := Lib.hid (HT10.out.kept hD11 rfl hk11); have HB11 := Lib.hid (HB10.out.trans hk11.below)
        clear hD11 hk11 HT10 HB10
        obtain ⟨c, hc7, e1, e2, e3, e4, e5⟩ := leaves_end HT11.out.dv.fits HC3.out.2 rfl rfl HPL.out HOW.out
        have hr1 := repair_any w.heap.size ga g m leafA (onM d3.2) w11 HT11.out (by have := HC3.out.1; show d3.2.cmds < _; omega) rfl
        have hcm : (trepairM leafA (onM d3.2)).2.cmds ≤ 1000 := Nat.le_trans (trepair_cmds leafA (onM d3.2) rfl) (by have := HC3.out.1; show d3.2.cmds + 2 * 8 + 1 ≤ _; omega)
        generalize trepairM leafA (onM d3.2) = r1 at *
        obtain ⟨⟨n1, n2⟩, d5⟩ := r1
        dsimp only at hr1 e1 e2 e3 e4 e5 hcm
        injection e1 with e1 e1'
        subst e1 e1'
        have hr2 := fun W hW => repair_any w.heap.size ga g m leafA d5 W hW (by omega) e3
        have hr3 := fun W hW => tread_any w.heap.size ga g m leafA d5 7 W hW (by omega)
        rw [e4] at hr2
        rw [e5] at hr3
        dsimp only at hr2 hr3
        have hc8 : (c : Int) ≤ 7 := by omega
        have HR2 := Lib.hid hr2; have HR3 := Lib.hid hr3
        clear e2 e3 e4 e5 hr2 hr3 HPL HOW HC3 HT11 HM HD3
        go_wp2_with fail
        refine hr1.mono ?_
        clear hr1
        rintro e w12 ⟨rfl, hT12, hk12⟩
        have HB12 := Lib.hid (HB11.out.trans hk12.below); have HT12 := Lib.hid hT12
        clear hT12 hk12 HB11
        go_wp2_with fail
        refine (HR2.out w12 HT12.out).mono ?_
        rintro e w13 ⟨rfl, hT13, hk13⟩
        have HB13 := Lib.hid (HB12.out.trans hk13.below); have HT13 := Lib.hid hT13
        clear hT13 hk13 HB12 HT12 HR2
        go_wp2_with fail
        refine (HR3.out w13 HT13.out).mono ?_
        rintro e w14 ⟨rfl, hb14⟩
        have HB14 := Lib.hid (HB13.out.trans (hb14.mono (below_sz HB13.out (Nat.le_refl _))))
        clear hb14 HB13 HT13 HR3
        go_wp2_with fail
        go_ret
        exact ⟨rfl, HB14.out⟩
      · have e9 : (k : Int) < (l.length : Int) := by have := HNN.out; omega
        have e10 : ¬ ((k : Int) < 9) := by have := HNN.out; omega
        go_wp2_with (at_builtin; refine Lib.wpList_append_run _ rfl _ _ _ _ rfl _ _ rfl rfl _ _ hr8 ?_)
        refine hfu.mono ?_
        clear hfu hr8 c1 c2
        rintro e w9 ⟨rfl, hD9, hk9⟩
        have hdg := HT.out.dv.blk2
        have hdm := HT.out.dv.map2
        have hT9 := HT.out.kept hD9 rfl hk9
        have hO9 := ownsRow_kept HO.out hk9 hdg hdm (by decide) (by decide)
        have HB9 := Lib.hid (HB.out.trans hk9.below)
        obtain ⟨A', cap', hu12, hIm, hcap⟩ := imgs_at hO9 hT9.dv.blk2 hT9.dv.map2
        subst hu12
        have hwr := twrite_any w.heap.size ga g m leafA (fuseM d1 (1 + cut % 64) kt) A' cap' imgs w9 hT9 hIm hcap (by omega) (fun x hx => by have := (HM.out x hx).2; omega) (show d1.cmds < _ by omega)
        rw [← HD3.out] at hwr
        clear hdg hdm hT9 hO9 hIm hcap hD9 hk9 HT HB HO
        go_wp2_with fail
        refine hwr.mono ?_
        clear hwr
        rintro e w10 ⟨rfl, hT10, hk10⟩
        have HB10 := Lib.hid (HB9.out.trans hk10.below); have HT10 := Lib.hid hT10
        clear hT10 hk10 HB9
        go_wp2_with fail
        refine (devon_any w.heap.size g m d3.2 w10 HT10.out.dv).mono ?_
        rintro e w11 ⟨rfl, hD11, hk11⟩
        have HT11 := Lib.hid (HT10.out.kept hD11 rfl hk11); have HB11 := Lib.hid (HB10.out.trans hk11.below)
        clear hD11 hk11 HT10 HB10
        obtain ⟨c, hc7, e1, e2, e3, e4, e5⟩ := leaves_end HT11.out.dv.fits HC3.out.2 rfl rfl HPL.out HOW.out
        have hr1 := repair_any w.heap.size ga g m leafA (onM d3.2) w11 HT11.out (by have := HC3.out.1; show d3.2.cmds < _; omega) rfl
        have hcm : (trepairM leafA (onM d3.2)).2.cmds ≤ 1000 := Nat.le_trans (trepair_cmds leafA (onM d3.2) rfl) (by have := HC3.out.1; show d3.2.cmds + 2 * 8 + 1 ≤ _; omega)
        generalize trepairM leafA (onM d3.2) = r1 at *
        obtain ⟨⟨n1, n2⟩, d5⟩ := r1
        dsimp only at hr1 e1 e2 e3 e4 e5 hcm
        injection e1 with e1 e1'
        subst e1 e1'
        have hr2 := fun W hW => repair_any w.heap.size ga g m leafA d5 W hW (by omega) e3
        have hr3 := fun W hW => tread_any w.heap.size ga g m leafA d5 7 W hW (by omega)
        rw [e4] at hr2
        rw [e5] at hr3
        dsimp only at hr2 hr3
        have hc8 : (c : Int) ≤ 7 := by omega
        have HR2 := Lib.hid hr2; have HR3 := Lib.hid hr3
        clear e2 e3 e4 e5 hr2 hr3 HPL HOW HC3 HT11 HM HD3
        go_wp2_with fail
        refine hr1.mono ?_
        clear hr1
        rintro e w12 ⟨rfl, hT12, hk12⟩
        have HB12 := Lib.hid (HB11.out.trans hk12.below); have HT12 := Lib.hid hT12
        clear hT12 hk12 HB11
        go_wp2_with fail
        refine (HR2.out w12 HT12.out).mono ?_
        rintro e w13 ⟨rfl, hT13, hk13⟩
        have HB13 := Lib.hid (HB12.out.trans hk13.below); have HT13 := Lib.hid hT13
        clear hT13 hk13 HB12 HT12 HR2
        go_wp2_with fail
        refine (HR3.out w13 HT13.out).mono ?_
        rintro e w14 ⟨rfl, hb14⟩
        have HB14 := Lib.hid (HB13.out.trans (hb14.mono (below_sz HB13.out (Nat.le_refl _))))
        clear hb14 HB13 HT13 HR3
        go_wp2_with fail
        go_ret
        exact ⟨rfl, HB14.out⟩
end Go.Proofs.YtfkhgmdnajiabaaDoor
