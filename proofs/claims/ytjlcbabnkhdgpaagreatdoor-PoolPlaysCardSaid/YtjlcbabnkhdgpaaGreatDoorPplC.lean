/-
  PoolPlays: the document's calls, said with the pool's own words.
-/
import Derived.Test.YtjlcbabnkhdgpaaGreatDoorPinsE
namespace Go.Proofs.YtjlcbabnkhdgpaaGreatDoor
section
set_option linter.unusedSimpArgs false
set_option linter.unusedVariables false
open Go.RowKit Go.Maps

/-- A frame of the document's: its page, what it holds. -/
abbrev Fr4 := Int × FrM
def f4C (x : Fr4) : List Value := [.int .i64 x.1, .int .i64 (x.2.pins : Int), .string (bs x.2.bytes), .bool x.2.dirty]
def f4Cells (F : List Fr4) : List Value := F.flatMap f4C
structure Doc where
  most : Int
  F : List Fr4
  disk : List (List UInt8)
  asked : List Int
  refuse : Bool
theorem f4Cells_length (F : List Fr4) : (f4Cells F).length = F.length * 4 := by
  unfold f4Cells
  induction F with
  | nil => rfl
  | cons x F ih => rw [List.flatMap_cons, List.length_append, ih]; simp [f4C]; omega
theorem f4Cells_append (F G : List Fr4) : f4Cells (F ++ G) = f4Cells F ++ f4Cells G := by simp [f4Cells]
theorem f4Cells_one (F : List Fr4) : ∀ u ∈ f4Cells F, u.oneCell' = true := by
  intro u hu
  obtain ⟨x, _, hx⟩ := List.mem_flatMap.1 hu
  simp only [f4C, List.mem_cons, List.not_mem_nil, or_false] at hx
  rcases hx with rfl | rfl | rfl | rfl <;> rfl
theorem f4Cells_at (F : List Fr4) (i : Nat) (hi : i < F.length) (j : Nat) (hj : j < 4) : (f4Cells F)[i * 4 + j]? = (f4C F[i])[j]? := by
  induction F generalizing i with
  | nil => cases hi
  | cons x F ih =>
    rw [show f4Cells (x :: F) = f4C x ++ f4Cells F by simp [f4Cells]]
    have h4 : (f4C x).length = 4 := rfl
    cases i with
    | zero =>
      rw [List.getElem?_append_left (by omega)]
      simp
    | succ i =>
      rw [List.getElem?_append_right (by omega), h4, show (i + 1) * 4 + j - 4 = i * 4 + j by omega]
      exact ih i (by simpa using hi)
theorem f4Cells_take (F : List Fr4) (i : Nat) : (f4Cells F).take (i * 4) = f4Cells (F.take i) := by
  induction F generalizing i with
  | nil => simp [f4Cells]
  | cons x F ih =>
    cases i with
    | zero => simp [f4Cells]
    | succ i =>
      rw [show f4Cells (x :: F) = f4C x ++ f4Cells F by simp [f4Cells], show (i + 1) * 4 = (f4C x).length + i * 4 by simp [f4C]; omega, List.take_length_add_append, ih]
      simp [f4Cells]
theorem f4Cells_drop (F : List Fr4) (i : Nat) : (f4Cells F).drop (i * 4) = f4Cells (F.drop i) := by
  induction F generalizing i with
  | nil => simp [f4Cells]
  | cons x F ih =>
    cases i with
    | zero => simp
    | succ i =>
      rw [show f4Cells (x :: F) = f4C x ++ f4Cells F by simp [f4Cells], show (i + 1) * 4 = (f4C x).length + i * 4 by simp [f4C]; omega, List.drop_length_add_append, ih]
      simp
theorem el4 : El Tryz.prog 51 58 4 40 := El.of Tryz.underlying51 (by decide) (by kernel_rfl)
/-- The document's pool's blocks. -/
structure DocAt (n0 : Nat) (w : World) (pb : Nat) (vF vD vA : Value) (D : Doc) : Prop where
  at0 : n0 ≤ w.heap.size
  pbn : n0 ≤ pb
  blk : Blk w pb 53 #[.int .i64 D.most, vF, vD, vA, .bool D.refuse]
  rF : w.ownsRow n0 58 4 vF D.F.length (f4Cells D.F)
  rD : Strs n0 w vD D.disk
  rA : Ints n0 w vA D.asked
section
variable {n0 pb : Nat} {w w' : World} {vF vD vA : Value} {D : Doc}
theorem DocAt.fr {F : Nat → Prop} (h : DocAt n0 w pb vF vD vA D) (hf : Fr F w w') (h1 : ¬ F pb) (h2 : ∀ b, vF.ownBlock = some b → ¬ F b) (h3 : ∀ b, vD.ownBlock = some b → ¬ F b) (h4 : ∀ b, vA.ownBlock = some b → ¬ F b) : DocAt n0 w' pb vF vD vA D :=
  ⟨Nat.le_trans h.at0 hf.size, h.pbn, hf.blk h.blk h1, hf.own h.rF h2, hf.own h.rD h3, hf.own h.rA h4⟩
theorem DocAt.up (h : DocAt n0 w pb vF vD vA D) (hb : Below w.heap.size w w') : DocAt n0 w' pb vF vD vA D :=
  h.fr (Fr.up (F := fun _ => False) hb) id (fun _ _ => id) (fun _ _ => id) (fun _ _ => id)
theorem DocAt.cells (h : DocAt n0 w pb vF vD vA D) : w.cell? ⟨pb, 0, none⟩ = some (.int .i64 D.most) ∧ w.cell? ⟨pb, 1, none⟩ = some vF ∧ w.cell? ⟨pb, 2, none⟩ = some vD ∧ w.cell? ⟨pb, 3, none⟩ = some vA ∧ w.cell? ⟨pb, 4, none⟩ = some (.bool D.refuse) :=
  ⟨h.blk.cell 0, h.blk.cell 1, h.blk.cell 2, h.blk.cell 3, h.blk.cell 4⟩
theorem row4_form {v : Value} {F : List Fr4} (h : w.ownsRow n0 58 4 v F.length (f4Cells F)) : ∃ A c, v = .slice A F.length c := by
  rcases h.2 with ⟨h1, h2⟩ | ⟨g, cap, cur, h1, _⟩
  · exact ⟨none, 0, by rw [h1, h2]⟩
  · exact ⟨_, _, h1⟩
theorem row4_cells {v : Value} {F : List Fr4} (h : w.ownsRow n0 58 4 v F.length (f4Cells F)) (i : Nat) (hi : i < F.length) :
    ∃ b c, v = .slice (some ⟨b, 0, none⟩) F.length c ∧ w.cell? ⟨b, i * 4, none⟩ = some (.int .i64 F[i].1) ∧ w.cell? ⟨b, i * 4 + 1, none⟩ = some (.int .i64 (F[i].2.pins : Int)) ∧ w.cell? ⟨b, i * 4 + 2, none⟩ = some (.string (bs F[i].2.bytes)) ∧ w.cell? ⟨b, i * 4 + 3, none⟩ = some (.bool F[i].2.dirty) ∧
      (∀ j, w.frozen? ⟨b, j, none⟩ = false) ∧ n0 ≤ b ∧ ∃ cur, Blk w b 58 cur := by
  rcases h.2 with ⟨h1, h2⟩ | ⟨g, cap, cur, h1, hg, hh, _⟩
  · omega
  · have hc := fun j v hv => h.cells (g := g) (by rw [h1]; rfl) j v hv
    have hB : Blk w g 58 cur := hh
    have ad : ∀ j, (⟨g, 0, none⟩ : Addr).add j = ⟨g, j, none⟩ := fun j => by unfold Addr.add; split <;> simp_all
    refine ⟨g, cap, h1, ?_, ?_, ?_, ?_, fun j => hB.frozen j, hg, cur, hB⟩
    · have := hc (i * 4 + 0) _ ((f4Cells_at F i hi 0 (by decide)).trans rfl); rwa [ad] at this
    · have := hc (i * 4 + 1) _ ((f4Cells_at F i hi 1 (by decide)).trans rfl); rwa [ad] at this
    · have := hc (i * 4 + 2) _ ((f4Cells_at F i hi 2 (by decide)).trans rfl); rwa [ad] at this
    · have := hc (i * 4 + 3) _ ((f4Cells_at F i hi 3 (by decide)).trans rfl); rwa [ad] at this
end
def findI (F : List Fr4) (k : Int) : Int := match F.findIdx? (fun x => x.1 == k) with | some i => (i : Int) | none => -1
section
variable {n0 pb : Nat} {vF vD vA : Value} {D : Doc}
theorem findI_some {F : List Fr4} {k : Int} {i : Nat} (hi : i < F.length) (h1 : F[i].1 = k) (h2 : ∀ j (hj : j < i), (F[j]'(Nat.lt_trans hj hi)).1 ≠ k) : findI F k = i := by
  have : F.findIdx? (fun x => x.1 == k) = some i := by
    rw [List.findIdx?_eq_some_iff_getElem]
    exact ⟨hi, by simp [h1], fun j hj => by simpa using h2 j hj⟩
  unfold findI
  rw [this]
theorem findI_none {F : List Fr4} {k : Int} (h : ∀ j (hj : j < F.length), F[j].1 ≠ k) : findI F k = -1 := by
  have : F.findIdx? (fun x => x.1 == k) = none := by
    rw [List.findIdx?_eq_none_iff]
    intro x hx
    obtain ⟨j, hj, rfl⟩ := List.mem_iff_getElem.1 hx
    simpa using h j hj
  unfold findI
  rw [this]
set_option maxHeartbeats 1600000 in
set_option maxRecDepth 100000 in
theorem rfind_any (w : World) (k : Int) (h : DocAt n0 w pb vF vD vA D) (hl : D.F.length ≤ 1000) :
    Calls Tryz.prog 23 #[.pointer (some ⟨pb, 0, none⟩), .int .i64 k] w fun e w' => e = .returned (.int .i64 (findI D.F k)) ∧ w = w' := by
  obtain ⟨A, c, hv⟩ := row4_form h.rF
  obtain ⟨_, c1, _⟩ := h.cells
  rw [hv] at c1
  have HF := Lib.hid h.rF; have HV := Lib.hid hv
  clear h hv
  go_enter Tryz.func23, Tryz.ntmps23
  go_wp2_with fail
  go_loop [5] (fun i => ∃ j : Nat, j ≤ D.F.length ∧ i = .int .i64 j ∧ ∀ m (hm : m < D.F.length), m < j → D.F[m].1 ≠ k) (fun i => D.F.length - (intOf i).toNat)
  case atStart => exact ⟨0, Nat.zero_le _, rfl, fun m _ hm => by omega⟩
  case round =>
    obtain ⟨j, hj, rfl, hno⟩ := hrel
    by_cases hlt : j < D.F.length
    · obtain ⟨b, c', e1, e2, _⟩ := row4_cells HF.out j hlt
      rw [HV.out] at e1
      injection e1 with e1 _ _
      subst e1
      have r1 : (j : Int) < (D.F.length : Int) := by omega
      obtain ⟨x, hx⟩ : ∃ x, x = D.F[j].1 := ⟨_, rfl⟩
      rw [← hx] at e2
      have HNO := Lib.hid hno
      by_cases hk : x = k
      · have HR : Hid (findI D.F k = j) := Lib.hid (findI_some hlt (by rw [← hx]; exact hk) (fun m hm => hno m _ hm))
        subst hk
        clear hx hno
        go_wp2_with fail
        go_ret
        exact ⟨by rw [HR.out]; rfl, rfl⟩
      · have HX := Lib.hid hx
        clear hx hno
        go_wp2_with fail
        go_round
        case measure => simp only [intOf]; omega
        case rel => exact ⟨j + 1, by omega, by go_num, fun m hm hmj => if e : m = j then by subst e; rw [← HX.out]; exact hk else HNO.out m hm (by omega)⟩
    · have hjn : j = D.F.length := by omega
      have r1 : ¬ (j : Int) < (D.F.length : Int) := by omega
      have HR : Hid (findI D.F k = -1) := Lib.hid (findI_none (fun m hm => hno m hm (by omega)))
      clear hno
      go_wp2_with fail
      go_ret
      exact ⟨by rw [HR.out]; rfl, rfl⟩
end
set_option maxHeartbeats 1600000 in
set_option maxRecDepth 100000 in
theorem rnumber_any (w : World) (s : List UInt8) (hs : 6 ≤ s.length) (hs2 : s.length ≤ 140737488355328) :
    Calls Tryz.prog 53 #[.string (bs s)] w fun e w' => e = .returned (.int .i64 (lsnB s : Nat)) ∧ w = w' := by
  go_enter Tryz.func53, Tryz.ntmps53
  go_wp2_with fail
  go_loop [3, 4] (fun n i => ∃ j : Nat, j ≤ 6 ∧ i = .int .i64 j ∧ n = .int .i64 (getB (s.take j) : Nat)) (fun _ i => 6 - (intOf i).toNat)
  case atStart => exact ⟨0, Nat.zero_le _, rfl, rfl⟩
  case round =>
    obtain ⟨j, hj, rfl, rfl⟩ := hrel
    by_cases hlt : j < 6
    · have hlts : j < s.length := by omega
      have hb := (s[j]'hlts).toNat_lt
      have hg := getB_lt (s.take j)
      have hp : 256 ^ (s.take j).length ≤ 256 ^ 5 := Nat.pow_le_pow_right (by decide) (by simp; omega)
      have hn : getB (s.take (j + 1)) = getB (s.take j) * 256 + (s[j]'hlts).toNat := by rw [List.take_succ_eq_append_getElem hlts, getB_snoc]
      obtain ⟨a, ha⟩ : ∃ a, a = getB (s.take j) := ⟨_, rfl⟩
      rw [← ha] at hg hn ⊢
      have ha2 : a < 1099511627776 := Nat.lt_of_lt_of_le hg hp
      have r1 : IntKind.i64.wrap (256 * (a : Int)) = 256 * (a : Int) := by rw [IntKind.wrap_i64]; omega
      have r2 : IntKind.i64.wrap (256 * (a : Int) + ((s[j]'hlts).toNat : Int)) = 256 * (a : Int) + ((s[j]'hlts).toNat : Int) := by rw [IntKind.wrap_i64]; omega
      have r4 : IntKind.i64.wrap ((s[j]'hlts).toNat : Int) = ((s[j]'hlts).toNat : Int) := by rw [IntKind.wrap_i64]; omega
      have r3 : (j : Int) < 6 := by omega
      have hlts2 : j < (bs s).size := by simpa using hlts
      have HN := Lib.hid hn
      clear hg hp ha hn
      go_wp2_with fail
      go_round
      case measure => simp only [intOf]; omega
      case rel =>
        refine ⟨j + 1, by omega, by go_num, ?_⟩
        rw [HN.out, bs_get]
        congr 1
        unfold wrap64
        omega
    · have hj6 : j = 6 := by omega
      subst hj6
      have r3 : ¬ (((6 : Nat) : Int) < 6) := by decide
      go_wp2_with fail
      go_ret
      exact ⟨rfl, rfl⟩
/-- What a slice of numbers reads as, cell by cell. -/
theorem IntsAt.cell {w : World} {v : Value} {xs : List Int} (h : IntsAt w v xs) : ∃ A c, v = .slice A xs.length c ∧ ∀ i (hi : i < xs.length), ∃ b o, A = some ⟨b, o, none⟩ ∧ w.cell? ⟨b, o + i, none⟩ = some (.int .i64 xs[i]) := by
  obtain ⟨A, c, rfl, h1, h2⟩ := h
  refine ⟨A, c, rfl, fun i hi => ?_⟩
  cases A with
  | none => have := (h1 rfl).2; rw [this] at hi; cases hi
  | some ad =>
    have hc := h2 ad rfl i _ (by rw [List.getElem?_map, List.getElem?_eq_getElem hi]; rfl)
    have hs := World.cell?_spot (h2 ad rfl 0 _ (by rw [List.getElem?_map, List.getElem?_eq_getElem (by omega)]; rfl))
    obtain ⟨b, o, sp⟩ := ad
    have hsp : sp = none := by simpa [Addr.add] using hs
    subst hsp
    rw [Addr.add0] at hc
    exact ⟨b, o, rfl, hc⟩
set_option maxHeartbeats 1600000 in
set_option maxRecDepth 100000 in
theorem numbers_any (w : World) (u v : Value) (xs ys : List Int) (hu : IntsAt w u xs) (hv : IntsAt w v ys) (hl : xs.length ≤ 1000000) (hl2 : ys.length ≤ 1000000) :
    Calls Tryz.prog 29 #[u, v] w fun e w' => e = .returned (.bool (decide (xs = ys))) ∧ Below w.heap.size w w' := by
  obtain ⟨A, c, rfl, hx⟩ := hu.cell
  obtain ⟨B, d, rfl, hy⟩ := hv.cell
  clear hu hv
  by_cases hle : xs.length = ys.length
  · have HX := Lib.hid hx; have HY := Lib.hid hy
    have hleI : (xs.length : Int) = (ys.length : Int) := by omega
    clear hx hy
    go_enter Tryz.func29, Tryz.ntmps29
    go_wp2_with fail
    go_loopg [5] xs.length (fun gh i wr => ∃ k : Nat, k ≤ xs.length ∧ gh = xs.length - k ∧ i = .int .i64 k ∧ xs.take k = ys.take k ∧ Below w.heap.size w wr)
    case atStart => exact ⟨0, Nat.zero_le _, rfl, rfl, rfl, Below.refl _ _⟩
    case round =>
      obtain ⟨k, hk, rfl, rfl, he, hB⟩ := hrel
      by_cases hlt : k < xs.length
      · have hlt2 : k < ys.length := by omega
        obtain ⟨b1, o1, rfl, c1⟩ := HX.out k hlt
        obtain ⟨b2, o2, rfl, c2⟩ := HY.out k hlt2
        obtain ⟨x, hx⟩ : ∃ x, x = xs[k] := ⟨_, rfl⟩
        obtain ⟨y, hy⟩ : ∃ y, y = ys[k] := ⟨_, rfl⟩
        rw [← hx] at c1
        rw [← hy] at c2
        have d1 : wr.cell? ⟨b1, o1 + k, none⟩ = some (.int .i64 x) := up_cell hB c1
        have d2 : wr.cell? ⟨b2, o2 + k, none⟩ = some (.int .i64 y) := up_cell hB c2
        have r1 : (k : Int) < (xs.length : Int) := by omega
        have r2 : (k : Int) < (ys.length : Int) := by omega
        have HB := Lib.hid hB
        clear c1 c2 hB
        have hstep : x = y → xs.take (k + 1) = ys.take (k + 1) := fun e => by rw [List.take_succ_eq_append_getElem hlt, List.take_succ_eq_append_getElem hlt2, he, ← hx, ← hy, e]
        have hne : x ≠ y → xs ≠ ys := fun e e2 => e (by subst e2; rw [hx, hy])
        have HS := Lib.hid hstep; have HN := Lib.hid hne
        clear hstep hne hx hy he
        go_wp2_with fail
        go_quiet (fail)
        have HB2 := Lib.hid (below_drewN HB.out nq)
        generalize wr.drewN nq = wA at *
        by_cases hxy : x = y
        · have hb : (x != y) = false := by simp [hxy]
          rw [hb]
          clear hb
          go_wp2_with fail
          go_roundg (xs.length - (k + 1))
          case measure => omega
          case rel => exact ⟨k + 1, by omega, rfl, by go_num, HS.out hxy, HB2.out⟩
        · have hb : (x != y) = true := by simp [hxy]
          rw [hb]
          clear hb
          have HD : Hid (decide (xs = ys) = false) := Lib.hid (decide_eq_false (HN.out hxy))
          go_wp2_with fail
          go_ret
          exact ⟨by rw [HD.out]; rfl, HB2.out⟩
      · have hkn : k = xs.length := by omega
        have HD : Hid (decide (xs = ys) = true) := Lib.hid (by
          rw [hkn, List.take_length, hle, List.take_length] at he
          exact decide_eq_true he)
        have r1 : ¬ (k : Int) < (xs.length : Int) := by omega
        have HB := Lib.hid hB
        clear he hB
        go_wp2_with fail
        go_ret
        exact ⟨by rw [HD.out]; rfl, HB.out⟩
  · have HD : Hid (decide (xs = ys) = false) := Lib.hid (decide_eq_false (fun e => hle (by rw [e])))
    have hne : ¬ (xs.length : Int) = (ys.length : Int) := by omega
    clear hx hy
    go_enter Tryz.func29, Tryz.ntmps29
    go_wp2_with fail
    go_ret
    exact ⟨by rw [HD.out]; rfl, Below.refl _ _⟩
end
end Go.Proofs.YtjlcbabnkhdgpaaGreatDoor
namespace Go.Proofs.YtjlcbabnkhdgpaaGreatDoor
section
set_option linter.unusedSimpArgs false
set_option linter.unusedVariables false
open Go.RowKit Go.Maps

section
variable {S T : TypeId} {k bytes : Nat}
/-- append(v, xs...) to a row of one's own, all of whose blocks are new. -/
theorem row_more (hE : El Tryz.prog S T k bytes) (ty : TypeId) {B n m : Nat} {w0 w : World} {v s : Value} {xs news : List Value} (hb : Below B w0 w) (hB : B ≤ w.heap.size) (ho : w.ownsRow B T k v n xs) (hs : CellsAt w s m news) (hl : news.length = m * k) (h1 : ∀ u ∈ news, u.oneCell' = true) (hn : n + m ≤ 3000000) (hby : bytes ≤ 1000) :
    ∃ v' w', (Builtin.append_ #[S, S] ty #[v, s]).run Tryz.prog w = .ok v' w' ∧ w'.ownsRow B T k v' (n + m) (xs ++ news) ∧ Below B w0 w' ∧ B ≤ w'.heap.size ∧ w.grownBy w' v.ownBlock := by
  obtain ⟨v', w', hr, q1, q2, q3⟩ := row_append hE ty B v n m xs news s w ho hs hl h1 hn hby hB
  exact ⟨v', w', hr, q1, hb.grown q2 hB (fun g e => (ho.lt g e).1), Nat.le_trans hB q2.size, q2⟩
/-- append([]T{}, xs...). -/
theorem row_copy (hE : El Tryz.prog S T k bytes) (ty : TypeId) {B m : Nat} {w0 w : World} {s : Value} {news : List Value} (hb : Below B w0 w) (hB : B ≤ w.heap.size) (hs : CellsAt w s m news) (hl : news.length = m * k) (h1 : ∀ u ∈ news, u.oneCell' = true) (hn : m ≤ 3000000) (hby : bytes ≤ 1000) :
    ∃ v' w', (Builtin.append_ #[S, S] ty #[.slice (some ⟨w.heap.size, 0, none⟩) 0 0, s]).run Tryz.prog (w.alloc (.cells #[] T)) = .ok v' w' ∧ w'.ownsRow B T k v' m news ∧ Below B w0 w' ∧ B ≤ w'.heap.size ∧ (∀ b, v'.ownBlock = some b → w.heap.size ≤ b) ∧ Below w.heap.size w w' := by
  have hb1 : Below w.heap.size w (w.alloc (.cells #[] T)) := (Below.refl _ _).alloc (Nat.le_refl _) _
  have ho : (w.alloc (.cells #[] T)).ownsRow w.heap.size T k (.slice (some ⟨w.heap.size, 0, none⟩) 0 0) 0 [] := World.ownsRow_made w #[] 0 (Nat.le_refl _) (by unfold maxLen; omega) (by simp)
  obtain ⟨v', w', hr, q1, q2, q3⟩ := row_append hE ty w.heap.size _ 0 m [] news s _ ho (hs.below hb1) hl h1 (by omega) hby hb1.size
  simp only [Nat.zero_add, List.nil_append] at q1
  have hb2 : Below w.heap.size w w' := hb1.grown q2 hb1.size (fun g e => (ho.lt g e).1)
  refine ⟨v', w', hr, ?_, hb.trans (hb2.mono hB), Nat.le_trans hB hb2.size, fun b e => (q1.lt b e).1, hb2⟩
  obtain ⟨h2, h3⟩ := q1
  exact ⟨h2, h3.imp id (fun ⟨g, cap, cur, a1, a2, a3⟩ => ⟨g, cap, cur, a1, Nat.le_trans hB a2, a3⟩)⟩
/-- append(v, x): one element, freshly laid. -/
theorem row_push (hE : El Tryz.prog S T k bytes) (ty : TypeId) {B n : Nat} {w0 w : World} {v : Value} {xs es : List Value} (hb : Below B w0 w) (hB : B ≤ w.heap.size) (ho : w.ownsRow B T k v n xs) (hl : es.length = k) (h1 : ∀ u ∈ es, u.oneCell' = true) (hn : n ≤ 2000000) (hby : bytes ≤ 1000) :
    ∃ v' w', (Builtin.append_ #[S, S] ty #[v, .slice (some ⟨w.heap.size, 0, none⟩) 1 1]).run Tryz.prog (w.alloc (.cells es.toArray T)) = .ok v' w' ∧ w'.ownsRow B T k v' (n + 1) (xs ++ es) ∧ Below B w0 w' ∧ B ≤ w'.heap.size := by
  have hb1 : Below w.heap.size w (w.alloc (.cells es.toArray T)) := (Below.refl _ _).alloc (Nat.le_refl _) _
  have ho1 : (w.alloc (.cells es.toArray T)).ownsRow B T k v n xs := ownsRow_grown ho (grown_of_below hb1 none) (by simp)
  obtain ⟨v', w', hr, q1, q2, q3, _⟩ := row_more hE ty (hb.trans (hb1.mono hB)) (Nat.le_trans hB hb1.size) ho1 (s := .slice (some ⟨w.heap.size, 0, none⟩) 1 1) (news := es) (m := 1) ⟨_, _, rfl, (fun h => by cases h), fun ad e j u hu => by cases e; exact (Blk.made w es.toArray T).news j u hu⟩ (by omega) h1 (by omega) hby
  exact ⟨v', w', hr, q1, q2, q3⟩
end
theorem findI_cases (F : List Fr4) (k : Int) : (∃ (i : Nat) (hi : i < F.length), findI F k = (i : Int) ∧ F[i].1 = k ∧ F.find? (fun x => x.1 == k) = some F[i]) ∨ (findI F k = -1 ∧ F.find? (fun x => x.1 == k) = none) := by
  cases h : F.findIdx? (fun x => x.1 == k) with
  | none =>
    right
    refine ⟨by unfold findI; rw [h], ?_⟩
    rw [List.findIdx?_eq_none_iff] at h
    rw [List.find?_eq_none]
    exact fun x hx => by simpa using h x hx
  | some i =>
    left
    have h' := h
    rw [List.findIdx?_eq_some_iff_getElem] at h'
    obtain ⟨hi, hp, hno⟩ := h'
    refine ⟨i, hi, by unfold findI; rw [h], by simpa using hp, ?_⟩
    rw [List.find?_eq_some_iff_getElem]
    exact ⟨hp, i, hi, rfl, fun j hj => by simpa using hno j hj⟩
/-- Is a page told by Pages? -/
def toldB (D : Doc) (b : Bool) (k : Int) : Bool := match D.F.find? (fun x => x.1 == k) with | some x => !b || x.2.dirty | none => false
def pagesTo (D : Doc) (b : Bool) (n : Nat) : List Int := ((List.range n).filter fun (i : Nat) => toldB D b (i : Int)).map fun (i : Nat) => (i : Int)
theorem pagesTo_succ (D : Doc) (b : Bool) (n : Nat) : pagesTo D b (n + 1) = pagesTo D b n ++ if toldB D b (n : Int) = true then [(n : Int)] else [] := by
  unfold pagesTo
  rw [List.range_succ, List.filter_append, List.map_append]
  congr 1
  by_cases h : toldB D b (n : Int) = true
  · rw [if_pos h, List.filter_cons, if_pos h]; rfl
  · rw [if_neg h, List.filter_cons, if_neg h]; rfl
theorem pagesTo_length (D : Doc) (b : Bool) (n : Nat) : (pagesTo D b n).length ≤ n := by
  unfold pagesTo
  rw [List.length_map]
  exact Nat.le_trans (List.length_filter_le _ _) (by simp)
section
variable {n0 pb : Nat} {vF vD vA : Value} {D : Doc}
set_option maxHeartbeats 3200000 in
set_option maxRecDepth 100000 in
theorem rpages_any (w : World) (b : Bool) (h : DocAt n0 w pb vF vD vA D) (hl : D.F.length ≤ 1000) (hd : D.disk.length ≤ 1000) :
    Calls Tryz.prog 27 #[.pointer (some ⟨pb, 0, none⟩), .bool b] w fun e w' => ∃ v, e = .returned v ∧ Ints w.heap.size w' v (pagesTo D b D.disk.length) ∧ Below w.heap.size w w' := by
  have H := Lib.hid h
  obtain ⟨AD, cD, hvD⟩ := h.rD.slice
  have HVD := Lib.hid hvD
  clear h hvD
  go_enter Tryz.func27, Tryz.ntmps27
  go_wp2_with fail
  go_loopg [5, 6] D.disk.length (fun gh v i wr => ∃ j : Nat, j ≤ D.disk.length ∧ gh = D.disk.length - j ∧ i = .int .i64 j ∧ Ints w.heap.size wr v (pagesTo D b j) ∧ Below w.heap.size w wr)
  case atStart => exact ⟨0, Nat.zero_le _, rfl, rfl, World.ownsRow_nil _ _ _ _, Below.refl _ _⟩
  case round =>
    obtain ⟨j, hj, rfl, rfl, hI, hB⟩ := hrel
    have hD := H.out.up hB
    obtain ⟨_, c1, c2, _, _⟩ := hD.cells
    rw [HVD.out] at c2
    by_cases hlt : j < D.disk.length
    · have hfi := rfind_any wr (j : Int) hD hl
      have hlen := pagesTo_length D b j
      have hsucc := pagesTo_succ D b j
      have r1 : (j : Int) < (D.disk.length : Int) := by omega
      have HI := Lib.hid hI; have HB := Lib.hid hB; have HLEN := Lib.hid hlen
      rcases findI_cases D.F (j : Int) with ⟨i, hi, e1, e2, e3⟩ | ⟨e1, e3⟩
      · obtain ⟨bF, cF, hvF, _, _, _, q3, _⟩ := row4_cells hD.rF i hi
        rw [hvF] at c1
        rw [e1] at hfi
        have htold : toldB D b (j : Int) = (!b || D.F[i].2.dirty) := by unfold toldB; rw [e3]
        rw [htold] at hsucc
        obtain ⟨dy, hdy⟩ : ∃ dy, dy = D.F[i].2.dirty := ⟨_, rfl⟩
        rw [← hdy] at q3 hsucc
        have r2 : (i : Int) < (D.F.length : Int) := by omega
        have hp0 : (0 : Int) ≤ (i : Int) := Int.natCast_nonneg i
        obtain ⟨v', w4, hr, p1, p2, p3⟩ := row_push elI 22 HB.out HB.out.size HI.out (es := [Value.int .i64 (j : Int)]) rfl (by intro u hu; simp at hu; subst hu; rfl) (by have := HLEN.out; omega) (by decide)
        have HR := Lib.hid p1; have HB4 := Lib.hid p2; have HSU := Lib.hid hsucc
        clear hI hB hD hlen hsucc e1 e2 e3 htold hdy hvF p1 p2 p3
        have hpush : Hid ((!b || dy) = true → Ints w.heap.size w4 v' (pagesTo D b (j + 1))) := Lib.hid (fun e => by
          rw [HSU.out, if_pos e]
          have := HR.out
          unfold Ints
          rw [List.length_append, List.map_append]
          exact this)
        have hskip : Hid ((!b || dy) = false → Ints w.heap.size wr u5 (pagesTo D b (j + 1))) := Lib.hid (fun e => by
          rw [HSU.out, if_neg (by simp [e]), List.append_nil]
          exact HI.out)
        cases b with
        | false =>
          go_wp2_with fail
          refine hfi.mono ?_
          clear hfi
          rintro e w3 ⟨rfl, rfl⟩
          go_wp2_with (at_builtin; refine Lib.wpList_append_run _ rfl _ _ _ _ rfl _ _ rfl rfl _ _ hr ?_)
          go_roundg (D.disk.length - (j + 1))
          case measure => omega
          case rel => exact ⟨j + 1, by omega, rfl, by go_num, hpush.out rfl, HB4.out⟩
        | true =>
          cases dy with
          | true =>
            go_wp2_with fail
            refine hfi.mono ?_
            clear hfi
            rintro e w3 ⟨rfl, rfl⟩
            go_wp2_with (at_builtin; refine Lib.wpList_append_run _ rfl _ _ _ _ rfl _ _ rfl rfl _ _ hr ?_)
            go_roundg (D.disk.length - (j + 1))
            case measure => omega
            case rel => exact ⟨j + 1, by omega, rfl, by go_num, hpush.out rfl, HB4.out⟩
          | false =>
            go_wp2_with fail
            refine hfi.mono ?_
            clear hfi
            rintro e w3 ⟨rfl, rfl⟩
            go_wp2_with fail
            go_roundg (D.disk.length - (j + 1))
            case measure => omega
            case rel => exact ⟨j + 1, by omega, rfl, by go_num, hskip.out rfl, HB.out⟩
      · rw [e1] at hfi
        have htold : toldB D b (j : Int) = false := by unfold toldB; rw [e3]
        rw [htold, if_neg (by simp), List.append_nil] at hsucc
        have HSU := Lib.hid hsucc
        clear hI hB hD hlen hsucc e1 e3 htold
        go_wp2_with fail
        refine hfi.mono ?_
        clear hfi
        rintro e w3 ⟨rfl, rfl⟩
        go_wp2_with fail
        go_roundg (D.disk.length - (j + 1))
        case measure => omega
        case rel => exact ⟨j + 1, by omega, rfl, by go_num, by rw [HSU.out]; exact HI.out, HB.out⟩
    · have hjn : j = D.disk.length := by omega
      have r1 : ¬ (j : Int) < (D.disk.length : Int) := by omega
      rw [hjn] at hI
      have HI := Lib.hid hI; have HB := Lib.hid hB
      clear hI hB hD
      go_wp2_with fail
      go_ret
      exact ⟨_, rfl, HI.out, HB.out⟩
end
end
end Go.Proofs.YtjlcbabnkhdgpaaGreatDoor
namespace Go.Proofs.YtjlcbabnkhdgpaaGreatDoor
section
set_option linter.unusedSimpArgs false
set_option linter.unusedVariables false
open Go.RowKit Go.Maps

def at4 (F : List Fr4) (k : Int) : FrM := match F.find? (fun x => x.1 == k) with | some x => x.2 | none => ⟨[], 0, false⟩
def topD (F : List Fr4) (ns : List Int) : Nat := ns.foldl (fun t k => max t (lsnB (at4 F k).bytes)) 0
def putD (F : List Fr4) (disk : List (List UInt8)) (ns : List Int) : List (List UInt8) := ns.foldl (fun l k => l.set k.toNat (at4 F k).bytes) disk
def off4 (x : Fr4) : Fr4 := (x.1, { x.2 with dirty := false })
def cln4 (F : List Fr4) (ns : List Int) : List Fr4 := ns.foldl (fun G k => G.modify (findI F k).toNat off4) F
theorem topD_snoc (F : List Fr4) (ns : List Int) (k : Int) : topD F (ns ++ [k]) = max (topD F ns) (lsnB (at4 F k).bytes) := by unfold topD; rw [List.foldl_append]; rfl
theorem putD_snoc (F : List Fr4) (disk : List (List UInt8)) (ns : List Int) (k : Int) : putD F disk (ns ++ [k]) = (putD F disk ns).set k.toNat (at4 F k).bytes := by unfold putD; rw [List.foldl_append]; rfl
theorem cln4_snoc (F : List Fr4) (ns : List Int) (k : Int) : cln4 F (ns ++ [k]) = (cln4 F ns).modify (findI F k).toNat off4 := by unfold cln4; rw [List.foldl_append]; rfl
theorem putD_length (F : List Fr4) (disk : List (List UInt8)) (ns : List Int) : (putD F disk ns).length = disk.length := by
  induction ns using snoc_ind with
  | h0 => rfl
  | h1 ns n ih => rw [putD_snoc, List.length_set, ih]
theorem topD_le (F : List Fr4) (ns : List Int) : topD F ns ≤ 281474976710655 := by
  induction ns using snoc_ind with
  | h0 => exact Nat.zero_le _
  | h1 ns n ih => rw [topD_snoc]; exact Nat.max_le.2 ⟨ih, lsnB_lt _⟩
theorem cln4_length (F : List Fr4) (ns : List Int) : (cln4 F ns).length = F.length := by
  induction ns using snoc_ind with
  | h0 => rfl
  | h1 ns n ih => rw [cln4_snoc, List.length_modify, ih]
theorem cln4_same (F : List Fr4) (ns : List Int) (i : Nat) (hi : i < F.length) : ((cln4 F ns)[i]'(by rw [cln4_length]; exact hi)).1 = F[i].1 ∧ ((cln4 F ns)[i]'(by rw [cln4_length]; exact hi)).2.bytes = F[i].2.bytes := by
  induction ns using snoc_ind with
  | h0 => exact ⟨rfl, rfl⟩
  | h1 ns n ih =>
    simp only [cln4_snoc, List.getElem_modify]
    split <;> exact ih
theorem f4Cells_set (G : List Fr4) (i : Nat) (hi : i < G.length) (j : Nat) (hj : j < 4) (u : Value) (x' : Fr4) (hx : f4C x' = (f4C G[i]).set j u) : (f4Cells G).set (i * 4 + j) u = f4Cells (G.set i x') := by
  apply List.ext_getElem?
  intro m
  by_cases hm : m < G.length * 4
  · have h1 : m = (m / 4) * 4 + m % 4 := by omega
    have h2 : m / 4 < G.length := by omega
    have h4 : m % 4 < 4 := by omega
    have e1 : (f4Cells G)[m]? = (f4C G[m / 4])[m % 4]? := by
      have := f4Cells_at G (m / 4) h2 (m % 4) h4
      rwa [← h1] at this
    have e2 : (f4Cells (G.set i x'))[m]? = (f4C ((G.set i x')[m / 4]'(by simpa using h2)))[m % 4]? := by
      have := f4Cells_at (G.set i x') (m / 4) (by simpa using h2) (m % 4) h4
      rwa [← h1] at this
    rw [e2, List.getElem_set]
    by_cases hmi : i * 4 + j = m
    · have h5 : m / 4 = i := by omega
      have h6 : m % 4 = j := by omega
      rw [List.getElem?_set, if_pos hmi, if_pos (by rw [f4Cells_length]; omega), if_pos h5.symm, hx, h6]
      rw [List.getElem?_set, if_pos rfl, if_pos (show j < (f4C G[i]).length from hj)]
    · rw [List.getElem?_set, if_neg hmi, e1]
      by_cases h5 : i = m / 4
      · rw [if_pos h5, hx, List.getElem?_set, if_neg (by omega)]
        subst h5; rfl
      · rw [if_neg h5]
  · rw [List.getElem?_eq_none (by rw [List.length_set, f4Cells_length]; omega), List.getElem?_eq_none (by rw [f4Cells_length, List.length_set]; omega)]
theorem modify_set (G : List Fr4) (i : Nat) (hi : i < G.length) (f : Fr4 → Fr4) : G.modify i f = G.set i (f G[i]) := by
  apply List.ext_getElem
  · simp
  · intro m h1 h2
    rw [List.getElem_modify, List.getElem_set]
    by_cases e : i = m
    · subst e; simp
    · rw [if_neg e, if_neg e]
/-- A store into a frame of a row. -/
theorem row4_store {n0 b c n : Nat} {w : World} {G : List Fr4} (h : w.ownsRow n0 58 4 (.slice (some ⟨b, 0, none⟩) n c) G.length (f4Cells G)) (i : Nat) (hi : i < G.length) (j : Nat) (hj : j < 4) (u : Value) (x' : Fr4) (hx : f4C x' = (f4C G[i]).set j u) :
    (w.setCell ⟨b, i * 4 + j, none⟩ u).ownsRow n0 58 4 (.slice (some ⟨b, 0, none⟩) n c) (G.set i x').length (f4Cells (G.set i x')) := by
  obtain ⟨A, c', e⟩ := row4_form h
  injection e with _ e _
  subst e
  obtain ⟨q1, _⟩ := h.stored (i * 4 + j) u
  rw [f4Cells_set G i hi j hj u x' hx] at q1
  rw [List.length_set]
  exact q1
theorem at4_get {F : List Fr4} {k : Int} {x : Fr4} (h : F.find? (fun x => x.1 == k) = some x) : at4 F k = x.2 := by unfold at4; rw [h]
theorem row4_at {n0 b c n : Nat} {w : World} {F : List Fr4} (h : w.ownsRow n0 58 4 (.slice (some ⟨b, 0, none⟩) n c) F.length (f4Cells F)) (i : Nat) (hi : i < F.length) :
    w.cell? ⟨b, i * 4, none⟩ = some (.int .i64 F[i].1) ∧ w.cell? ⟨b, i * 4 + 1, none⟩ = some (.int .i64 (F[i].2.pins : Int)) ∧ w.cell? ⟨b, i * 4 + 2, none⟩ = some (.string (bs F[i].2.bytes)) ∧ w.cell? ⟨b, i * 4 + 3, none⟩ = some (.bool F[i].2.dirty) ∧ (∀ j, w.frozen? ⟨b, j, none⟩ = false) ∧ n0 ≤ b := by
  obtain ⟨b', c', e, h1, h2, h3, h4, h5, h6, _⟩ := row4_cells h i hi
  injection e with e _ _
  injection e with e
  injection e with e _ _
  subst e
  exact ⟨h1, h2, h3, h4, h5, h6⟩
/-- What the document's Write does. -/
def wr4 (D : Doc) (ns : List Int) : Int × Doc :=
  if ns = [] then (0, D) else if D.refuse = true then (9, { D with asked := D.asked ++ [(topD D.F ns : Int)] })
  else (0, { D with asked := D.asked ++ [(topD D.F ns : Int)], disk := putD D.F D.disk ns, F := cln4 D.F ns })
def DO (pb : Nat) (vF vD vA : Value) : Nat → Prop := fun b => b = pb ∨ some b = vF.ownBlock ∨ some b = vD.ownBlock ∨ some b = vA.ownBlock
/-- The document's pool behind a call. -/
def DocP (n0 : Nat) (w w' : World) (pb : Nat) (vF vD vA : Value) (D' : Doc) : Prop :=
  ∃ vF' vD' vA', DocAt n0 w' pb vF' vD' vA' D' ∧ Fr (fun b => b = pb) w w' ∧ ∀ b, DO pb vF' vD' vA' b → DO pb vF vD vA b ∨ w.heap.size ≤ b
section
variable {n0 pb base : Nat} {vF vD vA vp : Value} {D : Doc} {w w' : World}
theorem DocAt.blockNe (h : DocAt n0 w pb vF vD vA D) : (∀ b, vF.ownBlock = some b → b ≠ pb) ∧ (∀ b, vD.ownBlock = some b → b ≠ pb) ∧ (∀ b, vA.ownBlock = some b → b ≠ pb) :=
  ⟨fun b e e2 => (h.blk.notOwn h.rF (by decide)) (by rw [e, e2]), fun b e e2 => (h.blk.notOwn h.rD (by decide)) (by rw [e, e2]), fun b e e2 => (h.blk.notOwn h.rA (by decide)) (by rw [e, e2])⟩
/-- p.Asked, or another of its cells, is set. -/
theorem DocAt.setA (h : DocAt n0 w pb vF vD vA D) {v' : Value} {ks : List Int} (hA : Ints n0 w v' ks) : DocAt n0 (w.setCell ⟨pb, 3, none⟩ v') pb vF vD v' { D with asked := ks } := by
  obtain ⟨n1, n2, _⟩ := h.blockNe
  have hf := Fr.setCell w pb 3 v'
  refine ⟨by simpa [World.setCell] using h.at0, h.pbn, h.blk.set 3 v', hf.own h.rF n1, hf.own h.rD n2, hf.own hA (fun b e e2 => (h.blk.notOwn hA (by decide)) (by rw [e, e2]))⟩
theorem DocAt.setF (h : DocAt n0 w pb vF vD vA D) {v' : Value} {G : List Fr4} (hG : w.ownsRow n0 58 4 v' G.length (f4Cells G)) : DocAt n0 (w.setCell ⟨pb, 1, none⟩ v') pb v' vD vA { D with F := G } := by
  obtain ⟨_, n2, n3⟩ := h.blockNe
  have hf := Fr.setCell w pb 1 v'
  refine ⟨by simpa [World.setCell] using h.at0, h.pbn, h.blk.set 1 v', hf.own hG (fun b e e2 => (h.blk.notOwn hG (by decide)) (by rw [e, e2])), hf.own h.rD n2, hf.own h.rA n3⟩
theorem DocAt.setD (h : DocAt n0 w pb vF vD vA D) {v' : Value} {l : List (List UInt8)} (hL : Strs n0 w v' l) : DocAt n0 (w.setCell ⟨pb, 2, none⟩ v') pb vF v' vA { D with disk := l } := by
  obtain ⟨n1, _, n3⟩ := h.blockNe
  have hf := Fr.setCell w pb 2 v'
  refine ⟨by simpa [World.setCell] using h.at0, h.pbn, h.blk.set 2 v', hf.own h.rF n1, hf.own hL (fun b e e2 => (h.blk.notOwn hL (by decide)) (by rw [e, e2])), hf.own h.rA n3⟩
theorem own_low {B B' k n : Nat} {T : TypeId} {v : Value} {xs : List Value} (h : w.ownsRow B T k v n xs) (hB : B' ≤ B) : w.ownsRow B' T k v n xs := by
  obtain ⟨h2, h3⟩ := h
  exact ⟨h2, h3.imp id (fun ⟨g, cap, cur, a1, a2, a3⟩ => ⟨g, cap, cur, a1, Nat.le_trans hB a2, a3⟩)⟩
theorem strs_one (l : List (List UInt8)) : ∀ u ∈ strCells l, u.oneCell' = true := fun u hu => by obtain ⟨x, _, rfl⟩ := List.mem_map.1 hu; rfl
theorem elS : El Tryz.prog 47 9 1 16 := El.of Tryz.underlying47 (by decide) (by kernel_rfl)
/-- A cell of a row of numbers. -/
theorem Ints.cell1 {v : Value} {xs : List Int} (h : Ints base w v xs) (i : Nat) (hi : i < xs.length) : ∃ b c, v = .slice (some ⟨b, 0, none⟩) xs.length c ∧ w.cell? ⟨b, i, none⟩ = some (.int .i64 xs[i]) ∧ ∃ cur, Blk w b 3 cur := by
  rcases h.2 with ⟨h1, h2⟩ | ⟨g, cap, cur, h1, hg, hh, _⟩
  · omega
  · have hc := h.cells (g := g) (by rw [h1]; rfl) i (.int .i64 xs[i]) (by rw [List.getElem?_map, List.getElem?_eq_getElem hi]; rfl)
    rw [Addr.add0, Nat.zero_add] at hc
    exact ⟨g, cap, h1, hc, cur, hh⟩
theorem own_form {B k n : Nat} {T : TypeId} {v : Value} {xs : List Value} (h : w.ownsRow B T k v n xs) : ∃ A c, v = .slice A n c := by
  rcases h.2 with ⟨h1, h2⟩ | ⟨g, cap, cur, h1, _⟩
  · exact ⟨none, 0, by rw [h1, h2]⟩
  · exact ⟨_, _, h1⟩
theorem Ints.form {v : Value} {xs : List Int} (h : Ints base w v xs) : ∃ A c, v = .slice A xs.length c := by
  rcases h.2 with ⟨h1, h2⟩ | ⟨g, cap, cur, h1, _⟩
  · exact ⟨none, 0, by rw [h1, h2]⟩
  · exact ⟨_, _, h1⟩
theorem strs_storeN {b n c : Nat} {l : List (List UInt8)} (h : Strs n0 w (.slice (some ⟨b, 0, none⟩) n c) l) (hn : n0 ≤ w.heap.size) (j : Nat) (s : List UInt8) : Strs n0 (w.setCell ⟨b, j, none⟩ (.string (bs s))) (.slice (some ⟨b, 0, none⟩) n c) (l.set j s) ∧ w.grownBy (w.setCell ⟨b, j, none⟩ (.string (bs s))) (some b) :=
  ⟨(Two.store (v := .slice none 0 0) (ys := []) ⟨h, World.ownsRow_nil _ _ _ _, Or.inr (by simp [Value.ownBlock]), hn⟩ j s).one, grown_setCell w b j _⟩
theorem strs_cellN {b n c : Nat} {l : List (List UInt8)} (h : Strs n0 w (.slice (some ⟨b, 0, none⟩) n c) l) (hn : n0 ≤ w.heap.size) (j : Nat) (hj : j < l.length) : w.cell? ⟨b, j, none⟩ = some (.string (bs l[j])) ∧ w.frozen? ⟨b, j, none⟩ = false :=
  Two.cell (v := .slice none 0 0) (ys := []) ⟨h, World.ownsRow_nil _ _ _ _, Or.inr (by simp [Value.ownBlock]), hn⟩ j hj
set_option maxHeartbeats 16000000 in
set_option maxRecDepth 100000 in
theorem rwrite_any (w : World) (ns : List Int) (h : DocAt n0 w pb vF vD vA D) (hp : Ints base w vp ns) (hl : D.F.length ≤ 1000) (hpl : ns.length ≤ 1000) (hal : D.asked.length ≤ 1000000) (hdl : D.disk.length ≤ 1000)
    (hin : ∀ k ∈ ns, (0 ≤ k ∧ k < D.disk.length) ∧ ∃ (i : Nat) (hi : i < D.F.length), findI D.F k = (i : Int) ∧ D.F[i].1 = k ∧ D.F.find? (fun x => x.1 == k) = some D.F[i]) (h512 : ∀ x ∈ D.F, x.2.bytes.length = 512) :
    Calls Tryz.prog 26 #[.pointer (some ⟨pb, 0, none⟩), vp] w fun e w' => e = .returned (.int .i64 (wr4 D ns).1) ∧ DocP n0 w w' pb vF vD vA (wr4 D ns).2 := by
  obtain ⟨Ap, cp, rfl⟩ := hp.form
  by_cases hn : ns = []
  · have HR : Hid (wr4 D ns = (0, D)) := Lib.hid (by unfold wr4; rw [if_pos hn])
    have hz : (ns.length : Int) = 0 := by rw [hn]; rfl
    have H := Lib.hid h
    clear h hp hin h512
    go_enter Tryz.func26, Tryz.ntmps26
    go_wp2_with fail
    go_ret
    exact ⟨by rw [HR.out]; rfl, by rw [HR.out]; exact ⟨_, _, _, H.out, Fr.refl _ _, fun b e => Or.inl e⟩⟩
  · have hz : ((ns.length : Int) == 0) = false := by
      have := List.length_pos_iff.2 hn
      simp; omega
    obtain ⟨AA, cA, rfl⟩ := h.rA.form
    obtain ⟨AD, cD, rfl⟩ := h.rD.slice
    obtain ⟨AF, cF, rfl⟩ := row4_form h.rF
    have H := Lib.hid h; have HP := Lib.hid hp; have HIN := Lib.hid hin; have H5 := Lib.hid h512
    clear h hp hin h512
    go_enter Tryz.func26, Tryz.ntmps26
    go_wp2_with fail
    go_loopg [5, 6] ns.length (fun gh v i wr => ∃ k : Nat, k ≤ ns.length ∧ gh = ns.length - k ∧ i = .int .i64 k ∧ v = .int .i64 (topD D.F (ns.take k) : Nat) ∧ Below w.heap.size w wr)
    case atStart => exact ⟨0, Nat.zero_le _, rfl, rfl, rfl, Below.refl _ _⟩
    case round =>
      obtain ⟨k, hk, rfl, rfl, rfl, hB⟩ := hrel
      have hD := H.out.up hB
      have hP : Ints base wr (.slice Ap ns.length cp) ns := ownsRow_grown HP.out (grown_of_below hB none) (by simp)
      by_cases hlt : k < ns.length
      · obtain ⟨n, hnn⟩ : ∃ n, n = ns[k] := ⟨_, rfl⟩
        obtain ⟨⟨i0, i1⟩, fi, hfi, f1, f2, f3⟩ := HIN.out n (by rw [hnn]; exact List.getElem_mem hlt)
        obtain ⟨bp, cp', ep, cpk, _⟩ := hP.cell1 k hlt
        injection ep with ep _ ec
        subst ep ec
        rw [← hnn] at cpk
        obtain ⟨bF, cF', hvF, _, _, q2, _⟩ := row4_cells hD.rF fi hfi
        obtain ⟨_, c1, _⟩ := hD.cells
        injection hvF with hvF _ hcF
        subst hvF hcF
        have hfind := fun W (hW : Below wr.heap.size wr W) => rfind_any W n (hD.up hW) hl
        rw [f1] at hfind
        have hs5 := H5.out D.F[fi] (List.getElem_mem hfi)
        have hnum := fun W => rnumber_any W D.F[fi].2.bytes (by omega) (by omega)
        have htk : ns.take (k + 1) = ns.take k ++ [n] := by rw [hnn]; exact (List.take_append_getElem hlt).symm
        have htop : topD D.F (ns.take (k + 1)) = max (topD D.F (ns.take k)) (lsnB D.F[fi].2.bytes) := by rw [htk, topD_snoc, at4_get f3]
        obtain ⟨s, hs⟩ : ∃ s, s = D.F[fi].2.bytes := ⟨_, rfl⟩
        rw [← hs] at q2 hnum htop
        have r1 : (k : Int) < (ns.length : Int) := by omega
        have r2 : (fi : Int) < (D.F.length : Int) := by omega
        have r3 : (0 : Int) ≤ (fi : Int) := Int.natCast_nonneg fi
        have HB := Lib.hid hB; have HTOP := Lib.hid htop
        clear hP f1 f2 f3 hs5 htk htop hs hnn hB
        go_wp2_with fail
        refine wp_region_q (fun W => Below wr.heap.size wr W) (by kernel_rfl) (by kernel_rfl) (Below.refl _ _).drew ?_
        refine q_val (o := ⟨some 21, _, _, _, _, _⟩) (v := ?_) (by kernel_rfl) (fun W hW => ?_) ?_
        rotate_left
        · go_simp; rfl
        try simp only [Act.put, List.setIfInBounds_toArray, List.set_cons_zero, List.set_cons_succ]
        refine q_val (o := ⟨some 22, _, _, _, _, _⟩) (v := ?_) (by kernel_rfl) (fun W hW => ?_) ?_
        rotate_left
        · go_simp; rfl
        try simp only [Act.put, List.setIfInBounds_toArray, List.set_cons_zero, List.set_cons_succ]
        refine q_val (o := ⟨some 23, _, _, _, _, _⟩) (v := ?_) (by kernel_rfl) (fun W hW => ?_) ?_
        rotate_left
        · go_simp; rfl
        try simp only [Act.put, List.setIfInBounds_toArray, List.set_cons_zero, List.set_cons_succ]
        refine q_val (o := ⟨some 24, _, _, _, _, _⟩) (v := ?_) (by kernel_rfl) (fun W hW => ?_) ?_
        rotate_left
        · have c1 := up_cell hW c1; have cpk := up_cell hW cpk; have q2 := up_cell hW q2; go_simp; rfl
        try simp only [Act.put, List.setIfInBounds_toArray, List.set_cons_zero, List.set_cons_succ]
        refine q_val (o := ⟨some 25, _, _, _, _, _⟩) (v := ?_) (by kernel_rfl) (fun W hW => ?_) ?_
        rotate_left
        · go_simp; rfl
        try simp only [Act.put, List.setIfInBounds_toArray, List.set_cons_zero, List.set_cons_succ]
        refine q_val (o := ⟨some 26, _, _, _, _, _⟩) (v := ?_) (by kernel_rfl) (fun W hW => ?_) ?_
        rotate_left
        · go_simp; rfl
        try simp only [Act.put, List.setIfInBounds_toArray, List.set_cons_zero, List.set_cons_succ]
        refine q_val (o := ⟨some 27, _, _, _, _, _⟩) (v := ?_) (by kernel_rfl) (fun W hW => ?_) ?_
        rotate_left
        · go_simp; rfl
        try simp only [Act.put, List.setIfInBounds_toArray, List.set_cons_zero, List.set_cons_succ]
        refine q_val (o := ⟨some 28, _, _, _, _, _⟩) (v := ?_) (by kernel_rfl) (fun W hW => ?_) ?_
        rotate_left
        · go_simp; rfl
        try simp only [Act.put, List.setIfInBounds_toArray, List.set_cons_zero, List.set_cons_succ]
        refine q_val (o := ⟨some 29, _, _, _, _, _⟩) (v := ?_) (by kernel_rfl) (fun W hW => ?_) ?_
        rotate_left
        · have c1 := up_cell hW c1; have cpk := up_cell hW cpk; have q2 := up_cell hW q2; go_simp; rfl
        try simp only [Act.put, List.setIfInBounds_toArray, List.set_cons_zero, List.set_cons_succ]
        refine q_call (o := ⟨some 30, _, _, _, _, _⟩) (by kernel_rfl) (fun W hW => ?_) (fun W hW => (hfind W hW).mono (fun e w' q => by obtain ⟨q, q'⟩ := q; subst q'; exact ⟨q, hW⟩)) ?_
        · go_simp
        try simp only [Act.put, List.setIfInBounds_toArray, List.set_cons_zero, List.set_cons_succ]
        refine q_val (o := ⟨some 31, _, _, _, _, _⟩) (v := ?_) (by kernel_rfl) (fun W hW => ?_) ?_
        rotate_left
        · go_simp; rfl
        try simp only [Act.put, List.setIfInBounds_toArray, List.set_cons_zero, List.set_cons_succ]
        refine q_val (o := ⟨some 32, _, _, _, _, _⟩) (v := ?_) (by kernel_rfl) (fun W hW => ?_) ?_
        rotate_left
        · go_simp; rfl
        try simp only [Act.put, List.setIfInBounds_toArray, List.set_cons_zero, List.set_cons_succ]
        refine q_val (o := ⟨some 33, _, _, _, _, _⟩) (v := ?_) (by kernel_rfl) (fun W hW => ?_) ?_
        rotate_left
        · have c1 := up_cell hW c1; have cpk := up_cell hW cpk; have q2 := up_cell hW q2; go_simp; rfl
        try simp only [Act.put, List.setIfInBounds_toArray, List.set_cons_zero, List.set_cons_succ]
        refine q_call (o := ⟨some 34, _, _, _, _, _⟩) (by kernel_rfl) (fun W hW => ?_) (fun W hW => (hnum W).mono (fun e w' q => by obtain ⟨q, q'⟩ := q; subst q'; exact ⟨q, hW⟩)) ?_
        · go_simp
        try simp only [Act.put, List.setIfInBounds_toArray, List.set_cons_zero, List.set_cons_succ]
        refine q_val (o := ⟨some 7, _, _, _, _, _⟩) (v := ?_) (by kernel_rfl) (fun W hW => ?_) ?_
        rotate_left
        · go_simp; rfl
        try simp only [Act.put, List.setIfInBounds_toArray, List.set_cons_zero, List.set_cons_succ]
        refine q_end (fun W hW => ?_)
        have HB2 := Lib.hid (HB.out.trans (hW.mono (HB.out.size)))
        obtain ⟨tk, htk⟩ : ∃ q, q = topD D.F (ns.take k) := ⟨_, rfl⟩
        have hTk := HTOP.out
        rw [← htk] at hTk ⊢
        clear hD HP HB hfind hnum c1 cpk q2 hW htk HTOP
        by_cases hgt : tk < lsnB s
        · have hgtI : (tk : Int) < (lsnB s : Nat) := by omega
          have HTP : Hid (topD D.F (ns.take (k + 1)) = lsnB s) := Lib.hid (by rw [hTk]; omega)
          clear hTk
          go_wp2_with fail
          go_roundg (ns.length - (k + 1))
          case measure => omega
          case rel => exact ⟨k + 1, by omega, rfl, by go_num, by rw [HTP.out], HB2.out⟩
        · have hgtI : ¬ (tk : Int) < (lsnB s : Nat) := by omega
          have HTP : Hid (topD D.F (ns.take (k + 1)) = tk) := Lib.hid (by rw [hTk]; omega)
          clear hTk
          go_wp2_with fail
          go_roundg (ns.length - (k + 1))
          case measure => omega
          case rel => exact ⟨k + 1, by omega, rfl, by go_num, by rw [HTP.out], HB2.out⟩
      · have hkn : k = ns.length := by omega
        have r1 : ¬ (k : Int) < (ns.length : Int) := by omega
        rw [hkn, List.take_length]
        subst hkn
        obtain ⟨top, htop⟩ : ∃ q, q = topD D.F ns := ⟨_, rfl⟩
        rw [← htop]
        have hb0 : Below wr.heap.size wr (wr.alloc (.cells #[] 3)) := (Below.refl _ _).alloc (Nat.le_refl _) _
        obtain ⟨v1, w2, hr1, o1, b1, s1, n1, _⟩ := row_copy elI 22 (Below.refl wr.heap.size wr) (Nat.le_refl _) (CellsAt.of_own hD.rA) (by simp) (ints_one _) (by omega) (by decide)
        obtain ⟨v2, w4, hr2, o2, b2, s2⟩ := row_push elI 22 b1 s1 o1 (es := [Value.int .i64 (top : Int)]) rfl (by intro u hu; simp at hu; subst hu; rfl) (by omega) (by decide)
        have c3 : (wr.alloc (.cells #[] 3)).cell? ⟨pb, 3, none⟩ = some (.slice AA D.asked.length cA) := (hD.up hb0).cells.2.2.2.1
        have hD4 := hD.up b2
        have f3 := hD4.blk.frozen 3
        have c4 : w4.cell? ⟨pb, 3, none⟩ = some (.slice AA D.asked.length cA) := hD4.cells.2.2.2.1
        have o3 : Ints wr.heap.size w4 v2 (D.asked ++ [(top : Int)]) := by
          unfold Ints
          rw [List.length_append, List.map_append]
          exact o2
        obtain ⟨A1, cc1, rfl⟩ := own_form o1
        obtain ⟨A2, cc2, rfl⟩ := own_form o2
        have hD5 := hD4.setA (Ints.low o3 hD.at0)
        have hF5 : Fr (fun b => b = pb) w (w4.setCell ⟨pb, 3, none⟩ (.slice A2 (D.asked.length + 1) cc2)) := ((Fr.up hB).trans (Fr.up b2) (fun _ _ e => e)).trans (Fr.setCell w4 pb 3 _) (fun _ _ e => e)
        have hN5 : ∀ b, DO pb (.slice AF D.F.length cF) (.slice AD D.disk.length cD) (.slice A2 (D.asked.length + 1) cc2) b → DO pb (.slice AF D.F.length cF) (.slice AD D.disk.length cD) (.slice AA D.asked.length cA) b ∨ w.heap.size ≤ b := fun b e => by
          rcases e with e | e | e | e
          · exact Or.inl (Or.inl e)
          · exact Or.inl (Or.inr (Or.inl e))
          · exact Or.inl (Or.inr (Or.inr (Or.inl e)))
          · exact Or.inr (Nat.le_trans (hB.size) (o3.lt b e.symm).1)
        have hP5 : Ints base (w4.setCell ⟨pb, 3, none⟩ (.slice A2 (D.asked.length + 1) cc2)) (.slice Ap ns.length cp) ns := by
          have h1 : Ints base w4 (.slice Ap ns.length cp) ns := ownsRow_grown hP (grown_of_below b2 none) (by simp)
          exact (Fr.setCell w4 pb 3 _).own h1 (fun b e e2 => (hD4.blk.notOwn h1 (by decide)) (by rw [e, e2]))
        have c5 := hD5.cells.2.2.2.2
        have HD5 := Lib.hid hD5; have HF5 := Lib.hid hF5; have HN5 := Lib.hid hN5; have HP5 := Lib.hid hP5
        dsimp only at c5
        have HSZ := Lib.hid (show w.heap.size ≤ w4.heap.size from Nat.le_trans hB.size b2.size)
        clear hD5 hF5 hN5 hP5 o1 b1 s1 n1 o2 b2 s2 o3 hD4 hb0 hP hD hB
        have HTO := Lib.hid htop
        clear htop
        go_upto_region 11 with (first | (at_builtin; refine Lib.wpList_append_run _ rfl _ _ _ _ rfl _ _ rfl rfl _ _ hr1 ?_) | (at_builtin; refine Lib.wpList_append_run _ rfl _ _ _ _ rfl _ _ rfl rfl _ _ hr2 ?_))
        generalize (w4.setCell ⟨pb, 3, none⟩ (.slice A2 (D.asked.length + 1) cc2)) = w5 at *
        clear hr1 hr2 c3 c4 f3 HSZ
        cases hrf : D.refuse with
        | true =>
          have HR : Hid (wr4 D ns = (9, { D with asked := D.asked ++ [(top : Int)] })) := Lib.hid (by unfold wr4; rw [if_neg hn, if_pos hrf, HTO.out])
          rw [hrf] at c5
          go_wp2_with fail
          go_ret
          exact ⟨by rw [HR.out]; rfl, by rw [HR.out]; exact ⟨_, _, _, HD5.out, HF5.out, HN5.out⟩⟩
        | false =>
          rw [hrf] at c5
          have hb5 : Below w5.heap.size w5 (w5.alloc (.cells #[] 9)) := (Below.refl _ _).alloc (Nat.le_refl _) _
          obtain ⟨v3, w7, hr3, o3, b3, s3, n3, _⟩ := row_copy elS 47 (Below.refl w5.heap.size w5) (Nat.le_refl _) (CellsAt.of_own HD5.out.rD) (by rw [strCells_length]; simp) (strs_one _) (by dsimp only; omega) (by decide)
          have c2 : (w5.alloc (.cells #[] 9)).cell? ⟨pb, 2, none⟩ = some (.slice AD D.disk.length cD) := (HD5.out.up hb5).cells.2.2.1
          obtain ⟨A3, c3', rfl⟩ := own_form o3
          have HO3 := Lib.hid o3; have HB7 := Lib.hid b3
          dsimp only at hr3
          clear hb5 o3 b3 s3 n3
          go_upto_region 14 with (at_builtin; refine Lib.wpList_append_run _ rfl _ _ _ _ rfl _ _ rfl rfl _ _ hr3 ?_)
          clear hr3 c2 c5
          have hb7 : Below w7.heap.size w7 (w7.alloc (.cells #[] 58)) := (Below.refl _ _).alloc (Nat.le_refl _) _
          have hD7 := HD5.out.up HB7.out
          obtain ⟨v4, w9, hr4, o4, b4, s4, n4, b47⟩ := row_copy el4 51 HB7.out HB7.out.size (CellsAt.of_own hD7.rF) (f4Cells_length _) (f4Cells_one _) (by dsimp only; omega) (by decide)
          have c1 : (w7.alloc (.cells #[] 58)).cell? ⟨pb, 1, none⟩ = some (.slice AF D.F.length cF) := (hD7.up hb7).cells.2.1
          have o3' : w9.ownsRow w5.heap.size 9 1 (.slice A3 D.disk.length c3') D.disk.length (strCells D.disk) := ownsRow_grown HO3.out (grown_of_below b47 none) (by simp)
          dsimp only at o4 n4 hr4
          obtain ⟨A4, c4', rfl⟩ := own_form o4
          have HS9 := Lib.hid o3'; have HO4 := Lib.hid o4; have HB9 := Lib.hid b4
          clear hb7 hD7 o4 b4 s4 n4 b47 o3' HO3 HB7
          go_wp2_with (at_builtin; refine Lib.wpList_append_run _ rfl _ _ _ _ rfl _ _ rfl rfl _ _ hr4 ?_)
          clear hr4 c1
          have HR : Hid (wr4 D ns = (0, { D with asked := D.asked ++ [(top : Int)], disk := putD D.F D.disk ns, F := cln4 D.F ns })) := Lib.hid (by unfold wr4; rw [if_neg hn, if_neg (by simp [hrf]), HTO.out])
          go_loopg [10] ns.length (fun gh i wr => ∃ k : Nat, k ≤ ns.length ∧ gh = ns.length - k ∧ i = .int .i64 k ∧ wr.ownsRow w5.heap.size 9 1 (.slice A3 D.disk.length c3') D.disk.length (strCells (putD D.F D.disk (ns.take k))) ∧
            wr.ownsRow w5.heap.size 58 4 (.slice A4 D.F.length c4') D.F.length (f4Cells (cln4 D.F (ns.take k))) ∧ Below w5.heap.size w5 wr)
          case atStart => exact ⟨0, Nat.zero_le _, rfl, rfl, HS9.out, HO4.out, HB9.out⟩
          case round =>
            clear HS9 HO4 HB9
            obtain ⟨k, hk, rfl, rfl, hS, hO, hB⟩ := hrel
            have hD := HD5.out.up hB
            have hP : Ints base wr (.slice Ap ns.length cp) ns := ownsRow_grown HP5.out (grown_of_below hB none) (by simp)
            by_cases hlt : k < ns.length
            · obtain ⟨n, hnn⟩ : ∃ n, n = ns[k] := ⟨_, rfl⟩
              obtain ⟨⟨i0, i1⟩, fi, hfi, f1, f2, f3⟩ := HIN.out n (by rw [hnn]; exact List.getElem_mem hlt)
              obtain ⟨pn, hpn⟩ : ∃ q : Nat, n = (q : Int) := ⟨n.toNat, by omega⟩
              obtain ⟨bp, cp', ep, cpk, _⟩ := hP.cell1 k hlt
              injection ep with ep _ ec
              subst ep ec
              rw [← hnn] at cpk
              have hfind := rfind_any wr n hD hl
              dsimp only at hfind
              rw [f1] at hfind
              have htk : ns.take (k + 1) = ns.take k ++ [n] := by rw [hnn]; exact (List.take_append_getElem hlt).symm
              obtain ⟨G, hG⟩ : ∃ G, G = cln4 D.F (ns.take k) := ⟨_, rfl⟩
              have hGl : G.length = D.F.length := by rw [hG]; exact cln4_length _ _
              have hfg : fi < G.length := by omega
              have hG2 : (G[fi]'hfg).2.bytes = D.F[fi].2.bytes := by subst hG; exact (cln4_same D.F (ns.take k) fi hfi).2
              have hput : putD D.F D.disk (ns.take (k + 1)) = (putD D.F D.disk (ns.take k)).set pn D.F[fi].2.bytes := by rw [htk, putD_snoc, at4_get f3, hpn]; rfl
              have hcln : cln4 D.F (ns.take (k + 1)) = G.set fi (off4 (G[fi]'hfg)) := by
                rw [htk, cln4_snoc, f1, ← hG]
                exact modify_set _ _ hfg _
              have hdl2 := putD_length D.F D.disk (ns.take k)
              rw [← hG] at hO
              clear hG
              generalize putD D.F D.disk (ns.take k) = l at *
              rw [← hG2] at hput
              have hO' : wr.ownsRow w5.heap.size 58 4 (.slice A4 G.length c4') G.length (f4Cells G) := by rw [hGl]; exact hO
              have hS' : Strs w5.heap.size wr (.slice A3 l.length c3') l := by unfold Strs; rw [hdl2]; exact hS
              obtain ⟨b4, c4'', e4, _, _, q2, _, qf, qn4, _⟩ := row4_cells hO' fi hfg
              injection e4 with e4 _ ec4
              subst e4 ec4
              obtain ⟨b3, c3'', e3⟩ := hS'.at8 (by omega)
              injection e3 with e3 _ ec3
              subst e3 ec3
              have r1 : (k : Int) < (ns.length : Int) := by omega
              have r2 : (fi : Int) < (D.F.length : Int) := by omega
              have r3 : (0 : Int) ≤ (fi : Int) := Int.natCast_nonneg fi
              have r5 : (pn : Int) < (D.disk.length : Int) := by omega
              have r6 : (0 : Int) ≤ (pn : Int) := Int.natCast_nonneg pn
              rw [hpn] at cpk hfind
              have hx4 : f4C (off4 (G[fi]'hfg)) = (f4C (G[fi]'hfg)).set 3 (.bool false) := rfl
              obtain ⟨s, hs⟩ : ∃ s, s = (G[fi]'hfg).2.bytes := ⟨_, rfl⟩
              rw [← hs] at q2 hput
              have HS := Lib.hid hS'; have HO := Lib.hid hO'; have HB := Lib.hid hB; have HPUT := Lib.hid hput; have HCLN := Lib.hid hcln; have HX4 := Lib.hid hx4; have HGL := Lib.hid hGl; have HDL := Lib.hid hdl2
              clear hS hO hS' hO' hB hput hcln hx4 hGl hdl2 hs hG2 htk f1 f2 f3 hpn hnn hP hD qf qn4
              go_wp2_with fail
              refine hfind.mono ?_
              clear hfind
              rintro e w10 ⟨rfl, rfl⟩
              go_wp2_with fail
              refine wp_region_any (by kernel_rfl) ?_
              show wpAny _ _ _ _ 12 #[false,false,false,false,false,false,false,false,false,false,false,false] _ (World.drew _)
              refine wpAny_upto 11 [0, 1, 2, 3, 4, 5, 6, 7, 8, 9, 10] (fun W => Below wr.heap.size wr W) (g := 1) (by kernel_rfl) (by kernel_rfl) (by kernel_rfl) (by kernel_rfl) (Below.refl _ _).drew ?_
              refine q_val (o := ⟨some 79, _, _, _, _, _⟩) (v := ?_) (by kernel_rfl) (fun W hW => ?_) ?_
              rotate_left
              · go_simp; rfl
              try simp only [Act.put, List.setIfInBounds_toArray, List.set_cons_zero, List.set_cons_succ]
              refine q_val (o := ⟨some 80, _, _, _, _, _⟩) (v := ?_) (by kernel_rfl) (fun W hW => ?_) ?_
              rotate_left
              · go_simp; rfl
              try simp only [Act.put, List.setIfInBounds_toArray, List.set_cons_zero, List.set_cons_succ]
              refine q_val (o := ⟨some 81, _, _, _, _, _⟩) (v := ?_) (by kernel_rfl) (fun W hW => ?_) ?_
              rotate_left
              · go_simp; rfl
              try simp only [Act.put, List.setIfInBounds_toArray, List.set_cons_zero, List.set_cons_succ]
              refine q_val (o := ⟨some 82, _, _, _, _, _⟩) (v := ?_) (by kernel_rfl) (fun W hW => ?_) ?_
              rotate_left
              · go_simp; rfl
              try simp only [Act.put, List.setIfInBounds_toArray, List.set_cons_zero, List.set_cons_succ]
              refine q_val (o := ⟨some 83, _, _, _, _, _⟩) (v := ?_) (by kernel_rfl) (fun W hW => ?_) ?_
              rotate_left
              · have cpk := up_cell hW cpk; have q2 := up_cell hW q2; go_simp; rfl
              try simp only [Act.put, List.setIfInBounds_toArray, List.set_cons_zero, List.set_cons_succ]
              refine q_val (o := ⟨some 84, _, _, _, _, _⟩) (v := ?_) (by kernel_rfl) (fun W hW => ?_) ?_
              rotate_left
              · go_simp; rfl
              try simp only [Act.put, List.setIfInBounds_toArray, List.set_cons_zero, List.set_cons_succ]
              refine q_val (o := ⟨some 85, _, _, _, _, _⟩) (v := ?_) (by kernel_rfl) (fun W hW => ?_) ?_
              rotate_left
              · go_simp; rfl
              try simp only [Act.put, List.setIfInBounds_toArray, List.set_cons_zero, List.set_cons_succ]
              refine q_val (o := ⟨some 86, _, _, _, _, _⟩) (v := ?_) (by kernel_rfl) (fun W hW => ?_) ?_
              rotate_left
              · go_simp; rfl
              try simp only [Act.put, List.setIfInBounds_toArray, List.set_cons_zero, List.set_cons_succ]
              refine q_val (o := ⟨some 87, _, _, _, _, _⟩) (v := ?_) (by kernel_rfl) (fun W hW => ?_) ?_
              rotate_left
              · go_simp; rfl
              try simp only [Act.put, List.setIfInBounds_toArray, List.set_cons_zero, List.set_cons_succ]
              refine q_val (o := ⟨some 88, _, _, _, _, _⟩) (v := ?_) (by kernel_rfl) (fun W hW => ?_) ?_
              rotate_left
              · have cpk := up_cell hW cpk; have q2 := up_cell hW q2; go_simp; rfl
              try simp only [Act.put, List.setIfInBounds_toArray, List.set_cons_zero, List.set_cons_succ]
              refine q_val (o := ⟨some 89, _, _, _, _, _⟩) (v := ?_) (by kernel_rfl) (fun W hW => ?_) ?_
              rotate_left
              · go_simp; rfl
              try simp only [Act.put, List.setIfInBounds_toArray, List.set_cons_zero, List.set_cons_succ]
              refine q_end (fun W hW => ?_)
              show wpAny _ _ _ _ 1 #[true,true,true,true,true,true,true,true,true,true,true,false] _ _
              refine wpAny_ready (rs := [11]) (by kernel_rfl) (by simp) ?_
              refine AllReady.cons (o := ⟨none, _, _, _, _, _⟩) rfl (fun K hK => ?_) AllReady.nil
              have hS2 : Strs w5.heap.size W (.slice (some ⟨b3, 0, none⟩) l.length c3') l := ownsRow_grown HS.out (grown_of_below hW none) (by simp)
              obtain ⟨sc, sf⟩ := strs_cellN hS2 (Nat.le_trans HB.out.size hW.size) pn (by rw [HDL.out]; omega)
              have hO2 : W.ownsRow w5.heap.size 58 4 (.slice (some ⟨b4, 0, none⟩) G.length c4') G.length (f4Cells G) := ownsRow_grown HO.out (grown_of_below hW none) (by simp)
              have hB2 := HB.out.trans (hW.mono HB.out.size)
              go_simp
              refine hK _ _ ?_
              clear hK K
              refine wpAny_done (by kernel_rfl) ?_ _
              obtain ⟨hS3, hg3⟩ := strs_storeN hS2 (Nat.le_trans HB.out.size hW.size) pn s
              have hO3 := own_own hO2 hS2 (by decide) (show W.grownBy (W.setCell ⟨b3, pn, none⟩ (.string (bs s))) (Value.slice (some ⟨b3, 0, none⟩) l.length c3').ownBlock from hg3)
              have hB3 := hB2.setCell (p := ⟨b3, pn, none⟩) (strs_blk hS2).1 (.string (bs s))
              obtain ⟨_, _, _, t3, tf, tn⟩ := row4_at hO3 fi hfg
              have f4 := tf (fi * 4 + 3)
              have hO4 := row4_store hO3 fi hfg 3 (by decide) (.bool false) _ HX4.out
              have hg4 := grown_setCell (W.setCell ⟨b3, pn, none⟩ (.string (bs s))) b4 (fi * 4 + 3) (.bool false)
              have hS4 := own_own hS3 hO3 (by decide) (show (W.setCell ⟨b3, pn, none⟩ (.string (bs s))).grownBy _ (Value.slice (some ⟨b4, 0, none⟩) G.length c4').ownBlock from hg4)
              have hB4 := hB3.setCell (p := ⟨b4, fi * 4 + 3, none⟩) tn (.bool false)
              rw [← HCLN.out, cln4_length] at hO4
              rw [← HPUT.out, putD_length] at hS4
              rw [HGL.out] at hO4
              rw [HDL.out] at hS4
              have t4 : (W.setCell ⟨b3, pn, none⟩ (.string (bs s))).cell? ⟨b4, fi * 4 + 3, none⟩ = some (.bool (G[fi]'hfg).2.dirty) := t3
              have hGL := HGL.out
              have hDL := HDL.out
              have HO4 := Lib.hid hO4; have HS4 := Lib.hid hS4; have HB4 := Lib.hid hB4
              clear hS2 sc sf hO2 hB2 hS3 hg3 hO3 hB3 t3 tf tn hO4 hg4 hS4 hB4 hW cpk q2 HS HO HB HPUT HCLN HX4
              generalize (W.setCell ⟨b3, pn, none⟩ (.string (bs s))) = W1 at *
              clear hGL hDL HGL HDL
              go_wp2_with fail
              generalize (W1.setCell ⟨b4, fi * 4 + 3, none⟩ (.bool false)) = W2 at *
              go_roundg (ns.length - (k + 1))
              case measure => omega
              case rel => exact ⟨k + 1, by omega, rfl, by go_num, HS4.out, HO4.out, HB4.out⟩
            · have hkn : k = ns.length := by omega
              have r1 : ¬ (k : Int) < (ns.length : Int) := by omega
              rw [hkn, List.take_length] at hS hO
              have hS' : Strs n0 wr (.slice A3 D.disk.length c3') (putD D.F D.disk ns) := by
                unfold Strs; rw [putD_length]; exact own_low hS HD5.out.at0
              have hO' : wr.ownsRow n0 58 4 (.slice A4 D.F.length c4') (cln4 D.F ns).length (f4Cells (cln4 D.F ns)) := by
                rw [cln4_length]; exact own_low hO HD5.out.at0
              have f2 := hD.blk.frozen 2
              have f1 := hD.blk.frozen 1
              have c2 := hD.cells.2.2.1
              have hD1 := hD.setD hS'
              have f1' := hD1.blk.frozen 1
              have c1' := hD1.cells.2.1
              have hO2 := (Fr.setCell wr pb 2 (.slice A3 D.disk.length c3')).own hO' (fun b e e2 => (hD.blk.notOwn hO' (by decide)) (by rw [e, e2]))
              have hD2 := hD1.setF hO2
              have hFr := (HF5.out.trans (Fr.up hB) (fun _ _ e => e)).trans ((Fr.setCell wr pb 2 (.slice A3 D.disk.length c3')).trans (Fr.setCell _ pb 1 (.slice A4 D.F.length c4')) (fun _ _ e => e)) (fun _ _ e => e)
              have hN : ∀ b, DO pb (.slice A4 D.F.length c4') (.slice A3 D.disk.length c3') (.slice A2 (D.asked.length + 1) cc2) b → DO pb (.slice AF D.F.length cF) (.slice AD D.disk.length cD) (.slice AA D.asked.length cA) b ∨ w.heap.size ≤ b := fun b e => by
                rcases e with e | e | e | e
                · exact Or.inl (Or.inl e)
                · exact Or.inr (Nat.le_trans HF5.out.size (hO.lt b e.symm).1)
                · exact Or.inr (Nat.le_trans HF5.out.size (hS.lt b e.symm).1)
                · exact HN5.out b (Or.inr (Or.inr (Or.inr e)))
              have HD2 := Lib.hid hD2; have HFR := Lib.hid hFr; have HN := Lib.hid hN
              try dsimp only at c2 c1'
              clear hS hO hS' hO' hD1 hO2 hD2 hFr hN hB hD hP f1
              go_wp2_with fail
              go_ret
              exact ⟨by rw [HR.out]; rfl, by rw [HR.out]; exact ⟨_, _, _, HD2.out, HFR.out, HN.out⟩⟩
end
end
end Go.Proofs.YtjlcbabnkhdgpaaGreatDoor
namespace Go.Proofs.YtjlcbabnkhdgpaaGreatDoor
section
set_option linter.unusedSimpArgs false
set_option linter.unusedVariables false
open Go.RowKit Go.Maps

section
variable {n0 b c n : Nat} {w : World} {F : List Fr4}
theorem row4_lo (h : w.ownsRow n0 58 4 (.slice (some ⟨b, 0, none⟩) n c) F.length (f4Cells F)) (i : Nat) (hi : i ≤ F.length) : CellsAt w (.slice (some ⟨b, 0, none⟩) i c) i (f4Cells (F.take i)) := by
  refine ⟨some ⟨b, 0, none⟩, c, rfl, (fun e => by cases e), fun ad e j u hu => ?_⟩
  cases e
  rw [← f4Cells_take, List.getElem?_take] at hu
  split at hu
  · exact h.cells (g := b) rfl j u hu
  · cases hu
theorem row4_hi (h : w.ownsRow n0 58 4 (.slice (some ⟨b, 0, none⟩) n c) F.length (f4Cells F)) (i c' : Nat) (hi : i ≤ F.length) (A : Addr) (hA : (c = i ∧ A = ⟨b, 0, none⟩) ∨ A = ⟨b, i * 4, none⟩) : CellsAt w (.slice (some A) (F.length - i) c') (F.length - i) (f4Cells (F.drop i)) := by
  refine ⟨some A, c', rfl, (fun e => by cases e), fun ad e j u hu => ?_⟩
  cases e
  rcases hA with ⟨h1, rfl⟩ | rfl
  · have hle : F.length ≤ c := by
      rcases h.2 with ⟨e, _⟩ | ⟨g, cap, cur, e, _, _, q, _⟩
      · cases e
      · injection e with _ _ e
        subst e
        exact q
    rw [List.drop_of_length_le (by omega)] at hu
    simp [f4Cells] at hu
  · rw [← f4Cells_drop, List.getElem?_drop] at hu
    have := h.cells (g := b) rfl _ u hu
    rw [Addr.add0, Nat.zero_add] at this
    rw [Addr.add0]
    exact this
end
theorem cut_addr (c i b : Nat) : ∃ A2 : Addr, (if c = i + 1 then some (⟨b, 0, none⟩ : Addr) else some ⟨b, (i + 1) * 4, none⟩) = some A2 ∧ ((c = i + 1 ∧ A2 = ⟨b, 0, none⟩) ∨ A2 = ⟨b, (i + 1) * 4, none⟩) := by
  by_cases h : c = i + 1
  · exact ⟨⟨b, 0, none⟩, by simp [h], Or.inl ⟨h, rfl⟩⟩
  · exact ⟨⟨b, (i + 1) * 4, none⟩, by simp [h], Or.inr rfl⟩
theorem own_cap {B k n c : Nat} {T : TypeId} {A : Option Addr} {xs : List Value} {w : World} (h : w.ownsRow B T k (.slice A n c) n xs) : n ≤ c := by
  rcases h.2 with ⟨e, e2⟩ | ⟨g, cap, cur, e, _, _, q, _⟩
  · omega
  · injection e with _ _ e
    subst e
    exact q
/-- What the document's Out does. -/
def cut4 (F : List Fr4) (i : Nat) : List Fr4 := F.take i ++ F.drop (i + 1)
def out4 (D : Doc) (i : Nat) (x : Fr4) : Int × Doc :=
  if x.2.dirty = true then (if (wr4 D [x.1]).1 ≠ 0 then wr4 D [x.1] else (0, { (wr4 D [x.1]).2 with F := cut4 (wr4 D [x.1]).2.F i }))
  else (0, { D with F := cut4 D.F i })
theorem cut4_row {n0 i : Nat} {w : World} {v : Value} {F : List Fr4} (hi : i < F.length) (h : w.ownsRow n0 58 4 v (i + (F.length - (i + 1))) (f4Cells (F.take i) ++ f4Cells (F.drop (i + 1)))) : w.ownsRow n0 58 4 v (cut4 F i).length (f4Cells (cut4 F i)) := by
  unfold cut4
  rw [f4Cells_append, List.length_append, List.length_take, List.length_drop, show min i F.length + (F.length - (i + 1)) = i + (F.length - (i + 1)) by omega]
  exact h
theorem wr4_length (D : Doc) (ns : List Int) : (wr4 D ns).2.F.length = D.F.length := by
  unfold wr4
  split
  · rfl
  · split
    · rfl
    · exact cln4_length _ _
section
variable {n0 pb : Nat} {vF vD vA : Value} {D : Doc} {w w' w'' : World} {D' D'' : Doc}
theorem DocP.next {vF' vD' vA' : Value} (hF : Fr (fun b => b = pb) w w') (hN : ∀ b, DO pb vF' vD' vA' b → DO pb vF vD vA b ∨ w.heap.size ≤ b) (h : DocP n0 w' w'' pb vF' vD' vA' D'') : DocP n0 w w'' pb vF vD vA D'' := by
  obtain ⟨a1, a2, a3, h1, h2, h3⟩ := h
  refine ⟨a1, a2, a3, h1, hF.trans h2 (fun _ _ e => e), fun b e => ?_⟩
  rcases h3 b e with q | q
  · exact hN b q
  · exact Or.inr (Nat.le_trans hF.size q)
/-- p.F is another row, all new. -/
theorem DocP.setF {B : Nat} (h : DocAt n0 w pb vF vD vA D) (hw : Below w.heap.size w w') (h' : DocAt n0 w' pb vF vD vA D) {v' : Value} {G : List Fr4} (hG : w'.ownsRow w.heap.size 58 4 v' G.length (f4Cells G)) :
    DocP n0 w (w'.setCell ⟨pb, 1, none⟩ v') pb vF vD vA { D with F := G } := by
  refine ⟨v', vD, vA, h'.setF (own_low hG h.at0), (Fr.up hw).trans (Fr.setCell w' pb 1 v') (fun _ _ e => e), fun b e => ?_⟩
  rcases e with e | e | e | e
  · exact Or.inl (Or.inl e)
  · exact Or.inr (hG.lt b e.symm).1
  · exact Or.inl (Or.inr (Or.inr (Or.inl e)))
  · exact Or.inl (Or.inr (Or.inr (Or.inr e)))
set_option maxHeartbeats 16000000 in
set_option maxRecDepth 100000 in
theorem rout_any (w : World) (i : Nat) (h : DocAt n0 w pb vF vD vA D) (hi : i < D.F.length) (hl : D.F.length ≤ 1000) (hal : D.asked.length ≤ 1000000) (hdl : D.disk.length ≤ 1000)
    (hin : (0 ≤ D.F[i].1 ∧ D.F[i].1 < D.disk.length) ∧ ∃ (j : Nat) (hj : j < D.F.length), findI D.F D.F[i].1 = (j : Int) ∧ D.F[j].1 = D.F[i].1 ∧ D.F.find? (fun x => x.1 == D.F[i].1) = some D.F[j]) (h512 : ∀ x ∈ D.F, x.2.bytes.length = 512) :
    Calls Tryz.prog 25 #[.pointer (some ⟨pb, 0, none⟩), .int .i64 (i : Int)] w fun e w' => e = .returned (.int .i64 (out4 D i D.F[i]).1) ∧ DocP n0 w w' pb vF vD vA (out4 D i D.F[i]).2 := by
  obtain ⟨AA, cA, rfl⟩ := h.rA.form
  obtain ⟨AD, cD, rfl⟩ := h.rD.slice
  obtain ⟨b, cF, rfl, q0, _, _, q3, _⟩ := row4_cells h.rF i hi
  obtain ⟨x, hx⟩ : ∃ x, x = D.F[i] := ⟨_, rfl⟩
  rw [← hx] at q0 q3 hin ⊢
  have c1 := h.cells.2.1
  have r2 : (i : Int) < (D.F.length : Int) := by omega
  have r3 : (0 : Int) ≤ (i : Int) := Int.natCast_nonneg i
  have H := Lib.hid h; have HX := Lib.hid hx
  have hw1 : Below w.heap.size w (w.alloc (.cells #[.int .i64 x.1] 3)) := (Below.refl _ _).alloc (Nat.le_refl _) _
  have hwr := rwrite_any (w.alloc (.cells #[.int .i64 x.1] 3)) [x.1] (h.up hw1) (one_row w x.1) hl (by simp) hal hdl (fun k hk => by rw [List.mem_singleton.1 hk]; exact hin) h512
  have HW1 := Lib.hid hw1
  cases hdy : x.2.dirty with
  | false =>
    have HR : Hid (out4 D i x = (0, { D with F := cut4 D.F i })) := Lib.hid (by unfold out4; rw [if_neg (by simp [hdy])])
    rw [hdy] at q3
    clear hwr q0 hin hx h
    go_enter Tryz.func25, Tryz.ntmps25
    go_upto_region 5 with fail
    clear c1 q3
    obtain ⟨v1, w21, hr1, o1, b1, s1, _⟩ := row_more el4 51 (n := 0) (xs := []) (Below.refl w.heap.size w) (Nat.le_refl _) (World.ownsRow_nil _ _ _ _) (row4_lo H.out.rF i (by omega)) (by rw [f4Cells_length, List.length_take]; omega) (f4Cells_one _) (by omega) (by decide)
    simp only [Nat.zero_add, List.nil_append] at o1
    obtain ⟨A2, hA2, hA2'⟩ := cut_addr cF i b
    have hD21 := H.out.up b1
    obtain ⟨v2, w31, hr2, o2, b2, s2, _⟩ := row_more el4 51 b1 s1 o1 (row4_hi hD21.rF (i + 1) (cF - (i + 1)) (by omega) A2 hA2') (by rw [f4Cells_length, List.length_drop]) (f4Cells_one _) (by omega) (by decide)
    have c11 := H.out.cells.2.1
    have c12 := hD21.cells.2.1
    have hD31 := H.out.up b2
    have c13 := hD31.cells.2.1
    have f13 := hD31.blk.frozen 1
    have hG := cut4_row (i := i) (F := D.F) (by omega) o2
    have hfin := DocP.setF (B := 0) H.out b2 hD31 hG
    obtain ⟨A1, cc1, rfl⟩ := own_form o1
    obtain ⟨A3, cc3, rfl⟩ := own_form o2
    have HFIN := Lib.hid hfin
    have t1 : ((i : Int) + 1).toNat = i + 1 := by omega
    have t2 : IntKind.i64.wrap ((i : Int) + 1) = (i : Int) + 1 := by rw [IntKind.wrap_i64]; omega
    have t3 : (i : Int) + 1 ≤ (D.F.length : Int) := by omega
    have t4 : (0 : Int) ≤ (i : Int) + 1 := by omega
    have t5 := own_cap H.out.rF
    have t6 : (i : Int) ≤ (cF : Int) := by omega
    clear o1 b1 s1 hD21 o2 b2 s2 hD31 hG hfin hA2'
    have HR2' := Lib.hid hr2
    clear hr2
    go_upto_region 7 with (at_builtin; refine Lib.wpList_append_run _ rfl _ _ _ _ rfl _ _ rfl rfl _ _ hr1 ?_)
    clear hr1 c11
    go_wp2_with (at_builtin; refine Lib.wpList_append_run _ rfl _ _ _ _ rfl _ _ rfl rfl _ _ HR2'.out ?_)
    go_ret
    exact ⟨by rw [HR.out]; rfl, by rw [HR.out]; exact HFIN.out⟩
  | true =>
    obtain ⟨r, hr⟩ : ∃ r, r = wr4 D [x.1] := ⟨_, rfl⟩
    have hrl := wr4_length D [x.1]
    rw [← hr] at hwr hrl
    rw [hdy] at q3
    have HXR : Hid (out4 D i x = (if r.1 ≠ 0 then r else (0, { r.2 with F := cut4 r.2.F i }))) := Lib.hid (by unfold out4; rw [if_pos hdy, ← hr])
    have HWR := Lib.hid hwr
    clear hwr hin hx h hr hw1
    go_enter Tryz.func25, Tryz.ntmps25
    go_wp2_with fail
    refine HWR.out.mono ?_
    rintro e w2 ⟨rfl, hP2⟩
    obtain ⟨re, D2⟩ := r
    dsimp only at hrl hP2 HXR ⊢
    by_cases hre : re = 0
    · subst hre
      have HR : Hid (out4 D i x = (0, { D2 with F := cut4 D2.F i })) := Lib.hid (by rw [HXR.out, if_neg (by simp)])
      obtain ⟨vF2, vD2, vA2, hD2, hF2, hN2⟩ := hP2
      have hi2 : i < D2.F.length := by omega
      have hl2 : D2.F.length ≤ 1000 := by omega
      obtain ⟨b2, cF2, rfl, -⟩ := row4_cells hD2.rF i hi2
      obtain ⟨AA2, cA2, rfl⟩ := hD2.rA.form
      obtain ⟨AD2, cD2, rfl⟩ := hD2.rD.slice
      have HD2 := Lib.hid hD2
      have HF2 := Lib.hid ((Fr.up HW1.out).trans hF2 (fun _ _ e => e))
      have HN2 : Hid (∀ y, DO pb (.slice (some ⟨b2, 0, none⟩) D2.F.length cF2) (.slice AD2 D2.disk.length cD2) (.slice AA2 D2.asked.length cA2) y → DO pb (.slice (some ⟨b, 0, none⟩) D.F.length cF) (.slice AD D.disk.length cD) (.slice AA D.asked.length cA) y ∨ w.heap.size ≤ y) := Lib.hid (fun y e => (hN2 y e).imp id (fun q => Nat.le_trans HW1.out.size q))
      clear hD2 hF2 hN2 c1 q3 q0 HWR hrl
      go_upto_region 5 with fail
      obtain ⟨v1, w21, hr1, o1, b1, s1, _⟩ := row_more el4 51 (n := 0) (xs := []) (Below.refl w2.heap.size w2) (Nat.le_refl _) (World.ownsRow_nil _ _ _ _) (row4_lo HD2.out.rF i (by omega)) (by rw [f4Cells_length, List.length_take]; omega) (f4Cells_one _) (by omega) (by decide)
      simp only [Nat.zero_add, List.nil_append] at o1
      obtain ⟨A2, hA2, hA2'⟩ := cut_addr cF2 i b2
      have hD21 := HD2.out.up b1
      obtain ⟨v2, w31, hr2, o2, b2, s2, _⟩ := row_more el4 51 b1 s1 o1 (row4_hi hD21.rF (i + 1) (cF2 - (i + 1)) (by omega) A2 hA2') (by rw [f4Cells_length, List.length_drop]) (f4Cells_one _) (by omega) (by decide)
      have c11 := HD2.out.cells.2.1
      have c12 := hD21.cells.2.1
      have hD31 := HD2.out.up b2
      have c13 := hD31.cells.2.1
      have f13 := hD31.blk.frozen 1
      have hG := cut4_row (i := i) (F := D2.F) (by omega) o2
      have hfin := DocP.setF (B := 0) HD2.out b2 hD31 hG
      obtain ⟨A1, cc1, rfl⟩ := own_form o1
      obtain ⟨A3, cc3, rfl⟩ := own_form o2
      have HFIN := Lib.hid hfin
      have t1 : ((i : Int) + 1).toNat = i + 1 := by omega
      have t2 : IntKind.i64.wrap ((i : Int) + 1) = (i : Int) + 1 := by rw [IntKind.wrap_i64]; omega
      have t3 : (i : Int) + 1 ≤ (D2.F.length : Int) := by omega
      have t4 : (0 : Int) ≤ (i : Int) + 1 := by omega
      have t5 := own_cap HD2.out.rF
      have t6 : (i : Int) ≤ (cF2 : Int) := by omega
      clear o1 b1 s1 hD21 o2 b2 s2 hD31 hG hfin hA2'
      have HR2' := Lib.hid hr2
      clear hr2
      go_upto_region 7 with (at_builtin; refine Lib.wpList_append_run _ rfl _ _ _ _ rfl _ _ rfl rfl _ _ hr1 ?_)
      clear hr1 c11
      go_wp2_with (at_builtin; refine Lib.wpList_append_run _ rfl _ _ _ _ rfl _ _ rfl rfl _ _ HR2'.out ?_)
      go_ret
      exact ⟨by rw [HR.out]; rfl, by rw [HR.out]; exact DocP.next HF2.out HN2.out HFIN.out⟩
    · have HR : Hid (out4 D i x = (re, D2)) := Lib.hid (by rw [HXR.out, if_pos hre])
      have HP2 := Lib.hid hP2
      clear hP2
      go_wp2_with fail
      go_ret
      exact ⟨by rw [HR.out]; rfl, by rw [HR.out]; exact DocP.next (Fr.up HW1.out) (fun y e => Or.inl e) HP2.out⟩
end
end
end Go.Proofs.YtjlcbabnkhdgpaaGreatDoor
namespace Go.Proofs.YtjlcbabnkhdgpaaGreatDoor
section
set_option linter.unusedSimpArgs false
set_option linter.unusedVariables false
open Go.RowKit Go.Maps

def bump (x : Fr4) : Fr4 := (x.1, { x.2 with pins := x.2.pins + 1 })
def top4 (D : Doc) (i : Nat) (x : Fr4) : (List UInt8 × Int) × Doc := ((x.2.bytes, 0), { D with F := cut4 D.F i ++ [bump x] })
def new4 (D : Doc) (page : Int) : Fr4 := (page, ⟨D.disk.getD page.toNat [], 0, false⟩)
def ins4 (D : Doc) (page : Int) : Doc := { D with F := D.F ++ [new4 D page] }
def room4 (D : Doc) : Int × Doc := if (D.F.length : Int) < D.most then (0, D) else match D.F.findIdx? (fun x => x.2.pins == 0) with | none => (10, D) | some k => out4 D k (D.F.getD k (0, ⟨[], 0, false⟩))
/-- What the document's Pin does. -/
def pin4 (D : Doc) (page : Int) : (List UInt8 × Int) × Doc :=
  if page < 0 ∨ (D.disk.length : Int) ≤ page then (([], 1), D)
  else match D.F.findIdx? (fun x => x.1 == page) with
    | some i => top4 D i (D.F.getD i (0, ⟨[], 0, false⟩))
    | none => if (room4 D).1 ≠ 0 then (([], (room4 D).1), (room4 D).2) else top4 (ins4 (room4 D).2 page) (room4 D).2.F.length (new4 (room4 D).2 page)
/-- Bounds of the document's pool. -/
structure DocOk (D : Doc) : Prop where
  len : D.F.length ≤ 900
  ask : D.asked.length ≤ 900000
  dsk : D.disk.length ≤ 1000
  rng : ∀ x ∈ D.F, 0 ≤ x.1 ∧ x.1 < D.disk.length
  b512 : ∀ x ∈ D.F, x.2.bytes.length = 512
  pins : ∀ x ∈ D.F, x.2.pins ≤ 1000000
theorem DocOk.own {D : Doc} (h : DocOk D) (i : Nat) (hi : i < D.F.length) : (0 ≤ D.F[i].1 ∧ D.F[i].1 < D.disk.length) ∧ ∃ (j : Nat) (hj : j < D.F.length), findI D.F D.F[i].1 = (j : Int) ∧ D.F[j].1 = D.F[i].1 ∧ D.F.find? (fun x => x.1 == D.F[i].1) = some D.F[j] := by
  refine ⟨h.rng _ (List.getElem_mem hi), ?_⟩
  rcases findI_cases D.F D.F[i].1 with ⟨j, hj, e1, e2, e3⟩ | ⟨_, e⟩
  · exact ⟨j, hj, e1, e2, e3⟩
  · rw [List.find?_eq_none] at e
    exact absurd (by simp) (e _ (List.getElem_mem hi))
theorem findI_idx {F : List Fr4} {k : Int} : (∃ (i : Nat) (hi : i < F.length), F.findIdx? (fun x => x.1 == k) = some i ∧ findI F k = (i : Int)) ∨ (F.findIdx? (fun x => x.1 == k) = none ∧ findI F k = -1) := by
  cases h : F.findIdx? (fun x => x.1 == k) with
  | none => exact Or.inr ⟨rfl, by unfold findI; rw [h]⟩
  | some i =>
    have h' := h
    rw [List.findIdx?_eq_some_iff_getElem] at h'
    exact Or.inl ⟨i, h'.1, rfl, by unfold findI; rw [h]⟩
section
variable {n0 pb : Nat} {vF vD vA : Value} {D : Doc}
set_option maxHeartbeats 32000000 in
set_option maxRecDepth 100000 in
theorem rpin_any (w : World) (page : Int) (h : DocAt n0 w pb vF vD vA D) (hk : DocOk D) (hr2 : ∀ D2 : Doc, room4 D = (0, D2) → DocOk D2 ∧ D2.disk.length = D.disk.length) :
    Calls Tryz.prog 28 #[.pointer (some ⟨pb, 0, none⟩), .int .i64 page] w fun e w' => e = .returned (.tuple #[.string (bs (pin4 D page).1.1), .int .i64 (pin4 D page).1.2]) ∧ DocP n0 w w' pb vF vD vA (pin4 D page).2 := by
  obtain ⟨AA, cA, rfl⟩ := h.rA.form
  obtain ⟨AD, cD, rfl⟩ := h.rD.slice
  obtain ⟨AF, cF, rfl⟩ := row4_form h.rF
  have c2 := h.cells.2.2.1
  have H := Lib.hid h; have HK := Lib.hid hk; have HR2 := Lib.hid hr2
  by_cases hbad : page < 0 ∨ (D.disk.length : Int) ≤ page
  · have HR : Hid (pin4 D page = (([], 1), D)) := Lib.hid (by unfold pin4; rw [if_pos hbad])
    clear h hk hr2
    by_cases h0 : page < 0
    · clear hbad
      go_enter Tryz.func28, Tryz.ntmps28
      go_wp2_with fail
      go_ret2
      exact ⟨by rw [HR.out]; rfl, by rw [HR.out]; exact ⟨_, _, _, H.out, Fr.refl _ _, fun b e => Or.inl e⟩⟩
    · have h1 : (D.disk.length : Int) ≤ page := by omega
      clear hbad
      go_enter Tryz.func28, Tryz.ntmps28
      go_wp2_with fail
      go_ret2
      exact ⟨by rw [HR.out]; rfl, by rw [HR.out]; exact ⟨_, _, _, H.out, Fr.refl _ _, fun b e => Or.inl e⟩⟩
  · have h0 : ¬ page < 0 := by omega
    have h1 : ¬ (D.disk.length : Int) ≤ page := by omega
    have HBAD := Lib.hid hbad
    have hfind := rfind_any w page h (Nat.le_trans hk.len (by decide))
    clear h hk hr2 hbad
    go_enter Tryz.func28, Tryz.ntmps28
    go_wp2_with fail
    refine hfind.mono ?_
    clear hfind
    rintro e w1 ⟨rfl, rfl⟩
    go_upto_if 26 with fail
    go_cut [6] (fun a wx => ∃ (i : Nat) (D1 : Doc) (x : Fr4), a = .int .i64 (i : Int) ∧ (∃ hi : i < D1.F.length, D1.F[i] = x) ∧ D1.F.length ≤ 1000 ∧ pin4 D page = top4 D1 i x ∧ x.2.pins ≤ 1000000 ∧ DocP n0 w wx pb (.slice AF D.F.length cF) (.slice AD D.disk.length cD) (.slice AA D.asked.length cA) D1)
    case first =>
      rcases findI_idx (F := D.F) (k := page) with ⟨i, hi, e1, e2⟩ | ⟨e1, e2⟩
      · rw [e2]
        have r0 : ¬ (i : Int) < 0 := by omega
        have HP : Hid (pin4 D page = top4 D i D.F[i]) := Lib.hid (by
          unfold pin4
          rw [if_neg HBAD.out, e1]
          simp [List.getD, hi])
        clear e1 e2 c2
        go_wp2_with fail
        go_meet
        case rel => exact ⟨i, D, D.F[i], rfl, ⟨hi, rfl⟩, Nat.le_trans HK.out.len (by decide), HP.out, HK.out.pins _ (List.getElem_mem hi), ⟨_, _, _, H.out, Fr.refl _ _, fun b e => Or.inl e⟩⟩
      · rw [e2]
        have c0 := H.out.cells.1
        have c1 := H.out.cells.2.1
        have HE1 := Lib.hid e1
        clear e1 e2 c2
        go_upto_region 5 with fail
        refine wp_region_q (fun W => Below w.heap.size w W) (by kernel_rfl) (by kernel_rfl) (Below.refl _ _).drew ?_
        refine q_val (o := ⟨some 27, _, _, _, _, _⟩) (v := ?_) (by kernel_rfl) (fun W hW => ?_) ?_
        rotate_left
        · go_simp; rfl
        try simp only [Act.put, List.setIfInBounds_toArray, List.set_cons_zero, List.set_cons_succ]
        refine q_val (o := ⟨some 28, _, _, _, _, _⟩) (v := ?_) (by kernel_rfl) (fun W hW => ?_) ?_
        rotate_left
        · go_simp; rfl
        try simp only [Act.put, List.setIfInBounds_toArray, List.set_cons_zero, List.set_cons_succ]
        refine q_val (o := ⟨some 29, _, _, _, _, _⟩) (v := ?_) (by kernel_rfl) (fun W hW => ?_) ?_
        rotate_left
        · go_simp; rfl
        try simp only [Act.put, List.setIfInBounds_toArray, List.set_cons_zero, List.set_cons_succ]
        refine q_val (o := ⟨some 30, _, _, _, _, _⟩) (v := ?_) (by kernel_rfl) (fun W hW => ?_) ?_
        rotate_left
        · have c0 := up_cell hW c0; have c1 := up_cell hW c1; go_simp; rfl
        try simp only [Act.put, List.setIfInBounds_toArray, List.set_cons_zero, List.set_cons_succ]
        refine q_val (o := ⟨some 31, _, _, _, _, _⟩) (v := ?_) (by kernel_rfl) (fun W hW => ?_) ?_
        rotate_left
        · go_simp; rfl
        try simp only [Act.put, List.setIfInBounds_toArray, List.set_cons_zero, List.set_cons_succ]
        refine q_val (o := ⟨some 32, _, _, _, _, _⟩) (v := ?_) (by kernel_rfl) (fun W hW => ?_) ?_
        rotate_left
        · go_simp; rfl
        try simp only [Act.put, List.setIfInBounds_toArray, List.set_cons_zero, List.set_cons_succ]
        refine q_val (o := ⟨some 33, _, _, _, _, _⟩) (v := ?_) (by kernel_rfl) (fun W hW => ?_) ?_
        rotate_left
        · go_simp; rfl
        try simp only [Act.put, List.setIfInBounds_toArray, List.set_cons_zero, List.set_cons_succ]
        refine q_val (o := ⟨some 34, _, _, _, _, _⟩) (v := ?_) (by kernel_rfl) (fun W hW => ?_) ?_
        rotate_left
        · go_simp; rfl
        try simp only [Act.put, List.setIfInBounds_toArray, List.set_cons_zero, List.set_cons_succ]
        refine q_val (o := ⟨some 35, _, _, _, _, _⟩) (v := ?_) (by kernel_rfl) (fun W hW => ?_) ?_
        rotate_left
        · have c0 := up_cell hW c0; have c1 := up_cell hW c1; go_simp; rfl
        try simp only [Act.put, List.setIfInBounds_toArray, List.set_cons_zero, List.set_cons_succ]
        refine q_val (o := ⟨some 36, _, _, _, _, _⟩) (v := ?_) (by kernel_rfl) (fun W hW => ?_) ?_
        rotate_left
        · go_simp; rfl
        try simp only [Act.put, List.setIfInBounds_toArray, List.set_cons_zero, List.set_cons_succ]
        refine q_end (fun W hW => ?_)
        have hD := H.out.up hW
        go_upto_if 36 with fail
        go_cut [] (fun wx => ∃ D2, room4 D = (0, D2) ∧ DocP n0 w wx pb (.slice AF D.F.length cF) (.slice AD D.disk.length cD) (.slice AA D.asked.length cA) D2)
        case first =>
          by_cases hm : (D.F.length : Int) < D.most
          · have r1 : ¬ D.most ≤ (D.F.length : Int) := by omega
            have HR : Hid (room4 D = (0, D)) := Lib.hid (by unfold room4; rw [if_pos hm])
            have HDP : Hid (DocP n0 w W pb (.slice AF D.F.length cF) (.slice AD D.disk.length cD) (.slice AA D.asked.length cA) D) := Lib.hid ⟨_, _, _, hD, Fr.up hW, fun b e => Or.inl e⟩
            clear hD hW c0 c1
            go_wp2_with fail
            go_meet
            case rel => exact ⟨D, HR.out, HDP.out⟩
          · have r1 : D.most ≤ (D.F.length : Int) := by omega
            have hlen := HK.out.len
            have HW := Lib.hid hW; have HD := Lib.hid hD
            clear hW hD c0 c1
            go_wp2_with fail
            go_loopg [7] D.F.length (fun gh i wr => ∃ k : Nat, k ≤ D.F.length ∧ gh = D.F.length - k ∧ i = .int .i64 k ∧ (∀ (j : Nat) (hj : j < D.F.length), j < k → D.F[j].2.pins ≠ 0) ∧ wr = W)
            case atStart => exact ⟨0, Nat.zero_le _, rfl, rfl, fun j _ hj => by omega, rfl⟩
            case round =>
              obtain ⟨k, hk, rfl, rfl, hno, rfl⟩ := hrel
              have c1 := HD.out.cells.2.1
              by_cases hlt : k < D.F.length
              · obtain ⟨b, cF', ev, _, q1, _, _, _⟩ := row4_cells HD.out.rF k hlt
                injection ev with ev _ ec
                subst ev ec
                have r2 : (k : Int) < (D.F.length : Int) := by omega
                have HNO := Lib.hid hno
                obtain ⟨pk, hpk⟩ : ∃ q, q = D.F[k].2.pins := ⟨_, rfl⟩
                rw [← hpk] at q1
                by_cases hp : pk = 0
                · subst hp
                  have HPK := Lib.hid hpk
                  have hroom : room4 D = out4 D k D.F[k] := by
                    unfold room4
                    rw [if_neg (by omega)]
                    have : D.F.findIdx? (fun x => x.2.pins == 0) = some k := by
                      rw [List.findIdx?_eq_some_iff_getElem]
                      exact ⟨hlt, by simp [← HPK.out], fun j hj => by simpa using HNO.out j (by omega) hj⟩
                    rw [this]
                    simp [List.getD, hlt]
                  have hou := rout_any wr k HD.out hlt (Nat.le_trans HK.out.len (by decide)) (Nat.le_trans HK.out.ask (by decide)) HK.out.dsk (HK.out.own k hlt) HK.out.b512
                  rw [← hroom] at hou
                  have HOU := Lib.hid hou
                  have r3 : ¬ (k : Int) = (D.F.length : Int) := by omega
                  obtain ⟨rr, hrr⟩ : ∃ q, q = room4 D := ⟨_, rfl⟩
                  rw [← hrr] at HOU
                  have HRR := Lib.hid hrr
                  clear hou hroom hpk hno hrr
                  go_wp2_with fail
                  refine HOU.out.mono ?_
                  rintro e w5 ⟨rfl, hP5⟩
                  obtain ⟨re, D5⟩ := rr
                  dsimp only at hP5 ⊢
                  have HP5 := Lib.hid (DocP.next (Fr.up HW.out) (fun y e => Or.inl e) hP5)
                  clear hP5 HOU
                  by_cases hre : re = 0
                  · subst hre
                    go_wp2_with fail
                    go_meet
                    case rel => exact ⟨D5, HRR.out.symm, HP5.out⟩
                  · have HR : Hid (pin4 D page = (([], re), D5)) := Lib.hid (by
                      unfold pin4
                      rw [if_neg HBAD.out, HE1.out, ← HRR.out]
                      dsimp only
                      rw [if_pos hre])
                    go_wp2_with fail
                    go_ret2
                    exact ⟨by rw [HR.out]; rfl, by rw [HR.out]; exact HP5.out⟩
                · have hpI : (0 : Int) < (pk : Int) := by omega
                  have HPK := Lib.hid hpk
                  clear hpk hno
                  go_wp2_with fail
                  go_roundg (D.F.length - (k + 1))
                  case measure => omega
                  case rel => exact ⟨k + 1, by omega, rfl, by go_num, fun j hj hjk => if e : j = k then by subst e; rw [← HPK.out]; exact hp else HNO.out j hj (by omega), rfl⟩
              · have hkn : k = D.F.length := by omega
                have HR : Hid (pin4 D page = (([], 10), D)) := Lib.hid (by
                  have h10 : room4 D = (10, D) := by
                    unfold room4
                    rw [if_neg (by omega)]
                    have : D.F.findIdx? (fun x => x.2.pins == 0) = none := by
                      rw [List.findIdx?_eq_none_iff]
                      intro x hx
                      obtain ⟨j, hj, rfl⟩ := List.mem_iff_getElem.1 hx
                      simpa using hno j hj (by omega)
                    rw [this]
                  unfold pin4
                  rw [if_neg HBAD.out, HE1.out, h10]
                  dsimp only
                  rw [if_pos (by simp)])
                subst hkn
                have r2 : ¬ (D.F.length : Int) < (D.F.length : Int) := by omega
                clear hno
                go_wp2_with fail
                go_ret2
                exact ⟨by rw [HR.out]; rfl, by rw [HR.out]; exact ⟨_, _, _, HD.out, Fr.up HW.out, fun b e => Or.inl e⟩⟩
        case rest =>
          obtain ⟨D2, hroom, hP⟩ := hcut
          obtain ⟨hk2, hdl2⟩ := HR2.out D2 hroom
          obtain ⟨vF2, vD2, vA2, hD2, hF2, hN2⟩ := hP
          obtain ⟨AA2, cA2, rfl⟩ := hD2.rA.form
          obtain ⟨AF2, cF2, rfl⟩ := row4_form hD2.rF
          obtain ⟨pn, hpn⟩ : ∃ q : Nat, page = (q : Int) := ⟨page.toNat, by omega⟩
          have hpl : pn < D2.disk.length := by omega
          obtain ⟨b3, c3', rfl⟩ := hD2.rD.at8 (by omega)
          have d1 := hD2.cells.2.1
          have d2 := hD2.cells.2.2.1
          have d3 := (strs_cellN hD2.rD hD2.at0 pn hpl).1
          obtain ⟨z, hz⟩ : ∃ z, z = D2.disk[pn] := ⟨_, rfl⟩
          rw [← hz] at d3
          have hl2 := hk2.len
          have HNEW : Hid (new4 D2 page = ((pn : Int), ⟨z, 0, false⟩)) := Lib.hid (by
            unfold new4
            rw [hpn, hz]
            simp [List.getD, hpl])
          have HPIN : Hid (pin4 D page = top4 (ins4 D2 page) D2.F.length (new4 D2 page)) := Lib.hid (by
            unfold pin4
            rw [if_neg HBAD.out, HE1.out, hroom]
            dsimp only
            rw [if_neg (by simp)])
          have HINS : Hid (ins4 D2 page = { D2 with F := D2.F ++ [((pn : Int), ⟨z, 0, false⟩)] }) := Lib.hid (by unfold ins4; rw [HNEW.out])
          have r5 : (pn : Int) < (D2.disk.length : Int) := by omega
          have r6 : (0 : Int) ≤ (pn : Int) := Int.natCast_nonneg pn
          have HD2 := Lib.hid hD2; have HF2 := Lib.hid hF2; have HN2 := Lib.hid hN2; have HPN := Lib.hid hpn
          clear hz hroom hD2 hF2 hN2 hW hD c0 c1 hk2 hdl2 h1 h0
          rw [HPN.out]
          go_upto_region 14 with fail
          have hB0 : Below wc.heap.size wc wc.drew := (Below.refl _ _).drew
          refine wp_region_late 17 (fun W => W.cell? ⟨pb, 1, none⟩ = some (.slice AF2 D2.F.length cF2) ∧ W.cell? ⟨pb, 2, none⟩ = some (.slice (some ⟨b3, 0, none⟩) D2.disk.length c3') ∧ W.cell? ⟨b3, pn, none⟩ = some (.string (bs z))) (by kernel_rfl) ?_
          show wpAnyK _ _ _ _ _ 17 21 #[false,false,false,false,false,false,false,false,false,false,false,false,false,false,false,false,false,false,false,false,false] _ (World.drew _)
          generalize wc.drew = W0 at *
          refine wpAnyK_takeAny (i := 0) (oi := ⟨some 70, _, _, _, _, _⟩) (v := ?_) rfl (by kernel_rfl) (by kernel_rfl) (by kernel_rfl) (by kernel_rfl) (fun _ _ _ h => h) (Or.inl ⟨by kernel_rfl, ?_⟩) (fun _ => ⟨up_cell hB0 d1, up_cell hB0 d2, up_cell hB0 d3⟩) ?_
          rotate_left
          · intro w'; go_simp; rfl
          try simp only [Act.put, List.setIfInBounds_toArray, List.set_cons_zero, List.set_cons_succ]
          refine wpAnyK_takeAny (i := 2) (oi := ⟨some 72, _, _, _, _, _⟩) (v := ?_) rfl (by kernel_rfl) (by kernel_rfl) (by kernel_rfl) (by kernel_rfl) (fun _ _ _ h => h) (Or.inl ⟨by kernel_rfl, ?_⟩) (fun _ => ⟨up_cell hB0 d1, up_cell hB0 d2, up_cell hB0 d3⟩) ?_
          rotate_left
          · intro w'; go_simp; rfl
          try simp only [Act.put, List.setIfInBounds_toArray, List.set_cons_zero, List.set_cons_succ]
          refine wpAnyK_takeAny (i := 3) (oi := ⟨some 73, _, _, _, _, _⟩) (v := ?_) rfl (by kernel_rfl) (by kernel_rfl) (by kernel_rfl) (by kernel_rfl) (fun _ _ _ h => h) (Or.inl ⟨by kernel_rfl, ?_⟩) (fun _ => ⟨up_cell hB0 d1, up_cell hB0 d2, up_cell hB0 d3⟩) ?_
          rotate_left
          · intro w'; go_simp; rfl
          try simp only [Act.put, List.setIfInBounds_toArray, List.set_cons_zero, List.set_cons_succ]
          refine wpAnyK_takeAny (i := 4) (oi := ⟨some 74, _, _, _, _, _⟩) (v := ?_) rfl (by kernel_rfl) (by kernel_rfl) (by kernel_rfl) (by kernel_rfl) (fun _ _ _ h => h) (Or.inl ⟨by kernel_rfl, ?_⟩) (fun _ => ⟨up_cell hB0 d1, up_cell hB0 d2, up_cell hB0 d3⟩) ?_
          rotate_left
          · intro w'; go_simp; rfl
          try simp only [Act.put, List.setIfInBounds_toArray, List.set_cons_zero, List.set_cons_succ]
          refine wpAnyK_takeAny (i := 7) (oi := ⟨some 77, _, _, _, _, _⟩) (v := ?_) rfl (by kernel_rfl) (by kernel_rfl) (by kernel_rfl) (by kernel_rfl) (fun _ _ _ h => h) (Or.inl ⟨by kernel_rfl, ?_⟩) (fun _ => ⟨up_cell hB0 d1, up_cell hB0 d2, up_cell hB0 d3⟩) ?_
          rotate_left
          · intro w'; go_simp; rfl
          try simp only [Act.put, List.setIfInBounds_toArray, List.set_cons_zero, List.set_cons_succ]
          refine wpAnyK_takeAny (i := 8) (oi := ⟨some 78, _, _, _, _, _⟩) (v := ?_) rfl (by kernel_rfl) (by kernel_rfl) (by kernel_rfl) (by kernel_rfl) (fun _ _ _ h => h) (Or.inl ⟨by kernel_rfl, ?_⟩) (fun _ => ⟨up_cell hB0 d1, up_cell hB0 d2, up_cell hB0 d3⟩) ?_
          rotate_left
          · intro w'; go_simp; rfl
          try simp only [Act.put, List.setIfInBounds_toArray, List.set_cons_zero, List.set_cons_succ]
          refine wpAnyK_takeAny (i := 9) (oi := ⟨some 79, _, _, _, _, _⟩) (v := ?_) rfl (by kernel_rfl) (by kernel_rfl) (by kernel_rfl) (by kernel_rfl) (fun _ _ _ h => h) (Or.inl ⟨by kernel_rfl, ?_⟩) (fun _ => ⟨up_cell hB0 d1, up_cell hB0 d2, up_cell hB0 d3⟩) ?_
          rotate_left
          · intro w'; go_simp; rfl
          try simp only [Act.put, List.setIfInBounds_toArray, List.set_cons_zero, List.set_cons_succ]
          refine wpAnyK_takeAny (i := 10) (oi := ⟨some 80, _, _, _, _, _⟩) (v := ?_) rfl (by kernel_rfl) (by kernel_rfl) (by kernel_rfl) (by kernel_rfl) (fun _ _ _ h => h) (Or.inl ⟨by kernel_rfl, ?_⟩) (fun _ => ⟨up_cell hB0 d1, up_cell hB0 d2, up_cell hB0 d3⟩) ?_
          rotate_left
          · intro w'; go_simp; rfl
          try simp only [Act.put, List.setIfInBounds_toArray, List.set_cons_zero, List.set_cons_succ]
          refine wpAnyK_takeAny (i := 12) (oi := ⟨some 82, _, _, _, _, _⟩) (v := ?_) rfl (by kernel_rfl) (by kernel_rfl) (by kernel_rfl) (by kernel_rfl) (fun _ _ _ h => h) (Or.inl ⟨by kernel_rfl, ?_⟩) (fun _ => ⟨up_cell hB0 d1, up_cell hB0 d2, up_cell hB0 d3⟩) ?_
          rotate_left
          · intro w'; go_simp; rfl
          try simp only [Act.put, List.setIfInBounds_toArray, List.set_cons_zero, List.set_cons_succ]
          refine wpAnyK_take (i := 5) (oi := ⟨some 75, _, _, _, _, _⟩) (L := [6, 17, 18, 19, 20]) (v := ?_) rfl (by kernel_rfl) (by kernel_rfl) (by kernel_rfl) (by kernel_rfl) (fun _ _ _ h => h) (Or.inl ⟨by kernel_rfl, ?_⟩) ⟨up_cell hB0 d1, up_cell hB0 d2, up_cell hB0 d3⟩ ?_
          rotate_left
          · rintro w' ⟨e0, e1, e2⟩; go_simp; rfl
          try simp only [Act.put, List.setIfInBounds_toArray, List.set_cons_zero, List.set_cons_succ]
          refine wpAnyK_take (i := 11) (oi := ⟨some 81, _, _, _, _, _⟩) (L := [13, 14, 15, 16, 17, 18, 19, 20]) (v := ?_) rfl (by kernel_rfl) (by kernel_rfl) (by kernel_rfl) (by kernel_rfl) (fun _ _ _ h => h) (Or.inl ⟨by kernel_rfl, ?_⟩) ⟨up_cell hB0 d1, up_cell hB0 d2, up_cell hB0 d3⟩ ?_
          rotate_left
          · rintro w' ⟨e0, e1, e2⟩; go_simp; rfl
          try simp only [Act.put, List.setIfInBounds_toArray, List.set_cons_zero, List.set_cons_succ]
          refine wpAnyK_takeAny (i := 13) (oi := ⟨some 83, _, _, _, _, _⟩) (v := ?_) rfl (by kernel_rfl) (by kernel_rfl) (by kernel_rfl) (by kernel_rfl) (fun _ _ _ h => h) (Or.inl ⟨by kernel_rfl, ?_⟩) (fun _ => ⟨up_cell hB0 d1, up_cell hB0 d2, up_cell hB0 d3⟩) ?_
          rotate_left
          · intro w'; go_simp; rfl
          try simp only [Act.put, List.setIfInBounds_toArray, List.set_cons_zero, List.set_cons_succ]
          refine wpAnyK_take (i := 14) (oi := ⟨some 84, _, _, _, _, _⟩) (L := [15, 16, 17, 18, 19, 20]) (v := ?_) rfl (by kernel_rfl) (by kernel_rfl) (by kernel_rfl) (by kernel_rfl) (fun _ _ _ h => h) (Or.inl ⟨by kernel_rfl, ?_⟩) ⟨up_cell hB0 d1, up_cell hB0 d2, up_cell hB0 d3⟩ ?_
          rotate_left
          · rintro w' ⟨e0, e1, e2⟩; go_simp; rfl
          try simp only [Act.put, List.setIfInBounds_toArray, List.set_cons_zero, List.set_cons_succ]
          refine wpAnyK_takeAny (i := 15) (oi := ⟨some 85, _, _, _, _, _⟩) (v := ?_) rfl (by kernel_rfl) (by kernel_rfl) (by kernel_rfl) (by kernel_rfl) (fun _ _ _ h => h) (Or.inl ⟨by kernel_rfl, ?_⟩) (fun _ => ⟨up_cell hB0 d1, up_cell hB0 d2, up_cell hB0 d3⟩) ?_
          rotate_left
          · intro w'; go_simp; rfl
          try simp only [Act.put, List.setIfInBounds_toArray, List.set_cons_zero, List.set_cons_succ]
          refine wpAnyK_ready (rs := [1, 16]) (by kernel_rfl) (by simp) ?_
          refine AllReadyK.cons (o := ⟨some 71, _, _, _, _, _⟩) rfl (fun K hK => ?_) (AllReadyK.cons (o := ⟨some 86, _, _, _, _, _⟩) rfl (fun K hK => ?_) AllReadyK.nil)
          · -- 1
            have hq1 : Below W0.heap.size W0 (W0.alloc (.cells #[] 58)) := (Below.refl _ _).alloc (Nat.le_refl _) _
            have hB1 := hB0.trans (hq1.mono hB0.size)
            have hR1 : (W0.alloc (.cells #[] 58)).ownsRow wc.heap.size 58 4 (.slice (some ⟨W0.heap.size, 0, none⟩) 0 0) 0 [] := World.ownsRow_made W0 #[] 0 hB0.size (by unfold maxLen; omega) (by simp)
            go_simp
            refine hK _ _ (fun _ => ⟨up_cell hB1 d1, up_cell hB1 d2, up_cell hB1 d3⟩) ?_
            clear hK K
            generalize W0.alloc (.cells #[] 58) = W1 at *
            generalize W0.heap.size = rb at *
            clear hq1
            refine wpAnyK_ready (rs := [6, 16]) (by kernel_rfl) (by simp) ?_
            refine AllReadyK.cons (o := ⟨some 76, _, _, _, _, _⟩) rfl (fun K hK => ?_) (AllReadyK.cons (o := ⟨some 86, _, _, _, _, _⟩) rfl (fun K hK => ?_) AllReadyK.nil)
            · -- 6
              obtain ⟨v2, W2, hr2, o2, g2, s2⟩ := row_append el4 51 wc.heap.size _ 0 D2.F.length [] (f4Cells D2.F) _ W1 hR1 (CellsAt.of_own (HD2.out.up hB1).rF) (f4Cells_length _) (f4Cells_one _) (by omega) (by decide) hB1.size
              simp only [Nat.zero_add, List.nil_append] at o2
              obtain ⟨A2, cc2, he2⟩ := own_form o2
              subst he2
              have hB2 := hB1.grown g2 hB1.size (fun k e => (hR1.lt k e).1)
              rw [if_pos (by kernel_rfl)]
              refine Lib.wp_append_run _ (.tmp 71) (.tmp 75) 51 51 rfl _ _ rfl rfl _ _ hr2 ?_
              try simp only [Act.put, List.setIfInBounds_toArray, List.set_cons_zero, List.set_cons_succ]
              refine hK _ _ (fun _ => ⟨up_cell hB2 d1, up_cell hB2 d2, up_cell hB2 d3⟩) ?_
              clear hK K
              refine wpAnyK_ready (rs := [16]) (by kernel_rfl) (by simp) ?_
              refine AllReadyK.cons (o := ⟨some 86, _, _, _, _, _⟩) rfl (fun K hK => ?_) AllReadyK.nil
              have hq3 : Below W2.heap.size W2 (W2.alloc (.cells #[.int .i64 (pn : Int), .int .i64 0, .string (bs z), .bool false] 58)) := (Below.refl _ _).alloc (Nat.le_refl _) _
              have hB3 := hB2.trans (hq3.mono hB2.size)
              have hE3 : Blk (W2.alloc (.cells #[.int .i64 (pn : Int), .int .i64 0, .string (bs z), .bool false] 58)) W2.heap.size 58 #[.int .i64 (pn : Int), .int .i64 0, .string (bs z), .bool false] := Blk.made W2 _ _
              have hN3 := fun g e => (Nat.ne_of_lt (o2.lt g e).2)
              have hR3 := ownsRow_grown o2 (grown_of_below hq3 none) (by simp)
              go_simp
              refine hK _ _ (fun _ => ⟨up_cell hB3 d1, up_cell hB3 d2, up_cell hB3 d3⟩) ?_
              clear hK K
              generalize W2.alloc (.cells #[.int .i64 (pn : Int), .int .i64 0, .string (bs z), .bool false] 58) = W3 at *
              generalize W2.heap.size = eb at *
              clear hq3
              refine wpAnyK_ready (rs := [17]) (by kernel_rfl) (by simp) ?_
              refine AllReadyK.cons (o := ⟨some 87, _, _, _, _, _⟩) rfl (fun K hK => ?_) AllReadyK.nil
              obtain ⟨v4, W4, hr4, o4, g4, s4⟩ := row_append el4 51 wc.heap.size _ D2.F.length 1 (f4Cells D2.F) (f4C ((pn : Int), ⟨z, 0, false⟩)) (.slice (some ⟨eb, 0, none⟩) 1 1) W3 hR3 ⟨_, _, rfl, (fun e => by cases e), fun ad e j u hu => by cases e; exact Blk.news (es := f4C ((pn : Int), ⟨z, 0, false⟩)) hE3 j u hu⟩ rfl (by intro u hu; have := f4Cells_one [((pn : Int), ⟨z, 0, false⟩)] u (by simpa [f4Cells] using hu); exact this) (by omega) (by decide) hB3.size
              obtain ⟨A4, cc4, he4⟩ := own_form o4
              subst he4
              have hB4 := hB3.grown g4 hB3.size (fun k e => (hR3.lt k e).1)
              rw [if_pos (by kernel_rfl)]
              refine Lib.wp_append_run _ (.tmp 76) (.tmp 86) 51 51 rfl _ _ rfl rfl _ _ hr4 ?_
              try simp only [Act.put, List.setIfInBounds_toArray, List.set_cons_zero, List.set_cons_succ]
              refine hK _ _ (fun h => by cases h) ?_
              clear hK K
              refine wpAnyK_takeAny (i := 18) (oi := ⟨some 88, _, _, _, _, _⟩) (v := ?_) rfl (by kernel_rfl) (by kernel_rfl) (by kernel_rfl) (by kernel_rfl) (fun _ _ _ h => h) (Or.inl ⟨by kernel_rfl, ?_⟩) (fun h => by cases h) ?_
              rotate_left
              · intro w'; go_simp; rfl
              try simp only [Act.put, List.setIfInBounds_toArray, List.set_cons_zero, List.set_cons_succ]
              refine wpAnyK_takeAny (i := 19) (oi := ⟨some 89, _, _, _, _, _⟩) (v := ?_) rfl (by kernel_rfl) (by kernel_rfl) (by kernel_rfl) (by kernel_rfl) (fun _ _ _ h => h) (Or.inl ⟨by kernel_rfl, ?_⟩) (fun h => by cases h) ?_
              rotate_left
              · intro w'; go_simp; rfl
              try simp only [Act.put, List.setIfInBounds_toArray, List.set_cons_zero, List.set_cons_succ]
              refine wpAnyK_ready (rs := [20]) (by kernel_rfl) (by simp) ?_
              refine AllReadyK.cons (o := ⟨none, _, _, _, _, _⟩) rfl (fun K hK => ?_) AllReadyK.nil
              have hH5 := HD2.out.up hB4
              have f5 := hH5.blk.frozen 1
              have cc_5 := hH5.cells.2.1
              go_simp
              refine hK _ _ (fun h => by cases h) ?_
              clear hK K
              refine wpAnyK_done (by kernel_rfl) ?_ _
              have hG : W4.ownsRow wc.heap.size 58 4 (.slice A4 (D2.F.length + 1) cc4) (ins4 D2 page).F.length (f4Cells (ins4 D2 page).F) := by rw [HINS.out]; dsimp only; rw [List.length_append, f4Cells_append]; exact o4
              have hfin := DocP.next HF2.out HN2.out (DocP.setF (B := 0) HD2.out hB4 hH5 hG)
              have cz := (hH5.setF (own_low hG HD2.out.at0)).cells.2.1
              have hfl : (ins4 D2 page).F.length = D2.F.length + 1 := by rw [HINS.out]; simp
              have HFIN := Lib.hid hfin
              have HFL := Lib.hid hfl
              have r9 : IntKind.i64.wrap (((D2.F.length + 1 : Nat) : Int) - 1) = (D2.F.length : Int) := by rw [IntKind.wrap_i64]; omega
              clear hfin hG hH5 hfl d1 d2 d3
              go_wp2_with fail
              rw [← HPN.out]
              go_meet
              case rel => exact ⟨D2.F.length, ins4 D2 page, new4 D2 page, rfl, ⟨by rw [HFL.out]; omega, by simp [ins4]⟩, by rw [HFL.out]; omega, HPIN.out, by rw [HNEW.out]; exact Nat.zero_le _, HFIN.out⟩
            · -- 16
              have hq6 : Below W1.heap.size W1 (W1.alloc (.cells #[.int .i64 (pn : Int), .int .i64 0, .string (bs z), .bool false] 58)) := (Below.refl _ _).alloc (Nat.le_refl _) _
              have hB6 := hB1.trans (hq6.mono hB1.size)
              have hE6 : Blk (W1.alloc (.cells #[.int .i64 (pn : Int), .int .i64 0, .string (bs z), .bool false] 58)) W1.heap.size 58 #[.int .i64 (pn : Int), .int .i64 0, .string (bs z), .bool false] := Blk.made W1 _ _
              have hN6 := fun g e => (Nat.ne_of_lt (hR1.lt g e).2)
              have hR6 := ownsRow_grown hR1 (grown_of_below hq6 none) (by simp)
              go_simp
              refine hK _ _ (fun _ => ⟨up_cell hB6 d1, up_cell hB6 d2, up_cell hB6 d3⟩) ?_
              clear hK K
              generalize W1.alloc (.cells #[.int .i64 (pn : Int), .int .i64 0, .string (bs z), .bool false] 58) = W6 at *
              generalize W1.heap.size = eb at *
              clear hq6
              refine wpAnyK_ready (rs := [6]) (by kernel_rfl) (by simp) ?_
              refine AllReadyK.cons (o := ⟨some 76, _, _, _, _, _⟩) rfl (fun K hK => ?_) AllReadyK.nil
              obtain ⟨v7, W7, hr7, o7, g7, s7⟩ := row_append el4 51 wc.heap.size _ 0 D2.F.length [] (f4Cells D2.F) _ W6 hR6 (CellsAt.of_own (HD2.out.up hB6).rF) (f4Cells_length _) (f4Cells_one _) (by omega) (by decide) hB6.size
              simp only [Nat.zero_add, List.nil_append] at o7
              obtain ⟨A7, cc7, he7⟩ := own_form o7
              subst he7
              have hB7 := hB6.grown g7 hB6.size (fun k e => (hR6.lt k e).1)
              have hE7 : Blk W7 eb 58 #[.int .i64 (pn : Int), .int .i64 0, .string (bs z), .bool false] := (g7.block eb hE6.lt (fun e => hN6 _ e.symm rfl)).trans hE6
              have hN7 : ∀ g, (Value.slice A7 D2.F.length cc7).ownBlock = some g → g ≠ eb := fun g e => s7.elim (fun h => hN6 g (h ▸ e)) (fun h => by have h2 := h.symm.trans e; injection h2 with h2; have := hE6.lt; omega)
              rw [if_pos (by kernel_rfl)]
              refine Lib.wp_append_run _ (.tmp 71) (.tmp 75) 51 51 rfl _ _ rfl rfl _ _ hr7 ?_
              try simp only [Act.put, List.setIfInBounds_toArray, List.set_cons_zero, List.set_cons_succ]
              refine hK _ _ (fun _ => ⟨up_cell hB7 d1, up_cell hB7 d2, up_cell hB7 d3⟩) ?_
              clear hK K
              refine wpAnyK_ready (rs := [17]) (by kernel_rfl) (by simp) ?_
              refine AllReadyK.cons (o := ⟨some 87, _, _, _, _, _⟩) rfl (fun K hK => ?_) AllReadyK.nil
              obtain ⟨v8, W8, hr8, o8, g8, s8⟩ := row_append el4 51 wc.heap.size _ D2.F.length 1 (f4Cells D2.F) (f4C ((pn : Int), ⟨z, 0, false⟩)) (.slice (some ⟨eb, 0, none⟩) 1 1) W7 o7 ⟨_, _, rfl, (fun e => by cases e), fun ad e j u hu => by cases e; exact Blk.news (es := f4C ((pn : Int), ⟨z, 0, false⟩)) hE7 j u hu⟩ rfl (by intro u hu; have := f4Cells_one [((pn : Int), ⟨z, 0, false⟩)] u (by simpa [f4Cells] using hu); exact this) (by omega) (by decide) hB7.size
              obtain ⟨A8, cc8, he8⟩ := own_form o8
              subst he8
              have hB8 := hB7.grown g8 hB7.size (fun k e => (o7.lt k e).1)
              rw [if_pos (by kernel_rfl)]
              refine Lib.wp_append_run _ (.tmp 76) (.tmp 86) 51 51 rfl _ _ rfl rfl _ _ hr8 ?_
              try simp only [Act.put, List.setIfInBounds_toArray, List.set_cons_zero, List.set_cons_succ]
              refine hK _ _ (fun h => by cases h) ?_
              clear hK K
              refine wpAnyK_takeAny (i := 18) (oi := ⟨some 88, _, _, _, _, _⟩) (v := ?_) rfl (by kernel_rfl) (by kernel_rfl) (by kernel_rfl) (by kernel_rfl) (fun _ _ _ h => h) (Or.inl ⟨by kernel_rfl, ?_⟩) (fun h => by cases h) ?_
              rotate_left
              · intro w'; go_simp; rfl
              try simp only [Act.put, List.setIfInBounds_toArray, List.set_cons_zero, List.set_cons_succ]
              refine wpAnyK_takeAny (i := 19) (oi := ⟨some 89, _, _, _, _, _⟩) (v := ?_) rfl (by kernel_rfl) (by kernel_rfl) (by kernel_rfl) (by kernel_rfl) (fun _ _ _ h => h) (Or.inl ⟨by kernel_rfl, ?_⟩) (fun h => by cases h) ?_
              rotate_left
              · intro w'; go_simp; rfl
              try simp only [Act.put, List.setIfInBounds_toArray, List.set_cons_zero, List.set_cons_succ]
              refine wpAnyK_ready (rs := [20]) (by kernel_rfl) (by simp) ?_
              refine AllReadyK.cons (o := ⟨none, _, _, _, _, _⟩) rfl (fun K hK => ?_) AllReadyK.nil
              have hH9 := HD2.out.up hB8
              have f9 := hH9.blk.frozen 1
              have cc_9 := hH9.cells.2.1
              go_simp
              refine hK _ _ (fun h => by cases h) ?_
              clear hK K
              refine wpAnyK_done (by kernel_rfl) ?_ _
              have hG : W8.ownsRow wc.heap.size 58 4 (.slice A8 (D2.F.length + 1) cc8) (ins4 D2 page).F.length (f4Cells (ins4 D2 page).F) := by rw [HINS.out]; dsimp only; rw [List.length_append, f4Cells_append]; exact o8
              have hfin := DocP.next HF2.out HN2.out (DocP.setF (B := 0) HD2.out hB8 hH9 hG)
              have cz := (hH9.setF (own_low hG HD2.out.at0)).cells.2.1
              have hfl : (ins4 D2 page).F.length = D2.F.length + 1 := by rw [HINS.out]; simp
              have HFIN := Lib.hid hfin
              have HFL := Lib.hid hfl
              have r9 : IntKind.i64.wrap (((D2.F.length + 1 : Nat) : Int) - 1) = (D2.F.length : Int) := by rw [IntKind.wrap_i64]; omega
              clear hfin hG hH9 hfl d1 d2 d3
              go_wp2_with fail
              rw [← HPN.out]
              go_meet
              case rel => exact ⟨D2.F.length, ins4 D2 page, new4 D2 page, rfl, ⟨by rw [HFL.out]; omega, by simp [ins4]⟩, by rw [HFL.out]; omega, HPIN.out, by rw [HNEW.out]; exact Nat.zero_le _, HFIN.out⟩
          · -- 16
            have hq10 : Below W0.heap.size W0 (W0.alloc (.cells #[.int .i64 (pn : Int), .int .i64 0, .string (bs z), .bool false] 58)) := (Below.refl _ _).alloc (Nat.le_refl _) _
            have hB10 := hB0.trans (hq10.mono hB0.size)
            have hE10 : Blk (W0.alloc (.cells #[.int .i64 (pn : Int), .int .i64 0, .string (bs z), .bool false] 58)) W0.heap.size 58 #[.int .i64 (pn : Int), .int .i64 0, .string (bs z), .bool false] := Blk.made W0 _ _
            go_simp
            refine hK _ _ (fun _ => ⟨up_cell hB10 d1, up_cell hB10 d2, up_cell hB10 d3⟩) ?_
            clear hK K
            generalize W0.alloc (.cells #[.int .i64 (pn : Int), .int .i64 0, .string (bs z), .bool false] 58) = W10 at *
            generalize W0.heap.size = eb at *
            clear hq10
            refine wpAnyK_ready (rs := [1]) (by kernel_rfl) (by simp) ?_
            refine AllReadyK.cons (o := ⟨some 71, _, _, _, _, _⟩) rfl (fun K hK => ?_) AllReadyK.nil
            have hq11 : Below W10.heap.size W10 (W10.alloc (.cells #[] 58)) := (Below.refl _ _).alloc (Nat.le_refl _) _
            have hB11 := hB10.trans (hq11.mono hB10.size)
            have hR11 : (W10.alloc (.cells #[] 58)).ownsRow wc.heap.size 58 4 (.slice (some ⟨W10.heap.size, 0, none⟩) 0 0) 0 [] := World.ownsRow_made W10 #[] 0 hB10.size (by unfold maxLen; omega) (by simp)
            have hE11 := hE10.up hq11
            have hN11 : ∀ g, (Value.slice (some ⟨W10.heap.size, 0, none⟩) 0 0).ownBlock = some g → g ≠ eb := fun g e => by simp [Value.ownBlock] at e; have := hE10.lt; omega
            go_simp
            refine hK _ _ (fun _ => ⟨up_cell hB11 d1, up_cell hB11 d2, up_cell hB11 d3⟩) ?_
            clear hK K
            generalize W10.alloc (.cells #[] 58) = W11 at *
            generalize W10.heap.size = rb at *
            clear hq11
            refine wpAnyK_ready (rs := [6]) (by kernel_rfl) (by simp) ?_
            refine AllReadyK.cons (o := ⟨some 76, _, _, _, _, _⟩) rfl (fun K hK => ?_) AllReadyK.nil
            obtain ⟨v12, W12, hr12, o12, g12, s12⟩ := row_append el4 51 wc.heap.size _ 0 D2.F.length [] (f4Cells D2.F) _ W11 hR11 (CellsAt.of_own (HD2.out.up hB11).rF) (f4Cells_length _) (f4Cells_one _) (by omega) (by decide) hB11.size
            simp only [Nat.zero_add, List.nil_append] at o12
            obtain ⟨A12, cc12, he12⟩ := own_form o12
            subst he12
            have hB12 := hB11.grown g12 hB11.size (fun k e => (hR11.lt k e).1)
            have hE12 : Blk W12 eb 58 #[.int .i64 (pn : Int), .int .i64 0, .string (bs z), .bool false] := (g12.block eb hE11.lt (fun e => hN11 _ e.symm rfl)).trans hE11
            have hN12 : ∀ g, (Value.slice A12 D2.F.length cc12).ownBlock = some g → g ≠ eb := fun g e => s12.elim (fun h => hN11 g (h ▸ e)) (fun h => by have h2 := h.symm.trans e; injection h2 with h2; have := hE11.lt; omega)
            rw [if_pos (by kernel_rfl)]
            refine Lib.wp_append_run _ (.tmp 71) (.tmp 75) 51 51 rfl _ _ rfl rfl _ _ hr12 ?_
            try simp only [Act.put, List.setIfInBounds_toArray, List.set_cons_zero, List.set_cons_succ]
            refine hK _ _ (fun _ => ⟨up_cell hB12 d1, up_cell hB12 d2, up_cell hB12 d3⟩) ?_
            clear hK K
            refine wpAnyK_ready (rs := [17]) (by kernel_rfl) (by simp) ?_
            refine AllReadyK.cons (o := ⟨some 87, _, _, _, _, _⟩) rfl (fun K hK => ?_) AllReadyK.nil
            obtain ⟨v13, W13, hr13, o13, g13, s13⟩ := row_append el4 51 wc.heap.size _ D2.F.length 1 (f4Cells D2.F) (f4C ((pn : Int), ⟨z, 0, false⟩)) (.slice (some ⟨eb, 0, none⟩) 1 1) W12 o12 ⟨_, _, rfl, (fun e => by cases e), fun ad e j u hu => by cases e; exact Blk.news (es := f4C ((pn : Int), ⟨z, 0, false⟩)) hE12 j u hu⟩ rfl (by intro u hu; have := f4Cells_one [((pn : Int), ⟨z, 0, false⟩)] u (by simpa [f4Cells] using hu); exact this) (by omega) (by decide) hB12.size
            obtain ⟨A13, cc13, he13⟩ := own_form o13
            subst he13
            have hB13 := hB12.grown g13 hB12.size (fun k e => (o12.lt k e).1)
            rw [if_pos (by kernel_rfl)]
            refine Lib.wp_append_run _ (.tmp 76) (.tmp 86) 51 51 rfl _ _ rfl rfl _ _ hr13 ?_
            try simp only [Act.put, List.setIfInBounds_toArray, List.set_cons_zero, List.set_cons_succ]
            refine hK _ _ (fun h => by cases h) ?_
            clear hK K
            refine wpAnyK_takeAny (i := 18) (oi := ⟨some 88, _, _, _, _, _⟩) (v := ?_) rfl (by kernel_rfl) (by kernel_rfl) (by kernel_rfl) (by kernel_rfl) (fun _ _ _ h => h) (Or.inl ⟨by kernel_rfl, ?_⟩) (fun h => by cases h) ?_
            rotate_left
            · intro w'; go_simp; rfl
            try simp only [Act.put, List.setIfInBounds_toArray, List.set_cons_zero, List.set_cons_succ]
            refine wpAnyK_takeAny (i := 19) (oi := ⟨some 89, _, _, _, _, _⟩) (v := ?_) rfl (by kernel_rfl) (by kernel_rfl) (by kernel_rfl) (by kernel_rfl) (fun _ _ _ h => h) (Or.inl ⟨by kernel_rfl, ?_⟩) (fun h => by cases h) ?_
            rotate_left
            · intro w'; go_simp; rfl
            try simp only [Act.put, List.setIfInBounds_toArray, List.set_cons_zero, List.set_cons_succ]
            refine wpAnyK_ready (rs := [20]) (by kernel_rfl) (by simp) ?_
            refine AllReadyK.cons (o := ⟨none, _, _, _, _, _⟩) rfl (fun K hK => ?_) AllReadyK.nil
            have hH14 := HD2.out.up hB13
            have f14 := hH14.blk.frozen 1
            have cc_14 := hH14.cells.2.1
            go_simp
            refine hK _ _ (fun h => by cases h) ?_
            clear hK K
            refine wpAnyK_done (by kernel_rfl) ?_ _
            have hG : W13.ownsRow wc.heap.size 58 4 (.slice A13 (D2.F.length + 1) cc13) (ins4 D2 page).F.length (f4Cells (ins4 D2 page).F) := by rw [HINS.out]; dsimp only; rw [List.length_append, f4Cells_append]; exact o13
            have hfin := DocP.next HF2.out HN2.out (DocP.setF (B := 0) HD2.out hB13 hH14 hG)
            have cz := (hH14.setF (own_low hG HD2.out.at0)).cells.2.1
            have hfl : (ins4 D2 page).F.length = D2.F.length + 1 := by rw [HINS.out]; simp
            have HFIN := Lib.hid hfin
            have HFL := Lib.hid hfl
            have r9 : IntKind.i64.wrap (((D2.F.length + 1 : Nat) : Int) - 1) = (D2.F.length : Int) := by rw [IntKind.wrap_i64]; omega
            clear hfin hG hH14 hfl d1 d2 d3
            go_wp2_with fail
            rw [← HPN.out]
            go_meet
            case rel => exact ⟨D2.F.length, ins4 D2 page, new4 D2 page, rfl, ⟨by rw [HFL.out]; omega, by simp [ins4]⟩, by rw [HFL.out]; omega, HPIN.out, by rw [HNEW.out]; exact Nat.zero_le _, HFIN.out⟩
    case rest =>
      obtain ⟨i, D1, x, rfl, ⟨hi, hx⟩, hl, hpin, hp1, hP⟩ := hcut
      obtain ⟨vF1, vD1, vA1, hD1, hF1, hN1⟩ := hP
      obtain ⟨b, cF1, rfl, q0, q1, q2, q3, _⟩ := row4_cells hD1.rF i hi
      rw [hx] at q0 q1 q2 q3
      have c1 := hD1.cells.2.1
      have r2 : (i : Int) < (D1.F.length : Int) := by omega
      have r3 : (0 : Int) ≤ (i : Int) := Int.natCast_nonneg i
      have r4 : IntKind.i64.wrap ((x.2.pins : Int) + 1) = (x.2.pins : Int) + 1 := by rw [IntKind.wrap_i64]; omega
      have HD1 := Lib.hid hD1; have HF1 := Lib.hid hF1; have HN1 := Lib.hid hN1; have HX := Lib.hid hx; have HPIN := Lib.hid hpin
      clear hD1 hF1 hN1 hx hpin c2
      go_upto_region 19 with fail
      have hb2 : Below wc.heap.size wc (wc.alloc (.cells #[.int .i64 x.1, .int .i64 ((x.2.pins : Int) + 1), .string (bs x.2.bytes), .bool x.2.dirty] 58)) := (Below.refl _ _).alloc (Nat.le_refl _) _
      have hxb : Blk (wc.alloc (.cells #[.int .i64 x.1, .int .i64 ((x.2.pins : Int) + 1), .string (bs x.2.bytes), .bool x.2.dirty] 58)) wc.heap.size 58 #[.int .i64 x.1, .int .i64 ((x.2.pins : Int) + 1), .string (bs x.2.bytes), .bool x.2.dirty] := Blk.made wc _ _
      generalize wc.alloc (.cells #[.int .i64 x.1, .int .i64 ((x.2.pins : Int) + 1), .string (bs x.2.bytes), .bool x.2.dirty] 58) = w2 at *
      obtain ⟨AA1, cA1, rfl⟩ := HD1.out.rA.form
      obtain ⟨AD1, cD1, rfl⟩ := HD1.out.rD.slice
      have hD2 := HD1.out.up hb2
      obtain ⟨v1, w21, hr1, o1, b1, s1, _⟩ := row_more el4 51 (n := 0) (xs := []) (Below.refl w2.heap.size w2) (Nat.le_refl _) (World.ownsRow_nil _ _ _ _) (row4_lo hD2.rF i (by omega)) (by rw [f4Cells_length, List.length_take]; omega) (f4Cells_one _) (by omega) (by decide)
      simp only [Nat.zero_add, List.nil_append] at o1
      obtain ⟨A2, hA2, hA2'⟩ := cut_addr cF1 i b
      have hD21 := hD2.up b1
      obtain ⟨v2, w31, hr2, o2, b2, s2, _⟩ := row_more el4 51 b1 s1 o1 (row4_hi hD21.rF (i + 1) (cF1 - (i + 1)) (by omega) A2 hA2') (by rw [f4Cells_length, List.length_drop]) (f4Cells_one _) (by omega) (by decide)
      have hG := cut4_row hi o2
      obtain ⟨v3, w41, hr3, o3, b3, s3⟩ := row_push el4 51 b2 s2 hG (es := f4C (bump x)) rfl (by intro u hu; have := f4Cells_one [bump x] u (by simpa [f4Cells] using hu); exact this) (by unfold cut4; rw [List.length_append, List.length_take, List.length_drop]; omega) (by decide)
      have c1a := hD2.cells.2.1
      have c1b := hD21.cells.2.1
      have hD41 := hD2.up b3
      have c1c := hD41.cells.2.1
      have f1c := hD41.blk.frozen 1
      have hx31 := hxb.up b2
      have hx41 := hxb.up b3
      have x0 := hx31.cell 0
      have x1 := hx31.cell 1
      have x2 := hx31.cell 2
      have x3 := hx31.cell 3
      have hxpb : wc.heap.size ≠ pb := fun e => by
        have := HD1.out.blk.lt
        omega
      obtain ⟨A1, cc1, rfl⟩ := own_form o1
      obtain ⟨A3, cc3, rfl⟩ := own_form o2
      obtain ⟨A4, cc4, rfl⟩ := own_form o3
      have hGl : (cut4 D1.F i).length = i + (D1.F.length - (i + 1)) := by unfold cut4; rw [List.length_append, List.length_take, List.length_drop]; omega
      rw [hGl] at o3 hr3
      have hfin : DocP n0 w (w41.setCell ⟨pb, 1, none⟩ (.slice A4 (i + (D1.F.length - (i + 1)) + 1) cc4)) pb (.slice AF D.F.length cF) (.slice AD D.disk.length cD) (.slice AA D.asked.length cA) (top4 D1 i x).2 := by
        refine DocP.next (HF1.out.trans (Fr.up hb2) (fun _ _ e => e)) (fun y e => HN1.out y e) (DocP.next (w' := w2) (Fr.refl _ _) (fun y e => Or.inl e) (DocP.setF (B := 0) hD2 b3 hD41 (G := cut4 D1.F i ++ [bump x]) ?_))
        rw [f4Cells_append, List.length_append, hGl]
        exact o3
      have x2' : (w41.setCell ⟨pb, 1, none⟩ (.slice A4 (i + (D1.F.length - (i + 1)) + 1) cc4)).cell? ⟨wc.heap.size, 2, none⟩ = some (.string (bs x.2.bytes)) := by
        have := (Fr.setCell w41 pb 1 (.slice A4 (i + (D1.F.length - (i + 1)) + 1) cc4)).blk hx41 hxpb
        exact this.cell 2
      have HFIN := Lib.hid hfin
      have hes : (f4C (bump x)).toArray = #[.int .i64 x.1, .int .i64 ((x.2.pins : Int) + 1), .string (bs x.2.bytes), .bool x.2.dirty] := by
        simp [f4C, bump]
      rw [hes] at hr3
      have t1 : ((i : Int) + 1).toNat = i + 1 := by omega
      have t2 : IntKind.i64.wrap ((i : Int) + 1) = (i : Int) + 1 := by rw [IntKind.wrap_i64]; omega
      have t3 : (i : Int) + 1 ≤ (D1.F.length : Int) := by omega
      have t4 : (0 : Int) ≤ (i : Int) + 1 := by omega
      have t5 := own_cap HD1.out.rF
      have t6 : (i : Int) ≤ (cF1 : Int) := by omega
      clear hb2 hxb hD2 o1 b1 s1 hA2' hD21 o2 b2 s2 hG o3 b3 s3 hD41 hx31 hx41 hfin hes hGl q0 q1 q2 q3 c1
      generalize wc.heap.size = xb at *
      replace x0 : w31.cell? ⟨xb, 0, none⟩ = some (.int .i64 x.1) := x0
      replace x1 : w31.cell? ⟨xb, 1, none⟩ = some (.int .i64 ((x.2.pins : Int) + 1)) := x1
      replace x2 : w31.cell? ⟨xb, 2, none⟩ = some (.string (bs x.2.bytes)) := x2
      replace x3 : w31.cell? ⟨xb, 3, none⟩ = some (.bool x.2.dirty) := x3
      have HR3 := Lib.hid hr3; have HR2' := Lib.hid hr2; have HC := Lib.hid c1c; have HF := Lib.hid f1c; have HX2 := Lib.hid x2'
      clear hr3 hr2 c1c f1c x2'
      go_upto_region 20 with (at_builtin; refine Lib.wpList_append_run _ rfl _ _ _ _ rfl _ _ rfl rfl _ _ hr1 ?_)
      clear hr1 c1a
      go_upto_region 21 with (at_builtin; refine Lib.wpList_append_run _ rfl _ _ _ _ rfl _ _ rfl rfl _ _ HR2'.out ?_)
      clear c1b hA2
      have c1c := HC.out
      have f1c := HF.out
      have x2' := HX2.out
      go_wp2_with (at_builtin; refine Lib.wpList_append_run _ rfl _ _ _ _ rfl _ _ rfl rfl _ _ HR3.out ?_)
      go_ret2
      exact ⟨by rw [HPIN.out]; rfl, by rw [HPIN.out]; exact HFIN.out⟩
end
end
end Go.Proofs.YtjlcbabnkhdgpaaGreatDoor
namespace Go.Proofs.YtjlcbabnkhdgpaaGreatDoor
section
set_option linter.unusedSimpArgs false
set_option linter.unusedVariables false

/-- The flush of PoolPlays: it writes down what it is asked, and refuses or doesn't. -/
abbrev AskS := List Int × Bool
def lsA : AskS → Int → Int × AskS := fun s n => (if s.2 = true then 9 else 0, (s.1 ++ [n], s.2))
/-- The document's frames, disk, pool. -/
def docF (hs : List Hl) (us : List Int) : List Fr4 := us.map fun k => (k, frOf hs k)
def docD (disk : Int → List UInt8) : List (List UInt8) := (List.range 8).map fun (j : Nat) => disk (j : Int)
def docOf (most : Int) (q : Sm AskS) : Doc := ⟨most, docF q.hs q.us, docD q.disk, q.s.1, q.s.2⟩
theorem docF_length (hs : List Hl) (us : List Int) : (docF hs us).length = us.length := List.length_map _
theorem docD_length (disk : Int → List UInt8) : (docD disk).length = 8 := by unfold docD; simp
theorem docF_at (hs : List Hl) (us : List Int) (i : Nat) (hi : i < us.length) : (docF hs us)[i]'(by rw [docF_length]; exact hi) = (us[i], frOf hs us[i]) := by simp [docF]
theorem docD_at (disk : Int → List UInt8) (j : Nat) (hj : j < 8) : (docD disk)[j]'(by rw [docD_length]; exact hj) = disk (j : Int) := by simp [docD]
theorem nod_at {us : List Int} (h : us.Nodup) {i j : Nat} (hi : i < us.length) (hj : j < us.length) (e : us[i] = us[j]) : i = j := by
  have hp := List.pairwise_iff_getElem.1 (List.nodup_iff_pairwise_ne.1 h)
  rcases Nat.lt_trichotomy i j with h1 | h1 | h1
  · exact absurd e (hp i j hi hj h1)
  · exact h1
  · exact absurd e.symm (hp j i hj hi h1)
theorem idx_at {us : List Int} {k : Int} (hk : k ∈ us) : ∃ h : us.idxOf k < us.length, us[us.idxOf k] = k := ⟨List.idxOf_lt_length_iff.2 hk, List.getElem_idxOf _⟩
section
variable {most : Int} {hs : List Hl} {us : List Int} {k n : Int}
theorem docF_find (hn : us.Nodup) : (docF hs us).find? (fun x => x.1 == k) = if k ∈ us then some (k, frOf hs k) else none := by
  by_cases hk : k ∈ us
  · rw [if_pos hk]
    obtain ⟨h1, h2⟩ := idx_at hk
    rw [List.find?_eq_some_iff_getElem]
    refine ⟨by simp, us.idxOf k, by rw [docF_length]; exact h1, by rw [docF_at _ _ _ h1, h2], fun j hj => ?_⟩
    rw [docF_at _ _ _ (by omega)]
    simp only [Bool.not_eq_true', beq_eq_false_iff_ne, ne_eq]
    intro e
    have := nod_at hn (by omega) h1 (e.trans h2.symm)
    omega
  · rw [if_neg hk, List.find?_eq_none]
    intro x hx
    obtain ⟨y, hy, rfl⟩ := List.mem_map.1 hx
    simp only [beq_iff_eq]
    exact fun e => hk (e ▸ hy)
theorem docF_idx (hn : us.Nodup) : (docF hs us).findIdx? (fun x => x.1 == k) = if k ∈ us then some (us.idxOf k) else none := by
  by_cases hk : k ∈ us
  · rw [if_pos hk]
    obtain ⟨h1, h2⟩ := idx_at hk
    rw [List.findIdx?_eq_some_iff_getElem]
    refine ⟨by rw [docF_length]; exact h1, by rw [docF_at _ _ _ h1]; simp [h2], fun j hj => ?_⟩
    rw [docF_at _ _ _ (by omega)]
    intro e
    have e' : us[j] = k := by simpa using e
    have := nod_at hn (by omega) h1 (e'.trans h2.symm)
    omega
  · rw [if_neg hk, List.findIdx?_eq_none_iff]
    intro x hx
    obtain ⟨y, hy, rfl⟩ := List.mem_map.1 hx
    simp only [beq_eq_false_iff_ne, ne_eq]
    exact fun e => hk (e ▸ hy)
theorem docF_findI (hn : us.Nodup) : findI (docF hs us) k = if k ∈ us then (us.idxOf k : Int) else -1 := by
  unfold findI
  rw [docF_idx hn]
  by_cases hk : k ∈ us
  · rw [if_pos hk, if_pos hk]
  · rw [if_neg hk, if_neg hk]
theorem at4_doc (hn : us.Nodup) (hk : k ∈ us) : at4 (docF hs us) k = frOf hs k := by
  unfold at4
  rw [docF_find hn, if_pos hk]
theorem topD_doc (hn : us.Nodup) (ns : List Int) (hin : ∀ k ∈ ns, k ∈ us) : topD (docF hs us) ns = topOf hs ns := by
  induction ns using snoc_ind with
  | h0 => rfl
  | h1 ns n ih => rw [topD_snoc, topOf_snoc, ih (fun k hk => hin k (by simp [hk])), at4_doc hn (hin n (by simp))]
theorem putD_doc (hn : us.Nodup) (disk : Int → List UInt8) (ns : List Int) (hin : ∀ k ∈ ns, k ∈ us) (hr : ∀ k ∈ us, 0 ≤ k ∧ k < 8) : putD (docF hs us) (docD disk) ns = docD (wrD hs ns disk) := by
  induction ns using snoc_ind with
  | h0 => unfold docD wrD; simp [putD]
  | h1 ns n ih =>
    rw [putD_snoc, ih (fun k hk => hin k (by simp [hk])), at4_doc hn (hin n (by simp))]
    obtain ⟨h0, h8⟩ := hr n (hin n (by simp))
    apply List.ext_getElem
    · simp [docD]
    · intro j h1 h2
      rw [docD_length] at h2
      rw [List.getElem_set, docD_at _ _ h2, docD_at _ _ h2]
      unfold wrD
      by_cases e : n.toNat = j
      · have e' : (j : Int) = n := by omega
        rw [if_pos e, if_pos (by rw [e']; simp), e']
      · rw [if_neg e]
        have e' : (j : Int) ≠ n := by omega
        simp [e']
theorem modify_doc (hn : us.Nodup) (g : Int → Fr4) (hk : k ∈ us) (f : Fr4 → Fr4) : (us.map g).modify (us.idxOf k) f = us.map fun x => if x = k then f (g x) else g x := by
  obtain ⟨h1, h2⟩ := idx_at hk
  apply List.ext_getElem
  · simp
  · intro m h3 h4
    rw [List.getElem_modify, List.getElem_map, List.getElem_map]
    rw [List.length_map] at h4
    by_cases e : us.idxOf k = m
    · subst e
      rw [if_pos rfl, if_pos h2]
    · rw [if_neg e, if_neg (fun e2 => e (nod_at hn h1 h4 (h2.trans e2.symm)))]
theorem frOf_cleanF (ns : List Int) (k : Int) : frOf (cleanF hs ns) k = { frOf hs k with dirty := (frOf hs k).dirty && !decide (k ∈ ns) } := by
  unfold frOf
  rw [fd_cleanF]
  cases fd hs k with
  | none => simp
  | some y => rfl
theorem cln4_doc (hn : us.Nodup) (ns : List Int) (hin : ∀ k ∈ ns, k ∈ us) : cln4 (docF hs us) ns = docF (cleanF hs ns) us := by
  induction ns using snoc_ind with
  | h0 => rfl
  | h1 ns n ih =>
    have hnu := hin n (by simp)
    rw [cln4_snoc, ih (fun k hk => hin k (by simp [hk])), docF_findI hn, if_pos hnu, Int.toNat_natCast]
    unfold docF
    rw [modify_doc hn _ hnu]
    apply List.map_congr_left
    intro x hx
    by_cases e : x = n
    · subst e
      rw [if_pos rfl, frOf_cleanF, frOf_cleanF]
      simp [off4]
    · rw [if_neg e, frOf_cleanF, frOf_cleanF]
      simp [e]
end
section
variable {most : Int} {q : Sm AskS} {d : DevM} {n : Int}
theorem wr_doc (h : Ps most q.hs q.us d q.disk) (ns : List Int) (hin : ∀ k ∈ ns, k ∈ q.us) : wr4 (docOf most q) ns = ((wrS lsA q ns).1, docOf most (wrS lsA q ns).2) := by
  unfold wr4 wrS
  by_cases h0 : ns = []
  · rw [if_pos h0, if_pos h0]
  · rw [if_neg h0, if_neg h0]
    have e1 : topD (docOf most q).F ns = topOf q.hs ns := topD_doc h.gd.nod ns hin
    rw [e1]
    cases hr : q.s.2 with
    | true =>
      rw [if_pos (show (docOf most q).refuse = true from hr)]
      have e : (lsA q.s (topOf q.hs ns : Nat)).1 = 9 := by unfold lsA; simp [hr]
      rw [if_pos (by rw [e]; decide), e]
      unfold docOf lsA
      rfl
    | false =>
      rw [if_neg (show ¬ (docOf most q).refuse = true by show ¬ q.s.2 = true; simp [hr])]
      have e : (lsA q.s (topOf q.hs ns : Nat)).1 = 0 := by unfold lsA; simp [hr]
      rw [if_neg (by rw [e]; simp)]
      have e2 : putD (docOf most q).F (docOf most q).disk ns = docD (wrD q.hs ns q.disk) := putD_doc h.gd.nod q.disk ns hin h.gd.rng
      have e3 : cln4 (docOf most q).F ns = docF (cleanF q.hs ns) q.us := cln4_doc h.gd.nod ns hin
      rw [e2, e3]
      rfl
theorem frOf_delF (hr : Rise (psOf q.hs)) {k : Int} (hk : k ≠ n) : frOf (delF q.hs n) k = frOf q.hs k := by
  unfold frOf; rw [fd_delF hr, if_neg hk]
theorem dropL_idx {us : List Int} (h : n ∈ us) : dropL us n = us.take (us.idxOf n) ++ us.drop (us.idxOf n + 1) := by unfold dropL; rw [if_pos h]
theorem cut_doc (hr : Rise (psOf q.hs)) (hn : q.us.Nodup) (hk : n ∈ q.us) : cut4 (docF q.hs q.us) (q.us.idxOf n) = docF (delF q.hs n) (dropL q.us n) := by
  have h1 : cut4 (docF q.hs q.us) (q.us.idxOf n) = (dropL q.us n).map fun k => (k, frOf q.hs k) := by
    rw [dropL_idx hk]
    unfold cut4 docF
    rw [List.map_append, List.map_take, List.map_drop]
  rw [h1]
  unfold docF
  apply List.map_congr_left
  intro k hk2
  rw [frOf_delF hr ((mem_dropL hn n k).1 hk2).2]
theorem out_doc (h : Ps most q.hs q.us d q.disk) (hn : n ∈ q.us) : out4 (docOf most q) (q.us.idxOf n) (n, frOf q.hs n) = ((outS lsA q n).1, docOf most (outS lsA q n).2) := by
  have hone : ∀ k ∈ [n], k ∈ q.us := fun k hk => by rw [List.mem_singleton.1 hk]; exact hn
  obtain ⟨_, _, ⟨d', hP⟩, hu⟩ := pre_all (ls := lsA) h hn
  have key : ∀ r : Int × Sm AskS, Ps most r.2.hs r.2.us d' r.2.disk → r.2.us = q.us → (if (r.1, docOf most r.2).1 ≠ 0 then (r.1, docOf most r.2) else (0, { docOf most r.2 with F := cut4 (docOf most r.2).F (q.us.idxOf n) })) = ((outT r n).1, docOf most (outT r n).2) := by
    intro r hr e
    unfold outT
    by_cases h1 : r.1 = 0
    · rw [if_neg (by simpa using h1), if_neg (by simpa using h1)]
      have : cut4 (docOf most r.2).F (q.us.idxOf n) = docF (delF r.2.hs n) (dropL r.2.us n) := by
        rw [← e]
        exact cut_doc hr.gd.rise hr.gd.nod (by rw [e]; exact hn)
      rw [this]
      rfl
    · rw [if_pos h1, if_pos h1]
  rw [outS_pre]
  rw [← key (preS lsA q n) hP hu]
  unfold out4 preS
  dsimp only
  by_cases hd : (frOf q.hs n).dirty = true
  · rw [if_pos hd, if_pos hd, wr_doc h [n] hone]
  · rw [if_neg hd, if_neg hd, if_neg (by simp)]
theorem room_doc (h : Ps most q.hs q.us d q.disk) : room4 (docOf most q) = ((spaceS lsA most q).1, docOf most (spaceS lsA most q).2) := by
  unfold room4 spaceS
  have hl : (docOf most q).F.length = q.hs.length := by rw [show (docOf most q).F = docF q.hs q.us from rfl, docF_length, h.gd.same]
  rw [hl]
  by_cases hm : (q.hs.length : Int) < most
  · rw [if_pos (show (q.hs.length : Int) < (docOf most q).most from hm), if_pos hm]
  · rw [if_neg (show ¬ (q.hs.length : Int) < (docOf most q).most from hm), if_neg hm]
    cases hf : q.us.find? (fun k => (frOf q.hs k).pins == 0) with
    | none =>
      have : (docOf most q).F.findIdx? (fun x => x.2.pins == 0) = none := by
        rw [List.findIdx?_eq_none_iff]
        intro x hx
        obtain ⟨y, hy, rfl⟩ := List.mem_map.1 hx
        rw [List.find?_eq_none] at hf
        simpa using hf y hy
      rw [this]
    | some k =>
      have hk := List.mem_of_find?_eq_some hf
      rw [List.find?_eq_some_iff_getElem] at hf
      obtain ⟨hp, i, hi, hik, hno⟩ := hf
      have hidx : q.us.idxOf k = i := by
        obtain ⟨h1, h2⟩ := idx_at hk
        exact nod_at h.gd.nod h1 hi (h2.trans hik.symm)
      have : (docF q.hs q.us).findIdx? (fun x => x.2.pins == 0) = some i := by
        rw [List.findIdx?_eq_some_iff_getElem]
        refine ⟨by rw [docF_length]; exact hi, by rw [docF_at _ _ _ hi, hik]; exact hp, fun j hj => ?_⟩
        rw [docF_at _ _ _ (by omega)]
        simpa using hno j hj
      replace this : (docOf most q).F.findIdx? (fun x => x.2.pins == 0) = some i := this
      rw [this]
      dsimp only
      have hg : (docOf most q).F.getD i (0, ⟨[], 0, false⟩) = (k, frOf q.hs k) := by
        show (docF q.hs q.us).getD i _ = _
        rw [List.getD_eq_getElem?_getD, List.getElem?_eq_getElem (by rw [docF_length]; exact hi), docF_at _ _ _ hi, hik]
        rfl
      rw [hg, ← hidx]
      exact out_doc h hk
theorem top_doc (h : Ps most q.hs q.us d q.disk) {y : Nat × FrM} (hy : fd q.hs n = some y) :
    top4 (docOf most q) (q.us.idxOf n) (n, y.2) = ((y.2.bytes, 0), docOf most { q with hs := setF q.hs n (upF y.2), us := useL q.us n }) := by
  have hk : n ∈ q.us := (h.gd.keys n).2 (by rw [hy]; rfl)
  have hn := h.gd.nod
  unfold top4
  have h1 : cut4 (docOf most q).F (q.us.idxOf n) = (dropL q.us n).map fun k => (k, frOf q.hs k) := by
    rw [dropL_idx hk]
    show cut4 (docF q.hs q.us) _ = _
    unfold cut4 docF
    rw [List.map_append, List.map_take, List.map_drop]
  have h2 : docF (setF q.hs n (upF y.2)) (useL q.us n) = ((dropL q.us n).map fun k => (k, frOf q.hs k)) ++ [bump (n, y.2)] := by
    unfold docF useL
    rw [List.map_append]
    congr 1
    · apply List.map_congr_left
      intro k hk2
      have hne := ((mem_dropL hn n k).1 hk2).2
      unfold frOf
      rw [fd_setF, if_neg hne]
    · simp only [List.map_cons, List.map_nil]
      unfold frOf bump
      rw [fd_setF, if_pos rfl, hy]
      rfl
  rw [h1, ← h2]
  rfl
theorem new_doc (h : Ps most q.hs q.us d q.disk) (hy : fd q.hs n = none) (h0 : 0 ≤ n) (h8 : n < 8) (x : Nat) :
    top4 (ins4 (docOf most q) n) (docOf most q).F.length (new4 (docOf most q) n) = ((q.disk n, 0), docOf most { q with hs := insF q.hs n (x, ⟨q.disk n, 1, false⟩), us := useL q.us n }) := by
  have hk : n ∉ q.us := fun e => by have := (h.gd.keys n).1 e; rw [hy] at this; cases this
  have hnew : new4 (docOf most q) n = (n, ⟨q.disk n, 0, false⟩) := by
    unfold new4
    have hlt : n.toNat < 8 := by omega
    have : (docOf most q).disk.getD n.toNat [] = q.disk n := by
      show (docD q.disk).getD n.toNat [] = _
      rw [List.getD_eq_getElem?_getD, List.getElem?_eq_getElem (by rw [docD_length]; exact hlt), docD_at _ _ hlt, show ((n.toNat : Nat) : Int) = n by omega]
      rfl
    rw [this]
  have hcut : cut4 (ins4 (docOf most q) n).F (docOf most q).F.length = docF q.hs q.us := by
    show cut4 (docF q.hs q.us ++ [new4 (docOf most q) n]) (docF q.hs q.us).length = _
    unfold cut4
    rw [List.take_left', List.drop_of_length_le (by simp), List.append_nil]
    rfl
  have h2 : docF (insF q.hs n (x, ⟨q.disk n, 1, false⟩)) (useL q.us n) = docF q.hs q.us ++ [bump (n, ⟨q.disk n, 0, false⟩)] := by
    unfold docF useL
    rw [dropL_not hk, List.map_append]
    congr 1
    · apply List.map_congr_left
      intro k hk2
      have hne : k ≠ n := fun e => hk (e ▸ hk2)
      unfold frOf
      rw [fd_insF hy, if_neg hne]
    · simp only [List.map_cons, List.map_nil]
      unfold frOf bump
      rw [fd_insF hy, if_pos rfl]
  unfold top4
  rw [hcut, hnew, ← h2]
  rfl
theorem pin_doc (h : Ps most q.hs q.us d q.disk) (hm : 1 ≤ most) (h0 : 0 ≤ n) (h8 : n < 8) (x : Nat) : pin4 (docOf most q) n = ((pinS lsA most q n x).1, docOf most (pinS lsA most q n x).2) := by
  have hdl : ((docOf most q).disk.length : Int) = 8 := by rw [show (docOf most q).disk = docD q.disk from rfl, docD_length]; rfl
  unfold pin4
  rw [if_neg (by rw [hdl]; omega), show (docOf most q).F = docF q.hs q.us from rfl, docF_idx h.gd.nod]
  cases hy : fd q.hs n with
  | some y =>
    have hk : n ∈ q.us := (h.gd.keys n).2 (by rw [hy]; rfl)
    obtain ⟨h1, h2⟩ := idx_at hk
    rw [if_pos hk]
    dsimp only
    have hg : (docF q.hs q.us).getD (q.us.idxOf n) (0, ⟨[], 0, false⟩) = (n, y.2) := by
      rw [List.getD_eq_getElem?_getD, List.getElem?_eq_getElem (by rw [docF_length]; exact h1), docF_at _ _ _ h1, h2, frOf_fd hy]
      rfl
    rw [hg, top_doc h hy]
    unfold pinS
    rw [hy]
  | none =>
    have hk : n ∉ q.us := fun e => by have := (h.gd.keys n).1 e; rw [hy] at this; cases this
    rw [if_neg hk]
    dsimp only
    obtain ⟨_, _, _, _, hP, _⟩ := step_space (ls := lsA) h
    have hnone := spaceS_none (ls := lsA) h hy (onD_cmds lsA)
    rw [room_doc h, show pinS lsA most q n x = newS (spaceS lsA most q) n x by unfold pinS; rw [hy]]
    generalize spaceS lsA most q = r at *
    unfold newS
    by_cases h1 : r.1 = 0
    · rw [if_neg (by simpa using h1), if_neg (by simpa using h1)]
      exact new_doc hP hnone h0 h8 x
    · rw [if_pos h1, if_pos h1]
/-- Some frame set. -/
theorem set_doc (h : Ps most q.hs q.us d q.disk) (hk : n ∈ q.us) (f : FrM) : (docF q.hs q.us).set (q.us.idxOf n) (n, f) = docF (setF q.hs n f) q.us := by
  obtain ⟨h1, h2⟩ := idx_at hk
  obtain ⟨y, hy⟩ := h.held hk
  apply List.ext_getElem
  · simp [docF]
  · intro m h3 h4
    rw [docF_length] at h4
    rw [List.getElem_set, docF_at _ _ _ h4, docF_at _ _ _ h4]
    by_cases e : q.us.idxOf n = m
    · subst e
      rw [if_pos rfl, h2]
      unfold frOf
      rw [fd_setF, if_pos rfl, hy]
      rfl
    · rw [if_neg e]
      have hne : q.us[m] ≠ n := fun e2 => e (nod_at h.gd.nod h1 h4 (h2.trans e2.symm))
      unfold frOf
      rw [fd_setF, if_neg hne]
theorem rise_ext : ∀ (l1 l2 : List Int), l1.Pairwise (· < ·) → l2.Pairwise (· < ·) → (∀ x, x ∈ l1 ↔ x ∈ l2) → l1 = l2
  | [], [], _, _, _ => rfl
  | [], b :: l2, _, _, h => absurd ((h b).2 (List.mem_cons_self ..)) (by simp)
  | a :: l1, [], _, _, h => absurd ((h a).1 (List.mem_cons_self ..)) (by simp)
  | a :: l1, b :: l2, h1, h2, h => by
    rw [List.pairwise_cons] at h1 h2
    have hab : a = b := by
      have ha := (h a).1 (List.mem_cons_self ..)
      have hb := (h b).2 (List.mem_cons_self ..)
      rw [List.mem_cons] at ha hb
      rcases ha with ha | ha
      · exact ha
      · rcases hb with hb | hb
        · exact hb.symm
        · have q1 := h2.1 a ha
          have q2 := h1.1 b hb
          omega
    subst hab
    congr 1
    refine rise_ext l1 l2 h1.2 h2.2 (fun x => ⟨fun hx => ?_, fun hx => ?_⟩)
    · have := (h x).1 (List.mem_cons_of_mem _ hx)
      rw [List.mem_cons] at this
      rcases this with e | e
      · have := h1.1 x hx; omega
      · exact e
    · have := (h x).2 (List.mem_cons_of_mem _ hx)
      rw [List.mem_cons] at this
      rcases this with e | e
      · have := h2.1 x hx; omega
      · exact e
theorem told_doc (h : Ps most q.hs q.us d q.disk) (b : Bool) (k : Int) : toldB (docOf most q) b k = true ↔ ∃ y, fd q.hs k = some y ∧ (!b || y.2.dirty) = true := by
  unfold toldB
  rw [show (docOf most q).F = docF q.hs q.us from rfl, docF_find h.gd.nod]
  by_cases hk : k ∈ q.us
  · rw [if_pos hk]
    obtain ⟨y, hy⟩ := h.held hk
    dsimp only
    rw [frOf_fd hy]
    refine ⟨fun e => ⟨y, hy, e⟩, fun e => ?_⟩
    obtain ⟨y', hy', e⟩ := e
    rw [hy] at hy'
    injection hy' with hy'
    rw [hy']
    exact e
  · rw [if_neg hk]
    refine ⟨(fun e => by cases e), fun e => ?_⟩
    obtain ⟨y, hy, _⟩ := e
    exact absurd ((h.gd.keys k).2 (by rw [hy]; rfl)) hk
theorem pages_mem (h : Ps most q.hs q.us d q.disk) (b : Bool) (k : Int) : k ∈ pagesTo (docOf most q) b 8 ↔ ∃ y, fd q.hs k = some y ∧ (!b || y.2.dirty) = true := by
  unfold pagesTo
  rw [List.mem_map]
  constructor
  · rintro ⟨i, hi, rfl⟩
    exact (told_doc h b _).1 (List.mem_filter.1 hi).2
  · rintro ⟨y, hy, e⟩
    have hr := h.gd.rng k ((h.gd.keys k).2 (by rw [hy]; rfl))
    have ek : ((k.toNat : Nat) : Int) = k := by omega
    refine ⟨k.toNat, List.mem_filter.2 ⟨List.mem_range.2 (by omega), ?_⟩, ek⟩
    rw [ek]
    exact (told_doc h b k).2 ⟨y, hy, e⟩
theorem pages_rise (D : Doc) (b : Bool) (n : Nat) : (pagesTo D b n).Pairwise (· < ·) := by
  unfold pagesTo
  rw [List.pairwise_map]
  exact ((List.pairwise_lt_range (n := n)).filter _).imp (fun {i j} e => by omega)
theorem keys_rise (h : Ps most q.hs q.us d q.disk) : (keysOf q.hs).Pairwise (· < ·) := by
  have := h.gd.rise
  unfold keysOf
  rw [List.pairwise_map]
  unfold psOf Rise at this
  rw [List.pairwise_map] at this
  exact this
theorem keys_doc (h : Ps most q.hs q.us d q.disk) : pagesTo (docOf most q) false 8 = keysOf q.hs := by
  refine rise_ext _ _ (pages_rise _ _ _) (keys_rise h) (fun x => ?_)
  rw [pages_mem h]
  unfold keysOf
  rw [List.mem_map]
  constructor
  · rintro ⟨y, hy, _⟩
    exact ⟨_, fd_mem hy, rfl⟩
  · rintro ⟨z, hz, rfl⟩
    exact ⟨z.2, fd_uniq h.gd.rise hz, rfl⟩
theorem dirty_doc (h : Ps most q.hs q.us d q.disk) : pagesTo (docOf most q) true 8 = dirtyOf q.hs := by
  refine rise_ext _ _ (pages_rise _ _ _) ?_ (fun x => ?_)
  · have := keys_rise h
    unfold keysOf at this
    unfold dirtyOf
    rw [List.pairwise_map] at this ⊢
    exact this.filter _
  · rw [pages_mem h, mem_dirtyOf h.gd.rise]
    simp
theorem doc_ok {N : Nat} (h : Ps most q.hs q.us d q.disk) (hm : most ≤ 8) (hb : Pb q.hs N) (hN : N ≤ 1000000) (ha : q.s.1.length ≤ 900000) : DocOk (docOf most q) := by
  have hl := h.gd.len
  refine ⟨?_, ha, ?_, ?_, ?_, ?_⟩
  · show (docF q.hs q.us).length ≤ 900
    rw [docF_length, h.gd.same]; omega
  · show (docD q.disk).length ≤ 1000
    rw [docD_length]; decide
  all_goals
    intro x hx
    obtain ⟨k, hk, rfl⟩ := List.mem_map.1 hx
    obtain ⟨y, hy⟩ := h.held hk
  · have hr := h.gd.rng k hk
    show 0 ≤ k ∧ k < ((docD q.disk).length : Int)
    rw [docD_length]; exact hr
  · dsimp only; rw [frOf_fd hy]; exact h.len hy
  · dsimp only; rw [frOf_fd hy]; exact Nat.le_trans (hb.fd hy) hN
end
end
end Go.Proofs.YtjlcbabnkhdgpaaGreatDoor
namespace Go.Proofs.YtjlcbabnkhdgpaaGreatDoor
section
set_option linter.unusedSimpArgs false
set_option linter.unusedVariables false
open Go.RowKit Go.Maps

def EA (n0 B1 B2 : Nat) : AskS → World → Prop := fun s w => ∃ va, Blk w B1 22 #[va] ∧ Blk w B2 4 #[.bool s.2] ∧ Ints n0 w va s.1 ∧ n0 ≤ B1 ∧ n0 ≤ B2
def XA (B1 B2 : Nat) : World → Nat → Prop := fun w b => b = B1 ∨ b = B2 ∨ ∃ va, w.cell? ⟨B1, 0, none⟩ = some va ∧ va.ownBlock = some b
def SMA : AskS → Prop := fun s => s.1.length ≤ 1000000
section
variable {n0 B1 B2 ga g m : Nat} {a : ArM} {w w' : World} {s : AskS} {F : Nat → Prop}
theorem blk_notDev {d : DevM} {T : TypeId} {b : Nat} {cs : Array Value} (hB : Blk w b T cs) (hT : Tw n0 w ga g m a d) (h1 : T ≠ 74) (h2 : T ≠ 100) (h3 : T ≠ 77) : ¬ DevF w g m b ∧ b ≠ ga := by
  refine ⟨fun hd => ?_, fun e => ?_⟩
  · rcases hd with e | e | ⟨cs', fz, e⟩
    · obtain ⟨cs2, hg⟩ := hT.dv.blk2
      subst e
      exact h1 (blk_type hB hg)
    · obtain ⟨es, c, hm⟩ := hT.dv.map2
      subst e
      unfold Blk at hB
      rw [hB] at hm
      cases hm
    · unfold Blk at hB
      rw [hB] at e
      injection e with e
      injection e with _ e _
      exact h2 e
  · subst e
    exact h3 (blk_type hB hT.ar)
theorem ints_blk {base : Nat} {v : Value} {xs : List Int} {b : Nat} (h : Ints base w v xs) (hb : v.ownBlock = some b) : ∃ cs, Blk w b 3 cs := by
  rcases h.2 with ⟨e1, _⟩ | ⟨g', cap, cur, hv', _, hh, _⟩
  · rw [e1] at hb; cases hb
  · rw [hv'] at hb
    injection hb with hb
    subst hb
    exact ⟨cur, hh⟩
theorem EA.fr (h : EA n0 B1 B2 s w) (hf : Fr F w w') (hF : ∀ b, XA B1 B2 w b → ¬ F b) : EA n0 B1 B2 s w' ∧ ∀ b, XA B1 B2 w' b → XA B1 B2 w b := by
  obtain ⟨va, h1, h2, h3, h4, h5⟩ := h
  have c1 : w.cell? ⟨B1, 0, none⟩ = some va := h1.cell 0
  have h1' := hf.blk h1 (hF _ (Or.inl rfl))
  have c1' : w'.cell? ⟨B1, 0, none⟩ = some va := h1'.cell 0
  refine ⟨⟨va, h1', hf.blk h2 (hF _ (Or.inr (Or.inl rfl))), hf.own h3 (fun b e => hF b (Or.inr (Or.inr ⟨va, c1, e⟩))), h4, h5⟩, fun b hb => ?_⟩
  rcases hb with e | e | ⟨v, e1, e2⟩
  · exact Or.inl e
  · exact Or.inr (Or.inl e)
  · rw [c1'] at e1
    injection e1 with e1
    subst e1
    exact Or.inr (Or.inr ⟨va, c1, e2⟩)
theorem EA.lt (h : EA n0 B1 B2 s w) {b : Nat} (hb : XA B1 B2 w b) : n0 ≤ b ∧ b < w.heap.size := by
  obtain ⟨va, h1, h2, h3, h4, h5⟩ := h
  have c1 : w.cell? ⟨B1, 0, none⟩ = some va := h1.cell 0
  rcases hb with e | e | ⟨v, e1, e2⟩
  · rw [e]; exact ⟨h4, h1.lt⟩
  · rw [e]; exact ⟨h5, h2.lt⟩
  · rw [c1] at e1
    injection e1 with e1
    subst e1
    exact h3.lt b e2
theorem EA.cel (h : EA n0 B1 B2 s w) {b : Nat} (hb : XA B1 B2 w b) : ∃ cs T fz, w.heap[b]? = some (.cells cs T fz) := by
  obtain ⟨va, h1, h2, h3, h4, h5⟩ := h
  have c1 : w.cell? ⟨B1, 0, none⟩ = some va := h1.cell 0
  rcases hb with e | e | ⟨v, e1, e2⟩
  · rw [e]; exact ⟨_, _, _, h1⟩
  · rw [e]; exact ⟨_, _, _, h2⟩
  · rw [c1] at e1
    injection e1 with e1
    subst e1
    exact ints_cells h3 e2.symm
set_option maxHeartbeats 3200000 in
set_option maxRecDepth 100000 in
theorem ask_any (w : World) (n : Int) (h : EA n0 B1 B2 s w) (hs : SMA s) (hn : n0 ≤ w.heap.size) :
    Calls Tryz.prog 22 #[.int .i64 n, .pointer (some ⟨B1, 0, none⟩), .pointer (some ⟨B2, 0, none⟩)] w fun e w' => e = .returned (.int .i64 (lsA s n).1) ∧ EA n0 B1 B2 (lsA s n).2 w' ∧
      Fr (fun b => b = B1 ∨ ∃ va, w.cell? ⟨B1, 0, none⟩ = some va ∧ va.ownBlock = some b) w w' ∧ ∀ b, XA B1 B2 w' b → XA B1 B2 w b ∨ w.heap.size ≤ b := by
  obtain ⟨va, h1, h2, h3, h4, h5⟩ := h
  have hB12 : B1 ≠ B2 := h1.ne h2 (by decide)
  have c1 : w.cell? ⟨B1, 0, none⟩ = some va := h1.cell 0
  have hb1 : Below w.heap.size w (w.alloc (.cells #[.int .i64 n] 3)) := (Below.refl _ _).alloc (Nat.le_refl _) _
  have h3' : Ints n0 (w.alloc (.cells #[.int .i64 n] 3)) va s.1 := ownsRow_grown h3 (grown_of_below hb1 none) (by simp)
  obtain ⟨v', w2, hr, q1, q2, q3⟩ := row_append elI 22 n0 va s.1.length 1 _ [Value.int .i64 n] (.slice (some ⟨w.heap.size, 0, none⟩) 1 1) _ h3' ⟨_, _, rfl, (fun e => by cases e), fun ad e j u hu => by cases e; exact (Blk.made w #[.int .i64 n] 3).news j u hu⟩ rfl (by intro u hu; simp at hu; subst hu; rfl) (by unfold SMA at hs; omega) (by decide) (Nat.le_trans hn hb1.size)
  have hne1 : some B1 ≠ va.ownBlock := h1.notOwn h3 (by decide)
  have hne2 : some B2 ≠ va.ownBlock := h2.notOwn h3 (by decide)
  have hF2 : Fr (fun b => some b = va.ownBlock) w w2 := (Fr.up hb1).trans (Fr.grown q2) (fun _ _ e => e)
  have g1 := hF2.blk h1 hne1
  have g2 := hF2.blk h2 hne2
  have c1' : w2.cell? ⟨B1, 0, none⟩ = some va := g1.cell 0
  have f1' := g1.frozen 0
  have q1' : Ints n0 w2 v' (s.1 ++ [n]) := by
    unfold Ints
    rw [List.length_append, List.map_append]
    exact q1
  have k1 : Blk (w2.setCell ⟨B1, 0, none⟩ v') B1 22 #[v'] := g1.set 0 v'
  have k2 : Blk (w2.setCell ⟨B1, 0, none⟩ v') B2 4 #[.bool s.2] := (Fr.setCell w2 B1 0 v').blk g2 (Ne.symm hB12)
  have k3 : Ints n0 (w2.setCell ⟨B1, 0, none⟩ v') v' (s.1 ++ [n]) := (Fr.setCell w2 B1 0 v').own q1' (fun b e e2 => (g1.notOwn q1' (by decide)) (by rw [e, e2]))
  have c2 : (w2.setCell ⟨B1, 0, none⟩ v').cell? ⟨B2, 0, none⟩ = some (.bool s.2) := k2.cell 0
  have hFr : Fr (fun b => b = B1 ∨ ∃ va, w.cell? ⟨B1, 0, none⟩ = some va ∧ va.ownBlock = some b) w (w2.setCell ⟨B1, 0, none⟩ v') :=
    (hF2.mono (fun b _ e => Or.inr ⟨va, c1, e.symm⟩)).trans (Fr.setCell w2 B1 0 v') (fun b _ e => Or.inl e)
  have hXn : ∀ b, XA B1 B2 (w2.setCell ⟨B1, 0, none⟩ v') b → XA B1 B2 w b ∨ w.heap.size ≤ b := fun b hb => by
    rcases hb with e | e | ⟨v, e1, e2⟩
    · exact Or.inl (Or.inl e)
    · exact Or.inl (Or.inr (Or.inl e))
    · rw [show (w2.setCell ⟨B1, 0, none⟩ v').cell? ⟨B1, 0, none⟩ = some v' from k1.cell 0] at e1
      injection e1 with e1
      subst e1
      rcases q3 with q3 | q3
      · exact Or.inl (Or.inr (Or.inr ⟨va, c1, by rw [← q3]; exact e2⟩))
      · right
        rw [q3] at e2
        injection e2 with e2
        simp at e2
        omega
  obtain ⟨A1, cc1, rfl⟩ := own_form q1
  obtain ⟨A0, cc0, rfl⟩ := own_form h3
  have HE : Hid (EA n0 B1 B2 (lsA s n).2 (w2.setCell ⟨B1, 0, none⟩ (.slice A1 (s.1.length + 1) cc1))) := Lib.hid ⟨_, k1, k2, k3, h4, h5⟩
  have HF := Lib.hid hFr; have HX := Lib.hid hXn
  have c1a : (w.alloc (.cells #[.int .i64 n] 3)).cell? ⟨B1, 0, none⟩ = some (.slice A0 s.1.length cc0) := up_cell hb1 c1
  clear h1 h2 h3 h3' q1 q2 q3 hF2 g1 g2 q1' k1 k2 k3 hFr hXn hb1
  cases hrf : s.2 with
  | true =>
    have HL : Hid ((lsA s n).1 = 9) := Lib.hid (by unfold lsA; simp [hrf])
    rw [hrf] at c2
    go_enter Tryz.func22, Tryz.ntmps22
    go_wp2_with (at_builtin; refine Lib.wpList_append_run _ rfl _ _ _ _ rfl _ _ rfl rfl _ _ hr ?_)
    go_ret
    exact ⟨by rw [HL.out]; rfl, HE.out, HF.out, HX.out⟩
  | false =>
    have HL : Hid ((lsA s n).1 = 0) := Lib.hid (by unfold lsA; simp [hrf])
    rw [hrf] at c2
    go_enter Tryz.func22, Tryz.ntmps22
    go_wp2_with (at_builtin; refine Lib.wpList_append_run _ rfl _ _ _ _ rfl _ _ rfl rfl _ _ hr ?_)
    go_ret
    exact ⟨by rw [HL.out]; rfl, HE.out, HF.out, HX.out⟩
theorem flA_ok : FlOk n0 ga g m a 22 #[] #[.pointer (some ⟨B1, 0, none⟩), .pointer (some ⟨B2, 0, none⟩)] (EA n0 B1 B2) (XA B1 B2) (onD lsA) SMA where
  ent := enters_of Tryz.func22 (by kernel_rfl) rfl
  fr := fun h hf hF => h.fr hf hF
  lt := fun h hb => h.lt hb
  cel := fun h hb => h.cel hb
  call := fun s w d n h hs hT _ _ _ hx2 hx3 => (ask_any w n h hs hT.n0le).mono (fun e w' ⟨q1, q2, q3, q4⟩ => by
    have hFX : ∀ b, (b = B1 ∨ ∃ va, w.cell? ⟨B1, 0, none⟩ = some va ∧ va.ownBlock = some b) → XA B1 B2 w b := fun b e => e.elim Or.inl (fun e => Or.inr (Or.inr e))
    have hF := q3.mono (fun b _ e => hFX b e)
    have hT' : Tw n0 w' ga g m a d := hT.fr hF (fun e => (hx2 ga e).2 rfl) (fun e => (hx2 g e).1 (Or.inl rfl)) (fun e => (hx2 m e).1 (Or.inr (Or.inl rfl))) (fun b cs fz e hb => (hx2 b hb).1 (Or.inr (Or.inr ⟨cs, fz, e⟩))) (fun kv b hc hb => hx3 kv b hc hb) (fun b hb => (h.lt hb).1)
    have hgc := hT.keepSame hF (fun e => (hx2 g e).1 (Or.inl rfl))
    refine ⟨q1, q2, hT', hF.mono (fun b _ e => Or.inl e), KeepC.of_cell hgc, q4, fun b hb => ?_, fun kv b hc hb hx => ?_, hF.below hT.n0le (fun b e => (h.lt e).1)⟩
    · obtain ⟨va, k1, k2, k3, _⟩ := q2
      have c1 : w'.cell? ⟨B1, 0, none⟩ = some va := k1.cell 0
      rcases hb with e | e | ⟨v, e1, e2⟩
      · rw [e]; exact blk_notDev k1 hT' (by decide) (by decide) (by decide)
      · rw [e]; exact blk_notDev k2 hT' (by decide) (by decide) (by decide)
      · rw [c1] at e1
        injection e1 with e1
        subst e1
        obtain ⟨cs, hB⟩ := ints_blk k3 e2
        exact blk_notDev hB hT' (by decide) (by decide) (by decide)
    · rw [hgc] at hc
      rcases q4 b hx with e | e
      · exact hx3 kv b hc hb e
      · obtain ⟨cs, hB⟩ := hT.keepRow hc hb
        have := hB.lt
        omega)
end
end
end Go.Proofs.YtjlcbabnkhdgpaaGreatDoor
namespace Go.Proofs.YtjlcbabnkhdgpaaGreatDoor
section
set_option linter.unusedSimpArgs false
set_option linter.unusedVariables false
open Go.RowKit Go.Maps

section
variable {n0 gp ga g m pb B1 B2 : Nat} {w w' : World} {most : Int} {ff : FuncId} {fi ca : Array Value} {vF vD vA : Value} {D D' : Doc}
theorem own_blk {B k n : Nat} {T : TypeId} {v : Value} {xs : List Value} {b : Nat} (h : w.ownsRow B T k v n xs) (hb : v.ownBlock = some b) : ∃ cs, Blk w b T cs := by
  rcases h.2 with ⟨e1, _⟩ | ⟨g', cap, cur, hv', _, hh, _⟩
  · rw [e1] at hb; cases hb
  · rw [hv'] at hb
    injection hb with hb
    subst hb
    exact ⟨cur, hh⟩
theorem blk_notWrite {b : Nat} {T : TypeId} {cs : Array Value} (h : Blk w b T cs) (hT : T ≠ 100) : ∀ cs' fz, w.heap[b]? ≠ some (.cells cs' 100 fz) := fun cs' fz e => by
  unfold Blk at h
  rw [h] at e
  injection e with e
  injection e with _ e _
  exact hT e
theorem blk_eq {b x : Nat} {T : TypeId} {cs : Array Value} (h : Blk w b T cs) (e : x = b) (hT : T ≠ 3) : ∃ cs T fz, w.heap[x]? = some (.cells cs T fz) ∧ T ≠ 3 := by
  subst e
  exact ⟨_, _, _, h, hT⟩
/-- An act of the pool's leaves the document's. -/
theorem Acts.doc (h : Acts n0 (DO pb vF vD vA) w w') (hD : DocAt n0 w pb vF vD vA D) : DocAt n0 w' pb vF vD vA D :=
  hD.fr h (fun e => e.2 (Or.inl rfl)) (fun b e f => f.2 (Or.inr (Or.inl e.symm))) (fun b e f => f.2 (Or.inr (Or.inr (Or.inl e.symm)))) (fun b e f => f.2 (Or.inr (Or.inr (Or.inr e.symm))))
section
variable {σ : Type} {E : σ → World → Prop} {XF : World → Nat → Prop} {ls : σ → Int → Int × σ} {SM : σ → Prop} {q : Sm σ} {N : Nat}
/-- A call of the document's leaves the pool. -/
theorem St.doc (hK : FlOk n0 ga g m arm8 ff fi ca E XF (onD ls) SM) (h : St n0 w gp ga g m most ff fi ca E XF q N (DO pb vF vD vA)) (hD : DocAt n0 w pb vF vD vA D) (hP : DocP n0 w w' pb vF vD vA D') :
    ∃ vF' vD' vA', St n0 w' gp ga g m most ff fi ca E XF q N (DO pb vF' vD' vA') ∧ DocAt n0 w' pb vF' vD' vA' D' ∧ Below n0 w w' := by
  obtain ⟨vF', vD', vA', h1, h2, h3⟩ := hP
  refine ⟨vF', vD', vA', h.aside hK h2 (fun b e => ⟨Or.inl e, by rw [e]; exact hD.pbn, blk_eq hD.blk e (by decide)⟩) (fun b e => by rw [e]; exact blk_notWrite h1.blk (by decide)) (fun b e => (h3 b e).imp id (fun hge => ?_)), h1, h2.below hD.at0 (fun b e => by rw [e]; exact hD.pbn)⟩
  rcases e with e | e | e | e
  · have := hD.blk.lt
    omega
  · obtain ⟨cs, hB⟩ := own_blk h1.rF e.symm
    exact ⟨hge, hB.lt, blk_notWrite hB (by decide)⟩
  · obtain ⟨cs, hB⟩ := own_blk h1.rD e.symm
    exact ⟨hge, hB.lt, blk_notWrite hB (by decide)⟩
  · obtain ⟨cs, hB⟩ := own_blk h1.rA e.symm
    exact ⟨hge, hB.lt, blk_notWrite hB (by decide)⟩
/-- A store into the document's row of frames. -/
theorem St.row4 {b n c : Nat} (hK : FlOk n0 ga g m arm8 ff fi ca E XF (onD ls) SM) (h : St n0 w gp ga g m most ff fi ca E XF q N (DO pb (.slice (some ⟨b, 0, none⟩) n c) vD vA)) (hD : DocAt n0 w pb (.slice (some ⟨b, 0, none⟩) n c) vD vA D) (j : Nat) (u : Value) :
    St n0 (w.setCell ⟨b, j, none⟩ u) gp ga g m most ff fi ca E XF q N (DO pb (.slice (some ⟨b, 0, none⟩) n c) vD vA) := by
  obtain ⟨cs, hB⟩ := own_blk hD.rF (b := b) rfl
  refine h.aside hK (Fr.setCell w b j u) (fun x e => ⟨Or.inr (Or.inl (by rw [e]; rfl)), by rw [e]; exact (hD.rF.lt b rfl).1, blk_eq hB e (by decide)⟩) (fun x e => by rw [e]; exact blk_notWrite (hB.set j u) (by decide)) (fun x e => Or.inl e)
/-- A store into the document's own cells. -/
theorem St.docCell (hK : FlOk n0 ga g m arm8 ff fi ca E XF (onD ls) SM) (h : St n0 w gp ga g m most ff fi ca E XF q N (DO pb vF vD vA)) (hD : DocAt n0 w pb vF vD vA D) (j : Nat) (u : Value) :
    St n0 (w.setCell ⟨pb, j, none⟩ u) gp ga g m most ff fi ca E XF q N (DO pb vF vD vA) :=
  h.aside hK (Fr.setCell w pb j u) (fun x e => ⟨Or.inl e, by rw [e]; exact hD.pbn, blk_eq hD.blk e (by decide)⟩) (fun x e => by rw [e]; exact blk_notWrite (hD.blk.set j u) (by decide)) (fun x e => Or.inl e)
end
theorem DocAt.row4 {b n c : Nat} (hD : DocAt n0 w pb (.slice (some ⟨b, 0, none⟩) n c) vD vA D) (i : Nat) (hi : i < D.F.length) (j : Nat) (hj : j < 4) (u : Value) (x' : Fr4) (hx : f4C x' = (f4C D.F[i]).set j u) :
    DocAt n0 (w.setCell ⟨b, i * 4 + j, none⟩ u) pb (.slice (some ⟨b, 0, none⟩) n c) vD vA { D with F := D.F.set i x' } := by
  have hf := Fr.setCell w b (i * 4 + j) u
  obtain ⟨cs, hB⟩ := own_blk hD.rF (b := b) rfl
  exact ⟨by simpa [World.setCell] using hD.at0, hD.pbn, hf.blk hD.blk (hD.blk.ne hB (by decide)), row4_store hD.rF i hi j hj u x' hx, hf.own hD.rD (fun y e e2 => (hB.notOwn hD.rD (by decide)) (by rw [e, e2])), hf.own hD.rA (fun y e e2 => (hB.notOwn hD.rA (by decide)) (by rw [e, e2]))⟩
theorem DocAt.setR (hD : DocAt n0 w pb vF vD vA D) (r : Bool) : DocAt n0 (w.setCell ⟨pb, 4, none⟩ (.bool r)) pb vF vD vA { D with refuse := r } := by
  obtain ⟨n1, n2, n3⟩ := hD.blockNe
  have hf := Fr.setCell w pb 4 (.bool r)
  exact ⟨by simpa [World.setCell] using hD.at0, hD.pbn, hD.blk.set 4 (.bool r), hf.own hD.rF n1, hf.own hD.rD n2, hf.own hD.rA n3⟩
variable {q : Sm AskS} {N : Nat} {O : Nat → Prop}
/-- The log refuses from now on, or doesn't. -/
theorem St.toggle (h : St n0 w gp ga g m most ff fi ca (EA n0 B1 B2) (XA B1 B2) q N O) (r : Bool) :
    St n0 (w.setCell ⟨B2, 0, none⟩ (.bool r)) gp ga g m most ff fi ca (EA n0 B1 B2) (XA B1 B2) { q with s := (q.s.1, r) } N O ∧ w.cell? ⟨B2, 0, none⟩ = some (.bool q.s.2) ∧ w.frozen? ⟨B2, 0, none⟩ = false := by
  obtain ⟨hv, uv, d, hS, hp, hc, hb, hO⟩ := h
  have hx2 : XA B1 B2 w B2 := Or.inr (Or.inl rfl)
  have hf := Fr.setCell w B2 0 (.bool r)
  obtain ⟨va, k1, k2, k3, k4, k5⟩ := hS.env
  have hne : B1 ≠ B2 := k1.ne k2 (by decide)
  have c1 : w.cell? ⟨B1, 0, none⟩ = some va := k1.cell 0
  have k1' := hf.blk k1 hne
  have c1' : (w.setCell ⟨B2, 0, none⟩ (.bool r)).cell? ⟨B1, 0, none⟩ = some va := k1'.cell 0
  have k3' : Ints n0 (w.setCell ⟨B2, 0, none⟩ (.bool r)) va q.s.1 := hf.own k3 (fun b e e2 => (k2.notOwn k3 (by decide)) (by rw [e, e2]))
  have hE : EA n0 B1 B2 (q.s.1, r) (w.setCell ⟨B2, 0, none⟩ (.bool r)) := ⟨va, k1', k2.set 0 (.bool r), k3', k4, k5⟩
  have hX : ∀ b, XA B1 B2 (w.setCell ⟨B2, 0, none⟩ (.bool r)) b → XA B1 B2 w b := fun b hb => by
    rcases hb with e | e | ⟨v, e1, e2⟩
    · exact Or.inl e
    · exact Or.inr (Or.inl e)
    · rw [c1'] at e1
      injection e1 with e1
      subst e1
      exact Or.inr (Or.inr ⟨va, c1, e2⟩)
  have hT : Tw n0 (w.setCell ⟨B2, 0, none⟩ (.bool r)) ga g m arm8 d := hS.tw.fr hf (fun e => (hS.x2 B2 hx2).2 e.symm) (fun e => (hS.x2 B2 hx2).1 (Or.inl e.symm)) (fun e => (hS.x2 B2 hx2).1 (Or.inr (Or.inl e.symm))) (fun b cs fz e e2 => (hS.x2 B2 hx2).1 (Or.inr (Or.inr ⟨cs, fz, by rw [← e2]; exact e⟩))) (fun kv b hc hb e => (hS.x3 kv b hc hb).1 (by rw [e]; exact hx2)) (fun b e => by rw [e]; exact k5)
  have hgB : ¬ g = B2 := fun e => (hS.x2 B2 hx2).1 (Or.inl e.symm)
  refine ⟨⟨hv, uv, d, ⟨hS.po.fr hf (fun b e e2 => hS.x1 B2 hx2 (by rw [← e2]; exact e)), hT, hE, fun b e => hS.x1 b (hX b e), fun b e => ?_, fun kv b hc hb => ?_⟩, hp, hc, hb, fun b e => ?_⟩, k2.cell 0, k2.frozen 0⟩
  · rcases e with e | e | ⟨v, e1, e2⟩
    · rw [e]; exact blk_notDev k1' hT (by decide) (by decide) (by decide)
    · rw [e]; exact blk_notDev (k2.set 0 (.bool r)) hT (by decide) (by decide) (by decide)
    · rw [c1'] at e1
      injection e1 with e1
      subst e1
      obtain ⟨cs, hB⟩ := ints_blk k3' e2
      exact blk_notDev hB hT (by decide) (by decide) (by decide)
  · rw [hS.tw.keepSame hf hgB] at hc
    obtain ⟨a1, a2⟩ := hS.x3 kv b hc hb
    exact ⟨fun e => a1 (hX b e), a2⟩
  · obtain ⟨a1, a2, a3⟩ := hO b e
    refine ⟨by simpa [World.setCell] using a1, fun ht => a2 ?_, a3⟩
    rcases ht with ht | ht | ht
    · exact Or.inl ht
    · by_cases e2 : b = B2
      · rw [e2]; exact Or.inr (Or.inr hx2)
      · exact Or.inr (Or.inl (devF_same hf a1 e2 ht))
    · exact Or.inr (Or.inr (hX b ht))
theorem docOf_at (most : Int) (q : Sm AskS) (i : Nat) (hu : i < q.us.length) (hi : i < (docOf most q).F.length) : (docOf most q).F[i] = (q.us[i], frOf q.hs q.us[i]) := docF_at q.hs q.us i hu
/-- Both at their start. -/
theorem St.firstA (hP : PoAt n0 w gp ga most (.func (.func ff) #[] ca) (.slice none 0 0) (.slice none 0 0) [] []) (hT : Tw n0 w ga g m arm8 (newM 40)) (hE : EA n0 B1 B2 ([], false) w) (hv : w.cell? ⟨B1, 0, none⟩ = some (.slice none 0 0)) (h1 : B1 ≠ gp) (h2 : B2 ≠ gp) (hm : 0 ≤ most)
    (hO : ∀ b, O b → b ≠ gp ∧ b ≠ B1 ∧ b ≠ B2 ∧ ∃ T cs, Blk w b T cs ∧ T ≠ 74 ∧ T ≠ 100 ∧ T ≠ 77) :
    St n0 w gp ga g m most ff #[] ca (EA n0 B1 B2) (XA B1 B2) ⟨[], [], ([], false), fun _ => zer⟩ 0 O := by
  have hE' := hE
  obtain ⟨va, k1, k2, k3, k4, k5⟩ := hE
  have c1 : w.cell? ⟨B1, 0, none⟩ = some va := k1.cell 0
  have hva : va.ownBlock = none := by
    rw [c1] at hv
    injection hv with hv
    subst hv
    rfl
  have hX : ∀ b, XA B1 B2 w b → b = B1 ∨ b = B2 := fun b hb => by
    rcases hb with e | e | ⟨v, e1, e2⟩
    · exact Or.inl e
    · exact Or.inr e
    · rw [c1] at e1
      injection e1 with e1
      subst e1
      rw [hva] at e2
      cases e2
  have hxn : ∀ b, XA B1 B2 w b → ¬ DevF w g m b ∧ b ≠ ga := fun b hb => by
    rcases hX b hb with e | e
    · rw [e]; exact blk_notDev k1 hT (by decide) (by decide) (by decide)
    · rw [e]; exact blk_notDev k2 hT (by decide) (by decide) (by decide)
  refine ⟨_, _, newM 40, ⟨hP, hT, hE', fun b hb hp => ?_, hxn, fun kv b hc hb => ⟨fun hx => ?_, by simp [Value.ownBlock]⟩⟩, Ps.start hm, Nat.le_refl _, (fun x hx => by cases hx), fun b e => ?_⟩
  · rcases hp with e | e | e | e
    · rcases hX b hb with e2 | e2
      · exact h1 (e2.symm.trans e)
      · exact h2 (e2.symm.trans e)
    · simp [Value.ownBlock] at e
    · simp [Value.ownBlock] at e
    · cases e
  · obtain ⟨cs, hB⟩ := hT.keepRow hc hb
    rcases hX b hx with e | e
    · subst e; exact absurd (blk_type hB k1) (by decide)
    · subst e; exact absurd (blk_type hB k2) (by decide)
  · obtain ⟨a1, a2, a3, T, cs, hB, t1, t2, t3⟩ := hO b e
    obtain ⟨d1, d2⟩ := blk_notDev hB hT t1 t2 t3
    refine ⟨hB.lt, fun ht => ?_, d2⟩
    rcases ht with ht | ht | ht
    · rcases ht with e | e | e | e
      · exact a1 e
      · simp [Value.ownBlock] at e
      · simp [Value.ownBlock] at e
      · cases e
    · exact d1 ht
    · exact (hX b ht).elim a2 a3
end
end
end Go.Proofs.YtjlcbabnkhdgpaaGreatDoor
namespace Go.Proofs.YtjlcbabnkhdgpaaGreatDoor
section
set_option linter.unusedSimpArgs false
set_option linter.unusedVariables false
open Go.RowKit Go.Maps

def pinB (q : Sm AskS) (n : Int) : Bool := match fd q.hs n with | some y => decide (0 < (y.2.pins : Int)) | none => false
theorem bs_const {l : List UInt8} (h : l ≠ [98, 97, 100]) : (bs l == (⟨#[98, 97, 100]⟩ : ByteArray)) = false := by
  show (l.toArray == #[98, 97, 100]) = false
  rw [beq_eq_false_iff_ne]
  exact fun e => h (bs_inj (b := [98, 97, 100]) (congrArg ByteArray.mk e))
theorem bs_constD {l : List UInt8} (h : l ≠ [98, 97, 100]) : decide (bs l = (⟨#[98, 97, 100]⟩ : ByteArray)) = false := decide_eq_false fun e => h (bs_inj (b := [98, 97, 100]) e)
section
variable {most : Int} {q : Sm AskS} {n : Int}
theorem asks_wr (ns : List Int) : (wrS lsA q ns).2.s.1.length ≤ q.s.1.length + 1 := by
  unfold wrS
  split
  · exact Nat.le_succ _
  · split
    · simp [lsA]
    · simp [lsA]
theorem asks_out (n : Int) : (outS lsA q n).2.s.1.length ≤ q.s.1.length + 1 := by
  have h1 : (preS lsA q n).2.s.1.length ≤ q.s.1.length + 1 := by
    unfold preS; split
    · exact asks_wr [n]
    · dsimp only; omega
  rw [outS_pre]
  unfold outT
  split
  · exact h1
  · exact h1
theorem asks_space : (spaceS lsA most q).2.s.1.length ≤ q.s.1.length + 1 := by
  unfold spaceS
  split
  · dsimp only; omega
  · cases hf : q.us.find? (fun k => (frOf q.hs k).pins == 0) with
    | none => dsimp only; omega
    | some k => exact asks_out k
theorem asks_evict : (evictS lsA q n).2.s.1.length ≤ q.s.1.length + 1 := by
  unfold evictS
  cases hy : fd q.hs n with
  | none => dsimp only; omega
  | some y =>
    dsimp only
    split
    · dsimp only; omega
    · exact asks_out n
theorem asks_pin (x : Nat) : (pinS lsA most q n x).2.s.1.length ≤ q.s.1.length + 1 := by
  unfold pinS
  cases hy : fd q.hs n with
  | some y => dsimp only; omega
  | none =>
    dsimp only
    unfold newS
    split
    · exact asks_space
    · exact asks_space
theorem evict_pinned (h : pinB q n = true) : evictS lsA q n = (10, q) := by
  unfold pinB at h
  unfold evictS
  cases hy : fd q.hs n with
  | none => rw [hy] at h; cases h
  | some y =>
    rw [hy] at h
    dsimp only
    rw [if_pos (by simpa using h)]
theorem evict_free {y : Nat × FrM} (hy : fd q.hs n = some y) (h : pinB q n = false) : evictS lsA q n = outS lsA q n := by
  unfold pinB at h
  rw [hy] at h
  unfold evictS
  rw [hy]
  dsimp only
  rw [if_neg (by simpa using h)]
theorem evict_gone (hy : fd q.hs n = none) : evictS lsA q n = (11, q) := by unfold evictS; rw [hy]
theorem pin_fd (h : pinB q n = true) : ∃ y, fd q.hs n = some y ∧ y.2.pins ≠ 0 := by
  unfold pinB at h
  cases hy : fd q.hs n with
  | none => rw [hy] at h; cases h
  | some y =>
    rw [hy] at h
    refine ⟨y, rfl, ?_⟩
    simp at h
    omega
theorem put_free (h : pinB q n = false) (s : List UInt8) : putS q n s = (17, q) := by
  have : pinnedM q.hs n = none := by
    unfold pinnedM
    unfold pinB at h
    cases hy : fd q.hs n with
    | none => rfl
    | some y =>
      rw [hy] at h
      have h0 : y.2.pins = 0 := by simp at h; omega
      simp [Option.filter, h0]
  unfold putS pputM
  rw [this]
theorem put_short (h : pinB q n = true) {s : List UInt8} (hl : s.length ≠ 512) : putS q n s = (1, q) := by
  obtain ⟨y, hy, hp⟩ := pin_fd h
  have : pinnedM q.hs n = some y := by unfold pinnedM; rw [hy]; simp [Option.filter, hp]
  unfold putS pputM
  rw [this]
  dsimp only
  rw [if_neg (fun e => hl e.1)]
end
section
variable {n0 gp ga g m pb B1 B2 : Nat} {w : World} {most : Int} {ff : FuncId} {fi ca : Array Value}
variable {q : Sm AskS} {N : Nat} {O : Nat → Prop}
theorem St.pbs {σ : Type} {E : σ → World → Prop} {XF : World → Nat → Prop} {q : Sm σ} (h : St n0 w gp ga g m most ff fi ca E XF q N O) : ∃ N', Pb q.hs N' ∧ N' ≤ N := by
  obtain ⟨hv, uv, d, hS, hp, hc, hb, hO⟩ := h
  exact ⟨N, hb, Nat.le_refl _⟩
theorem St.asideB2 (h : St n0 w gp ga g m most ff fi ca (EA n0 B1 B2) (XA B1 B2) q N O) : ∀ b, O b → b ≠ B2 := by
  obtain ⟨hv, uv, d, hS, hp, hc, hb, hO⟩ := h
  intro b hb e
  exact (hO b hb).2.1 (Or.inr (Or.inr (by rw [e]; exact Or.inr (Or.inl rfl))))
theorem St.asideB1 (h : St n0 w gp ga g m most ff fi ca (EA n0 B1 B2) (XA B1 B2) q N O) : ∀ b, O b → b ≠ B1 := by
  obtain ⟨hv, uv, d, hS, hp, hc, hb, hO⟩ := h
  intro b hb e
  exact (hO b hb).2.1 (Or.inr (Or.inr (by rw [e]; exact Or.inl rfl)))
theorem St.cellB (h : St n0 w gp ga g m most ff fi ca (EA n0 B1 B2) (XA B1 B2) q N O) : w.cell? ⟨B2, 0, none⟩ = some (.bool q.s.2) ∧ w.frozen? ⟨B2, 0, none⟩ = false ∧ n0 ≤ B2 ∧ ∃ va, w.cell? ⟨B1, 0, none⟩ = some va ∧ IntsAt w va q.s.1 := by
  obtain ⟨hv, uv, d, hS, hp, hc, hb, hO⟩ := h
  obtain ⟨va, k1, k2, k3, k4, k5⟩ := hS.env
  exact ⟨k2.cell 0, k2.frozen 0, k5, va, k1.cell 0, IntsAt.of_own k3⟩
theorem St.psTw {σ : Type} {E : σ → World → Prop} {XF : World → Nat → Prop} {q : Sm σ} (h : St n0 w gp ga g m most ff fi ca E XF q N O) : ∃ d, Ps most q.hs q.us d q.disk ∧ Tw n0 w ga g m arm8 d ∧ d.cmds ≤ 70 * N := by
  obtain ⟨hv, uv, d, hS, hp, hc, hb, hO⟩ := h
  exact ⟨d, hp, hS.tw, hc⟩
theorem docD_cell {vF vD vA : Value} (h : DocAt n0 w pb vF vD vA (docOf most q)) (j : Nat) (hj : j < 8) : ∃ b c, vD = .slice (some ⟨b, 0, none⟩) (docOf most q).disk.length c ∧ w.cell? ⟨b, j, none⟩ = some (.string (bs (q.disk (j : Int)))) := by
  have hl : (docOf most q).disk.length = 8 := docD_length _
  have hr := h.rD
  have hr2 := hr.2
  rcases hr2 with ⟨e1, e2⟩ | ⟨g', cap, cur, hv', _⟩
  · omega
  · subst hv'
    obtain ⟨c1, _⟩ := strs_cellN hr h.at0 j (by omega)
    refine ⟨g', cap, rfl, ?_⟩
    rw [c1]
    rw [show (docOf most q).disk[j]'(by omega) = q.disk (j : Int) from docD_at _ _ hj]
theorem enc_one {n : Int} {t : List UInt8} (h0 : 0 ≤ n) (h1 : n ≤ 281474976710655) : ∀ (W W' : World), W' = W.alloc (.cells #[.string (bs (t.take 60)), .string ⟨#[]⟩, .bool false] 61) → Turns W' →
    Calls Tryz.prog 24 #[.agg #[.int .i64 n, .int .i64 1, .int .i64 0, .int .i64 0, .string ⟨#[]⟩, .slice (some ⟨W.heap.size, 0, none⟩) 1 1]] W' fun e w' => e = .returned (.tuple #[.string (bs (imgB n t)), .int .i64 0]) ∧ Below W'.heap.size W' w' := by
  intro W W' hw ht
  have hsm : Small (imgP n t) := by
    refine ⟨by simp [imgP], by simp [imgP], fun e he => ?_⟩
    simp [imgP] at he
    subst he
    simp
    omega
  have hr2 : ReadsE W' W'.heap.size (some ⟨W.heap.size, 0, none⟩) (imgP n t).ents := by
    refine ⟨rfl, fun _ => ⟨_, rfl, by rw [hw]; simp, fun j u hj => ?_⟩⟩
    have h2 : entsCells (imgP n t).ents = [.string (bs (t.take 60)), .string ⟨#[]⟩, .bool false] := rfl
    rw [h2] at hj
    rw [hw]
    exact World.news_of_block (Blk.made W #[.string (bs (t.take 60)), .string ⟨#[]⟩, .bool false] 61) j u (by simpa using hj)
  have ct := encode_any (imgP n t) (some ⟨W.heap.size, 0, none⟩) 1 hsm W' hr2 ht
  rw [encR_img h0 h1] at ct
  exact ct
end
section
variable {n0 pb : Nat} {most : Int} {vF vD vA : Value} {q : Sm AskS} {n : Int} {d : DevM} {N : Nat}
theorem frame_at (hps : Ps most q.hs q.us d q.disk) (hn : n ∈ q.us) (hi : q.us.idxOf n < (docOf most q).F.length) : (docOf most q).F[q.us.idxOf n] = (n, frOf q.hs n) := by
  obtain ⟨h1, h2⟩ := idx_at hn
  rw [docOf_at most q _ h1, h2]
theorem doc_out (w : World) (hps : Ps most q.hs q.us d q.disk) (hpb : Pb q.hs N) (hN : N ≤ 1000000) (hm : most ≤ 8) (hq : q.s.1.length ≤ 900000) (hn : n ∈ q.us) (hD : DocAt n0 w pb vF vD vA (docOf most q)) :
    Calls Tryz.prog 25 #[.pointer (some ⟨pb, 0, none⟩), .int .i64 (q.us.idxOf n : Int)] w fun e w' => e = .returned (.int .i64 (outS lsA q n).1) ∧ DocP n0 w w' pb vF vD vA (docOf most (outS lsA q n).2) := by
  have hok := doc_ok hps hm hpb hN hq
  have hi : q.us.idxOf n < (docOf most q).F.length := by
    rw [show (docOf most q).F = docF q.hs q.us from rfl, docF_length]
    exact (idx_at hn).1
  have h := rout_any w (q.us.idxOf n) hD hi (by have := hok.len; omega) (by have := hok.ask; omega) hok.dsk (hok.own _ hi) hok.b512
  rw [frame_at hps hn hi, out_doc hps hn] at h
  exact h
theorem doc_pin (w : World) (hps : Ps most q.hs q.us d q.disk) (hpb : Pb q.hs N) (hN : N ≤ 1000000) (hm : 1 ≤ most ∧ most ≤ 8) (hq : q.s.1.length ≤ 800000) (h0 : 0 ≤ n) (h8 : n < 8) (hD : DocAt n0 w pb vF vD vA (docOf most q)) (x : Nat) :
    Calls Tryz.prog 28 #[.pointer (some ⟨pb, 0, none⟩), .int .i64 n] w fun e w' => e = .returned (.tuple #[.string (bs (pinS lsA most q n x).1.1), .int .i64 (pinS lsA most q n x).1.2]) ∧ DocP n0 w w' pb vF vD vA (docOf most (pinS lsA most q n x).2) := by
  have hok := doc_ok hps hm.2 hpb hN (by omega)
  have h := rpin_any w n hD hok (fun D2 e => by
    rw [room_doc hps] at e
    obtain ⟨_, _, _, _, hP, _⟩ := step_space (ls := lsA) hps
    have e2 : docOf most (spaceS lsA most q).2 = D2 := congrArg Prod.snd e
    have := asks_space (most := most) (q := q)
    rw [← e2]
    exact ⟨doc_ok hP hm.2 hpb.space hN (by omega), by rw [show (docOf most (spaceS lsA most q).2).disk = docD _ from rfl, show (docOf most q).disk = docD _ from rfl, docD_length, docD_length]⟩)
  rw [pin_doc hps hm.1 h0 h8 x] at h
  exact h
theorem doc_pinBad (w : World) (hps : Ps most q.hs q.us d q.disk) (hpb : Pb q.hs N) (hN : N ≤ 1000000) (hm : 1 ≤ most ∧ most ≤ 8) (hq : q.s.1.length ≤ 800000) (hn : n < 0 ∨ 8 ≤ n) (hD : DocAt n0 w pb vF vD vA (docOf most q)) :
    Calls Tryz.prog 28 #[.pointer (some ⟨pb, 0, none⟩), .int .i64 n] w fun e w' => e = .returned (.tuple #[.string (bs []), .int .i64 1]) ∧ DocP n0 w w' pb vF vD vA (docOf most q) := by
  have hok := doc_ok hps hm.2 hpb hN (by omega)
  have h := rpin_any w n hD hok (fun D2 e => by
    rw [room_doc hps] at e
    obtain ⟨_, _, _, _, hP, _⟩ := step_space (ls := lsA) hps
    have e2 : docOf most (spaceS lsA most q).2 = D2 := congrArg Prod.snd e
    have := asks_space (most := most) (q := q)
    rw [← e2]
    exact ⟨doc_ok hP hm.2 hpb.space hN (by omega), by rw [show (docOf most (spaceS lsA most q).2).disk = docD _ from rfl, show (docOf most q).disk = docD _ from rfl, docD_length, docD_length]⟩)
  have e : pin4 (docOf most q) n = (([], 1), docOf most q) := by
    unfold pin4
    rw [if_pos (by rw [show (docOf most q).disk = docD _ from rfl, docD_length]; omega)]
  rw [e] at h
  exact h
theorem doc_keys (w : World) (hps : Ps most q.hs q.us d q.disk) (hm : most ≤ 8) (hD : DocAt n0 w pb vF vD vA (docOf most q)) :
    Calls Tryz.prog 27 #[.pointer (some ⟨pb, 0, none⟩), .bool false] w fun e w' => ∃ v, e = .returned v ∧ Ints w.heap.size w' v (keysOf q.hs) ∧ Below w.heap.size w w' := by
  have hl : (docOf most q).F.length ≤ 1000 := by
    have := hps.gd.len; have := hps.gd.same
    rw [show (docOf most q).F = docF q.hs q.us from rfl, docF_length]; omega
  have hd : (docOf most q).disk.length = 8 := docD_length _
  have h := rpages_any w false hD hl (by omega)
  rw [hd, keys_doc hps] at h
  exact h
theorem doc_dirty (w : World) (hps : Ps most q.hs q.us d q.disk) (hm : most ≤ 8) (hD : DocAt n0 w pb vF vD vA (docOf most q)) :
    Calls Tryz.prog 27 #[.pointer (some ⟨pb, 0, none⟩), .bool true] w fun e w' => ∃ v, e = .returned v ∧ Ints w.heap.size w' v (dirtyOf q.hs) ∧ Below w.heap.size w w' := by
  have hl : (docOf most q).F.length ≤ 1000 := by
    have := hps.gd.len; have := hps.gd.same
    rw [show (docOf most q).F = docF q.hs q.us from rfl, docF_length]; omega
  have hd : (docOf most q).disk.length = 8 := docD_length _
  have h := rpages_any w true hD hl (by omega)
  rw [hd, dirty_doc hps] at h
  exact h
theorem doc_write {vp : Value} {base : Nat} (w : World) (hps : Ps most q.hs q.us d q.disk) (hpb : Pb q.hs N) (hN : N ≤ 1000000) (hm : most ≤ 8) (hq : q.s.1.length ≤ 900000) (hD : DocAt n0 w pb vF vD vA (docOf most q)) (hp : Ints base w vp (dirtyOf q.hs)) :
    Calls Tryz.prog 26 #[.pointer (some ⟨pb, 0, none⟩), vp] w fun e w' => e = .returned (.int .i64 (wrS lsA q (dirtyOf q.hs)).1) ∧ DocP n0 w w' pb vF vD vA (docOf most (wrS lsA q (dirtyOf q.hs)).2) := by
  have hok := doc_ok hps hm hpb hN hq
  have hin : ∀ k ∈ dirtyOf q.hs, k ∈ q.us := fun k hk => by
    obtain ⟨y, hy, _⟩ := (mem_dirtyOf hps.gd.rise k).1 hk
    exact (hps.gd.keys k).2 (by rw [hy]; rfl)
  have hlen : (dirtyOf q.hs).length ≤ 1000 := by
    have := hps.gd.len
    have h2 : (dirtyOf q.hs).length ≤ q.hs.length := by unfold dirtyOf; rw [List.length_map]; exact List.length_filter_le _ _
    omega
  have h := rwrite_any w (dirtyOf q.hs) hD hp (by have := hok.len; omega) hlen (by have := hok.ask; omega) hok.dsk (fun k hk => by
    have hn := hin k hk
    have hi : q.us.idxOf k < (docOf most q).F.length := by
      rw [show (docOf most q).F = docF q.hs q.us from rfl, docF_length]
      exact (idx_at hn).1
    have := hok.own _ hi
    rw [frame_at hps hn hi] at this
    exact this) hok.b512
  rw [wr_doc hps _ hin] at h
  exact h
end
end
end Go.Proofs.YtjlcbabnkhdgpaaGreatDoor
