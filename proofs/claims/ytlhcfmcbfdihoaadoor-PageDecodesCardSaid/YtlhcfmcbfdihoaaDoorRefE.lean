/-
  Walks: the document's answer for layer 5: Encode.
-/
import Derived.Test.YtlhcfmcbfdihoaaDoorRefD
import Derived.Test.YtlhcfmcbfdihoaaDoorPageD
import Derived.Test.YtlhcfmcbfdihoaaDoorLate
import Derived.Test.YtlhcfmcbfdihoaaDoorMadeA
namespace Go.Proofs.YtlhcfmcbfdihoaaDoor
set_option linter.unusedSimpArgs false
set_option linter.unusedVariables false
open Go.RowKit

/-- What the page's fields must be. -/
def fieldsB (p : Pg) : Prop := (0 ≤ p.lsn ∧ p.lsn ≤ 281474976710655) ∧ (1 ≤ p.kind ∧ p.kind ≤ 255) ∧ (0 ≤ p.level ∧ p.level ≤ 255) ∧ (0 ≤ p.right ∧ p.right ≤ 65535) ∧ p.high.length ≤ 64
theorem rightB_iff (p : Pg) : rightB p = true ↔ fieldsB p ∧ ∀ e ∈ p.ents, e.key.length ≤ 64 ∧ e.value.length ≤ 100 := by
  unfold rightB fieldsB withinB
  simp only [Bool.and_eq_true, decide_eq_true_eq, Bool.not_eq_true', List.any_eq_false, badE, Bool.or_eq_true, decide_eq_true_eq]
  constructor
  · rintro ⟨h0, h1, h2, h3, h4, h5⟩
    exact ⟨⟨h0, h1, h2, h3, by omega⟩, fun e he => by have := h5 e he; omega⟩
  · rintro ⟨⟨h0, h1, h2, h3, h4⟩, h5⟩
    exact ⟨h0, h1, h2, h3, by omega, fun e he => by have := h5 e he; omega⟩
theorem encR_wrong {p : Pg} (h : ¬ rightB p = true) : encR p = ([], 1) := by unfold encR; rw [if_neg h]

/-- The head's seven bytes, ahead of its text. -/
def head7 (p : Pg) : List UInt8 := putB 1 p.kind.toNat ++ (putB 1 p.level.toNat ++ (putB 2 p.right.toNat ++ (putB 1 p.high.length ++ putB 2 p.ents.length)))
theorem head7_high (p : Pg) : head7 p ++ p.high = headB p := by simp [head7, headB]
theorem head7_length (p : Pg) : (head7 p).length = 7 := by simp [head7, putB_length]
def cells7 (p : Pg) : Array Value := #[.int .u8 (IntKind.u8.wrap p.kind), .int .u8 (IntKind.u8.wrap p.level), .int .u8 (IntKind.u8.wrap (IntKind.i64.wrap (p.right.tdiv 256))), .int .u8 (IntKind.u8.wrap p.right), .int .u8 (IntKind.u8.wrap (p.high.length : Int)), .int .u8 (IntKind.u8.wrap (IntKind.i64.wrap ((p.ents.length : Int) / 256))), .int .u8 (IntKind.u8.wrap (p.ents.length : Int))]
set_option maxRecDepth 100000 in
theorem seven_cells (kind level right : Int) (hl nl : Nat) (h1 : 1 ≤ kind ∧ kind ≤ 255) (h2 : 0 ≤ level ∧ level ≤ 255) (h3 : 0 ≤ right ∧ right ≤ 65535) (h4 : hl ≤ 64) (hn : nl ≤ 70000) :
   (Lib.byteCells [UInt8.ofNat (kind.toNat % 256), UInt8.ofNat (level.toNat % 256), UInt8.ofNat (right.toNat / 256 % 256), UInt8.ofNat (right.toNat % 256), UInt8.ofNat (hl % 256), UInt8.ofNat (nl / 256 % 256), UInt8.ofNat (nl % 256)]).toArray = #[.int .u8 (IntKind.u8.wrap kind), .int .u8 (IntKind.u8.wrap level), .int .u8 (IntKind.u8.wrap (IntKind.i64.wrap (right.tdiv 256))), .int .u8 (IntKind.u8.wrap right), .int .u8 (IntKind.u8.wrap (hl : Int)), .int .u8 (IntKind.u8.wrap (IntKind.i64.wrap ((nl : Int) / 256))), .int .u8 (IntKind.u8.wrap (nl : Int))] := by
  have t : right.tdiv 256 = right / 256 := Int.tdiv_eq_ediv_of_nonneg (by omega)
  rw [t]
  unfold Lib.byteCells
  rw [IntKind.wrap_u8, IntKind.wrap_u8, IntKind.wrap_u8, IntKind.wrap_u8, IntKind.wrap_u8, IntKind.wrap_u8, IntKind.wrap_u8, IntKind.wrap_i64, IntKind.wrap_i64]
  have e : ∀ n : Nat, ((UInt8.ofNat (n % 256)).toNat : Int) = (n : Int) % 256 := fun n => by simp
  simp only [List.map_cons, List.map_nil, e]
  rw [show ((kind.toNat : Nat) : Int) = kind from by omega, show ((level.toNat : Nat) : Int) = level from by omega, show ((right.toNat / 256 : Nat) : Int) = right / 256 from by omega, show ((right.toNat : Nat) : Int) = right from by omega,
    show ((right / 256 + 9223372036854775808) % 18446744073709551616 - 9223372036854775808) = right / 256 from by omega, show ((nl / 256 : Nat) : Int) = (nl : Int) / 256 from by omega,
    show (((nl : Int) / 256 + 9223372036854775808) % 18446744073709551616 - 9223372036854775808) = (nl : Int) / 256 from by omega]
theorem head7_cells (p : Pg) (h : fieldsB p) (hn : p.ents.length ≤ 70000) : (Lib.byteCells (head7 p)).toArray = cells7 p := by
  obtain ⟨h0, h1, h2, h3, h4⟩ := h
  have e : head7 p = [UInt8.ofNat (p.kind.toNat % 256), UInt8.ofNat (p.level.toNat % 256), UInt8.ofNat (p.right.toNat / 256 % 256), UInt8.ofNat (p.right.toNat % 256), UInt8.ofNat (p.high.length % 256), UInt8.ofNat (p.ents.length / 256 % 256), UInt8.ofNat (p.ents.length % 256)] := by
    simp [head7, putB]
  rw [e]
  exact seven_cells _ _ _ _ _ h1 h2 h3 h4 hn
/-- An entry's three bytes, as a string. -/
def three (m : UInt8) (k v : Nat) : List UInt8 := [m, UInt8.ofNat (k % 256), UInt8.ofNat (v % 256)]
theorem conv3 (w : World) (g : Nat) (hg : g = w.heap.size) (m : UInt8) (z : Int) (hz : (m.toNat : Int) = z) (k v : Nat) (hk : k ≤ 255) (hv : v ≤ 255) :
    (convert 53 9 (.slice (some ⟨g, 0, none⟩) 3 3)).run Tryd.prog (w.alloc (.cells #[.int .u8 z, .int .u8 (k : Int), .int .u8 (v : Int)] 5)) =
      .ok (.string (bs (three m k v))) (w.alloc (.cells #[.int .u8 z, .int .u8 (k : Int), .int .u8 (v : Int)] 5)) := by
  subst hg
  have h := (RowB.made w (three m k v)).conv 3 3 rfl
  have e : (Lib.byteCells (three m k v)).toArray = #[.int .u8 z, .int .u8 (k : Int), .int .u8 (v : Int)] := by
    have a : ∀ n : Nat, n ≤ 255 → ((UInt8.ofNat (n % 256)).toNat : Int) = (n : Int) := fun n hn => by
      have : (UInt8.ofNat (n % 256)).toNat = n % 256 % 256 := by simp
      omega
    simp only [three, Lib.byteCells, List.map_cons, List.map_nil, a k hk, a v hv, hz]
  rw [e] at h
  exact h
theorem entB_three (key value : List UInt8) (m : Bool) : entB ⟨key, value, m⟩ = three (if m then 1 else 0) key.length value.length ++ (key ++ value) := by
  cases m <;> simp [entB, three, putB]
theorem refput6 (n : Int) (h0 : 0 ≤ n) (h1 : n ≤ 281474976710655) (w : World) :
    Calls Tryd.prog 29 #[.int .i64 n, .int .i64 6] w fun e w' => e = .returned (.string (bs (putB 6 n.toNat))) ∧ Below w.heap.size w w' := by
  obtain ⟨m, rfl⟩ := Int.eq_ofNat_of_zero_le h0
  exact refput_ok m 6 (by decide) (by decide) (show m < 281474976710656 by omega) w

set_option maxHeartbeats 6400000 in
set_option maxRecDepth 100000 in
theorem refencode_any (p : Pg) (A : Option Addr) (c : Nat) (hs : Small p) (w : World) (hr : ReadsE w w.heap.size A p.ents) :
    Calls Tryd.prog 11 #[.agg #[.int .i64 p.lsn, .int .i64 p.kind, .int .i64 p.level, .int .i64 p.right, .string (bs p.high), .slice A p.ents.length c]] w
      fun e w' => e = .returned (.tuple #[.string (bs (encR p).1), .int .i64 (encR p).2]) ∧ Below w.heap.size w w' := by
  have hh := hs.1
  have hn := hs.2.1
  have HS := Lib.hid hs
  have HR := Lib.hid hr
  clear hr hs
  go_enter Tryd.func11, Tryd.ntmps11
  have hb0 : Below w.heap.size w (w.alloc (.cells #[.int .i64 p.lsn, .int .i64 p.kind, .int .i64 p.level, .int .i64 p.right, .string (bs p.high), .slice A p.ents.length c] 32)) := (Below.refl _ _).alloc (Nat.le_refl _) _
  have hP := Blk.made w (pgCells p A c) 32
  have hR := HR.out.below hb0
  unfold pgCells at hP
  have HP := Lib.hid hP
  by_cases q1 : p.lsn < 0
  · have hw := encR_wrong (p := p) (fun h => by have := ((rightB_iff p).1 h).1; unfold fieldsB at this; omega)
    rw [hw]
    go_wp2_with fail
    go_ret2
    exact ⟨rfl, hb0⟩
  by_cases q2 : 281474976710656 ≤ p.lsn
  · have hw := encR_wrong (p := p) (fun h => by have := ((rightB_iff p).1 h).1; unfold fieldsB at this; omega)
    rw [hw]
    go_wp2_with fail
    go_ret2
    exact ⟨rfl, hb0⟩
  by_cases q3 : p.kind < 1
  · have hw := encR_wrong (p := p) (fun h => by have := ((rightB_iff p).1 h).1; unfold fieldsB at this; omega)
    rw [hw]
    go_wp2_with fail
    go_ret2
    exact ⟨rfl, hb0⟩
  by_cases q4 : 255 < p.kind
  · have hw := encR_wrong (p := p) (fun h => by have := ((rightB_iff p).1 h).1; unfold fieldsB at this; omega)
    rw [hw]
    go_wp2_with fail
    go_ret2
    exact ⟨rfl, hb0⟩
  by_cases q5 : p.level < 0
  · have hw := encR_wrong (p := p) (fun h => by have := ((rightB_iff p).1 h).1; unfold fieldsB at this; omega)
    rw [hw]
    go_wp2_with fail
    go_ret2
    exact ⟨rfl, hb0⟩
  by_cases q6 : 255 < p.level
  · have hw := encR_wrong (p := p) (fun h => by have := ((rightB_iff p).1 h).1; unfold fieldsB at this; omega)
    rw [hw]
    go_wp2_with fail
    go_ret2
    exact ⟨rfl, hb0⟩
  by_cases q7 : p.right < 0
  · have hw := encR_wrong (p := p) (fun h => by have := ((rightB_iff p).1 h).1; unfold fieldsB at this; omega)
    rw [hw]
    go_wp2_with fail
    go_ret2
    exact ⟨rfl, hb0⟩
  by_cases q8 : 65535 < p.right
  · have hw := encR_wrong (p := p) (fun h => by have := ((rightB_iff p).1 h).1; unfold fieldsB at this; omega)
    rw [hw]
    go_wp2_with fail
    go_ret2
    exact ⟨rfl, hb0⟩
  by_cases q9 : 64 < (p.high.length : Int)
  · have hw := encR_wrong (p := p) (fun h => by have := ((rightB_iff p).1 h).1; unfold fieldsB at this; omega)
    rw [hw]
    go_wp2_with fail
    go_ret2
    exact ⟨rfl, hb0⟩
  have hF : fieldsB p := by unfold fieldsB; omega
  go_wp2_with fail
  generalize w.alloc (.cells #[.int .i64 p.lsn, .int .i64 p.kind, .int .i64 p.level, .int .i64 p.right, .string (bs p.high), .slice A p.ents.length c] 32) = w1 at *
  generalize hg0 : w.heap.size = g0 at *
  obtain ⟨c0, c1, c2, c3, c4, c5⟩ := (⟨hP.cell 0, hP.cell 1, hP.cell 2, hP.cell 3, hP.cell 4, hP.cell 5⟩ : w1.cell? ⟨g0, 0, none⟩ = some (.int .i64 p.lsn) ∧ w1.cell? ⟨g0, 1, none⟩ = some (.int .i64 p.kind) ∧ w1.cell? ⟨g0, 2, none⟩ = some (.int .i64 p.level) ∧ w1.cell? ⟨g0, 3, none⟩ = some (.int .i64 p.right) ∧ w1.cell? ⟨g0, 4, none⟩ = some (.string (bs p.high)) ∧ w1.cell? ⟨g0, 5, none⟩ = some (.slice A p.ents.length c))
  have hsz : g0 < w1.heap.size := hP.lt
  clear hP
  go_loopg [4] p.ents.length (fun g i wr => wr = w1 ∧ ∃ k : Nat, k ≤ p.ents.length ∧ g = p.ents.length - k ∧ i = .int .i64 k ∧ ∀ e ∈ p.ents.take k, e.key.length ≤ 64 ∧ e.value.length ≤ 100)
  case atStart => exact ⟨rfl, 0, Nat.zero_le _, rfl, rfl, by simp⟩
  case round =>
    obtain ⟨rfl, k, hk, rfl, rfl, hok⟩ := hrel
    by_cases hlt : k < p.ents.length
    · obtain ⟨b, o, rfl, hb, e0, e1, e2⟩ := hR.at_ k hlt
      obtain ⟨e, he⟩ : ∃ e, e = p.ents[k] := ⟨_, rfl⟩
      rw [← he] at e0 e1 e2
      have hmem : e ∈ p.ents := by rw [he]; exact List.getElem_mem hlt
      have HO : Hid (∀ x ∈ p.ents.take (k + 1), x = e ∨ (x.key.length ≤ 64 ∧ x.value.length ≤ 100)) := by
        apply Lib.hid
        intro x hx
        rw [List.take_succ_eq_append_getElem hlt, ← he, List.mem_append] at hx
        rcases hx with hx | hx
        · exact Or.inr (hok x hx)
        · exact Or.inl (by simpa using hx)
      clear hok he
      by_cases k1 : 64 < (e.key.length : Int)
      · have hw := encR_wrong (p := p) (fun h => by have := ((rightB_iff p).1 h).2 e hmem; omega)
        go_wp2_with fail
        go_ret2
        exact ⟨by first | rfl | (rw [hw]; rfl), hg0 ▸ hb0⟩
      by_cases k2 : 100 < (e.value.length : Int)
      · have hw := encR_wrong (p := p) (fun h => by have := ((rightB_iff p).1 h).2 e hmem; omega)
        go_wp2_with fail
        go_ret2
        exact ⟨by first | rfl | (rw [hw]; rfl), hg0 ▸ hb0⟩
      go_wp2_with fail
      go_roundg (p.ents.length - (k + 1))
      case measure => omega
      case rel => exact ⟨rfl, k + 1, by omega, rfl, by go_num, fun x hx => (HO.out x hx).elim (fun h => by subst h; omega) id⟩
    · have hkn : k = p.ents.length := by omega
      rw [hkn, List.take_length] at hok
      have hRt : rightB p = true := (rightB_iff p).2 ⟨hF, hok⟩
      have HRT := Lib.hid hRt; have HF := Lib.hid hF
      clear hkn hok hRt hF
      go_wp2_with fail
      refine (reffree_any p A c HS.out wr (hR.more (Nat.le_of_lt hsz))).mono ?_
      rintro e w2 ⟨rfl, hb2⟩
      have hP2 := HP.out.up hb2
      have hb3 : Below g0 w w2 := hb0.trans (hb2.mono (Nat.le_of_lt hsz))
      have hR2 : ReadsE w2 g0 A p.ents := (hR.below (hb2.mono (Nat.le_of_lt hsz)))
      have hsz2 : g0 < w2.heap.size := Nat.lt_of_lt_of_le hsz hb2.size
      clear hb0 hb2 hR HP c0 c1 c2 c3 c4 c5 hsz
      by_cases hf : freeOf p < 0
      · have hw : encR p = ([], 8) := by unfold encR; rw [if_pos HRT.out, if_pos hf]
        go_wp2_with fail
        go_ret2
        exact ⟨by first | rfl | (rw [hw]; rfl), hg0 ▸ hb3⟩
      have hw : encR p = (encB p, 0) := by unfold encR; rw [if_pos HRT.out, if_neg hf]
      have HW := Lib.hid hw; have HFR := Lib.hid hf
      clear hw
      go_wp2_with fail
      go_upto_region 10 with fail
      go_cut [5] (fun s5 wx => s5 = .string (bs (putB 6 p.lsn.toNat ++ headB p)) ∧ g0 < wx.heap.size ∧ Below g0 w wx ∧ Blk wx g0 32 (pgCells p A c))
      case first =>
        refine wp_region_late 34 (fun w' => w'.cell? ⟨g0, 0, none⟩ = some (.int .i64 p.lsn) ∧ w'.cell? ⟨g0, 1, none⟩ = some (.int .i64 p.kind) ∧ w'.cell? ⟨g0, 2, none⟩ = some (.int .i64 p.level) ∧ w'.cell? ⟨g0, 3, none⟩ = some (.int .i64 p.right) ∧
          w'.cell? ⟨g0, 4, none⟩ = some (.string (bs p.high)) ∧ w'.cell? ⟨g0, 5, none⟩ = some (.slice A p.ents.length c)) (by kernel_rfl) ?_
        have hP3 : Blk w2.drew g0 32 #[.int .i64 p.lsn, .int .i64 p.kind, .int .i64 p.level, .int .i64 p.right, .string (bs p.high), .slice A p.ents.length c] := hP2
        have hb4 : Below g0 w w2.drew := hb3.drew
        have hsz4 : g0 < w2.drew.heap.size := hsz2
        have hT : w2.drew.cell? ⟨g0, 0, none⟩ = some (.int .i64 p.lsn) ∧ w2.drew.cell? ⟨g0, 1, none⟩ = some (.int .i64 p.kind) ∧ w2.drew.cell? ⟨g0, 2, none⟩ = some (.int .i64 p.level) ∧ w2.drew.cell? ⟨g0, 3, none⟩ = some (.int .i64 p.right) ∧
          w2.drew.cell? ⟨g0, 4, none⟩ = some (.string (bs p.high)) ∧ w2.drew.cell? ⟨g0, 5, none⟩ = some (.slice A p.ents.length c) := ⟨hP3.cell 0, hP3.cell 1, hP3.cell 2, hP3.cell 3, hP3.cell 4, hP3.cell 5⟩
        generalize w2.drew = w3 at *
        have C7 := Lib.hid (head7_cells p HF.out hn)
        have q10 : ¬ 9223372036854775807 < 6 + (head7 p).length := by rw [head7_length]; omega
        have q11 : ¬ 9223372036854775807 < 6 + (head7 p).length + p.high.length := by rw [head7_length]; omega
        have H7 := Lib.hid (head7_length p)
        -- region begins
        show wpAnyK _ _ _ _ _ 34 36 #[false,false,false,false,false,false,false,false,false,false,false,false,false,false,false,false,false,false,false,false,false,false,false,false,false,false,false,false,false,false,false,false,false,false,false,false] _ _
        refine wpAnyK_takeAny (i := 0) (oi := ⟨some 81, _, _, _, _, _⟩) (v := ?_) rfl (by kernel_rfl) (by kernel_rfl) (by kernel_rfl) (by kernel_rfl) (fun _ _ _ h => h) (Or.inl ⟨by kernel_rfl, ?_⟩) (fun _ => hT) ?_
        rotate_left
        · intro w'; go_simp; rfl
        try simp only [Act.put, List.setIfInBounds_toArray, List.set_cons_zero, List.set_cons_succ]
        refine wpAnyK_take (i := 1) (oi := ⟨some 82, _, _, _, _, _⟩) (L := [34, 31, 2]) (v := ?_) rfl (by kernel_rfl) (by kernel_rfl) (by kernel_rfl) (by kernel_rfl) (fun _ _ _ h => h) (Or.inl ⟨by kernel_rfl, ?_⟩) hT ?_
        rotate_left
        · rintro w' ⟨t0, t1, t2, t3, t4, t5⟩; go_simp; rfl
        try simp only [Act.put, List.setIfInBounds_toArray, List.set_cons_zero, List.set_cons_succ]
        refine wpAnyK_takeAny (i := 3) (oi := ⟨some 84, _, _, _, _, _⟩) (v := ?_) rfl (by kernel_rfl) (by kernel_rfl) (by kernel_rfl) (by kernel_rfl) (fun _ _ _ h => h) (Or.inl ⟨by kernel_rfl, ?_⟩) (fun _ => hT) ?_
        rotate_left
        · intro w'; go_simp; rfl
        try simp only [Act.put, List.setIfInBounds_toArray, List.set_cons_zero, List.set_cons_succ]
        refine wpAnyK_take (i := 4) (oi := ⟨some 85, _, _, _, _, _⟩) (L := [34, 31, 30, 29, 5]) (v := ?_) rfl (by kernel_rfl) (by kernel_rfl) (by kernel_rfl) (by kernel_rfl) (fun _ _ _ h => h) (Or.inl ⟨by kernel_rfl, ?_⟩) hT ?_
        rotate_left
        · rintro w' ⟨t0, t1, t2, t3, t4, t5⟩; go_simp; rfl
        try simp only [Act.put, List.setIfInBounds_toArray, List.set_cons_zero, List.set_cons_succ]
        refine wpAnyK_takeAny (i := 5) (oi := ⟨some 86, _, _, _, _, _⟩) (v := ?_) rfl (by kernel_rfl) (by kernel_rfl) (by kernel_rfl) (by kernel_rfl) (fun _ _ _ h => h) (Or.inl ⟨by kernel_rfl, ?_⟩) (fun _ => hT) ?_
        rotate_left
        · intro w'; go_simp; rfl
        try simp only [Act.put, List.setIfInBounds_toArray, List.set_cons_zero, List.set_cons_succ]
        refine wpAnyK_takeAny (i := 6) (oi := ⟨some 87, _, _, _, _, _⟩) (v := ?_) rfl (by kernel_rfl) (by kernel_rfl) (by kernel_rfl) (by kernel_rfl) (fun _ _ _ h => h) (Or.inl ⟨by kernel_rfl, ?_⟩) (fun _ => hT) ?_
        rotate_left
        · intro w'; go_simp; rfl
        try simp only [Act.put, List.setIfInBounds_toArray, List.set_cons_zero, List.set_cons_succ]
        refine wpAnyK_take (i := 7) (oi := ⟨some 88, _, _, _, _, _⟩) (L := [34, 31, 30, 29, 8]) (v := ?_) rfl (by kernel_rfl) (by kernel_rfl) (by kernel_rfl) (by kernel_rfl) (fun _ _ _ h => h) (Or.inl ⟨by kernel_rfl, ?_⟩) hT ?_
        rotate_left
        · rintro w' ⟨t0, t1, t2, t3, t4, t5⟩; go_simp; rfl
        try simp only [Act.put, List.setIfInBounds_toArray, List.set_cons_zero, List.set_cons_succ]
        refine wpAnyK_takeAny (i := 8) (oi := ⟨some 89, _, _, _, _, _⟩) (v := ?_) rfl (by kernel_rfl) (by kernel_rfl) (by kernel_rfl) (by kernel_rfl) (fun _ _ _ h => h) (Or.inl ⟨by kernel_rfl, ?_⟩) (fun _ => hT) ?_
        rotate_left
        · intro w'; go_simp; rfl
        try simp only [Act.put, List.setIfInBounds_toArray, List.set_cons_zero, List.set_cons_succ]
        refine wpAnyK_takeAny (i := 9) (oi := ⟨some 90, _, _, _, _, _⟩) (v := ?_) rfl (by kernel_rfl) (by kernel_rfl) (by kernel_rfl) (by kernel_rfl) (fun _ _ _ h => h) (Or.inl ⟨by kernel_rfl, ?_⟩) (fun _ => hT) ?_
        rotate_left
        · intro w'; go_simp; rfl
        try simp only [Act.put, List.setIfInBounds_toArray, List.set_cons_zero, List.set_cons_succ]
        refine wpAnyK_take (i := 10) (oi := ⟨some 91, _, _, _, _, _⟩) (L := [34, 31, 30, 29, 12, 11]) (v := ?_) rfl (by kernel_rfl) (by kernel_rfl) (by kernel_rfl) (by kernel_rfl) (fun _ _ _ h => h) (Or.inl ⟨by kernel_rfl, ?_⟩) hT ?_
        rotate_left
        · rintro w' ⟨t0, t1, t2, t3, t4, t5⟩; go_simp; rfl
        try simp only [Act.put, List.setIfInBounds_toArray, List.set_cons_zero, List.set_cons_succ]
        refine wpAnyK_takeAny (i := 11) (oi := ⟨some 92, _, _, _, _, _⟩) (v := ?_) rfl (by kernel_rfl) (by kernel_rfl) (by kernel_rfl) (by kernel_rfl) (fun _ _ _ h => h) (Or.inl ⟨by kernel_rfl, ?_⟩) (fun _ => hT) ?_
        rotate_left
        · intro w'; go_simp; rfl
        try simp only [Act.put, List.setIfInBounds_toArray, List.set_cons_zero, List.set_cons_succ]
        refine wpAnyK_takeAny (i := 12) (oi := ⟨some 93, _, _, _, _, _⟩) (v := ?_) rfl (by kernel_rfl) (by kernel_rfl) (by kernel_rfl) (by kernel_rfl) (fun _ _ _ h => h) (Or.inl ⟨by kernel_rfl, ?_⟩) (fun _ => hT) ?_
        rotate_left
        · intro w'; go_simp; rfl
        try simp only [Act.put, List.setIfInBounds_toArray, List.set_cons_zero, List.set_cons_succ]
        refine wpAnyK_takeAny (i := 13) (oi := ⟨some 94, _, _, _, _, _⟩) (v := ?_) rfl (by kernel_rfl) (by kernel_rfl) (by kernel_rfl) (by kernel_rfl) (fun _ _ _ h => h) (Or.inl ⟨by kernel_rfl, ?_⟩) (fun _ => hT) ?_
        rotate_left
        · intro w'; go_simp; rfl
        try simp only [Act.put, List.setIfInBounds_toArray, List.set_cons_zero, List.set_cons_succ]
        refine wpAnyK_take (i := 14) (oi := ⟨some 95, _, _, _, _, _⟩) (L := [34, 31, 30, 29, 15]) (v := ?_) rfl (by kernel_rfl) (by kernel_rfl) (by kernel_rfl) (by kernel_rfl) (fun _ _ _ h => h) (Or.inl ⟨by kernel_rfl, ?_⟩) hT ?_
        rotate_left
        · rintro w' ⟨t0, t1, t2, t3, t4, t5⟩; go_simp; rfl
        try simp only [Act.put, List.setIfInBounds_toArray, List.set_cons_zero, List.set_cons_succ]
        refine wpAnyK_takeAny (i := 15) (oi := ⟨some 96, _, _, _, _, _⟩) (v := ?_) rfl (by kernel_rfl) (by kernel_rfl) (by kernel_rfl) (by kernel_rfl) (fun _ _ _ h => h) (Or.inl ⟨by kernel_rfl, ?_⟩) (fun _ => hT) ?_
        rotate_left
        · intro w'; go_simp; rfl
        try simp only [Act.put, List.setIfInBounds_toArray, List.set_cons_zero, List.set_cons_succ]
        refine wpAnyK_takeAny (i := 16) (oi := ⟨some 97, _, _, _, _, _⟩) (v := ?_) rfl (by kernel_rfl) (by kernel_rfl) (by kernel_rfl) (by kernel_rfl) (fun _ _ _ h => h) (Or.inl ⟨by kernel_rfl, ?_⟩) (fun _ => hT) ?_
        rotate_left
        · intro w'; go_simp; rfl
        try simp only [Act.put, List.setIfInBounds_toArray, List.set_cons_zero, List.set_cons_succ]
        refine wpAnyK_take (i := 17) (oi := ⟨some 98, _, _, _, _, _⟩) (L := [34, 31, 30, 29, 19, 18]) (v := ?_) rfl (by kernel_rfl) (by kernel_rfl) (by kernel_rfl) (by kernel_rfl) (fun _ _ _ h => h) (Or.inl ⟨by kernel_rfl, ?_⟩) hT ?_
        rotate_left
        · rintro w' ⟨t0, t1, t2, t3, t4, t5⟩; go_simp; rfl
        try simp only [Act.put, List.setIfInBounds_toArray, List.set_cons_zero, List.set_cons_succ]
        refine wpAnyK_takeAny (i := 18) (oi := ⟨some 99, _, _, _, _, _⟩) (v := ?_) rfl (by kernel_rfl) (by kernel_rfl) (by kernel_rfl) (by kernel_rfl) (fun _ _ _ h => h) (Or.inl ⟨by kernel_rfl, ?_⟩) (fun _ => hT) ?_
        rotate_left
        · intro w'; go_simp; rfl
        try simp only [Act.put, List.setIfInBounds_toArray, List.set_cons_zero, List.set_cons_succ]
        refine wpAnyK_takeAny (i := 19) (oi := ⟨some 100, _, _, _, _, _⟩) (v := ?_) rfl (by kernel_rfl) (by kernel_rfl) (by kernel_rfl) (by kernel_rfl) (fun _ _ _ h => h) (Or.inl ⟨by kernel_rfl, ?_⟩) (fun _ => hT) ?_
        rotate_left
        · intro w'; go_simp; rfl
        try simp only [Act.put, List.setIfInBounds_toArray, List.set_cons_zero, List.set_cons_succ]
        refine wpAnyK_takeAny (i := 20) (oi := ⟨some 101, _, _, _, _, _⟩) (v := ?_) rfl (by kernel_rfl) (by kernel_rfl) (by kernel_rfl) (by kernel_rfl) (fun _ _ _ h => h) (Or.inl ⟨by kernel_rfl, ?_⟩) (fun _ => hT) ?_
        rotate_left
        · intro w'; go_simp; rfl
        try simp only [Act.put, List.setIfInBounds_toArray, List.set_cons_zero, List.set_cons_succ]
        refine wpAnyK_take (i := 21) (oi := ⟨some 102, _, _, _, _, _⟩) (L := [34, 31, 30, 29, 24, 23, 22]) (v := ?_) rfl (by kernel_rfl) (by kernel_rfl) (by kernel_rfl) (by kernel_rfl) (fun _ _ _ h => h) (Or.inl ⟨by kernel_rfl, ?_⟩) hT ?_
        rotate_left
        · rintro w' ⟨t0, t1, t2, t3, t4, t5⟩; go_simp; rfl
        try simp only [Act.put, List.setIfInBounds_toArray, List.set_cons_zero, List.set_cons_succ]
        refine wpAnyK_takeAny (i := 22) (oi := ⟨some 103, _, _, _, _, _⟩) (v := ?_) rfl (by kernel_rfl) (by kernel_rfl) (by kernel_rfl) (by kernel_rfl) (fun _ _ _ h => h) (Or.inl ⟨by kernel_rfl, ?_⟩) (fun _ => hT) ?_
        rotate_left
        · intro w'; go_simp; rfl
        try simp only [Act.put, List.setIfInBounds_toArray, List.set_cons_zero, List.set_cons_succ]
        refine wpAnyK_takeAny (i := 23) (oi := ⟨some 104, _, _, _, _, _⟩) (v := ?_) rfl (by kernel_rfl) (by kernel_rfl) (by kernel_rfl) (by kernel_rfl) (fun _ _ _ h => h) (Or.inl ⟨by kernel_rfl, ?_⟩) (fun _ => hT) ?_
        rotate_left
        · intro w'; go_simp; rfl
        try simp only [Act.put, List.setIfInBounds_toArray, List.set_cons_zero, List.set_cons_succ]
        refine wpAnyK_takeAny (i := 24) (oi := ⟨some 105, _, _, _, _, _⟩) (v := ?_) rfl (by kernel_rfl) (by kernel_rfl) (by kernel_rfl) (by kernel_rfl) (fun _ _ _ h => h) (Or.inl ⟨by kernel_rfl, ?_⟩) (fun _ => hT) ?_
        rotate_left
        · intro w'; go_simp; rfl
        try simp only [Act.put, List.setIfInBounds_toArray, List.set_cons_zero, List.set_cons_succ]
        refine wpAnyK_takeAny (i := 25) (oi := ⟨some 106, _, _, _, _, _⟩) (v := ?_) rfl (by kernel_rfl) (by kernel_rfl) (by kernel_rfl) (by kernel_rfl) (fun _ _ _ h => h) (Or.inl ⟨by kernel_rfl, ?_⟩) (fun _ => hT) ?_
        rotate_left
        · intro w'; go_simp; rfl
        try simp only [Act.put, List.setIfInBounds_toArray, List.set_cons_zero, List.set_cons_succ]
        refine wpAnyK_take (i := 26) (oi := ⟨some 107, _, _, _, _, _⟩) (L := [34, 31, 30, 29, 28, 27]) (v := ?_) rfl (by kernel_rfl) (by kernel_rfl) (by kernel_rfl) (by kernel_rfl) (fun _ _ _ h => h) (Or.inl ⟨by kernel_rfl, ?_⟩) hT ?_
        rotate_left
        · rintro w' ⟨t0, t1, t2, t3, t4, t5⟩; go_simp; rfl
        try simp only [Act.put, List.setIfInBounds_toArray, List.set_cons_zero, List.set_cons_succ]
        refine wpAnyK_takeAny (i := 27) (oi := ⟨some 108, _, _, _, _, _⟩) (v := ?_) rfl (by kernel_rfl) (by kernel_rfl) (by kernel_rfl) (by kernel_rfl) (fun _ _ _ h => h) (Or.inl ⟨by kernel_rfl, ?_⟩) (fun _ => hT) ?_
        rotate_left
        · intro w'; go_simp; rfl
        try simp only [Act.put, List.setIfInBounds_toArray, List.set_cons_zero, List.set_cons_succ]
        refine wpAnyK_takeAny (i := 28) (oi := ⟨some 109, _, _, _, _, _⟩) (v := ?_) rfl (by kernel_rfl) (by kernel_rfl) (by kernel_rfl) (by kernel_rfl) (fun _ _ _ h => h) (Or.inl ⟨by kernel_rfl, ?_⟩) (fun _ => hT) ?_
        rotate_left
        · intro w'; go_simp; rfl
        try simp only [Act.put, List.setIfInBounds_toArray, List.set_cons_zero, List.set_cons_succ]
        refine wpAnyK_takeAny (i := 32) (oi := ⟨some 113, _, _, _, _, _⟩) (v := ?_) rfl (by kernel_rfl) (by kernel_rfl) (by kernel_rfl) (by kernel_rfl) (fun _ _ _ h => h) (Or.inl ⟨by kernel_rfl, ?_⟩) (fun _ => hT) ?_
        rotate_left
        · intro w'; go_simp; rfl
        try simp only [Act.put, List.setIfInBounds_toArray, List.set_cons_zero, List.set_cons_succ]
        refine wpAnyK_take (i := 33) (oi := ⟨some 114, _, _, _, _, _⟩) (L := [34]) (v := ?_) rfl (by kernel_rfl) (by kernel_rfl) (by kernel_rfl) (by kernel_rfl) (fun _ _ _ h => h) (Or.inl ⟨by kernel_rfl, ?_⟩) hT ?_
        rotate_left
        · rintro w' ⟨t0, t1, t2, t3, t4, t5⟩; go_simp; rfl
        try simp only [Act.put, List.setIfInBounds_toArray, List.set_cons_zero, List.set_cons_succ]
        clear hT
        refine wpAnyK_ready (rs := [2, 29]) (by kernel_rfl) (by simp) ?_
        refine AllReadyK.cons (o := ⟨some 83, _, _, _, _, _⟩) rfl (fun K hK => ?_) (AllReadyK.cons (o := ⟨some 110, _, _, _, _, _⟩) rfl (fun K hK => ?_) AllReadyK.nil)
        · go_simp
          refine (refput6 p.lsn HF.out.1.1 HF.out.1.2 w3).mono ?_
          rintro e w4 ⟨rfl, hbx⟩
          have hPw4 := hP3.up hbx
          have hbw4 : Below g0 w w4 := hb4.trans (hbx.mono (Nat.le_of_lt hsz4))
          have hsw4 : g0 < w4.heap.size := Nat.lt_of_lt_of_le hsz4 hbx.size
          refine hK _ _ (fun _ => ⟨hPw4.cell 0, hPw4.cell 1, hPw4.cell 2, hPw4.cell 3, hPw4.cell 4, hPw4.cell 5⟩) ?_
          clear hK K hbx
          refine wpAnyK_ready (rs := [29]) (by kernel_rfl) (by simp) ?_
          refine AllReadyK.cons (o := ⟨some 110, _, _, _, _, _⟩) rfl (fun K hK => ?_) AllReadyK.nil
          go_simp
          refine hK _ _ (fun _ => ⟨(hPw4.alloc _).cell 0, (hPw4.alloc _).cell 1, (hPw4.alloc _).cell 2, (hPw4.alloc _).cell 3, (hPw4.alloc _).cell 4, (hPw4.alloc _).cell 5⟩) ?_
          clear hK K
          have hRw5 := RowB.made w4 (head7 p)
          rw [C7.out] at hRw5
          have hPw5 := hPw4.alloc (.cells (cells7 p) 5)
          have hbw5 : Below g0 w (w4.alloc (.cells (cells7 p) 5)) := hbw4.alloc (Nat.le_of_lt hsw4) _
          have hsw5 : g0 < (w4.alloc (.cells (cells7 p) 5)).heap.size := Nat.lt_of_lt_of_le hsw4 (by simp)
          unfold cells7 at hRw5 hPw5 hbw5 hsw5
          generalize w4.alloc (.cells #[.int .u8 (IntKind.u8.wrap p.kind), .int .u8 (IntKind.u8.wrap p.level), .int .u8 (IntKind.u8.wrap (IntKind.i64.wrap (p.right.tdiv 256))), .int .u8 (IntKind.u8.wrap p.right), .int .u8 (IntKind.u8.wrap (p.high.length : Int)), .int .u8 (IntKind.u8.wrap (IntKind.i64.wrap ((p.ents.length : Int) / 256))), .int .u8 (IntKind.u8.wrap (p.ents.length : Int))] 5) = w5 at *
          generalize w4.heap.size = gr at *
          refine wpAnyK_ready (rs := [30]) (by kernel_rfl) (by simp) ?_
          refine AllReadyK.cons (o := ⟨some 111, _, _, _, _, _⟩) rfl (fun K hK => ?_) AllReadyK.nil
          have hcv := hRw5.conv 7 7 H7.out.symm
          go_simp
          refine hK _ _ (fun _ => ⟨hPw5.cell 0, hPw5.cell 1, hPw5.cell 2, hPw5.cell 3, hPw5.cell 4, hPw5.cell 5⟩) ?_
          clear hK K hcv
          refine wpAnyK_takeAny (i := 31) (oi := ⟨some 112, _, _, _, _, _⟩) (v := ?_) rfl (by kernel_rfl) (by kernel_rfl) (by kernel_rfl) (by kernel_rfl) (fun _ _ _ h => h) (Or.inl ⟨by kernel_rfl, ?_⟩) (fun _ => ⟨hPw5.cell 0, hPw5.cell 1, hPw5.cell 2, hPw5.cell 3, hPw5.cell 4, hPw5.cell 5⟩) ?_
          rotate_left
          · intro w'; go_simp; rfl
          try simp only [Act.put, List.setIfInBounds_toArray, List.set_cons_zero, List.set_cons_succ]
          refine wpAnyK_ready (rs := [34]) (by kernel_rfl) (by simp) ?_
          refine AllReadyK.cons (o := ⟨some 115, _, _, _, _, _⟩) rfl (fun K hK => ?_) AllReadyK.nil
          go_simp
          refine hK _ _ (fun h => by cases h) ?_
          clear hK K
          refine wpAnyK_ready (rs := [35]) (by kernel_rfl) (by simp) ?_
          refine AllReadyK.cons (o := ⟨some 5, _, _, _, _, _⟩) rfl (fun K hK => ?_) AllReadyK.nil
          go_simp
          refine hK _ _ (fun h => by cases h) ?_
          clear hK K
          refine wpAnyK_done (by kernel_rfl) ?_ _
          go_wp2_with fail
          go_meet
          case rel => exact ⟨by rw [← head7_high], hsw5, hbw5, hPw5⟩
        · go_simp
          refine hK _ _ (fun _ => ⟨(hP3.alloc _).cell 0, (hP3.alloc _).cell 1, (hP3.alloc _).cell 2, (hP3.alloc _).cell 3, (hP3.alloc _).cell 4, (hP3.alloc _).cell 5⟩) ?_
          clear hK K
          have hRw4 := RowB.made w3 (head7 p)
          rw [C7.out] at hRw4
          have hPw4 := hP3.alloc (.cells (cells7 p) 5)
          have hbw4 : Below g0 w (w3.alloc (.cells (cells7 p) 5)) := hb4.alloc (Nat.le_of_lt hsz4) _
          have hsw4 : g0 < (w3.alloc (.cells (cells7 p) 5)).heap.size := Nat.lt_of_lt_of_le hsz4 (by simp)
          unfold cells7 at hRw4 hPw4 hbw4 hsw4
          generalize w3.alloc (.cells #[.int .u8 (IntKind.u8.wrap p.kind), .int .u8 (IntKind.u8.wrap p.level), .int .u8 (IntKind.u8.wrap (IntKind.i64.wrap (p.right.tdiv 256))), .int .u8 (IntKind.u8.wrap p.right), .int .u8 (IntKind.u8.wrap (p.high.length : Int)), .int .u8 (IntKind.u8.wrap (IntKind.i64.wrap ((p.ents.length : Int) / 256))), .int .u8 (IntKind.u8.wrap (p.ents.length : Int))] 5) = w4 at *
          generalize w3.heap.size = gr at *
          refine wpAnyK_ready (rs := [2, 30]) (by kernel_rfl) (by simp) ?_
          refine AllReadyK.cons (o := ⟨some 83, _, _, _, _, _⟩) rfl (fun K hK => ?_) (AllReadyK.cons (o := ⟨some 111, _, _, _, _, _⟩) rfl (fun K hK => ?_) AllReadyK.nil)
          · go_simp
            refine (refput6 p.lsn HF.out.1.1 HF.out.1.2 w4).mono ?_
            rintro e w5 ⟨rfl, hbx⟩
            have hPw5 := hPw4.up hbx
            have hbw5 : Below g0 w w5 := hbw4.trans (hbx.mono (Nat.le_of_lt hsw4))
            have hsw5 : g0 < w5.heap.size := Nat.lt_of_lt_of_le hsw4 hbx.size
            have hRw4w5 := hRw4.below hbx hRw4.lt
            refine hK _ _ (fun _ => ⟨hPw5.cell 0, hPw5.cell 1, hPw5.cell 2, hPw5.cell 3, hPw5.cell 4, hPw5.cell 5⟩) ?_
            clear hK K hbx
            refine wpAnyK_ready (rs := [30]) (by kernel_rfl) (by simp) ?_
            refine AllReadyK.cons (o := ⟨some 111, _, _, _, _, _⟩) rfl (fun K hK => ?_) AllReadyK.nil
            have hcv := hRw4w5.conv 7 7 H7.out.symm
            go_simp
            refine hK _ _ (fun _ => ⟨hPw5.cell 0, hPw5.cell 1, hPw5.cell 2, hPw5.cell 3, hPw5.cell 4, hPw5.cell 5⟩) ?_
            clear hK K hcv
            refine wpAnyK_takeAny (i := 31) (oi := ⟨some 112, _, _, _, _, _⟩) (v := ?_) rfl (by kernel_rfl) (by kernel_rfl) (by kernel_rfl) (by kernel_rfl) (fun _ _ _ h => h) (Or.inl ⟨by kernel_rfl, ?_⟩) (fun _ => ⟨hPw5.cell 0, hPw5.cell 1, hPw5.cell 2, hPw5.cell 3, hPw5.cell 4, hPw5.cell 5⟩) ?_
            rotate_left
            · intro w'; go_simp; rfl
            try simp only [Act.put, List.setIfInBounds_toArray, List.set_cons_zero, List.set_cons_succ]
            refine wpAnyK_ready (rs := [34]) (by kernel_rfl) (by simp) ?_
            refine AllReadyK.cons (o := ⟨some 115, _, _, _, _, _⟩) rfl (fun K hK => ?_) AllReadyK.nil
            go_simp
            refine hK _ _ (fun h => by cases h) ?_
            clear hK K
            refine wpAnyK_ready (rs := [35]) (by kernel_rfl) (by simp) ?_
            refine AllReadyK.cons (o := ⟨some 5, _, _, _, _, _⟩) rfl (fun K hK => ?_) AllReadyK.nil
            go_simp
            refine hK _ _ (fun h => by cases h) ?_
            clear hK K
            refine wpAnyK_done (by kernel_rfl) ?_ _
            go_wp2_with fail
            go_meet
            case rel => exact ⟨by rw [← head7_high], hsw5, hbw5, hPw5⟩
          · have hcv := hRw4.conv 7 7 H7.out.symm
            go_simp
            refine hK _ _ (fun _ => ⟨hPw4.cell 0, hPw4.cell 1, hPw4.cell 2, hPw4.cell 3, hPw4.cell 4, hPw4.cell 5⟩) ?_
            clear hK K hcv
            refine wpAnyK_ready (rs := [2]) (by kernel_rfl) (by simp) ?_
            refine AllReadyK.cons (o := ⟨some 83, _, _, _, _, _⟩) rfl (fun K hK => ?_) AllReadyK.nil
            go_simp
            refine (refput6 p.lsn HF.out.1.1 HF.out.1.2 w4).mono ?_
            rintro e w5 ⟨rfl, hbx⟩
            have hPw5 := hPw4.up hbx
            have hbw5 : Below g0 w w5 := hbw4.trans (hbx.mono (Nat.le_of_lt hsw4))
            have hsw5 : g0 < w5.heap.size := Nat.lt_of_lt_of_le hsw4 hbx.size
            refine hK _ _ (fun _ => ⟨hPw5.cell 0, hPw5.cell 1, hPw5.cell 2, hPw5.cell 3, hPw5.cell 4, hPw5.cell 5⟩) ?_
            clear hK K hbx
            refine wpAnyK_takeAny (i := 31) (oi := ⟨some 112, _, _, _, _, _⟩) (v := ?_) rfl (by kernel_rfl) (by kernel_rfl) (by kernel_rfl) (by kernel_rfl) (fun _ _ _ h => h) (Or.inl ⟨by kernel_rfl, ?_⟩) (fun _ => ⟨hPw5.cell 0, hPw5.cell 1, hPw5.cell 2, hPw5.cell 3, hPw5.cell 4, hPw5.cell 5⟩) ?_
            rotate_left
            · intro w'; go_simp; rfl
            try simp only [Act.put, List.setIfInBounds_toArray, List.set_cons_zero, List.set_cons_succ]
            refine wpAnyK_ready (rs := [34]) (by kernel_rfl) (by simp) ?_
            refine AllReadyK.cons (o := ⟨some 115, _, _, _, _, _⟩) rfl (fun K hK => ?_) AllReadyK.nil
            go_simp
            refine hK _ _ (fun h => by cases h) ?_
            clear hK K
            refine wpAnyK_ready (rs := [35]) (by kernel_rfl) (by simp) ?_
            refine AllReadyK.cons (o := ⟨some 5, _, _, _, _, _⟩) rfl (fun K hK => ?_) AllReadyK.nil
            go_simp
            refine hK _ _ (fun h => by cases h) ?_
            clear hK K
            refine wpAnyK_done (by kernel_rfl) ?_ _
            go_wp2_with fail
            go_meet
            case rel => exact ⟨by rw [← head7_high], hsw5, hbw5, hPw5⟩
        -- region ends
      case rest =>
        obtain ⟨rfl, hsz5, hb5, hP5⟩ := hcut
        clear hP2 hb3 hR2 hsz2 hf
        have h5 := hP5.cell 5
        unfold pgCells at h5
        replace h5 : wc.cell? ⟨g0, 5, none⟩ = some (.slice A p.ents.length c) := h5
        clear h5
        go_wp2_with fail
        go_loopg [5, 6] p.ents.length (fun g s i wr => ∃ k : Nat, k ≤ p.ents.length ∧ g = p.ents.length - k ∧ i = .int .i64 k ∧ s = .string (bs (putB 6 p.lsn.toNat ++ (headB p ++ entsB (p.ents.take k)))) ∧ g0 < wr.heap.size ∧ Below g0 w wr ∧ Blk wr g0 32 (pgCells p A c))
        case atStart => exact ⟨0, Nat.zero_le _, rfl, rfl, by simp [entsB], hsz5, hb5, hP5⟩
        case round =>
          clear hP5 hb5 hsz5
          obtain ⟨k, hk, rfl, rfl, rfl, hsz5, hb5, hP5⟩ := hrel
          have h5 : wr.cell? ⟨g0, 5, none⟩ = some (.slice A p.ents.length c) := hP5.cell 5
          have hl := entsB_length (p.ents.take k)
          have hszk := sizes_take_le HS.out.2 k hk
          have hhl := headB_length p
          have hln : (putB 6 p.lsn.toNat ++ (headB p ++ entsB (p.ents.take k))).length ≤ 140000210200 := by
            rw [List.length_append, List.length_append, hl, hhl, putB_length]; omega
          clear hl hszk hhl
          by_cases hlt : k < p.ents.length
          · obtain ⟨b, o, rfl, hb, e0, e1, e2⟩ := (HR.out.below hb5).at_ k hlt
            obtain ⟨e, he⟩ : ∃ e, e = p.ents[k] := ⟨_, rfl⟩
            have hE : e.key.length ≤ 64 ∧ e.value.length ≤ 100 := ((rightB_iff p).1 HRT.out).2 e (by rw [he]; exact List.getElem_mem hlt)
            rw [← he] at e0 e1 e2
            have HL : Hid (putB 6 p.lsn.toNat ++ (headB p ++ entsB (p.ents.take (k + 1))) = (putB 6 p.lsn.toNat ++ (headB p ++ entsB (p.ents.take k))) ++ entB e) := by
              apply Lib.hid
              rw [List.take_succ_eq_append_getElem hlt, entsB_snoc, ← he]
              simp only [List.append_assoc]
            obtain ⟨key, value, marked⟩ := e
            obtain ⟨hE1, hE2⟩ := hE
            dsimp only at e0 e1 e2 hE1 hE2
            clear he
            generalize putB 6 p.lsn.toNat ++ (headB p ++ entsB (p.ents.take k)) = acc at *
            have hsz6 : wr.heap.size + 1 = (wr.alloc (.cells #[.string (bs key), .string (bs value), .bool marked] 57)).heap.size := by simp
            have hbA : Below g0 w (wr.alloc (.cells #[.string (bs key), .string (bs value), .bool marked] 57)) := hb5.alloc (Nat.le_of_lt hsz5) _
            have hPA := hP5.alloc (.cells #[.string (bs key), .string (bs value), .bool marked] 57)
            cases marked
            · have hcv := conv3 _ _ hsz6 0 0 rfl key.length value.length (by omega) (by omega)
              have hbB : Below g0 w ((wr.alloc (.cells #[.string (bs key), .string (bs value), .bool false] 57)).alloc (.cells #[.int .u8 0, .int .u8 (key.length : Int), .int .u8 (value.length : Int)] 5)) := hbA.alloc (by rw [← hsz6]; omega) _
              have hPB := hPA.alloc (.cells #[.int .u8 0, .int .u8 (key.length : Int), .int .u8 (value.length : Int)] 5)
              have ht : (three 0 key.length value.length).length = 3 := rfl
              have HLL := HL.out
              rw [entB_three] at HLL
              have HL2 := Lib.hid HLL
              clear HL HLL hbA hPA hsz6
              go_wp2_with fail
              go_roundg (p.ents.length - (k + 1))
              case measure => omega
              case rel => exact ⟨k + 1, by omega, rfl, by go_num, by rw [HL2.out]; rfl, hPB.lt, hbB, hPB⟩
            · have hcv := conv3 _ _ hsz6 1 1 rfl key.length value.length (by omega) (by omega)
              have hbB : Below g0 w ((wr.alloc (.cells #[.string (bs key), .string (bs value), .bool true] 57)).alloc (.cells #[.int .u8 1, .int .u8 (key.length : Int), .int .u8 (value.length : Int)] 5)) := hbA.alloc (by rw [← hsz6]; omega) _
              have hPB := hPA.alloc (.cells #[.int .u8 1, .int .u8 (key.length : Int), .int .u8 (value.length : Int)] 5)
              have ht : (three 1 key.length value.length).length = 3 := rfl
              have HLL := HL.out
              rw [entB_three] at HLL
              have HL2 := Lib.hid HLL
              clear HL HLL hbA hPA hsz6
              go_wp2_with fail
              go_roundg (p.ents.length - (k + 1))
              case measure => omega
              case rel => exact ⟨k + 1, by omega, rfl, by go_num, by rw [HL2.out]; rfl, hPB.lt, hbB, hPB⟩
          · have hkn : k = p.ents.length := by omega
            rw [hkn, List.take_length] at hln ⊢
            have hlA : (putB 6 p.lsn.toNat ++ (headB p ++ entsB p.ents)).length ≤ 502 := by
              have hl := entsB_length p.ents
              have hhl := headB_length p
              have hfr : freeOf p = 489 - (p.high.length : Int) - (sizes p.ents : Int) := rfl
              have := HFR.out
              rw [List.length_append, List.length_append, hl, hhl, putB_length]; omega
            have hlB : (headB p ++ entsB p.ents).length = (putB 6 p.lsn.toNat ++ (headB p ++ entsB p.ents)).length - 6 := by
              have e6 : (putB 6 p.lsn.toNat ++ (headB p ++ entsB p.ents)).length = 6 + (headB p ++ entsB p.ents).length := by rw [List.length_append, putB_length]
              omega
            obtain ⟨acc, ha⟩ : ∃ a, a = putB 6 p.lsn.toNat ++ (headB p ++ entsB p.ents) := ⟨_, rfl⟩
            rw [← ha] at hlA hlB ⊢
            have h6 : 6 ≤ acc.length := by rw [ha, List.length_append, putB_length]; omega
            have HE : Hid (∀ j, acc.length + j = 502 → sealB ((acc ++ List.replicate j 0) ++ putB 6 p.lsn.toNat) = encB p) := by
              apply Lib.hid
              intro j hj
              unfold encB buildB bodyB
              rw [hlB, show 496 - (acc.length - 6) = j by omega, ha]
              simp only [List.append_assoc]
            clear hkn ha hlB hln
            have h0 : wr.cell? ⟨g0, 0, none⟩ = some (.int .i64 p.lsn) := hP5.cell 0
            go_wp2_with fail
            go_loopg [5] (502 - acc.length) (fun g s wx => wx = wr ∧ ∃ j : Nat, acc.length + j ≤ 502 ∧ g = 502 - acc.length - j ∧ s = .string (bs (acc ++ List.replicate j 0)))
            case atStart => exact ⟨rfl, 0, by omega, rfl, by simp⟩
            case round =>
              obtain ⟨rfl, j, hj, rfl, rfl⟩ := hrel
              have hlj : (acc ++ List.replicate j 0).length = acc.length + j := by simp
              have HJ : Hid (acc ++ List.replicate (j + 1) 0 = (acc ++ List.replicate j 0) ++ [0]) := by
                apply Lib.hid
                rw [List.replicate_succ', List.append_assoc]
              by_cases hlt2 : acc.length + j < 502
              · clear HE
                generalize acc ++ List.replicate j (0 : UInt8) = aj at *
                go_wp2_with fail
                go_roundg (502 - acc.length - (j + 1))
                case measure => omega
                case rel => exact ⟨rfl, j + 1, by omega, rfl, by rw [HJ.out, ← bs_append]; rfl⟩
              · have HE2 := Lib.hid (HE.out j (by omega))
                clear HE HJ
                generalize acc ++ List.replicate j (0 : UInt8) = aj at *
                go_wp2_with fail
                refine (refput6 p.lsn HF.out.1.1 HF.out.1.2 wr).mono ?_
                rintro e wa ⟨rfl, hbx⟩
                have hbw : Below g0 w wa := hb5.trans (hbx.mono (Nat.le_of_lt hsz5))
                have hsw : g0 ≤ wa.heap.size := Nat.le_trans (Nat.le_of_lt hsz5) hbx.size
                clear hbx
                have hlf : (aj ++ putB 6 p.lsn.toNat).length ≤ 140737488355300 := by rw [List.length_append, putB_length]; omega
                have HLF := Lib.hid hlf
                clear hlf
                go_wp2_with fail
                refine (refseal_any _ HLF.out wa).mono ?_
                rintro e wb ⟨rfl, hbx⟩
                rw [HE2.out]
                have hbw2 : Below g0 w wb := hbw.trans (hbx.mono hsw)
                clear hbx hbw
                have hw := HW.out
                go_wp2_with fail
                go_ret2
                exact ⟨by first | rfl | (rw [hw]; rfl), hg0 ▸ hbw2⟩
end Go.Proofs.YtlhcfmcbfdihoaaDoor
