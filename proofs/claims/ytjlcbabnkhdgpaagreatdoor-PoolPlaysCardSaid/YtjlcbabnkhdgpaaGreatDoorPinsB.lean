/-
  Walks: the list of what was used last (order.Recent[int]): Drop, Use, Oldest.
-/
import Derived.Test.YtjlcbabnkhdgpaaGreatDoorQt
import Derived.Laws.IdiomCopy
import Derived.Laws.CopyRow
import Derived.Lib.AppendZerosOnto
import Derived.Lib.SliceRun
import Derived.Deep.AppendSrc
import Derived.Shelf.Spec.SlicesInsertGrow
import Derived.Laws.Externs
import Derived.Test.YtjlcbabnkhdgpaaGreatDoorPinsA
import Derived.Test.YtjlcbabnkhdgpaaGreatDoorRdA
namespace Go.Proofs.YtjlcbabnkhdgpaaGreatDoor
section
set_option linter.unusedSimpArgs false
set_option linter.unusedVariables false
open Go.RowKit
section
variable {P : Program}
theorem grown_trans {w w' w'' : World} {r : Option Nat} (h : w.grownBy w' r) (k : w'.grownBy w'' r) : w.grownBy w'' r :=
  ⟨k.os.trans h.os, k.tape.trans h.tape, k.output.trans h.output, Nat.le_trans h.size k.size, fun b hb hr => (k.block b (Nat.lt_of_lt_of_le hb h.size) hr).trans (h.block b hb hr)⟩
theorem grown_refl (w : World) (r : Option Nat) : w.grownBy w r := ⟨rfl, rfl, rfl, Nat.le_refl _, fun _ _ _ => rfl⟩
theorem setCells_size (g : Nat) : ∀ (vs : List Value) (o : Nat) (w : World), (w.setCells g o vs).heap.size = w.heap.size
  | [], _, _ => rfl
  | v :: r, o, w => by rw [World.setCells, setCells_size g r]; simp [World.setCell]
theorem grown_setCells (g : Nat) : ∀ (vs : List Value) (o : Nat) (w : World), w.grownBy (w.setCells g o vs) (some g)
  | [], _, w => grown_refl w _
  | v :: r, o, w => by rw [World.setCells]; exact grown_trans (grown_setCell w g o v) (grown_setCells g r (o + 1) _)
theorem setSeg (cur : List Value) (o : Nat) (vs : List Value) (v : Value) (h : o + 1 + vs.length ≤ cur.length) :
    (cur.set o v).take (o + 1) ++ vs ++ (cur.set o v).drop (o + 1 + vs.length) = cur.take o ++ (v :: vs) ++ cur.drop (o + (v :: vs).length) := by
  have h1 : (cur.set o v).take (o + 1) = cur.take o ++ [v] := by
    rw [List.take_set, List.take_succ_eq_append_getElem (by omega)]
    have hl : (cur.take o).length = o := by simp; omega
    rw [List.set_append, if_neg (by omega), hl, Nat.sub_self]; rfl
  have h2 : (cur.set o v).drop (o + 1 + vs.length) = cur.drop (o + (v :: vs).length) := by
    rw [List.drop_set_of_lt (by omega)]
    simp [Nat.add_assoc, Nat.add_comm 1]
  rw [h1, h2]; simp
theorem Blk.setCells {g : Nat} {T : TypeId} : ∀ (vs : List Value) (o : Nat) (cur : Array Value) (w : World), Blk w g T cur → o + vs.length ≤ cur.size → Blk (w.setCells g o vs) g T (cur.toList.take o ++ vs ++ cur.toList.drop (o + vs.length)).toArray
  | [], o, cur, w, h, _ => by
    simp only [World.setCells, List.append_nil, List.length_nil, Nat.add_zero, List.take_append_drop, Array.toArray_toList]
    exact h
  | v :: r, o, cur, w, h, hl => by
    simp only [List.length_cons] at hl
    have h1 := h.set o v
    have ih := Blk.setCells r (o + 1) _ _ h1 (by simp; omega)
    rw [World.setCells]
    rw [← setSeg cur.toList o r v (by simp; omega)]
    simpa [Array.toList_setIfInBounds] using ih
theorem setCells_drew (b : Nat) : ∀ (vs : List Value) (o : Nat) (w : World), (w.setCells b o vs).drew = w.drew.setCells b o vs
  | [], _, _ => rfl
  | v :: r, o, w => by rw [World.setCells, World.setCells, setCells_drew b r]; rfl
/-- Copy: all is read before anything is written. -/
theorem run_copy_k (w : World) (dT sT ty elem : TypeId) (k b o dLen dCap : Nat) (a : Addr) (sLen sCap : Nat) (cs : List Value)
    (hu : P.underlying dT = some (.slice elem)) (hs : (P.info? elem).map (·.size) = some k) (hn : cs.length = Nat.min sLen dLen * k)
    (hsrc : ∀ j v, cs[j]? = some v → w.cell? (a.add j) = some v) (hc : ∀ j, j < cs.length → (w.cell? ⟨b, o + j, none⟩).isSome = true) (hf : ∀ j, j < cs.length → w.frozen? ⟨b, o + j, none⟩ = false) (h1 : ∀ v ∈ cs, v.oneCell' = true) :
    (Builtin.copy_ #[dT, sT] ty #[.slice (some ⟨b, o, none⟩) dLen dCap, .slice (some a) sLen sCap]).run P w = .ok (goInt (Nat.min sLen dLen)) (w.setCells b o cs) := by
  have hl := run_loadCells_list (P := P) w a cs hsrc
  have hst := run_storeCells_cells (P := P) b o cs 0 w (by simpa using hc) (by simpa using hf) h1
  cases hq : P.info? elem with
  | none => simp [hq] at hs
  | some i =>
    have hi : i.size = k := by simpa [hq] using hs
    simp [Builtin.copy_, run_underlying hu, Builtin.lenOf, Builtin.firstCells, sizeOf, typeInfo, hq, hi, ← hn, hl, hst]
/-- Clear: zeros, whatever they are. -/
theorem run_clear_k (w : World) (t e ty : TypeId) (z : Value) (ht : P.underlying t = some (.slice e)) (hv : ∀ w, (zeroValue e).run P w = .ok z w) (h1 : ∀ n, ∀ v ∈ (Builtin.zeroCells z.cells n).toList, v.oneCell' = true) (b o n c : Nat) (hn : 0 < n)
    (hc : ∀ j, j < (Builtin.zeroCells z.cells n).size → (w.cell? ⟨b, o + j, none⟩).isSome = true) (hf : ∀ j, j < (Builtin.zeroCells z.cells n).size → w.frozen? ⟨b, o + j, none⟩ = false) :
    (Builtin.clear_ #[t] ty #[.slice (some ⟨b, o, none⟩) n c]).run P w = .ok (.tuple #[]) (w.setCells b o (Builtin.zeroCells z.cells n).toList) := by
  have hst := run_storeCells_cells (P := P) b o (Builtin.zeroCells z.cells n).toList 0 w (by simpa using hc) (by simpa using hf) (h1 n)
  simp only [Nat.add_zero] at hst
  obtain ⟨m, rfl⟩ : ∃ m, n = m + 1 := ⟨n - 1, by omega⟩
  simp [Builtin.clear_, run_underlying ht, hv, hst]
/-- An element type: its cells, its bytes. -/
structure El (P : Program) (S T : TypeId) (k bytes : Nat) : Prop where
  und : P.underlying S = some (.slice T)
  info : ∃ i z, P.info? T = some i ∧ i.zero = some z ∧ i.size = k ∧ i.bytes = bytes ∧ z.cells.size = k ∧ z.cells.toList.all Value.oneCell' = true
  pos : 0 < k
theorem El.of {S T : TypeId} {k bytes : Nat} (hu : P.underlying S = some (.slice T)) (hk : 0 < k) (h : (P.info? T).bind (fun i => i.zero.map fun z => (i.size, i.bytes, z.cells.size, z.cells.toList.all Value.oneCell')) = some (k, bytes, k, true)) : El P S T k bytes := by
  refine ⟨hu, ?_, hk⟩
  cases hi : P.info? T with
  | none => rw [hi] at h; simp at h
  | some i =>
    rw [hi] at h
    cases hz : i.zero with
    | none => simp [hz] at h
    | some z =>
      simp only [Option.bind_some, hz, Option.map_some, Option.some.injEq, Prod.mk.injEq] at h
      exact ⟨i, z, rfl, hz, h.1, h.2.1, h.2.2.1, h.2.2.2⟩
/-- A slice that reads as these cells. -/
def CellsAt (w : World) (v : Value) (n : Nat) (cs : List Value) : Prop := ∃ A cap, v = .slice A n cap ∧ (A = none → cap = 0 ∧ n = 0) ∧ ∀ ad, A = some ad → ∀ (j : Nat) (u : Value), cs[j]? = some u → w.cell? (ad.add j) = some u
theorem CellsAt.of_own {w : World} {base k n : Nat} {T : TypeId} {v : Value} {xs : List Value} (ho : w.ownsRow base T k v n xs) : CellsAt w v n xs := by
  have ho' := ho
  obtain ⟨hx, hh⟩ := ho
  rcases hh with ⟨hv, hn⟩ | ⟨gb, cap, cur, hv, _, _, _, _⟩
  · exact ⟨none, 0, by rw [hv, hn], fun _ => ⟨rfl, hn⟩, fun ad h => by cases h⟩
  · exact ⟨some ⟨gb, 0, none⟩, cap, hv, (fun h => by cases h), fun ad h j u hu => by cases h; exact ho'.cells (g := gb) (by rw [hv]; rfl) j u hu⟩
theorem CellsAt.below {w w' : World} {v : Value} {n : Nat} {cs : List Value} (h : CellsAt w v n cs) (hb : Below w.heap.size w w') : CellsAt w' v n cs := by
  obtain ⟨A, cap, rfl, h1, h2⟩ := h
  exact ⟨A, cap, rfl, h1, fun ad e j u hu => up_cell hb (h2 ad e j u hu)⟩
theorem row_append {S T : TypeId} {k bytes : Nat} (hE : El P S T k bytes) (ty : TypeId) (base : Nat) (v : Value) (n m : Nat) (xs news : List Value) (s : Value) (w : World) (ho : w.ownsRow base T k v n xs) (hs : CellsAt w s m news)
    (hl : news.length = m * k) (h1 : ∀ u ∈ news, u.oneCell' = true) (hn : n + m ≤ 3000000) (hby : bytes ≤ 1000) (hb : base ≤ w.heap.size) :
    ∃ v' w', (Builtin.append_ #[S, S] ty #[v, s]).run P w = .ok v' w' ∧ w'.ownsRow base T k v' (n + m) (xs ++ news) ∧ w.grownBy w' v.ownBlock ∧ (v'.ownBlock = v.ownBlock ∨ v'.ownBlock = some w.heap.size) := by
  obtain ⟨A, cap, rfl, h2, h3⟩ := hs
  obtain ⟨i, z, hi, hz, hsz, hbs, hzs, _⟩ := hE.info
  cases A with
  | none =>
    obtain ⟨rfl, rfl⟩ := h2 rfl
    have hr := run_append_owned_none (P := P) (w := w) base S ty T i k hE.und hi v _ _ ho
    have : news = [] := List.eq_nil_of_length_eq_zero (by rw [hl]; simp)
    subst this
    exact ⟨v, w, hr, by simpa using ho, grown_refl w _, Or.inl rfl⟩
  | some ad =>
    obtain ⟨v', w', hr, q1, q2, _, q3⟩ := run_append_own_at (P := P) w base S ty T i z k bytes hE.und hi hz hsz hbs hzs hE.pos v n _ ho ad m cap news hl (h3 ad rfl) h1 (by unfold maxLen; omega)
      (Nat.le_trans (Nat.mul_le_mul hn hby) (by decide)) hb
    exact ⟨v', w', hr, q1, q2, q3⟩
theorem own_block {w : World} {base k n cap : Nat} {T : TypeId} {a : Addr} {xs : List Value} (ho : w.ownsRow base T k (.slice (some a) n cap) n xs) :
    ∃ g cur, a = ⟨g, 0, none⟩ ∧ Blk w g T cur ∧ base ≤ g ∧ n ≤ cap ∧ cap ≤ maxLen ∧ cur.size = cap * k ∧ cur.toList.take (n * k) = xs := by
  obtain ⟨hx, hh⟩ := ho
  rcases hh with ⟨hv, _⟩ | ⟨g, cap', cur, hv, h1, h2, h3, h4, h5, h6⟩
  · cases hv
  · injection hv with e1 e2 e3
    injection e1 with e1
    subst e1 e3
    exact ⟨g, cur, rfl, h2, h1, h3, h4, h5, h6⟩
theorem own_make {w : World} {base k n cap g : Nat} {T : TypeId} {cur : Array Value} {xs : List Value} (hb : Blk w g T cur) (h1 : base ≤ g) (h3 : n ≤ cap) (h4 : cap ≤ maxLen) (h5 : cur.size = cap * k) (h6 : cur.toList.take (n * k) = xs) :
    w.ownsRow base T k (.slice (some ⟨g, 0, none⟩) n cap) n xs := by
  refine ⟨?_, Or.inr ⟨g, cap, cur, rfl, h1, hb, h3, h4, h5, h6⟩⟩
  rw [← h6, List.length_take, Array.length_toList, h5]
  exact Nat.min_eq_left (Nat.mul_le_mul_right k h3)
theorem zeroCells_len (z : Array Value) (n : Nat) : (Builtin.zeroCells z n).size = n * z.size := by simp [Builtin.zeroCells]
theorem zeroCells_one {z : Array Value} (hz : 0 < z.size) (h : z.toList.all Value.oneCell' = true) (n : Nat) : ∀ v ∈ (Builtin.zeroCells z n).toList, v.oneCell' = true := by
  intro v hv
  simp only [Builtin.zeroCells, Array.toList_map, List.mem_map] at hv
  obtain ⟨i, _, rfl⟩ := hv
  have hlt : i % z.size < z.size := Nat.mod_lt _ hz
  rw [getElem!_pos z _ hlt]
  exact List.all_eq_true.1 h _ (by simp)
theorem blk_some {w : World} {g : Nat} {T : TypeId} {cur : Array Value} (h : Blk w g T cur) (j : Nat) (hj : j < cur.size) : (w.cell? ⟨g, j, none⟩).isSome = true := by
  rw [h.cell, Array.getElem?_eq_getElem hj]; rfl
theorem take_seg (cur : List Value) (o : Nat) (vs : List Value) (h : o ≤ cur.length) : (cur.take o ++ vs ++ cur.drop (o + vs.length)).take (o + vs.length) = cur.take o ++ vs := by
  rw [List.take_append_of_le_length (by simp; omega), List.take_of_length_le (by simp; omega)]
theorem take_seg2 (cur : List Value) (o : Nat) (vs : List Value) (p : Nat) (hp : p ≤ o) (h : o ≤ cur.length) : (cur.take o ++ vs ++ cur.drop (o + vs.length)).take p = cur.take p := by
  rw [List.append_assoc, List.take_append_of_le_length (by simp; omega), List.take_take, Nat.min_eq_left hp]
/-- An element goes out of a row: what stands behind it moves ahead, a zero comes behind. -/
theorem row_cut {S T : TypeId} {k bytes : Nat} (hE : El P S T k bytes) (base g n cap i : Nat) (xs : List Value) (w : World) (ho : w.ownsRow base T k (.slice (some ⟨g, 0, none⟩) n cap) n xs) (hi : i < n) (h1 : ∀ u ∈ xs, u.oneCell' = true) :
    ∃ z : Value, (∀ w, (zeroValue T).run P w = .ok z w) ∧ (∀ ty A c2, (∀ j u, (xs.drop ((i + 1) * k))[j]? = some u → w.cell? (A.add j) = some u) →
      (Builtin.append_ #[S, S] ty #[.slice (some ⟨g, 0, none⟩) i cap, .slice (some A) (n - (i + 1)) c2]).run P w = .ok (.slice (some ⟨g, 0, none⟩) (i + (n - (i + 1))) cap) (w.setCells g (i * k) (xs.drop ((i + 1) * k)))) ∧
    (∀ ty c3, (Builtin.clear_ #[S] ty #[.slice (some ⟨g, (n - 1) * k, none⟩) 1 c3]).run P (w.setCells g (i * k) (xs.drop ((i + 1) * k))) = .ok (.tuple #[]) ((w.setCells g (i * k) (xs.drop ((i + 1) * k))).setCells g ((n - 1) * k) (Builtin.zeroCells z.cells 1).toList)) ∧
    ((w.setCells g (i * k) (xs.drop ((i + 1) * k))).setCells g ((n - 1) * k) (Builtin.zeroCells z.cells 1).toList).ownsRow base T k (.slice (some ⟨g, 0, none⟩) (n - 1) cap) (n - 1) (xs.take (i * k) ++ xs.drop ((i + 1) * k)) ∧
    w.grownBy ((w.setCells g (i * k) (xs.drop ((i + 1) * k))).setCells g ((n - 1) * k) (Builtin.zeroCells z.cells 1).toList) (some g) := by
  obtain ⟨ii, z, hii, hz, hsz, hbs, hzs, hzo⟩ := hE.info
  obtain ⟨g', cur, e, hB, hbg, hnc, hcm, hcs, htk⟩ := own_block ho
  cases e
  have hxl := ho.1
  have hk := hE.pos
  have m1 : (i + 1) * k ≤ n * k := Nat.mul_le_mul_right k hi
  have m2 : n * k ≤ cap * k := Nat.mul_le_mul_right k hnc
  have m3 : (n - 1) * k + k = n * k := by
    rw [← Nat.succ_mul]; congr 1; omega
  have m4 : (i + 1) * k = i * k + k := Nat.succ_mul i k
  have hDl : (xs.drop ((i + 1) * k)).length = (n - (i + 1)) * k := by rw [List.length_drop, hxl, Nat.sub_mul]
  have hDl2 : (n - (i + 1)) * k = n * k - (i + 1) * k := Nat.sub_mul _ _ _
  have hzv : ∀ w, (zeroValue T).run P w = .ok z w := fun w => by simp [zeroValue, typeInfo, hii, hz]
  have hB1 := Blk.setCells (xs.drop ((i + 1) * k)) (i * k) cur w hB (by rw [hDl, hcs]; omega)
  have hs1 : (cur.toList.take (i * k) ++ xs.drop ((i + 1) * k) ++ cur.toList.drop (i * k + (xs.drop ((i + 1) * k)).length)).toArray.size = cap * k := by
    simp only [List.size_toArray, List.length_append, List.length_take, List.length_drop, Array.length_toList, hcs, hxl]
    omega
  have hzl : (Builtin.zeroCells z.cells 1).toList.length = k := by rw [Array.length_toList, zeroCells_len, hzs, Nat.one_mul]
  have hB2 := Blk.setCells (Builtin.zeroCells z.cells 1).toList ((n - 1) * k) _ _ hB1 (by rw [hs1, hzl]; omega)
  refine ⟨z, hzv, fun ty A c2 hA => ?_, fun ty c3 => ?_, ?_, ?_⟩
  · have hsrc : Src P ii.size S (.slice (some A) (n - (i + 1)) c2) (n - (i + 1)) (xs.drop ((i + 1) * k)) w := Src.ofSlice w hE.und A _ c2 _ (by rw [hsz, hDl]) hA (fun u hu => h1 u (List.mem_of_mem_drop hu))
    have := run_append_room_src w S S ty T ii hE.und hii g 0 i cap _ _ _ hsrc (by omega)
      (fun j hj => by rw [hDl] at hj; exact blk_some hB _ (by rw [hsz, hcs]; omega)) (fun j _ => hB.frozen _)
    simpa [hsz] using this
  · exact run_clear_k _ S T ty z hE.und hzv (zeroCells_one (by rw [hzs]; exact hk) hzo) g ((n - 1) * k) 1 c3 (by decide)
      (fun j hj => blk_some hB1 _ (by rw [hs1]; rw [zeroCells_len, hzs, Nat.one_mul] at hj; omega)) (fun j _ => hB1.frozen _)
  · refine own_make hB2 hbg (by omega) hcm ?_ ?_
    · simp only [List.size_toArray, List.length_append, List.length_take, List.length_drop, Array.length_toList, hcs, hxl, hzl]
      omega
    · have hl1 : (cur.toList.take (i * k) ++ xs.drop ((i + 1) * k) ++ cur.toList.drop (i * k + (xs.drop ((i + 1) * k)).length)).length = cap * k := by rw [← hs1]; simp
      dsimp only
      rw [take_seg2 _ _ _ _ (Nat.le_refl _) (by rw [hl1]; omega)]
      rw [show (n - 1) * k = i * k + (xs.drop ((i + 1) * k)).length by rw [hDl]; omega]
      have := take_seg cur.toList (i * k) (xs.drop ((i + 1) * k)) (by rw [Array.length_toList, hcs]; omega)
      rw [this, ← htk, List.take_take, Nat.min_eq_left (by omega)]
  · exact grown_trans (grown_setCells _ _ _ _) (grown_setCells _ _ _ _)
theorem blk_shape {w : World} {g : Nat} {T : TypeId} {cur : Array Value} (h : Blk w g T cur) : w.shape? g = some (T, cur.size) := by unfold Blk at h; simp [World.shape?, h]
theorem Blk.news {w : World} {g : Nat} {T : TypeId} {es : List Value} (h : Blk w g T es.toArray) (j : Nat) (u : Value) (hu : es[j]? = some u) : w.cell? ((⟨g, 0, none⟩ : Addr).add j) = some u := by
  have e : (⟨g, 0, none⟩ : Addr).add j = ⟨g, j, none⟩ := by unfold Addr.add; split <;> simp_all
  rw [e, h.cell]
  simpa using hu
theorem Addr.add0 (g o j : Nat) : (⟨g, o, none⟩ : Addr).add j = ⟨g, o + j, none⟩ := by unfold Addr.add; split <;> simp_all
/-- An element goes into a row that has room: what stands from there on moves behind. -/
theorem row_room {S T : TypeId} {k bytes : Nat} (hE : El P S T k bytes) (base g n cap i vb : Nat) (xs es : List Value) (w : World) (ho : w.ownsRow base T k (.slice (some ⟨g, 0, none⟩) n cap) n xs) (hi : i < n) (hroom : n + 1 ≤ cap) (h1 : ∀ u ∈ xs, u.oneCell' = true)
    (hV : Blk w vb T es.toArray) (hvb : vb ≠ g) (hel : es.length = k) (he : ∀ u ∈ es, u.oneCell' = true) :
    (∀ ty c1 c2, (Builtin.copy_ #[S, S] ty #[.slice (some ⟨g, (i + 1) * k, none⟩) (n - i) c1, .slice (some ⟨g, i * k, none⟩) (n + 1 - i) c2]).run P w = .ok (goInt (Nat.min (n + 1 - i) (n - i))) (w.setCells g ((i + 1) * k) (xs.drop (i * k)))) ∧
    (∀ W ty c1 c2, (∀ x, W.cell? x = (w.setCells g ((i + 1) * k) (xs.drop (i * k))).cell? x) → (∀ x, W.frozen? x = (w.setCells g ((i + 1) * k) (xs.drop (i * k))).frozen? x) →
      (Builtin.copy_ #[S, S] ty #[.slice (some ⟨g, i * k, none⟩) (n + 1 - i) c1, .slice (some ⟨vb, 0, none⟩) 1 c2]).run P W = .ok (goInt (Nat.min 1 (n + 1 - i))) (W.setCells g (i * k) es)) ∧
    ((w.setCells g ((i + 1) * k) (xs.drop (i * k))).setCells g (i * k) es).ownsRow base T k (.slice (some ⟨g, 0, none⟩) (n + 1) cap) (n + 1) (xs.take (i * k) ++ es ++ xs.drop (i * k)) ∧
    w.grownBy ((w.setCells g ((i + 1) * k) (xs.drop (i * k))).setCells g (i * k) es) (some g) := by
  obtain ⟨ii, z, hii, hz, hsz, hbs, hzs, hzo⟩ := hE.info
  obtain ⟨g', cur, e, hB, hbg, hnc, hcm, hcs, htk⟩ := own_block ho
  cases e
  have hsi : (P.info? T).map (·.size) = some k := by rw [hii]; simp [hsz]
  have hxl := ho.1
  have hk := hE.pos
  have m1 : (i + 1) * k ≤ n * k := Nat.mul_le_mul_right k hi
  have m2 : (n + 1) * k ≤ cap * k := Nat.mul_le_mul_right k hroom
  have m3 : (n + 1) * k = n * k + k := Nat.succ_mul n k
  have m4 : (i + 1) * k = i * k + k := Nat.succ_mul i k
  have hDl : (xs.drop (i * k)).length = (n - i) * k := by rw [List.length_drop, hxl, Nat.sub_mul]
  have hDl2 : (n - i) * k = n * k - i * k := Nat.sub_mul _ _ _
  have hB1 := Blk.setCells (xs.drop (i * k)) ((i + 1) * k) cur w hB (by rw [hDl, hcs]; omega)
  have hl1 : (cur.toList.take ((i + 1) * k) ++ xs.drop (i * k) ++ cur.toList.drop ((i + 1) * k + (xs.drop (i * k)).length)).length = cap * k := by
    simp only [List.length_append, List.length_take, List.length_drop, Array.length_toList, hcs, hxl]
    omega
  have hs1 : (cur.toList.take ((i + 1) * k) ++ xs.drop (i * k) ++ cur.toList.drop ((i + 1) * k + (xs.drop (i * k)).length)).toArray.size = cap * k := by rw [List.size_toArray]; exact hl1
  have hB2 := Blk.setCells es (i * k) _ _ hB1 (by rw [hs1, hel]; omega)
  have hx0 : ∀ j u, xs[j]? = some u → w.cell? ⟨g, j, none⟩ = some u := fun j u hu => by
    have := (CellsAt.of_own ho)
    obtain ⟨A, c, e1, _, e3⟩ := this
    injection e1 with e1 _ _
    have := e3 _ e1.symm j u hu
    rwa [Addr.add0, Nat.zero_add] at this
  refine ⟨fun ty c1 c2 => ?_, fun W ty c1 c2 hc hf => ?_, ?_, ?_⟩
  · refine run_copy_k w S S ty T k g ((i + 1) * k) _ c1 ⟨g, i * k, none⟩ _ c2 (xs.drop (i * k)) hE.und hsi ?_ (fun j u hu => ?_) (fun j hj => blk_some hB _ (by rw [hDl] at hj; rw [hcs]; omega)) (fun j _ => hB.frozen _) (fun u hu => h1 u (List.mem_of_mem_drop hu))
    · rw [hDl]; congr 1
      rw [show Nat.min (n + 1 - i) (n - i) = n - i from by simp only [Nat.min_def]; split <;> omega]
    · rw [Addr.add0]
      refine hx0 _ u ?_
      rwa [List.getElem?_drop] at hu
  · refine run_copy_k W S S ty T k g (i * k) _ c1 ⟨vb, 0, none⟩ _ c2 es hE.und hsi ?_ (fun j u hu => ?_) (fun j hj => ?_) (fun j _ => ?_) he
    · rw [hel, show Nat.min 1 (n + 1 - i) = 1 from by simp only [Nat.min_def]; split <;> omega, Nat.one_mul]
    · rw [hc, Addr.add0, World.cell?_setCells_out _ _ _ _ _ (fun h _ => absurd h hvb), ← Addr.add0]
      exact hV.news j u hu
    · rw [hc]; exact blk_some hB1 _ (by rw [hel] at hj; rw [hs1]; omega)
    · rw [hf]; exact hB1.frozen _
  · refine own_make hB2 hbg hroom hcm ?_ ?_
    · rw [List.size_toArray]
      simp only [List.length_append, List.length_take, List.length_drop, Array.length_toList, hcs, hxl, hel]
      omega
    · dsimp only
      have hA : (cur.toList.take ((i + 1) * k) ++ xs.drop (i * k) ++ cur.toList.drop ((i + 1) * k + (xs.drop (i * k)).length)).take (i * k) = xs.take (i * k) := by
        rw [take_seg2 _ _ _ _ (by omega) (by rw [Array.length_toList, hcs]; omega), ← htk, List.take_take, Nat.min_eq_left (by omega)]
      have hD : (cur.toList.take ((i + 1) * k) ++ xs.drop (i * k) ++ cur.toList.drop ((i + 1) * k + (xs.drop (i * k)).length)).drop ((i + 1) * k) = xs.drop (i * k) ++ cur.toList.drop ((i + 1) * k + (xs.drop (i * k)).length) := by
        rw [List.append_assoc]
        exact List.drop_left' (by rw [List.length_take, Array.length_toList, hcs]; omega)
      rw [hA, hel, ← m4, hD, ← List.append_assoc]
      rw [List.take_append_of_le_length (by simp only [List.length_append, List.length_take, List.length_drop, hxl, hel]; omega)]
      rw [List.take_of_length_le (by simp only [List.length_append, List.length_take, List.length_drop, hxl, hel]; omega)]
  · exact grown_trans (grown_setCells _ _ _ _) (grown_setCells _ _ _ _)
theorem grown_new {w w' w'' : World} {g : Nat} (h : w.grownBy w' none) (k : w'.grownBy w'' (some g)) (hg : w.heap.size ≤ g) : w.grownBy w'' none :=
  ⟨k.os.trans h.os, k.tape.trans h.tape, k.output.trans h.output, Nat.le_trans h.size k.size, fun b hb hr => (k.block b (Nat.lt_of_lt_of_le hb h.size) (fun e => by injection e with e; omega)).trans (h.block b hb hr)⟩
/-- The same memory. -/
def SameW (W W' : World) : Prop := W.heap = W'.heap ∧ W.os = W'.os ∧ W.tape = W'.tape ∧ W.output = W'.output
theorem SameW.cell {W W' : World} (h : SameW W W') (x : Addr) : W.cell? x = W'.cell? x := by simp [World.cell?, h.1]
theorem SameW.frozen {W W' : World} (h : SameW W W') (x : Addr) : W.frozen? x = W'.frozen? x := by simp [World.frozen?, h.1]
theorem SameW.own {W W' : World} (h : SameW W W') {base k n : Nat} {T : TypeId} {v : Value} {xs : List Value} (ho : W'.ownsRow base T k v n xs) : W.ownsRow base T k v n xs := by
  unfold World.ownsRow at ho ⊢
  rw [h.1]
  exact ho
theorem SameW.grown {w W W' : World} (h : SameW W W') {r : Option Nat} (hg : w.grownBy W' r) : w.grownBy W r :=
  ⟨h.2.1.trans hg.os, h.2.2.1.trans hg.tape, h.2.2.2.trans hg.output, by rw [h.1]; exact hg.size, fun k hk hr => by rw [h.1]; exact hg.block k hk hr⟩
/-- An element goes into a row that has no room: a new row. -/
theorem row_new {S T tn : TypeId} {k bytes : Nat} {kn : IntKind} (hE : El P S T k bytes) (htn : P.underlying tn = some (.int kn)) (base g n cap i vb : Nat) (xs es : List Value) (w : World) (ho : w.ownsRow base T k (.slice (some ⟨g, 0, none⟩) n cap) n xs) (hi : i < n) (hroom : cap < n + 1)
    (h1 : ∀ u ∈ xs, u.oneCell' = true) (hV : Blk w vb T es.toArray) (hel : es.length = k) (he : ∀ u ∈ es, u.oneCell' = true) (hn : n ≤ 1000000) (hby : bytes ≤ 1000) (hbw : base ≤ w.heap.size) :
    ∃ (G : Nat) (ROW : Array Value), n + 1 ≤ G ∧ G ≤ maxLen ∧
    (∀ ty, (Builtin.append_ #[S, tn] ty #[.slice (some ⟨g, 0, none⟩) i cap, .int .i64 ((n : Int) + 1 - (i : Int))]).run P w = .ok (.slice (some ⟨w.heap.size, 0, none⟩) (n + 1) G) (w.drew.alloc (.cells ROW T))) ∧
    (∀ W ty c1 c2, SameW W (w.drew.alloc (.cells ROW T)) → (Builtin.copy_ #[S, S] ty #[.slice (some ⟨w.heap.size, i * k, none⟩) (n + 1 - i) c1, .slice (some ⟨vb, 0, none⟩) 1 c2]).run P W = .ok (goInt (Nat.min 1 (n + 1 - i))) (W.setCells w.heap.size (i * k) es)) ∧
    (∀ W ty c1 c2, SameW W ((w.drew.alloc (.cells ROW T)).setCells w.heap.size (i * k) es) →
      (Builtin.copy_ #[S, S] ty #[.slice (some ⟨w.heap.size, (i + 1) * k, none⟩) (n - i) c1, .slice (some ⟨g, i * k, none⟩) (n - i) c2]).run P W = .ok (goInt (Nat.min (n - i) (n - i))) (W.setCells w.heap.size ((i + 1) * k) (xs.drop (i * k)))) ∧
    (∀ W, SameW W (((w.drew.alloc (.cells ROW T)).setCells w.heap.size (i * k) es).setCells w.heap.size ((i + 1) * k) (xs.drop (i * k))) →
      W.ownsRow base T k (.slice (some ⟨w.heap.size, 0, none⟩) (n + 1) G) (n + 1) (xs.take (i * k) ++ es ++ xs.drop (i * k)) ∧ w.grownBy W none) := by
  obtain ⟨ii, z, hii, hz, hsz, hbs, hzs, hzo⟩ := hE.info
  obtain ⟨g', cur, e, hB, hbg, hnc, hcm, hcs, htk⟩ := own_block ho
  cases e
  have hsi : (P.info? T).map (·.size) = some k := by rw [hii]; simp [hsz]
  have hxl := ho.1
  have hk := hE.pos
  have m1 : (i + 1) * k ≤ n * k := Nat.mul_le_mul_right k hi
  have m3 : (n + 1) * k = n * k + k := Nat.succ_mul n k
  have m4 : (i + 1) * k = i * k + k := Nat.succ_mul i k
  have hDl : (xs.drop (i * k)).length = (n - i) * k := by rw [List.length_drop, hxl, Nat.sub_mul]
  have hDl2 : (n - i) * k = n * k - i * k := Nat.sub_mul _ _ _
  have hTl : (xs.take (i * k)).length = i * k := by rw [List.length_take, hxl]; omega
  have hx0 : ∀ j u, xs[j]? = some u → w.cell? ⟨g, j, none⟩ = some u := fun j u hu => by
    obtain ⟨A, c, e1, _, e3⟩ := CellsAt.of_own ho
    injection e1 with e1 _ _
    have := e3 _ e1.symm j u hu
    rwa [Addr.add0, Nat.zero_add] at this
  have hold : (Builtin.firstCells ii.size i (.slice (some ⟨g, 0, none⟩) i cap)).run P w.drew = .ok (xs.take (i * k)).toArray w.drew := by
    rw [hsz]
    refine run_firstCells_some w.drew k i ⟨g, 0, none⟩ i cap (xs.take (i * k)) hTl (fun j u hu => ?_)
    rw [Addr.add0, Nat.zero_add]
    rw [List.getElem?_take] at hu
    split at hu
    · exact hx0 j u hu
    · cases hu
  have hik : i + (n + 1 - i) = n + 1 := by omega
  have hap := fun ty => Lib.run_append_grow_zeros w S tn ty T ii z .i64 kn hE.und htn hii hz (some ⟨g, 0, none⟩) i cap (xs.take (i * k)) hold (n + 1 - i) (by omega) (by omega) (by omega) (by omega)
    (by rw [hbs]; exact Nat.le_trans (Nat.mul_le_mul (show n + 1 - i ≤ 1000001 by omega) hby) (by decide))
    (by rw [hbs, hik]; exact growslice_fits hroom (Nat.le_trans (Nat.mul_le_mul (show n + 1 ≤ 1000001 by omega) hby) (by decide)))
  rw [hik] at hap
  have hkk : ((n + 1 - i : Nat) : Int) = (n : Int) + 1 - (i : Int) := by omega
  rw [hkk] at hap
  have hG1 := grownCap_ge w (n + 1) cap T
  have hG2 := grownCap_le_maxLen w (n + 1) cap T (by unfold maxLen; omega)
  generalize grownCap w (n + 1) cap T = G at *
  have mG : (n + 1) * k ≤ G * k := Nat.mul_le_mul_right k hG1
  obtain ⟨ROW, hROW⟩ : ∃ R, R = (xs.take (i * k)).toArray ++ Builtin.zeroCells z.cells (n + 1 - i) ++ Builtin.zeroCells z.cells (G - (n + 1)) := ⟨_, rfl⟩
  rw [← hROW] at hap
  have hRs : ROW.size = G * k := by
    rw [hROW]
    simp only [Array.size_append, List.size_toArray, zeroCells_len, hzs, hTl]
    rw [← Nat.add_mul, ← Nat.add_mul]
    congr 1; omega
  have hRt : ROW.toList.take (i * k) = xs.take (i * k) := by
    rw [hROW]
    simp only [Array.toList_append, List.append_assoc]
    exact List.take_left' hTl
  have hg0 : w.grownBy (w.drew.alloc (.cells ROW T)) none := ⟨rfl, rfl, rfl, by simp, fun q hq _ => heap_alloc_old w.drew _ hq⟩
  have hBN : Blk (w.drew.alloc (.cells ROW T)) w.heap.size T ROW := Blk.made w.drew ROW T
  have hB1 := Blk.setCells es (i * k) ROW _ hBN (by rw [hRs, hel]; omega)
  have hl1 : (ROW.toList.take (i * k) ++ es ++ ROW.toList.drop (i * k + es.length)).length = G * k := by
    simp only [List.length_append, List.length_take, List.length_drop, Array.length_toList, hRs, hel]
    omega
  have hs1 : (ROW.toList.take (i * k) ++ es ++ ROW.toList.drop (i * k + es.length)).toArray.size = G * k := by rw [List.size_toArray]; exact hl1
  have hB2 := Blk.setCells (xs.drop (i * k)) ((i + 1) * k) _ _ hB1 (by rw [hs1, hDl]; omega)
  have hgl : g < w.heap.size := hB.lt
  have hvl : vb < w.heap.size := hV.lt
  refine ⟨G, ROW, hG1, hG2, hap, fun W ty c1 c2 hW => ?_, fun W ty c1 c2 hW => ?_, fun W hW => ⟨hW.own ?_, hW.grown ?_⟩⟩
  · refine run_copy_k W S S ty T k w.heap.size (i * k) _ c1 ⟨vb, 0, none⟩ _ c2 es hE.und hsi ?_ (fun j u hu => ?_) (fun j hj => ?_) (fun j _ => ?_) he
    · rw [hel, show Nat.min 1 (n + 1 - i) = 1 from by simp only [Nat.min_def]; split <;> omega, Nat.one_mul]
    · rw [hW.cell]
      have := hg0.cell (hV.news j u hu) (by simp)
      exact this
    · rw [hW.cell]; exact blk_some hBN _ (by rw [hel] at hj; rw [hRs]; omega)
    · rw [hW.frozen]; exact hBN.frozen _
  · refine run_copy_k W S S ty T k w.heap.size ((i + 1) * k) _ c1 ⟨g, i * k, none⟩ _ c2 (xs.drop (i * k)) hE.und hsi ?_ (fun j u hu => ?_) (fun j hj => ?_) (fun j _ => ?_) (fun u hu => h1 u (List.mem_of_mem_drop hu))
    · rw [hDl, show Nat.min (n - i) (n - i) = n - i from by simp only [Nat.min_def]; split <;> omega]
    · rw [hW.cell, Addr.add0, World.cell?_setCells_out _ _ _ _ _ (fun h _ => absurd (show g = w.heap.size from h) (by omega))]
      refine hg0.cell (hx0 _ u ?_) (by simp)
      rwa [List.getElem?_drop] at hu
    · rw [hW.cell]; exact blk_some hB1 _ (by rw [hDl] at hj; rw [hs1]; omega)
    · rw [hW.frozen]; exact hB1.frozen _
  · refine own_make hB2 hbw hG1 hG2 ?_ ?_
    · rw [List.size_toArray]
      simp only [List.length_append, List.length_take, List.length_drop, Array.length_toList, hRs, hel, hxl]
      omega
    · dsimp only
      have hA : (ROW.toList.take (i * k) ++ es ++ ROW.toList.drop (i * k + es.length)).take ((i + 1) * k) = xs.take (i * k) ++ es := by
        have := take_seg ROW.toList (i * k) es (by rw [Array.length_toList, hRs]; omega)
        rw [hel] at this
        rw [m4, hel, this, hRt]
      rw [hA]
      rw [List.take_append_of_le_length (by simp only [List.length_append, List.length_take, List.length_drop, hxl, hel]; omega)]
      rw [List.take_of_length_le (by simp only [List.length_append, List.length_take, List.length_drop, hxl, hel]; omega)]
  · exact grown_new (grown_new hg0 (grown_setCells w.heap.size es (i * k) _) (Nat.le_refl _)) (grown_setCells w.heap.size _ _ _) (Nat.le_refl _)
/-- An append whose run is known, as a step of a region that draws. -/
theorem step_append_runI {ops : Array Oper} {o : Oper} {a : Act} {w : World} {K : Act → World → Prop} {Q : Exit → Act → World → Prop} {E : Prop}
    (hg : o.guard = none) (d x : Operand) (dT sT : TypeId) (hop : o.op = Op.call { callee := Callee.builtin Builtin.append, args := #[d, x], argTypes := #[dT, sT] })
    (v u : Value) (hd : a.eval d = v) (hx : a.eval x = u) {v' : Value} {w' : World} (hr : (Builtin.append_ #[dT, sT] o.type #[v, u]).run P w = .ok v' w') (hK : K (a.put o.dst v') w') :
    if Region.wanted o (yielded ops a.tmps) = true then Oper.wp P o a w K Q else E := by
  have hw : Region.wanted o (yielded ops a.tmps) = true := by simp [Region.wanted, hg]
  rw [if_pos hw]
  unfold Oper.wp
  simp [execOp, hop, resolve, invoke, builtin, hd, hx, hr, Result.andThen]
  exact hK
theorem row_cut1 {S T : TypeId} {k bytes : Nat} (hE : El P S T k bytes) (base g p cap i : Nat) (xs : List Value) (w : World) (ho : w.ownsRow base T k (.slice (some ⟨g, 0, none⟩) (p + 1) cap) (p + 1) xs) (hi : i ≤ p) (h1 : ∀ u ∈ xs, u.oneCell' = true) :
    ∃ (z : Value), (∀ ty A c2, (∀ j u, (xs.drop ((i + 1) * k))[j]? = some u → w.cell? (A.add j) = some u) →
      (Builtin.append_ #[S, S] ty #[.slice (some ⟨g, 0, none⟩) i cap, .slice (some A) (p - i) c2]).run P w = .ok (.slice (some ⟨g, 0, none⟩) p cap) (w.setCells g (i * k) (xs.drop ((i + 1) * k)))) ∧
    (∀ ty c3, (Builtin.clear_ #[S] ty #[.slice (some ⟨g, p * k, none⟩) 1 c3]).run P (w.setCells g (i * k) (xs.drop ((i + 1) * k))) = .ok (.tuple #[]) ((w.setCells g (i * k) (xs.drop ((i + 1) * k))).setCells g (p * k) (Builtin.zeroCells z.cells 1).toList)) ∧
    ((w.setCells g (i * k) (xs.drop ((i + 1) * k))).setCells g (p * k) (Builtin.zeroCells z.cells 1).toList).ownsRow base T k (.slice (some ⟨g, 0, none⟩) p cap) p (xs.take (i * k) ++ xs.drop ((i + 1) * k)) ∧
    w.grownBy ((w.setCells g (i * k) (xs.drop ((i + 1) * k))).setCells g (p * k) (Builtin.zeroCells z.cells 1).toList) (some g) := by
  obtain ⟨z, _, h2, h3, h4, h5⟩ := row_cut hE base g (p + 1) cap i xs w ho (by omega) h1
  refine ⟨z, fun ty A c2 hA => ?_, h3, h4, h5⟩
  have := h2 ty A c2 hA
  rw [show p + 1 - (i + 1) = p - i by omega, show i + (p - i) = p by omega] at this
  exact this
end
end
end Go.Proofs.YtjlcbabnkhdgpaaGreatDoor
namespace Go.Proofs.YtjlcbabnkhdgpaaGreatDoor
section
set_option linter.unusedSimpArgs false
set_option linter.unusedVariables false
open Go.RowKit

theorem wrap_i64_in (x : Int) (h : -9223372036854775808 ≤ x ∧ x ≤ 9223372036854775807) : IntKind.i64.wrap x = x := by rw [IntKind.wrap_i64]; omega
theorem wrap_u64_in (x : Int) (h : 0 ≤ x ∧ x ≤ 9223372036854775807) : IntKind.u64.wrap x = x := by
  simp only [IntKind.wrap, IntKind.bits, IntKind.signed, Bool.false_and, Bool.false_eq_true, if_false]; omega
def cmpI (x y : Int) : Int := if x < y then -1 else if y < x then 1 else 0
theorem cmpI_lt {x y : Int} (h : x < y) : cmpI x y = -1 := by rw [cmpI, if_pos h]
theorem cmpI_gt {x y : Int} (h : y < x) : cmpI x y = 1 := by rw [cmpI, if_neg (by omega), if_pos h]
theorem cmpI_eq {x y : Int} (h : x = y) : cmpI x y = 0 := by rw [cmpI, if_neg (by omega), if_neg (by omega)]
theorem isnanint_any (x : Int) (w : World) : Calls Tryz.prog 101 #[.int .i64 x] w fun e w' => e = .returned (.bool false) ∧ w = w' := by
  go_enter Tryz.func101, Tryz.ntmps101
  go_wp2_with fail
  go_ret
  exact ⟨rfl, rfl⟩
theorem cmpint_any (x y : Int) (w : World) : Calls Tryz.prog 80 #[.int .i64 x, .int .i64 y] w fun e w' => e = .returned (.int .i64 (cmpI x y)) ∧ w = w' := by
  have h1 := fun x => isnanint_any x w
  go_enter Tryz.func80, Tryz.ntmps80
  go_wp2_with fail
  refine (h1 _).mono ?_
  rintro e w1 ⟨rfl, rfl⟩
  go_wp2_with fail
  refine (h1 _).mono ?_
  rintro e w1 ⟨rfl, rfl⟩
  clear h1
  by_cases ha : x < y
  · have e := Lib.hid (cmpI_lt ha)
    go_wp2_with fail
    go_ret
    exact ⟨by rw [e.out]; rfl, rfl⟩
  · by_cases hb : y < x
    · have e := Lib.hid (cmpI_gt hb)
      go_wp2_with fail
      go_ret
      exact ⟨by rw [e.out]; rfl, rfl⟩
    · have e := Lib.hid (cmpI_eq (show x = y by omega))
      go_wp2_with fail
      go_ret
      exact ⟨by rw [e.out]; rfl, rfl⟩
/-- Pairs as cells. -/
def prC (l : List (Int × Nat)) : List Value := l.flatMap fun x => [.int .i64 x.1, .pointer (some ⟨x.2, 0, none⟩)]
theorem prC_length (l : List (Int × Nat)) : (prC l).length = l.length * 2 := by
  induction l with
  | nil => rfl
  | cons e l ih => simp only [prC, List.flatMap_cons, List.length_append, List.length_cons] at *; rw [ih]; simp; omega
theorem prC_append (l l' : List (Int × Nat)) : prC (l ++ l') = prC l ++ prC l' := by simp [prC]
theorem prC_at (l : List (Int × Nat)) (k : Nat) (hk : k < l.length) : (prC l)[k * 2]? = some (.int .i64 l[k].1) ∧ (prC l)[k * 2 + 1]? = some (.pointer (some ⟨l[k].2, 0, none⟩)) := by
  induction l generalizing k with
  | nil => simp at hk
  | cons e l ih =>
    have e0 : prC (e :: l) = [.int .i64 e.1, .pointer (some ⟨e.2, 0, none⟩)] ++ prC l := by simp [prC]
    rw [e0]
    cases k with
    | zero => simp
    | succ k =>
      have hl : ([.int .i64 e.1, .pointer (some ⟨e.2, 0, none⟩)] : List Value).length = 2 := rfl
      rw [List.getElem?_append_right (by simp; omega), List.getElem?_append_right (by simp; omega), hl, show (k + 1) * 2 - 2 = k * 2 by omega, show (k + 1) * 2 + 1 - 2 = k * 2 + 1 by omega]
      exact ih k (by simpa using hk)
theorem prC_one (l : List (Int × Nat)) : ∀ v ∈ prC l, v.oneCell' = true := by
  intro v hv
  obtain ⟨x, _, hx⟩ := List.mem_flatMap.1 hv
  simp at hx
  rcases hx with rfl | rfl <;> rfl
theorem prC_take (l : List (Int × Nat)) (i : Nat) : prC (l.take i) = (prC l).take (i * 2) := by
  induction l generalizing i with
  | nil => simp [prC]
  | cons e l ih =>
    cases i with
    | zero => simp [prC]
    | succ i =>
      have e0 : ∀ l, prC (e :: l) = [.int .i64 e.1, .pointer (some ⟨e.2, 0, none⟩)] ++ prC l := fun l => by simp [prC]
      rw [List.take_succ_cons, e0, e0, ih, show (i + 1) * 2 = i * 2 + 1 + 1 by omega]
      rfl
/-- A slice that reads as these pairs. -/
def PrsAt (w : World) (v : Value) (l : List (Int × Nat)) : Prop :=
  ∃ A cap, v = .slice A l.length cap ∧ (A = none → cap = 0 ∧ l = []) ∧ ∀ k (hk : k < l.length), ∃ b, A = some ⟨b, 0, none⟩ ∧ w.cell? ⟨b, k * 2, none⟩ = some (.int .i64 l[k].1) ∧ w.cell? ⟨b, k * 2 + 1, none⟩ = some (.pointer (some ⟨l[k].2, 0, none⟩))
def Rise (l : List (Int × Nat)) : Prop := l.Pairwise (fun x y => x.1 < y.1)
/-- A key's place, or where it would stand. -/
def posL (l : List (Int × Nat)) (k : Int) : Nat := (l.takeWhile (fun x => decide (x.1 < k))).length
def hasL (l : List (Int × Nat)) (k : Int) : Bool := l.any (fun x => x.1 == k)
def getL (l : List (Int × Nat)) (k : Int) : Option Nat := (l.find? (fun x => x.1 == k)).map (·.2)
theorem posL_le (l : List (Int × Nat)) (k : Int) : posL l k ≤ l.length := (List.takeWhile_sublist _).length_le
theorem posL_of {l : List (Int × Nat)} {k : Int} {i : Nat} (hi : i ≤ l.length) (h1 : ∀ q (hq : q < l.length), q < i → l[q].1 < k) (h2 : ∀ q (hq : q < l.length), i ≤ q → k ≤ l[q].1) : posL l k = i := by
  induction l generalizing i with
  | nil => simp at hi; subst hi; rfl
  | cons e l ih =>
    cases i with
    | zero =>
      have := h2 0 (by simp) (Nat.le_refl _)
      simp at this
      unfold posL
      rw [List.takeWhile_cons, if_neg (by simp; exact this)]; rfl
    | succ i =>
      have h0 := h1 0 (by simp) (by omega)
      simp at h0
      have := ih (i := i) (by simpa using hi) (fun q hq hqi => h1 (q + 1) (Nat.succ_lt_succ hq) (by omega)) (fun q hq hqi => h2 (q + 1) (Nat.succ_lt_succ hq) (by omega))
      unfold posL at this ⊢
      rw [List.takeWhile_cons, if_pos (by simpa using h0), List.length_cons, this]
theorem Rise.lt {l : List (Int × Nat)} (h : Rise l) {i j : Nat} (hij : i < j) (hj : j < l.length) : l[i].1 < l[j].1 := List.pairwise_iff_getElem.1 h i j (by omega) hj hij
theorem hasL_in {l : List (Int × Nat)} {k : Int} {i : Nat} (hi : i < l.length) (h : l[i].1 = k) : hasL l k = true := by
  unfold hasL
  exact List.any_eq_true.2 ⟨l[i], List.getElem_mem hi, by simpa using h⟩
theorem hasL_out {l : List (Int × Nat)} {k : Int} {i : Nat} (hs : Rise l) (h1 : ∀ q (hq : q < l.length), q < i → l[q].1 < k) (h2 : ∀ (hi : i < l.length), k < l[i].1) : hasL l k = false := by
  unfold hasL
  rw [List.any_eq_false]
  intro x hx
  obtain ⟨q, hq, rfl⟩ := List.getElem_of_mem hx
  simp only [beq_iff_eq]
  intro e
  rcases Nat.lt_trichotomy q i with h | h | h
  · have := h1 q hq h; omega
  · subst h; have := h2 hq; omega
  · have := h2 (by omega)
    have := hs.lt h hq
    omega
theorem posL_spec {l : List (Int × Nat)} (hs : Rise l) (k : Int) : (∀ q (hq : q < l.length), q < posL l k → l[q].1 < k) ∧ (∀ q (hq : q < l.length), posL l k ≤ q → k ≤ l[q].1) := by
  induction l with
  | nil => exact ⟨fun q hq => absurd hq (by simp), fun q hq => absurd hq (by simp)⟩
  | cons e l ih =>
    obtain ⟨he, hl⟩ := List.pairwise_cons.1 hs
    obtain ⟨i1, i2⟩ := ih hl
    by_cases h : e.1 < k
    · have hp : posL (e :: l) k = posL l k + 1 := by
        unfold posL
        rw [List.takeWhile_cons, if_pos (by simpa using h), List.length_cons]
      rw [hp]
      constructor
      · intro q hq hlt
        cases q with
        | zero => exact h
        | succ q => exact i1 q (Nat.lt_of_succ_lt_succ hq) (by omega)
      · intro q hq hle
        cases q with
        | zero => omega
        | succ q => exact i2 q (Nat.lt_of_succ_lt_succ hq) (by omega)
    · have hp : posL (e :: l) k = 0 := by
        unfold posL
        rw [List.takeWhile_cons, if_neg (by simpa using h)]; rfl
      rw [hp]
      constructor
      · intro q hq hlt; omega
      · intro q hq hle
        cases q with
        | zero => show k ≤ e.1; omega
        | succ q =>
          have hq' := Nat.lt_of_succ_lt_succ hq
          have := he _ (List.getElem_mem hq')
          show k ≤ l[q].1
          omega
theorem hasL_pos {l : List (Int × Nat)} {k : Int} (hs : Rise l) (h : hasL l k = true) : ∃ hi : posL l k < l.length, l[posL l k].1 = k := by
  obtain ⟨s1, s2⟩ := posL_spec hs k
  obtain ⟨x, hx, hk⟩ := List.any_eq_true.1 h
  obtain ⟨q, hq, rfl⟩ := List.getElem_of_mem hx
  have hk : l[q].1 = k := by simpa using hk
  have hle : posL l k ≤ q := by
    rcases Nat.lt_or_ge q (posL l k) with h | h
    · have := s1 q hq h; omega
    · exact h
  have hpl : posL l k < l.length := by omega
  refine ⟨hpl, ?_⟩
  rcases Nat.lt_or_ge (posL l k) q with h | h
  · have h1 := hs.lt h hq
    have h2 := s2 _ hpl (Nat.le_refl _)
    omega
  · obtain rfl : q = posL l k := by omega
    exact hk
theorem getL_pos {l : List (Int × Nat)} {k : Int} (hs : Rise l) (hi : posL l k < l.length) (hk : l[posL l k].1 = k) : getL l k = some l[posL l k].2 := by
  unfold getL
  have : l.find? (fun x => x.1 == k) = some l[posL l k] := by
    rw [List.find?_eq_some_iff_getElem]
    refine ⟨by simpa using hk, posL l k, hi, rfl, fun j hj => ?_⟩
    have := (posL_spec hs k).1 j (by omega) hj
    simp; omega
  rw [this]; rfl
theorem getL_none {l : List (Int × Nat)} {k : Int} (h : hasL l k = false) : getL l k = none := by
  unfold getL
  rw [List.find?_eq_none.2]; rfl
  intro x hx
  exact fun e => by
    have := List.any_eq_false.1 h x hx
    exact this e
theorem getL_some_has {l : List (Int × Nat)} {k : Int} {b : Nat} (h : getL l k = some b) : hasL l k = true := by
  cases hh : hasL l k with
  | true => rfl
  | false => rw [getL_none hh] at h; cases h
theorem prC_drop (l : List (Int × Nat)) (i : Nat) : prC (l.drop i) = (prC l).drop (i * 2) := by
  induction l generalizing i with
  | nil => simp [prC]
  | cons e l ih =>
    cases i with
    | zero => simp [prC]
    | succ i =>
      have e0 : ∀ l, prC (e :: l) = [.int .i64 e.1, .pointer (some ⟨e.2, 0, none⟩)] ++ prC l := fun l => by simp [prC]
      rw [List.drop_succ_cons, e0, ih, show (i + 1) * 2 = i * 2 + 1 + 1 by omega]
      rfl
/-- A key's value is set. -/
def setL (l : List (Int × Nat)) (k : Int) (x : Nat) : List (Int × Nat) := if hasL l k = true then l.set (posL l k) (k, x) else l.take (posL l k) ++ [(k, x)] ++ l.drop (posL l k)
def delL (l : List (Int × Nat)) (k : Int) : List (Int × Nat) := if hasL l k = true then l.take (posL l k) ++ l.drop (posL l k + 1) else l
theorem prC_ins (l : List (Int × Nat)) (i : Nat) (k : Int) (x : Nat) (u : Value) (hi : i ≤ l.length) : ((prC l).take (i * 2) ++ [.int .i64 k, u] ++ (prC l).drop (i * 2)).set (i * 2 + 1) (.pointer (some ⟨x, 0, none⟩)) = prC (l.take i ++ [(k, x)] ++ l.drop i) := by
  have hl : ((prC l).take (i * 2)).length = i * 2 := by rw [List.length_take, prC_length]; omega
  rw [prC_append, prC_append, prC_take, prC_drop, List.append_assoc, List.append_assoc, List.set_append, if_neg (by omega), hl, show i * 2 + 1 - i * 2 = 1 by omega]
  rfl
theorem prC_set (l : List (Int × Nat)) (i : Nat) (k : Int) (x : Nat) (hi : i < l.length) (hk : l[i].1 = k) : (prC l).set (i * 2 + 1) (.pointer (some ⟨x, 0, none⟩)) = prC (l.set i (k, x)) := by
  induction l generalizing i with
  | nil => simp at hi
  | cons e l ih =>
    have e0 : ∀ e l, prC (e :: l) = .int .i64 e.1 :: .pointer (some ⟨e.2, 0, none⟩) :: prC l := fun e l => by simp [prC]
    cases i with
    | zero =>
      have hk' : e.1 = k := hk
      rw [e0, show 0 * 2 + 1 = 1 from rfl, List.set_cons_zero, e0, ← hk']
      rfl
    | succ i =>
      rw [e0, show (i + 1) * 2 + 1 = (i * 2 + 1) + 1 + 1 by omega, List.set_cons_succ, List.set_cons_succ, ih i (by simpa using hi) hk, List.set_cons_succ, e0]
theorem prC_del (l : List (Int × Nat)) (i : Nat) : (prC l).take (i * 2) ++ (prC l).drop ((i + 1) * 2) = prC (l.take i ++ l.drop (i + 1)) := by
  rw [prC_append, prC_take, prC_drop]
theorem PrsAt.of_own {w : World} {base : Nat} {T : TypeId} {v : Value} {l : List (Int × Nat)} (ho : w.ownsRow base T 2 v l.length (prC l)) : PrsAt w v l := by
  obtain ⟨A, cap, e, h1, h2⟩ := CellsAt.of_own ho
  refine ⟨A, cap, e, fun h => ⟨(h1 h).1, List.eq_nil_of_length_eq_zero (h1 h).2⟩, fun k hk => ?_⟩
  rcases ho.2 with ⟨hv, hn⟩ | ⟨g, cap', cur, hv, _⟩
  · omega
  · rw [hv] at e
    injection e with e
    subst e
    obtain ⟨p1, p2⟩ := prC_at l k hk
    have q1 := h2 _ rfl _ _ p1
    have q2 := h2 _ rfl _ _ p2
    rw [Addr.add0, Nat.zero_add] at q1 q2
    exact ⟨g, rfl, q1, q2⟩
/-- Pairs in memory, below n₀. -/
def Prw (n₀ : Nat) (W : World) (v : Value) (xs : List (Int × Nat)) : Prop :=
  (v = .slice none 0 0 ∧ xs = []) ∨ ∃ b cap, v = .slice (some ⟨b, 0, none⟩) xs.length cap ∧ b < n₀ ∧ ∀ j (hj : j < xs.length), W.cell? ⟨b, j * 2, none⟩ = some (.int .i64 xs[j].1) ∧ W.cell? ⟨b, j * 2 + 1, none⟩ = some (.pointer (some ⟨xs[j].2, 0, none⟩))
theorem Prw.below {n₀ : Nat} {A B : World} (h : Below n₀ A B) {v : Value} {xs : List (Int × Nat)} : Prw n₀ A v xs → Prw n₀ B v xs
  | .inl e => .inl e
  | .inr ⟨b, cap, e, hb, hc⟩ => .inr ⟨b, cap, e, hb, fun j hj => ⟨(h.cell (p := ⟨b, j * 2, none⟩) hb).trans (hc j hj).1, (h.cell (p := ⟨b, j * 2 + 1, none⟩) hb).trans (hc j hj).2⟩⟩
theorem Prw.of_own {w : World} {base : Nat} {T : TypeId} {v : Value} {l : List (Int × Nat)} (ho : w.ownsRow base T 2 v l.length (prC l)) : Prw w.heap.size w v l := by
  rcases ho.2 with ⟨hv, hn⟩ | ⟨g, cap, cur, hv, _, hg, _⟩
  · exact .inl ⟨hv, List.eq_nil_of_length_eq_zero hn⟩
  · refine .inr ⟨g, cap, hv, heap_lt hg, fun j hj => ?_⟩
    obtain ⟨A, c, e, _, h2⟩ := PrsAt.of_own ho
    obtain ⟨b, e2, q⟩ := h2 j hj
    rw [hv] at e
    injection e with e
    rw [e2] at e
    injection e with e
    cases e
    exact q
/-- These blocks stay. -/
def KpB (S : Nat → Prop) (A B : World) : Prop := A.heap.size ≤ B.heap.size ∧ ∀ k, S k → B.heap[k]? = A.heap[k]?
theorem KpB.refl (S : Nat → Prop) (A : World) : KpB S A A := ⟨Nat.le_refl _, fun _ _ => rfl⟩
theorem KpB.trans {S : Nat → Prop} {A B C : World} (h : KpB S A B) (k : KpB S B C) : KpB S A C := ⟨Nat.le_trans h.1 k.1, fun b hb => (k.2 b hb).trans (h.2 b hb)⟩
theorem KpB.cell {S : Nat → Prop} {A B : World} (h : KpB S A B) {p : Addr} (hp : S p.block) : B.cell? p = A.cell? p := World.cell?_of_block (h.2 _ hp)
theorem KpB.below {S : Nat → Prop} {A B : World} (h : Below A.heap.size A B) (hS : ∀ k, S k → k < A.heap.size) : KpB S A B := ⟨h.size, fun k hk => h.block k (hS k hk)⟩
def prEnc (x : Int × Nat) : Array Value := #[.int .i64 x.1, .pointer (some ⟨x.2, 0, none⟩)]
def gpL (l : List (Int × Nat)) (k : Int) : Option Addr := (getL l k).map fun b => ⟨b, 0, none⟩
end
end Go.Proofs.YtjlcbabnkhdgpaaGreatDoor
namespace Go.Proofs.YtjlcbabnkhdgpaaGreatDoor
section
set_option linter.unusedSimpArgs false
set_option linter.unusedVariables false
open Go.RowKit Go.Maps

theorem pcmpF_any (x y : Int) (b : Value) (w : World) : Calls Tryz.prog 79 #[.agg #[.int .i64 x, b], .int .i64 y] w fun e w' => e = .returned (.int .i64 (cmpI x y)) ∧ Below w.heap.size w w' := by
  have hc := fun W => cmpint_any x y W
  have hb1 : Below w.heap.size w (w.alloc (.cells #[.int .i64 x, b] 118)) := (Below.refl _ _).alloc (Nat.le_refl _) _
  have c0 := (Blk.made w #[.int .i64 x, b] 118).cell 0
  replace c0 : (w.alloc (.cells #[.int .i64 x, b] 118)).cell? ⟨w.heap.size, 0, none⟩ = some (.int .i64 x) := c0
  go_enter Tryz.func79, Tryz.ntmps79
  go_wp2_with fail
  refine (hc _).mono ?_
  rintro e w2 ⟨rfl, rfl⟩
  clear hc
  go_wp2_with fail
  go_ret
  exact ⟨rfl, hb1⟩
set_option maxHeartbeats 1600000 in
set_option maxRecDepth 100000 in
theorem bsearchF_any (v : Value) (l : List (Int × Nat)) (k : Int) (w : World) (hl : PrsAt w v l) (hs : Rise l) (hn : l.length ≤ 1000000) :
    Calls Tryz.prog 78 #[v, .int .i64 k, .func (.func 79) #[] #[]] w fun e w' => e = .returned (.tuple #[.int .i64 (posL l k : Nat), .bool (hasL l k)]) ∧ Below w.heap.size w w' := by
  obtain ⟨A, cap, rfl, hA, hP⟩ := hl
  have HP := Lib.hid hP; have HS := Lib.hid hs
  have hc := fun x b W => pcmpF_any x k b W
  have HC := Lib.hid hc
  clear hc hP hs
  go_enter Tryz.func78, Tryz.ntmps78
  go_wp2_with fail
  go_loopg [9, 10] l.length (fun gh iv jv wr => ∃ i j : Nat, gh = j - i ∧ iv = .int .i64 i ∧ jv = .int .i64 j ∧ i ≤ j ∧ j ≤ l.length ∧ (∀ q (hq : q < l.length), q < i → l[q].1 < k) ∧ (∀ q (hq : q < l.length), j ≤ q → k ≤ l[q].1) ∧ Below w.heap.size w wr)
  case atStart => exact ⟨0, l.length, rfl, rfl, rfl, Nat.zero_le _, Nat.le_refl _, fun q hq h => absurd h (by omega), fun q hq h => absurd h (by omega), Below.refl _ _⟩
  case round =>
    obtain ⟨i, j, rfl, rfl, rfl, hij, hjl, h1, h2, hB⟩ := hrel
    have H1 := Lib.hid h1; have H2 := Lib.hid h2; have HB := Lib.hid hB
    by_cases hlt : i < j
    · have hltI : (i : Int) < (j : Int) := by omega
      have hhl : (i + j) / 2 < l.length := by omega
      obtain ⟨b, rfl, y0, y1⟩ := HP.out _ hhl
      replace y0 := up_cell hB y0
      replace y1 := up_cell hB y1
      obtain ⟨x, hx⟩ : ∃ x, x = l[(i + j) / 2] := ⟨_, rfl⟩
      rw [← hx] at y0 y1
      have hcc := fun W => HC.out x.1 (.pointer (some ⟨x.2, 0, none⟩)) W
      have hhI : ((((i + j) / 2 : Nat)) : Int) < (l.length : Int) := by omega
      have HX := Lib.hid hx
      clear h1 h2 hx
      by_cases hxk : x.1 < k
      · rw [cmpI_lt hxk] at hcc
        have hxk' := Lib.hid hxk
        clear hxk
        go_wp2_with fail
        refine (hcc _).mono ?_
        clear hcc
        rintro e w2 ⟨rfl, hb2⟩
        go_wp2_with fail
        go_roundg (j - ((i + j) / 2 + 1))
        case measure => omega
        case rel =>
          refine ⟨(i + j) / 2 + 1, j, rfl, by congr 1 <;> omega, rfl, by omega, hjl, fun q hq hqi => ?_, H2.out, HB.out.trans (hb2.mono HB.out.size)⟩
          rcases Nat.lt_or_ge q ((i + j) / 2) with h | h
          · exact Int.lt_trans (HS.out.lt h hhl) (HX.out ▸ hxk'.out)
          · obtain rfl : q = (i + j) / 2 := by omega
            exact HX.out ▸ hxk'.out
      · have hxk' := Lib.hid hxk
        have hcc2 : ∃ c : Int, 0 ≤ c ∧ c = cmpI x.1 k := by
          rcases Int.lt_trichotomy k x.1 with h | h | h
          · exact ⟨1, by decide, (cmpI_gt h).symm⟩
          · exact ⟨0, by decide, (cmpI_eq h.symm).symm⟩
          · exact absurd h hxk
        obtain ⟨c, hc0, hce⟩ := hcc2
        rw [← hce] at hcc
        clear hxk hce
        go_wp2_with fail
        refine (hcc _).mono ?_
        clear hcc
        rintro e w2 ⟨rfl, hb2⟩
        go_wp2_with fail
        go_roundg ((i + j) / 2 - i)
        case measure => omega
        case rel =>
          refine ⟨i, (i + j) / 2, rfl, rfl, by congr 1, by omega, by omega, H1.out, fun q hq hqi => ?_, HB.out.trans (hb2.mono HB.out.size)⟩
          have h9 := HX.out ▸ hxk'.out
          rcases Nat.lt_or_ge ((i + j) / 2) q with h | h
          · have := HS.out.lt h hq; omega
          · obtain rfl : q = (i + j) / 2 := by omega
            omega
    · have hij2 : i = j := by omega
      subst hij2
      have hlt2 : ¬ ((i : Int) < (i : Int)) := by omega
      have HPOS := Lib.hid (posL_of hjl h1 h2)
      by_cases hil : i < l.length
      · have hilI : (i : Int) < (l.length : Int) := by omega
        obtain ⟨b, rfl, y0, y1⟩ := HP.out _ hil
        replace y0 := up_cell hB y0
        replace y1 := up_cell hB y1
        have hxi := h2 i hil (Nat.le_refl _)
        by_cases hxe : l[i].1 = k
        · have HH := Lib.hid (hasL_in hil hxe)
          have hcc := fun W => HC.out l[i].1 (.pointer (some ⟨l[i].2, 0, none⟩)) W
          rw [cmpI_eq hxe] at hcc
          clear hxe
          generalize l[i] = x at *
          clear h1 h2 hB
          go_wp2_with fail
          refine (hcc _).mono ?_
          clear hcc
          rintro e w2 ⟨rfl, hb2⟩
          go_wp2_with fail
          go_ret2
          exact ⟨by rw [HPOS.out, HH.out]; rfl, HB.out.trans (hb2.mono HB.out.size)⟩
        · have HH := Lib.hid (hasL_out (i := i) HS.out h1 (fun _ => by omega))
          have hcc := fun W => HC.out l[i].1 (.pointer (some ⟨l[i].2, 0, none⟩)) W
          rw [cmpI_gt (by omega)] at hcc
          clear hxe hxi
          generalize l[i] = x at *
          clear h1 h2 hB
          go_wp2_with fail
          refine (hcc _).mono ?_
          clear hcc
          rintro e w2 ⟨rfl, hb2⟩
          go_wp2_with fail
          go_ret2
          exact ⟨by rw [HPOS.out, HH.out]; rfl, HB.out.trans (hb2.mono HB.out.size)⟩
      · have hilI : ¬ ((i : Int) < (l.length : Int)) := by omega
        have HH := Lib.hid (hasL_out (i := i) HS.out h1 (fun h => absurd h hil))
        clear h1 h2 hB
        go_wp2_with fail
        go_ret2
        exact ⟨by rw [HPOS.out, HH.out]; rfl, HB.out⟩
set_option maxRecDepth 100000 in
theorem findF_any (b o : Nat) (v : Value) (l : List (Int × Nat)) (k : Int) (w : World) (hm : w.cell? ⟨b, o, none⟩ = some v) (hl : PrsAt w v l) (hs : Rise l) (hn : l.length ≤ 1000000) :
    Calls Tryz.prog 56 #[.pointer (some ⟨b, o, none⟩), .int .i64 k] w fun e w' => e = .returned (.tuple #[.int .i64 (posL l k : Nat), .bool (hasL l k)]) ∧ Below w.heap.size w w' := by
  have hb := bsearchF_any v l k w hl hs hn
  clear hl hs
  go_enter Tryz.func56, Tryz.ntmps56
  go_wp2_with fail
  refine hb.mono ?_
  clear hb
  rintro e w2 ⟨rfl, hb2⟩
  go_wp2_with fail
  go_ret2
  exact ⟨rfl, hb2⟩
set_option maxRecDepth 100000 in
theorem mlenF_any (b o : Nat) (v : Value) (l : List (Int × Nat)) (w : World) (hm : w.cell? ⟨b, o, none⟩ = some v) (hl : PrsAt w v l) :
    Calls Tryz.prog 57 #[.pointer (some ⟨b, o, none⟩)] w fun e w' => e = .returned (.int .i64 (l.length : Nat)) ∧ w = w' := by
  obtain ⟨A, cap, rfl, _, _⟩ := hl
  go_enter Tryz.func57, Tryz.ntmps57
  go_wp2_with fail
  go_ret
  exact ⟨rfl, rfl⟩
set_option maxRecDepth 100000 in
theorem mgetF_any (b o : Nat) (v : Value) (l : List (Int × Nat)) (k : Int) (w : World) (hm : w.cell? ⟨b, o, none⟩ = some v) (hl : PrsAt w v l) (hs : Rise l) (hn : l.length ≤ 1000000) :
    Calls Tryz.prog 35 #[.pointer (some ⟨b, o, none⟩), .int .i64 k] w fun e w' => e = .returned (.tuple #[.pointer (gpL l k), .bool (hasL l k)]) ∧ Below w.heap.size w w' := by
  have hf := findF_any b o v l k w hm hl hs hn
  obtain ⟨A, cap, rfl, hA, hP⟩ := hl
  have HP := Lib.hid hP; have HS := Lib.hid hs; have HM := Lib.hid hm
  clear hP hs hm hA
  cases hh : hasL l k with
  | true =>
    obtain ⟨hi, hk⟩ := hasL_pos HS.out hh
    have HG := Lib.hid (getL_pos HS.out hi hk)
    rw [hh] at hf
    have HH := Lib.hid hh
    have hiI : ((posL l k : Nat) : Int) < (l.length : Int) := by omega
    obtain ⟨b2, rfl, y0, y1⟩ := HP.out _ hi
    clear hh hk
    go_enter Tryz.func35, Tryz.ntmps35
    go_wp2_with fail
    refine hf.mono ?_
    clear hf
    rintro e w2 ⟨rfl, hb2⟩
    replace y1 := up_cell hb2 y1
    have hm2 := up_cell hb2 HM.out
    clear y0
    go_wp2_with fail
    go_ret2
    exact ⟨by rw [gpL, HG.out]; rfl, hb2⟩
  | false =>
    have HG := Lib.hid (getL_none hh)
    rw [hh] at hf
    clear hh
    go_enter Tryz.func35, Tryz.ntmps35
    go_wp2_with fail
    refine hf.mono ?_
    clear hf
    rintro e w2 ⟨rfl, hb2⟩
    go_wp2_with fail
    go_ret2
    exact ⟨by rw [gpL, HG.out]; rfl, hb2⟩
end
end Go.Proofs.YtjlcbabnkhdgpaaGreatDoor
namespace Go.Proofs.YtjlcbabnkhdgpaaGreatDoor
section
set_option linter.unusedSimpArgs false
set_option linter.unusedVariables false
open Go.RowKit Go.Maps

theorem elF : El Tryz.prog 78 118 2 16 := El.of Tryz.underlying78 (by decide) (by kernel_rfl)
set_option maxHeartbeats 1600000 in
set_option maxRecDepth 100000 in
theorem insF_end (base : Nat) (v : Value) (n vb : Nat) (xs es : List Value) (w : World) (ho : w.ownsRow base 118 2 v n xs) (hn : n ≤ 1000000) (hV : Blk w vb 118 es.toArray) (hel : es.length = 2) (he : ∀ u ∈ es, u.oneCell' = true) (hbw : base ≤ w.heap.size) :
    Calls Tryz.prog 61 #[v, .int .i64 (n : Int), .slice (some ⟨vb, 0, none⟩) 1 1] w fun e w' => ∃ v', e = .returned v' ∧ w'.ownsRow base 118 2 v' (n + 1) (xs ++ es) ∧ w.grownBy w' v.ownBlock ∧ (v'.ownBlock = v.ownBlock ∨ v'.ownBlock = some w.heap.size) := by
  obtain ⟨v', w', hr, q1, q2, q3⟩ := row_append elF 78 base v n 1 xs es (.slice (some ⟨vb, 0, none⟩) 1 1) w ho ⟨_, _, rfl, (fun h => by cases h), fun ad e => by cases e; exact hV.news⟩ (by rw [hel]) he (by omega) (by decide) hbw
  have H1 := Lib.hid q1; have H2 := Lib.hid q2; have H3 := Lib.hid q3
  have hnn : n ≤ 9223372036854775807 := by omega
  rcases ho.2 with ⟨rfl, rfl⟩ | ⟨g, cap, cur, rfl, _, _, hnc, hcm, _, _⟩
  · clear ho hV q1 q2 q3
    go_enter Tryz.func61, Tryz.ntmps61
    go_wp2_with (at_builtin; refine Lib.wpList_append_run _ rfl _ _ _ _ rfl _ _ rfl rfl _ _ hr ?_)
    go_ret
    exact ⟨v', rfl, H1.out, H2.out, H3.out⟩
  · clear ho hV q1 q2 q3
    unfold maxLen at hcm
    go_enter Tryz.func61, Tryz.ntmps61
    go_wp2_with (at_builtin; refine Lib.wpList_append_run _ rfl _ _ _ _ rfl _ _ rfl rfl _ _ hr ?_)
    all_goals (go_ret; exact ⟨v', rfl, H1.out, H2.out, H3.out⟩)
theorem ovF (w : World) (g vb o lb cb : Nat) (cur : Array Value) (es : List Value) (hB : Blk w g 118 cur) (hV : Blk w vb 118 es.toArray) (hne : vb ≠ g) (hc : cur.size ≠ 0) :
    (callFunc 85 #[.slice (some ⟨vb, 0, none⟩) 1 1, .slice (some ⟨g, o, none⟩) lb cb]).run Tryz.prog w = .ok (.value (.bool false)) w := by
  have hz : ∀ w, (Go.sizeOf 118).run Tryz.prog w = .ok 2 w := fun w => by
    obtain ⟨i, z, hi, _, hs, _⟩ := (elF).info
    simp [Go.sizeOf, typeInfo, hi, hs]
  rw [run_callFunc_extern Tryz.func85 (by kernel_rfl) (by kernel_rfl) (by kernel_rfl) (e := Extern.SlicesOverlaps.overlaps #[78, 78] #[4]) (by kernel_rfl),
    Lib.run_overlaps_apart w 78 4 118 (elF).und 2 hz ⟨vb, 0, none⟩ ⟨g, o, none⟩ 1 1 lb cb hne _ _ _ _ (blk_shape hV) (blk_shape hB) hc (hV.frozen 0) (hV.frozen _)]
  rfl
set_option maxHeartbeats 4000000 in
set_option maxRecDepth 100000 in
theorem insF_room (base g cap n i vb : Nat) (xs es : List Value) (w : World) (ho : w.ownsRow base 118 2 (.slice (some ⟨g, 0, none⟩) n cap) n xs) (hi : i < n) (hroom : n + 1 ≤ cap) (h1 : ∀ u ∈ xs, u.oneCell' = true) (hV : Blk w vb 118 es.toArray) (hvb : vb ≠ g) (hel : es.length = 2) (he : ∀ u ∈ es, u.oneCell' = true) :
    Calls Tryz.prog 61 #[.slice (some ⟨g, 0, none⟩) n cap, .int .i64 (i : Int), .slice (some ⟨vb, 0, none⟩) 1 1] w fun e w' => ∃ v', e = .returned v' ∧ w'.ownsRow base 118 2 v' (n + 1) (xs.take (i * 2) ++ es ++ xs.drop (i * 2)) ∧ w.grownBy w' (some g) ∧ v'.ownBlock = some g := by
  have hbd : Below w.heap.size w w.drew := (Below.refl _ w).drew
  have hod := ownsRow_grown ho (grown_of_below hbd none) (by simp)
  have hVd := hV.up hbd
  obtain ⟨hc1, hc2, q1, q2⟩ := row_room elF base g n cap i vb xs es w.drew hod hi hroom h1 hVd hvb hel he
  have Q1 := Lib.hid q1
  have Q2 := Lib.hid (grown_trans (grown_of_below hbd (some g)) q2)
  obtain ⟨g', cur, e, hB, hbg, hnc, hcm, hcs, htk⟩ := own_block ho
  cases e
  have hov := fun o lb cb => ovF w g vb o lb cb cur es hB hV hvb (by omega)
  unfold maxLen at hcm
  have hz2 : ¬ ((i : Int) = (n : Int)) := by omega
  have hw1 : IntKind.i64.wrap ((i : Int) + 1) = (i : Int) + 1 := wrap_i64_in _ (by omega)
  have hw2 : IntKind.i64.wrap ((n : Int) + 1) = (n : Int) + 1 := wrap_i64_in _ (by omega)
  have hb1 : (0 : Int) ≤ (i : Int) + 1 := by omega
  have hin : i ≤ n := by omega
  have htn : ((i : Int) + 1).toNat = i + 1 := by omega
  have htm : ((n : Int) + 1).toNat = n + 1 := by omega
  have hb2 : ¬ (cap = i + 1) := by omega
  have hb4 : ¬ (cap = i) := by omega
  have hb5 : ¬ ((cap : Int) < (n : Int) + 1) := by omega
  have hb3 : (i : Int) ≤ (n : Int) + 1 := by omega
  have mixed : Tryz.prog.follows .mixedOrders = true := by kernel_rfl
  obtain ⟨W1, hW1⟩ : ∃ W1, W1 = w.drew.setCells g ((i + 1) * 2) (xs.drop (i * 2)) := ⟨_, rfl⟩
  rw [← hW1] at hc1 hc2 Q1 Q2
  clear hW1
  clear ho hod hV hVd q1 q2 hB hcs htk hbd hbg h1
  go_enter Tryz.func61, Tryz.ntmps61
  go_wp2_with (simp only [hov])
  go_region_law_o (refine step_copy_runI rfl _ _ 78 78 rfl _ _ (by simp [Act.eval, Act.put]) (by simp [Act.eval, Act.put]) (hc1 _ _ _) ?_)
  go_wp2_with (at_builtin; refine wpList_copy_runI _ rfl _ _ 78 78 rfl _ _ rfl rfl (hc2 _ (fun _ => rfl) (fun _ => rfl) _ _ _) ?_)
  go_ret
  exact ⟨_, rfl, Q1.out, Q2.out, rfl⟩
set_option maxHeartbeats 4000000 in
set_option maxRecDepth 100000 in
theorem insF_new (base g cap n i vb : Nat) (xs es : List Value) (w : World) (ho : w.ownsRow base 118 2 (.slice (some ⟨g, 0, none⟩) n cap) n xs) (hi : i < n) (hroom : cap < n + 1) (h1 : ∀ u ∈ xs, u.oneCell' = true) (hV : Blk w vb 118 es.toArray) (hel : es.length = 2) (he : ∀ u ∈ es, u.oneCell' = true) (hn : n ≤ 1000000) (hbw : base ≤ w.heap.size) :
    Calls Tryz.prog 61 #[.slice (some ⟨g, 0, none⟩) n cap, .int .i64 (i : Int), .slice (some ⟨vb, 0, none⟩) 1 1] w fun e w' => ∃ v', e = .returned v' ∧ w'.ownsRow base 118 2 v' (n + 1) (xs.take (i * 2) ++ es ++ xs.drop (i * 2)) ∧ w.grownBy w' none ∧ v'.ownBlock = some w.heap.size := by
  obtain ⟨G, ROW, hG1, hG2, hap, hcA, hcB, hfin⟩ := row_new elF Tryz.underlying3 base g n cap i vb xs es w ho hi hroom h1 hV hel he hn (by decide) hbw
  obtain ⟨g', cur, e, hB, hbg, hnc, hcm, hcs, htk⟩ := own_block ho
  cases e
  have HF := Lib.hid hfin
  unfold maxLen at hcm hG2
  have hz2 : ¬ ((i : Int) = (n : Int)) := by omega
  have hw1 : IntKind.i64.wrap ((i : Int) + 1) = (i : Int) + 1 := wrap_i64_in _ (by omega)
  have hw2 : IntKind.i64.wrap ((n : Int) + 1) = (n : Int) + 1 := wrap_i64_in _ (by omega)
  have hw3 : IntKind.i64.wrap ((n : Int) + 1 - (i : Int)) = (n : Int) + 1 - (i : Int) := wrap_i64_in _ (by omega)
  have hb1 : (0 : Int) ≤ (i : Int) + 1 := by omega
  have hin : i ≤ n := by omega
  have htn : ((i : Int) + 1).toNat = i + 1 := by omega
  have hb2 : ¬ (G = i + 1) := by omega
  have hb4 : ¬ (G = i) := by omega
  have hb6 : ¬ (cap = i) := by omega
  have hb5 : (cap : Int) < (n : Int) + 1 := by omega
  have hb3 : (i : Int) ≤ (n : Int) + 1 := by omega
  have hb8 : (i : Int) ≤ (n : Int) := by omega
  have mixed : Tryz.prog.follows .mixedOrders = true := by kernel_rfl
  have hE : SameW ((w.alloc (.cells ROW 118)).drew) (w.drew.alloc (.cells ROW 118)) := ⟨rfl, rfl, rfl, rfl⟩
  have hF : SameW (((w.alloc (.cells ROW 118)).drew.setCells w.heap.size (i * 2) es).drew) ((w.drew.alloc (.cells ROW 118)).setCells w.heap.size (i * 2) es) := ⟨rfl, rfl, rfl, rfl⟩
  have hG : SameW ((((w.alloc (.cells ROW 118)).drew.setCells w.heap.size (i * 2) es).drew).setCells w.heap.size ((i + 1) * 2) (xs.drop (i * 2))) (((w.drew.alloc (.cells ROW 118)).setCells w.heap.size (i * 2) es).setCells w.heap.size ((i + 1) * 2) (xs.drop (i * 2))) := by
    rw [← setCells_drew]
    exact ⟨rfl, rfl, rfl, rfl⟩
  have HG := Lib.hid hG
  have hcA' := hcA _ 3 (G - i) 1 hE
  have hcB' := hcB _ 3 (G - (i + 1)) (cap - i) hF
  have HCB := Lib.hid hcB'
  clear hcB'
  clear ho hV hB hcs htk hbg h1 hfin hG
  go_enter Tryz.func61, Tryz.ntmps61
  go_wp2_with (first
    | (at_builtin; refine Lib.wpList_append_run _ rfl _ _ _ _ rfl _ _ rfl rfl _ _ (hap _) ?_)
    | (at_builtin; refine wpList_copy_runI _ rfl _ _ 78 78 rfl _ _ rfl rfl (hcA _ _ _ _ hE) ?_))
  go_region_law_o (refine step_copy_runI rfl _ _ 78 78 rfl _ _ (by simp [Act.eval, Act.put]) (by simp [Act.eval, Act.put]) HCB.out ?_)
  go_wp2_with fail
  go_ret
  have h9 := HF.out _ HG.out
  exact ⟨_, rfl, h9.1, h9.2, rfl⟩
theorem insF_any (base : Nat) (v : Value) (n i vb : Nat) (xs es : List Value) (w : World) (ho : w.ownsRow base 118 2 v n xs) (hi : i ≤ n) (h1 : ∀ u ∈ xs, u.oneCell' = true) (hV : Blk w vb 118 es.toArray) (hvb : some vb ≠ v.ownBlock) (hel : es.length = 2) (he : ∀ u ∈ es, u.oneCell' = true) (hn : n ≤ 1000000) (hbw : base ≤ w.heap.size) :
    Calls Tryz.prog 61 #[v, .int .i64 (i : Int), .slice (some ⟨vb, 0, none⟩) 1 1] w fun e w' => ∃ v', e = .returned v' ∧ w'.ownsRow base 118 2 v' (n + 1) (xs.take (i * 2) ++ es ++ xs.drop (i * 2)) ∧ w.grownBy w' v.ownBlock ∧ (v'.ownBlock = v.ownBlock ∨ v'.ownBlock = some w.heap.size) := by
  have hxl := ho.1
  by_cases hin : i = n
  · subst hin
    refine (insF_end base v i vb xs es w ho hn hV hel he hbw).mono ?_
    rintro e w' ⟨v', rfl, q1, q2, q3⟩
    refine ⟨v', rfl, ?_, q2, q3⟩
    rw [List.take_of_length_le (by omega), List.drop_of_length_le (by omega), List.append_nil]
    exact q1
  · rcases ho.2 with ⟨rfl, rfl⟩ | ⟨g, cap, cur, rfl, _, _, hnc, hcm, _, _⟩
    · omega
    · by_cases hroom : n + 1 ≤ cap
      · refine (insF_room base g cap n i vb xs es w ho (by omega) hroom h1 hV (fun e => hvb (by rw [e]; rfl)) hel he).mono ?_
        rintro e w' ⟨v', rfl, q1, q2, q3⟩
        exact ⟨v', rfl, q1, q2, Or.inl q3⟩
      · refine (insF_new base g cap n i vb xs es w ho (by omega) (by omega) h1 hV hel he hn hbw).mono ?_
        rintro e w' ⟨v', rfl, q1, q2, q3⟩
        exact ⟨v', rfl, q1, ⟨q2.os, q2.tape, q2.output, q2.size, fun k hk _ => q2.block k hk (by simp)⟩, Or.inr q3⟩
set_option maxHeartbeats 1600000 in
set_option maxRecDepth 100000 in
theorem cloneF_any (v : Value) (n : Nat) (cs : List Value) (w : World) (hs : CellsAt w v n cs) (hl : cs.length = n * 2) (h1 : ∀ u ∈ cs, u.oneCell' = true) (hn : n ≤ 1000000) :
    Calls Tryz.prog 89 #[v] w fun e w' => ∃ v', e = .returned v' ∧ w'.ownsRow w.heap.size 118 2 v' n cs ∧ Below w.heap.size w w' := by
  have hs' := hs
  obtain ⟨A, cap, rfl, h2, h3⟩ := hs
  have qe := fun (w : World) (a : Option Addr) (n c n' c' : Nat) => Lib.run_eql_slice_nil (P := Tryz.prog) w 78 118 a n c n' c' (elF).und
  cases A with
  | none =>
    obtain ⟨rfl, rfl⟩ := h2 rfl
    have : cs = [] := List.eq_nil_of_length_eq_zero (by omega)
    subst this
    clear hs' h3 h2 h1
    go_enter Tryz.func89, Tryz.ntmps89
    go_wp2_with fail
    go_ret
    exact ⟨_, rfl, World.ownsRow_nil _ _ _ _, Below.refl _ _⟩
  | some ad =>
    obtain ⟨w1, hw1⟩ : ∃ x, x = w.alloc (.cells #[] 118) := ⟨_, rfl⟩
    have hb1 : Below w.heap.size w w1 := by rw [hw1]; exact (Below.refl _ _).alloc (Nat.le_refl _) _
    have ho : w1.ownsRow w.heap.size 118 2 (.slice (some ⟨w.heap.size, 0, none⟩) 0 0) 0 [] := by
      rw [hw1]
      exact World.ownsRow_made w #[] 0 (Nat.le_refl _) (by unfold maxLen; omega) (by simp)
    obtain ⟨v', w', hr, q1, q2, _⟩ := row_append elF 78 w.heap.size _ 0 n [] cs _ w1 ho (hs'.below hb1) hl h1 (by omega) (by decide) hb1.size
    have hb2 : Below w.heap.size w w' := hb1.grown q2 hb1.size (fun k e => by simp [Value.ownBlock] at e; omega)
    rw [Nat.zero_add, List.nil_append] at q1
    have H1 := Lib.hid q1; have H2 := Lib.hid hb2
    rw [hw1] at hr
    clear hs' h2 h1 hb1 ho q1 q2 hb2 hw1 h3
    go_enter Tryz.func89, Tryz.ntmps89
    go_wp2_with (at_builtin; refine Lib.wpList_append_run _ rfl _ _ _ _ rfl _ _ rfl rfl _ _ hr ?_)
    go_ret
    exact ⟨_, rfl, H1.out, H2.out⟩
set_option maxHeartbeats 4000000 in
set_option maxRecDepth 100000 in
theorem delF_any (base g cap p i : Nat) (xs : List Value) (w : World) (ho : w.ownsRow base 118 2 (.slice (some ⟨g, 0, none⟩) (p + 1) cap) (p + 1) xs) (hi : i ≤ p) (h1 : ∀ u ∈ xs, u.oneCell' = true) :
    Calls Tryz.prog 91 #[.slice (some ⟨g, 0, none⟩) (p + 1) cap, .int .i64 (i : Int), .int .i64 ((i : Int) + 1)] w fun e w' => e = .returned (.slice (some ⟨g, 0, none⟩) p cap) ∧ w'.ownsRow base 118 2 (.slice (some ⟨g, 0, none⟩) p cap) p (xs.take (i * 2) ++ xs.drop ((i + 1) * 2)) ∧ w.grownBy w' (some g) := by
  have hbd : Below w.heap.size w w.drew := (Below.refl _ w).drew
  have hod := ownsRow_grown ho (grown_of_below hbd none) (by simp)
  obtain ⟨z, hap, hcl, q1, q2⟩ := row_cut1 elF base g p cap i xs w.drew hod hi h1
  have Q1 := Lib.hid q1
  have Q2 := Lib.hid (grown_trans (grown_of_below hbd (some g)) q2)
  obtain ⟨g', cur, e, hB, hbg, hnc, hcm, hcs, htk⟩ := own_block ho
  cases e
  have hx0 : ∀ j u, xs[j]? = some u → w.cell? ⟨g, j, none⟩ = some u := fun j u hu => by
    obtain ⟨A, c, e1, _, e3⟩ := CellsAt.of_own ho
    injection e1 with e1 _ _
    have := e3 _ e1.symm j u hu
    rwa [Addr.add0, Nat.zero_add] at this
  have hxl := ho.1
  obtain ⟨A, hA, hsrc⟩ : ∃ A : Addr, (if cap = i + 1 then some (⟨g, 0, none⟩ : Addr) else some ⟨g, (i + 1) * 2, none⟩) = some A ∧ Hid (∀ j u, (xs.drop ((i + 1) * 2))[j]? = some u → w.drew.cell? (A.add j) = some u) := by
    by_cases h : cap = i + 1
    · refine ⟨⟨g, 0, none⟩, by simp [h], Lib.hid fun j u hu => ?_⟩
      rw [List.drop_of_length_le (by omega)] at hu
      simp at hu
    · refine ⟨⟨g, (i + 1) * 2, none⟩, by simp [h], Lib.hid fun j u hu => ?_⟩
      rw [Addr.add0]
      rw [List.getElem?_drop] at hu
      exact hx0 _ u hu
  unfold maxLen at hcm
  have hip : (i : Int) ≤ (p : Int) := by omega
  have hip2 : (i : Int) < (p : Int) + 1 := by omega
  have hic : i ≤ cap := by omega
  have hi2 : (i : Int) + 1 ≤ (p : Int) + 1 := by omega
  have hb1 : ¬ ((i : Int) = (i : Int) + 1) := by omega
  have htn : ((i : Int) + 1).toNat = i + 1 := by omega
  have hb7 : (0 : Int) ≤ (i : Int) + 1 := by omega
  have hpc : ¬ (cap = p) := by omega
  have hpc2 : p ≤ cap := by omega
  have hpc3 : p < cap := by omega
  obtain ⟨W1, hW1⟩ : ∃ W1, W1 = w.drew.setCells g (i * 2) (xs.drop ((i + 1) * 2)) := ⟨_, rfl⟩
  rw [← hW1] at hap hcl Q1 Q2
  obtain ⟨Z, hZ⟩ : ∃ Z, Z = (Builtin.zeroCells z.cells 1).toList := ⟨_, rfl⟩
  rw [← hZ] at hcl Q1 Q2
  clear hZ
  clear ho hod q1 q2 hB hcs htk hbd hbg h1 hW1 hx0 hxl
  have mixed : Tryz.prog.follows .mixedOrders = true := by kernel_rfl
  go_enter Tryz.func91, Tryz.ntmps91
  go_wp2_with fail
  go_region_law_o (refine step_append_runI rfl (.tmp 22) (.tmp 25) 78 78 rfl (.slice (some ⟨g, 0, none⟩) i cap) (.slice (some A) (p - i) (cap - (i + 1))) (by simp [Act.eval, Act.put]) (by simp [Act.eval, Act.put]) (hap 78 A (cap - (i + 1)) hsrc.out) ?_)
  go_wp2_with fail
  go_ret
  exact ⟨rfl, Q1.out, Q2.out⟩
end
end Go.Proofs.YtjlcbabnkhdgpaaGreatDoor
namespace Go.Proofs.YtjlcbabnkhdgpaaGreatDoor
section
set_option linter.unusedSimpArgs false
set_option linter.unusedVariables false
open Go.RowKit Go.Maps

structure Fr (F : Nat → Prop) (w w' : World) : Prop where
  os : w'.os = w.os
  tape : w'.tape = w.tape
  output : w'.output = w.output
  size : w.heap.size ≤ w'.heap.size
  block : ∀ k, k < w.heap.size → ¬ F k → w'.heap[k]? = w.heap[k]?
section
variable {F G : Nat → Prop} {w w' w'' : World} {n0 ga g m : Nat} {a : ArM} {d : DevM}
theorem Fr.refl (F : Nat → Prop) (w : World) : Fr F w w := ⟨rfl, rfl, rfl, Nat.le_refl _, fun _ _ _ => rfl⟩
theorem Fr.trans (h : Fr F w w') (k : Fr G w' w'') (hG : ∀ b, b < w.heap.size → G b → F b) : Fr F w w'' :=
  ⟨k.os.trans h.os, k.tape.trans h.tape, k.output.trans h.output, Nat.le_trans h.size k.size, fun b hb hF => (k.block b (Nat.lt_of_lt_of_le hb h.size) (fun e => hF (hG b hb e))).trans (h.block b hb hF)⟩
theorem Fr.mono (h : Fr F w w') (hG : ∀ b, b < w.heap.size → F b → G b) : Fr G w w' := ⟨h.os, h.tape, h.output, h.size, fun b hb hF => h.block b hb (fun e => hF (hG b hb e))⟩
theorem Fr.grown {r : Option Nat} (h : w.grownBy w' r) : Fr (fun b => some b = r) w w' := ⟨h.os, h.tape, h.output, h.size, h.block⟩
theorem Fr.up (h : Below w.heap.size w w') : Fr F w w' := ⟨h.os, h.tape, h.output, h.size, fun k hk _ => h.block k hk⟩
theorem Fr.below (h : Fr F w w') (hn : n0 ≤ w.heap.size) (hF : ∀ b, F b → n0 ≤ b) : Below n0 w w' :=
  ⟨h.os, h.tape, h.output, h.size, fun k hk => h.block k (by omega) (fun e => by have := hF k e; omega)⟩
theorem Fr.at_ (h : Fr F w w') {b : Nat} {o : Obj} (hb : w.heap[b]? = some o) (hF : ¬ F b) : w'.heap[b]? = some o := (h.block b (heap_lt hb) hF).trans hb
theorem Fr.blk {b : Nat} {T : TypeId} {cs : Array Value} (h : Fr F w w') (hb : Blk w b T cs) (hF : ¬ F b) : Blk w' b T cs := h.at_ hb hF
theorem Fr.own {base k n : Nat} {T : TypeId} {v : Value} {xs : List Value} (h : Fr F w w') (ho : w.ownsRow base T k v n xs) (hF : ∀ b, v.ownBlock = some b → ¬ F b) : w'.ownsRow base T k v n xs := by
  obtain ⟨hx, hh⟩ := ho
  refine ⟨hx, ?_⟩
  rcases hh with hh | ⟨g', cap, cur, hv', hg', hh, q⟩
  · exact Or.inl hh
  · exact Or.inr ⟨g', cap, cur, hv', hg', h.at_ hh (hF g' (by rw [hv']; rfl)), q⟩
theorem Fr.map {f : Int → Option (List UInt8)} {N : Nat} (h : Fr F w w') (hM : MapIs w m f N) (hF : ¬ F m) : MapIs w' m f N := by
  obtain ⟨n, D, h1, ⟨es, c, hb, q⟩, h3⟩ := hM
  exact ⟨n, D, h1, ⟨es, c, h.at_ hb hF, q⟩, h3⟩
theorem Fr.cell {p : Addr} {v : Value} (h : Fr F w w') (hc : w.cell? p = some v) (hF : ¬ F p.block) : w'.cell? p = some v := by
  have hlt : p.block < w.heap.size := by
    rcases Nat.lt_or_ge p.block w.heap.size with h' | h'
    · exact h'
    · simp [World.cell?, Array.getElem?_eq_none h'] at hc
  rw [World.cell?_of_block (h.block _ hlt hF)]
  exact hc
theorem Fr.setCell (w : World) (g j : Nat) (v : Value) : Fr (fun b => b = g) w (w.setCell ⟨g, j, none⟩ v) :=
  (Fr.grown (grown_setCell w g j v)).mono (fun b _ e => by simpa using e)
/-- A device's footprint. -/
def DevF (w : World) (g m : Nat) : Nat → Prop := fun b => b = g ∨ b = m ∨ ∃ cs fz, w.heap[b]? = some (.cells cs 100 fz)
theorem Fr.kept (h : Kept n0 g m w w') : Fr (DevF w g m) w w' :=
  ⟨h.below.os, h.below.tape, h.below.output, h.below.size, fun k hk hF => by
    obtain ⟨o, ho⟩ : ∃ o, w.heap[k]? = some o := ⟨_, Array.getElem?_eq_getElem hk⟩
    rw [ho]
    exact h.at_ ho (fun e => hF (Or.inl e)) (fun e => hF (Or.inr (Or.inl e))) (fun cs fz e => hF (Or.inr (Or.inr ⟨cs, fz, e ▸ ho⟩)))⟩
theorem DevAt.fr {v kv : Value} (h : DevAt n0 w g m v kv d) (hf : Fr F w w') (h2 : ¬ F g) (h3 : ¬ F m) (h4 : ∀ b cs fz, w.heap[b]? = some (.cells cs 100 fz) → ¬ F b) (h5 : ∀ b, kv.ownBlock = some b → ¬ F b) : DevAt n0 w' g m v kv d := by
  unfold DevAt at h ⊢
  obtain ⟨q1, q2, q3, q4, q5, q6, q7⟩ := h
  refine ⟨q1, hf.blk q2 h2, hf.map q3 h3, hf.own q4 (fun b e => ?_), hf.own q5 h5, q6, Nat.le_trans q7 hf.size⟩
  rcases q4.2 with ⟨e1, _⟩ | ⟨g', cap, cur, hv', hg', hh, q⟩
  · rw [e1] at e; cases e
  · rw [hv'] at e
    injection e with e
    subst e
    exact h4 _ _ _ hh
theorem Tw.fr (h : Tw n0 w ga g m a d) (hf : Fr F w w') (h1 : ¬ F ga) (h2 : ¬ F g) (h3 : ¬ F m) (h4 : ∀ b cs fz, w.heap[b]? = some (.cells cs 100 fz) → ¬ F b)
    (h5 : ∀ kv b, w.cell? ⟨g, 5, none⟩ = some kv → kv.ownBlock = some b → ¬ F b) (h6 : ∀ b, F b → n0 ≤ b) : Tw n0 w' ga g m a d := by
  obtain ⟨q1, ⟨⟨v, kv, hD⟩, q2⟩, q3, q4, q5⟩ := h
  have hc := hD.cells.1.2.2.2.2.2.1
  refine ⟨?_, ⟨⟨v, kv, hD.fr hf h2 h3 h4 (fun b e => h5 kv b hc e)⟩, q2⟩, q3, ?_, q5⟩
  · unfold Ar at *
    exact hf.blk q1 h1
  · intro i hi
    refine hf.cell (q4 i hi) (fun e => ?_)
    have := h6 _ e
    dsimp only at this
    omega
end
end
end Go.Proofs.YtjlcbabnkhdgpaaGreatDoor
namespace Go.Proofs.YtjlcbabnkhdgpaaGreatDoor
section
set_option linter.unusedSimpArgs false
set_option linter.unusedVariables false
open Go.RowKit Go.Maps

set_option maxHeartbeats 3200000 in
set_option maxRecDepth 100000 in
theorem msetF_any (base b o x : Nat) (T : TypeId) (cs : Array Value) (v : Value) (l : List (Int × Nat)) (k : Int) (w : World) (hB : Blk w b T cs) (hv : cs[o]? = some v) (hT : T ≠ 118) (ho : w.ownsRow base 118 2 v l.length (prC l)) (hs : Rise l) (hn : l.length ≤ 900000) (hbw : base ≤ w.heap.size) :
    Calls Tryz.prog 38 #[.pointer (some ⟨b, o, none⟩), .int .i64 k, .pointer (some ⟨x, 0, none⟩)] w fun e w' => e = .returned (.tuple #[]) ∧ ∃ v', Blk w' b T (cs.setIfInBounds o v') ∧ w'.ownsRow base 118 2 v' (setL l k x).length (prC (setL l k x)) ∧
      Fr (fun c => c = b ∨ some c = v.ownBlock) w w' ∧ ∀ c, v'.ownBlock = some c → v.ownBlock = some c ∨ w.heap.size ≤ c := by
  have hcell : w.cell? ⟨b, o, none⟩ = some v := by rw [hB.cell]; exact hv
  have hf := findF_any b o v l k w hcell (PrsAt.of_own ho) hs (by omega)
  have hnb : some b ≠ v.ownBlock := hB.notOwn ho hT
  have HB := Lib.hid hB; have HO := Lib.hid ho; have HS := Lib.hid hs; have HV := Lib.hid hv
  have hp := posL_le l k
  cases hh : hasL l k with
  | true =>
    obtain ⟨hi, hk⟩ := hasL_pos hs hh
    rw [hh] at hf
    have hL : setL l k x = l.set (posL l k) (k, x) := by rw [setL, if_pos hh]
    have HL := Lib.hid hL; have HK := Lib.hid (prC_set l (posL l k) k x hi hk)
    rcases ho.2 with ⟨e1, e2⟩ | ⟨g, cap, cur, rfl, _, _, hnc, hcm, _, _⟩
    · omega
    generalize posL l k = p at *
    have hpI : (p : Int) < (l.length : Int) := by omega
    clear hh hk hL hB ho hs hv hcell
    go_enter Tryz.func38, Tryz.ntmps38
    go_wp2_with fail
    refine hf.mono ?_
    clear hf
    rintro e w2 ⟨rfl, hb2⟩
    have hO2 := ownsRow_grown HO.out (grown_of_below hb2 none) (by simp)
    have hB2 := HB.out.up hb2
    have hc2 : w2.cell? ⟨b, o, none⟩ = some (.slice (some ⟨g, 0, none⟩) l.length cap) := by rw [hB2.cell]; exact HV.out
    have hz : (w2.cell? ⟨g, p * 2 + 1, none⟩).isSome = true := by
      have := hO2.cells (g := g) rfl (p * 2 + 1) _ (List.getElem?_eq_getElem (by rw [prC_length]; omega))
      rw [Addr.add0, Nat.zero_add] at this
      rw [this]; rfl
    obtain ⟨u0, hz⟩ := Option.isSome_iff_exists.1 hz
    have hfz := hO2.frozenAt (p * 2 + 1)
    obtain ⟨q1, q2⟩ := hO2.stored (p * 2 + 1) (.pointer (some ⟨x, 0, none⟩))
    have HQ1 := Lib.hid q1; have HQ2 := Lib.hid q2; have HB2 := Lib.hid hB2; have Hb := Lib.hid hb2
    clear q1 q2 hB2 hO2 hb2
    go_wp2_with fail
    go_end0
    refine ⟨rfl, .slice (some ⟨g, 0, none⟩) l.length cap, ?_, ?_, ?_, fun c e => Or.inl e⟩
    · have : cs.setIfInBounds o (.slice (some ⟨g, 0, none⟩) l.length cap) = cs := by
        obtain ⟨ho1, ho2⟩ := Array.getElem?_eq_some_iff.1 HV.out
        apply Array.ext'
        rw [Array.toList_setIfInBounds, ← ho2]
        exact List.set_getElem_self ho1
      rw [this]
      exact HB2.out.grown HQ2.out hnb
    · rw [HL.out, List.length_set, ← HK.out]
      exact HQ1.out
    · exact (Fr.up Hb.out).trans (Fr.grown HQ2.out) (fun _ _ e => Or.inr e)
  | false =>
    rw [hh] at hf
    have hL : setL l k x = l.take (posL l k) ++ [(k, x)] ++ l.drop (posL l k) := by rw [setL, if_neg (by simp [hh])]
    have HL := Lib.hid hL; have HK := Lib.hid (prC_ins l (posL l k) k x (.pointer none) hp)
    obtain ⟨A, cap, hve, _, _⟩ := CellsAt.of_own ho
    subst hve
    generalize posL l k = p at *
    have hpI : (p : Int) ≤ (l.length : Int) := by omega
    clear hh hL hB ho hs hv hcell
    go_enter Tryz.func38, Tryz.ntmps38
    go_wp2_with fail
    refine hf.mono ?_
    clear hf
    rintro e w2 ⟨rfl, hb2⟩
    have hb3 : Below w.heap.size w (w2.alloc (.cells #[.int .i64 k, .pointer none] 118)) := hb2.alloc hb2.size _
    have hO3 := ownsRow_grown HO.out (grown_of_below hb3 none) (by simp)
    have hB3 := HB.out.up hb3
    have hc2 : w2.cell? ⟨b, o, none⟩ = some (.slice A l.length cap) := by rw [(HB.out.up hb2).cell]; exact HV.out
    have hV3 : Blk (w2.alloc (.cells #[.int .i64 k, .pointer none] 118)) w2.heap.size 118 [.int .i64 k, .pointer none].toArray := Blk.made w2 _ _
    have hlt : ∀ c, (Value.slice A l.length cap).ownBlock = some c → c < w2.heap.size := fun c e => Nat.lt_of_lt_of_le (HO.out.lt c e).2 hb2.size
    have hin := insF_any base _ l.length p w2.heap.size (prC l) [.int .i64 k, .pointer none] _ hO3 hp (prC_one l) hV3 (fun e => by have := hlt _ e.symm; omega) rfl (by intro u hu; simp at hu; rcases hu with rfl | rfl <;> rfl) (by omega) (Nat.le_trans hbw hb3.size)
    have HB3 := Lib.hid hB3; have Hb3 := Lib.hid hb3
    clear hO3 hB3 hb3 hV3 hlt hb2
    go_wp2_with fail
    refine hin.mono ?_
    clear hin
    rintro e w4 ⟨v', rfl, q1, q2, q3⟩
    have hB4 := HB3.out.grown q2 hnb
    have hc4 : (w4.cell? ⟨b, o, none⟩).isSome = true := by
      rw [hB4.cell]
      have h := HV.out
      rw [h]; rfl
    obtain ⟨u0, hc4⟩ := Option.isSome_iff_exists.1 hc4
    have hf4 := hB4.frozen o
    rcases q1.2 with ⟨e1, e2⟩ | ⟨g, cap', cur, rfl, _, _, hnc, hcm, _, _⟩
    · omega
    have hnb' : b ≠ g := fun e => (hB4.notOwn q1 hT) (by rw [e]; rfl)
    have hB5 := hB4.set o (.slice (some ⟨g, 0, none⟩) (l.length + 1) cap')
    have hO5 := own_grown q1 hB4 hT (grown_setCell w4 b o (.slice (some ⟨g, 0, none⟩) (l.length + 1) cap'))
    obtain ⟨q5, q6⟩ := hO5.stored (p * 2 + 1) (.pointer (some ⟨x, 0, none⟩))
    have hc5 : (w4.setCell ⟨b, o, none⟩ (.slice (some ⟨g, 0, none⟩) (l.length + 1) cap')).cell? ⟨b, o, none⟩ = some (.slice (some ⟨g, 0, none⟩) (l.length + 1) cap') := World.cell?_setCell_same _ _ _ hc4
    have hz : ((w4.setCell ⟨b, o, none⟩ (.slice (some ⟨g, 0, none⟩) (l.length + 1) cap')).cell? ⟨g, p * 2 + 1, none⟩).isSome = true := by
      rw [hO5.cellAt (p * 2 + 1) (by omega), List.getElem?_eq_getElem (by rw [hO5.1]; omega)]; rfl
    obtain ⟨u1, hz⟩ := Option.isSome_iff_exists.1 hz
    have hfz := hO5.frozenAt (p * 2 + 1)
    have hpI2 : (p : Int) < (l.length : Int) + 1 := by omega
    have HQ5 := Lib.hid q5; have HQ6 := Lib.hid q6; have HB5 := Lib.hid hB5; have HQ2 := Lib.hid q2; have HQ3 := Lib.hid q3
    clear q1 q2 q3 q5 q6 hB4 hB5 hO5
    go_wp2_with fail
    go_end0
    refine ⟨rfl, .slice (some ⟨g, 0, none⟩) (l.length + 1) cap', HB5.out.grown HQ6.out (by simpa using hnb'), ?_, ?_, fun c e => ?_⟩
    · have hlen : (setL l k x).length = l.length + 1 := by
        rw [HL.out]
        simp only [List.length_append, List.length_take, List.length_drop, List.length_cons, List.length_nil]; omega
      rw [hlen, HL.out, ← HK.out]
      exact HQ5.out
    · refine (((Fr.up Hb3.out).trans (Fr.grown HQ2.out) (fun c _ e => Or.inr e)).trans (Fr.setCell w4 b o _) (fun c _ e => Or.inl e)).trans (Fr.grown HQ6.out) (fun c hc e => ?_)
      rcases HQ3.out with h | h
      · exact Or.inr (e.trans h)
      · have h := e.trans h
        injection h with h
        have := Hb3.out.size
        omega
    · rcases HQ3.out with h | h
      · exact Or.inl (h.symm.trans e)
      · have h := h.symm.trans e
        injection h with h
        have := Hb3.out.size
        exact Or.inr (by omega)
set_option maxHeartbeats 3200000 in
set_option maxRecDepth 100000 in
theorem mdelF_any (base b o : Nat) (T : TypeId) (cs : Array Value) (v : Value) (l : List (Int × Nat)) (k : Int) (w : World) (hB : Blk w b T cs) (hv : cs[o]? = some v) (hT : T ≠ 118) (ho : w.ownsRow base 118 2 v l.length (prC l)) (hs : Rise l) (hn : l.length ≤ 900000) (hbw : base ≤ w.heap.size) :
    Calls Tryz.prog 64 #[.pointer (some ⟨b, o, none⟩), .int .i64 k] w fun e w' => e = .returned (.bool (hasL l k)) ∧ ∃ v', Blk w' b T (cs.setIfInBounds o v') ∧ w'.ownsRow base 118 2 v' (delL l k).length (prC (delL l k)) ∧
      Fr (fun c => c = b ∨ some c = v.ownBlock) w w' ∧ ∀ c, v'.ownBlock = some c → v.ownBlock = some c ∨ w.heap.size ≤ c := by
  have hcell : w.cell? ⟨b, o, none⟩ = some v := by rw [hB.cell]; exact hv
  have hf := findF_any b o v l k w hcell (PrsAt.of_own ho) hs (by omega)
  have hnb : some b ≠ v.ownBlock := hB.notOwn ho hT
  have HB := Lib.hid hB; have HO := Lib.hid ho; have HS := Lib.hid hs; have HV := Lib.hid hv
  have hp := posL_le l k
  cases hh : hasL l k with
  | true =>
    obtain ⟨hi, hk⟩ := hasL_pos hs hh
    rw [hh] at hf
    have hL : delL l k = l.take (posL l k) ++ l.drop (posL l k + 1) := by rw [delL, if_pos hh]
    have HL := Lib.hid hL; have HK := Lib.hid (prC_del l (posL l k))
    rcases ho.2 with ⟨e1, e2⟩ | ⟨g, cap, cur, rfl, _, _, hnc, hcm, _, _⟩
    · omega
    generalize posL l k = p at *
    obtain ⟨q, hq⟩ : ∃ q, l.length = q + 1 := ⟨l.length - 1, by omega⟩
    have HQ := Lib.hid hq
    rw [hq] at ho hn hnb hv
    have HO1 := Lib.hid ho; have HV1 := Lib.hid hv
    have hpw : IntKind.i64.wrap ((p : Int) + 1) = (p : Int) + 1 := wrap_i64_in _ (by omega)
    have hpq : p ≤ q := by omega
    clear hh hk hL hB ho hs hv hcell HO HV hq hp hi hnc
    go_enter Tryz.func64, Tryz.ntmps64
    go_wp2_with fail
    refine hf.mono ?_
    clear hf
    rintro e w2 ⟨rfl, hb2⟩
    have hO2 := ownsRow_grown HO1.out (grown_of_below hb2 none) (by simp)
    have hB2 := HB.out.up hb2
    have hc2 : w2.cell? ⟨b, o, none⟩ = some (.slice (some ⟨g, 0, none⟩) (q + 1) cap) := by rw [hB2.cell]; exact HV1.out
    have hd := delF_any base g cap q p (prC l) w2 hO2 hpq (prC_one l)
    have HB2 := Lib.hid hB2; have Hb := Lib.hid hb2
    clear hB2 hO2 hb2
    go_wp2_with fail
    refine hd.mono ?_
    clear hd
    rintro e w3 ⟨rfl, q1, q2⟩
    have hB3 := HB2.out.grown q2 hnb
    have hc3 : w3.cell? ⟨b, o, none⟩ = some (.slice (some ⟨g, 0, none⟩) (q + 1) cap) := by rw [hB3.cell]; exact HV1.out
    have hf3 := hB3.frozen o
    have hB4 := hB3.set o (.slice (some ⟨g, 0, none⟩) q cap)
    have hO4 := own_grown q1 hB3 hT (grown_setCell w3 b o (.slice (some ⟨g, 0, none⟩) q cap))
    have HB4 := Lib.hid hB4; have HO4 := Lib.hid hO4; have HQ2 := Lib.hid q2
    clear hB3 hB4 hO4 q1 q2 hc2
    go_wp2_with fail
    go_ret
    refine ⟨rfl, .slice (some ⟨g, 0, none⟩) q cap, HB4.out, ?_, ?_, fun c e => Or.inl e⟩
    · have hlen : (delL l k).length = q := by
        rw [HL.out, List.length_append, List.length_take, List.length_drop, HQ.out]; omega
      rw [hlen, HL.out, ← HK.out]
      exact HO4.out
    · exact ((Fr.up Hb.out).trans (Fr.grown HQ2.out) (fun c _ e => Or.inr e)).trans (Fr.setCell w3 b o _) (fun c _ e => Or.inl e)
  | false =>
    rw [hh] at hf
    have HL := Lib.hid (show delL l k = l by rw [delL, if_neg (by simp [hh])])
    clear hh hB ho hs hv hcell
    go_enter Tryz.func64, Tryz.ntmps64
    go_wp2_with fail
    refine hf.mono ?_
    clear hf
    rintro e w2 ⟨rfl, hb2⟩
    have Hb := Lib.hid hb2
    clear hb2
    go_wp2_with fail
    go_ret
    refine ⟨rfl, v, ?_, ?_, Fr.up Hb.out, fun c e => Or.inl e⟩
    · have : cs.setIfInBounds o v = cs := by
        obtain ⟨ho1, ho2⟩ := Array.getElem?_eq_some_iff.1 HV.out
        apply Array.ext'
        rw [Array.toList_setIfInBounds, ← ho2]
        exact List.set_getElem_self ho1
      rw [this]
      exact HB.out.up Hb.out
    · rw [HL.out]
      exact ownsRow_grown HO.out (grown_of_below Hb.out none) (by simp)
set_option maxHeartbeats 1600000 in
set_option maxRecDepth 100000 in
theorem eachF_any (v : Value) (l : List (Int × Nat)) (w : World) (hl : CellsAt w v l.length (prC l)) (hn : l.length ≤ 900000) :
    Calls Tryz.prog 63 #[v] w fun e w' => ∃ (Bs : Nat) (v' : Value), e = .returned (.func (.func 90) #[] #[.pointer (some ⟨Bs, 0, none⟩)]) ∧ Blk w' Bs 78 #[v'] ∧ w.heap.size ≤ Bs ∧ w'.ownsRow w.heap.size 118 2 v' l.length (prC l) ∧ Below w.heap.size w w' := by
  have hc := cloneF_any v l.length (prC l) w hl (prC_length l) (prC_one l) (by omega)
  clear hl
  go_enter Tryz.func63, Tryz.ntmps63
  go_wp2_with fail
  refine hc.mono ?_
  clear hc
  rintro e w2 ⟨v', rfl, ho, hb⟩
  have hB := Blk.made w2 #[v'] 78
  have hb3 : Below w2.heap.size w2 (w2.alloc (.cells #[v'] 78)) := (Below.refl _ _).alloc (Nat.le_refl _) _
  have HO := Lib.hid (ownsRow_grown ho (grown_of_below hb3 none) (by simp))
  have HB := Lib.hid hB
  have Hb := Lib.hid (hb.trans (hb3.mono hb.size))
  have Hs := Lib.hid hb.size
  obtain ⟨A, c, hv, _⟩ := CellsAt.of_own ho
  subst hv
  clear ho hB hb hb3
  go_wp2_with fail
  go_ret
  exact ⟨_, _, rfl, HB.out, Hs.out, HO.out, Hb.out⟩
set_option maxRecDepth 100000 in
theorem mallF_any (b o : Nat) (v : Value) (l : List (Int × Nat)) (w : World) (hm : w.cell? ⟨b, o, none⟩ = some v) (hl : CellsAt w v l.length (prC l)) (hn : l.length ≤ 900000) :
    Calls Tryz.prog 41 #[.pointer (some ⟨b, o, none⟩)] w fun e w' => ∃ (Bs : Nat) (v' : Value), e = .returned (.func (.func 90) #[] #[.pointer (some ⟨Bs, 0, none⟩)]) ∧ Blk w' Bs 78 #[v'] ∧ w.heap.size ≤ Bs ∧ w'.ownsRow w.heap.size 118 2 v' l.length (prC l) ∧ Below w.heap.size w w' := by
  have hc := eachF_any v l w hl hn
  clear hl
  go_enter Tryz.func41, Tryz.ntmps41
  go_wp2_with fail
  refine hc.mono ?_
  clear hc
  rintro e w2 ⟨Bs, v', rfl, hB, hsz, ho, hb⟩
  have HB := Lib.hid hB; have HO := Lib.hid ho; have Hb := Lib.hid hb; have Hs := Lib.hid hsz
  clear hB ho hb hsz
  go_wp2_with fail
  go_ret
  exact ⟨Bs, v', rfl, HB.out, Hs.out, HO.out, Hb.out⟩
end
end Go.Proofs.YtjlcbabnkhdgpaaGreatDoor
namespace Go.Proofs.YtjlcbabnkhdgpaaGreatDoor
section
set_option linter.unusedSimpArgs false
set_option linter.unusedVariables false
open Go.RowKit Go.Shelf
attribute [local go_sem] Oper.semAt_some

set_option maxRecDepth 100000 in
set_option maxHeartbeats 2000000 in
theorem each1F_in {α : Type} (val : α → Int × Nat) (F : Fence) (n : Nat) (hf : F.fn 90) (hro : F.round = none) (hn : 1 ≤ n) (l Bs b cap : Nat) (S : Nat → Prop) (xs : List α) (hreach : xs.length ≤ 1000000) (hb : S b) (hBn : S Bs) (J Jx : List α → World → Prop)
    (hY : ∀ pre x W, J pre W → pre.length < xs.length → YieldAt F (n - 1) Tryz.prog l (prEnc (val x)) W fun e W' =>
      (e = .returned (.bool true) ∧ J (pre ++ [x]) W' ∧ KpB S W W') ∨ (e = .returned (.bool false) ∧ Jx (pre ++ [x]) W'))
    (W : World) (hJ : AbidesFrom W.heap.size J) (hS : ∀ k, S k → k < W.heap.size) (hBs : W.cell? ⟨Bs, 0, none⟩ = some (.slice (some ⟨b, 0, none⟩) xs.length cap))
    (hc : ∀ j (hj : j < xs.length), W.cell? ⟨b, j * 2, none⟩ = some (.int .i64 (val xs[j]).1) ∧ W.cell? ⟨b, j * 2 + 1, none⟩ = some (.pointer (some ⟨(val xs[j]).2, 0, none⟩))) (h0 : J [] W) :
    CallsIn F n Tryz.prog 90 #[.func (.yield l) #[] #[], .pointer (some ⟨Bs, 0, none⟩)] W fun e W' => (∃ v, e = .returned v) ∧
      (J xs W' ∨ (∃ pre, (∃ k, k ≤ xs.length ∧ pre = xs.take k) ∧ Jx pre W')) := by
  refine callsIn_of_wp Tryz.func90 rfl hf ?_ hro
  simp only [Tryz.ntmps90, List.size_toArray, List.length_cons, List.length_nil, Nat.reduceAdd, Nat.reduceSub, Array.replicate_succ, Array.replicate_zero, List.push_toArray, List.append_toArray, List.nil_append, List.cons_append]
  gi_wp2
  gi_loopw [7] (fun i wr => ∃ k : Nat, k ≤ xs.length ∧ i = .int .i64 (k : Int) ∧ J (xs.take k) wr ∧ KpB S W wr)
    (fun i _ => (xs.length - intOf i).toNat)
  case atStart => exact ⟨0, Nat.zero_le _, rfl, h0, KpB.refl _ _⟩
  case round =>
    obtain ⟨k, hk, rfl, hJs, hnx⟩ := hrel
    by_cases hlt : k < xs.length
    · have hltI : (k : Int) < (xs.length : Int) := by omega
      have hb1 := (hnx.cell (p := ⟨b, k * 2, none⟩) hb).trans (hc k hlt).1
      have hb2 := (hnx.cell (p := ⟨b, k * 2 + 1, none⟩) hb).trans (hc k hlt).2
      have hsucc : xs.take (k + 1) = xs.take k ++ [xs[k]] := (List.take_append_getElem hlt).symm
      obtain ⟨x, hx⟩ : ∃ x, x = xs[k] := ⟨_, rfl⟩
      rw [← hx] at hb1 hb2 hsucc
      have HS := Lib.hid hsucc
      clear hx hsucc
      have hJ1 : J (xs.take k) (wr.alloc (.cells #[.int .i64 (val x).1, .pointer (some ⟨(val x).2, 0, none⟩)] 118)) :=
        hJ _ _ _ none hJs (grown_of_below ((Below.refl _ _).alloc (Nat.le_refl _) _) none) (fun r e => by cases e)
      have hBx := Blk.made wr #[.int .i64 (val x).1, .pointer (some ⟨(val x).2, 0, none⟩)] 118
      have k0 : (wr.alloc (.cells #[.int .i64 (val x).1, .pointer (some ⟨(val x).2, 0, none⟩)] 118)).cell? ⟨wr.heap.size, 0, none⟩ = some (.int .i64 (val x).1) := hBx.cell 0
      have k1 : (wr.alloc (.cells #[.int .i64 (val x).1, .pointer (some ⟨(val x).2, 0, none⟩)] 118)).cell? ⟨wr.heap.size, 1, none⟩ = some (.pointer (some ⟨(val x).2, 0, none⟩)) := hBx.cell 1
      have hnx1 : KpB S W (wr.alloc (.cells #[.int .i64 (val x).1, .pointer (some ⟨(val x).2, 0, none⟩)] 118)) := hnx.trans (KpB.below ((Below.refl _ _).alloc (Nat.le_refl _) _) (fun k hk => Nat.lt_of_lt_of_le (hS k hk) hnx.1))
      have hlk : (xs.take k).length < xs.length := by rw [List.length_take]; omega
      obtain ⟨fn, tmps, assign, body, hy, hR⟩ := hY _ x _ hJ1 hlk
      unfold prEnc at hy
      have HN := Lib.hid hnx1
      clear hJ1 hBx hnx1 hlk hJs hnx
      gi_wp2
      refine hR.mono ?_
      rintro e W3 (⟨rfl, hJ3, hk3⟩ | ⟨rfl, hJx3⟩)
      · gi_wp2
        go_roundw
        case rel => exact ⟨k + 1, by omega, by congr 1, by rw [HS.out]; exact hJ3, HN.out.trans hk3⟩
        case measure => simp [intOf]; omega
      · gi_wp2
        refine bodyPost_ret (results_none rfl _ _ _) rfl ?_
        exact ⟨⟨_, rfl⟩, .inr ⟨_, ⟨k + 1, by omega, rfl⟩, by rw [HS.out]; exact hJx3⟩⟩
    · obtain rfl : k = xs.length := by omega
      rw [List.take_length] at hJs
      have hltI : ¬ ((xs.length : Int) < (xs.length : Int)) := by omega
      gi_wp2
      go_end0
      exact ⟨⟨_, rfl⟩, .inl hJs⟩
set_option maxRecDepth 100000 in
set_option maxHeartbeats 1000000 in
theorem each1F_nil_in {α : Type} (F : Fence) (n : Nat) (hf : F.fn 90) (hro : F.round = none) (l Bs : Nat) (J : List α → World → Prop) (W : World) (hBs : W.cell? ⟨Bs, 0, none⟩ = some (.slice none 0 0)) (h0 : J [] W) :
    CallsIn F n Tryz.prog 90 #[.func (.yield l) #[] #[], .pointer (some ⟨Bs, 0, none⟩)] W fun e W' => (∃ v, e = .returned v) ∧ J [] W' := by
  refine callsIn_of_wp Tryz.func90 rfl hf ?_ hro
  simp only [Tryz.ntmps90, List.size_toArray, List.length_cons, List.length_nil, Nat.reduceAdd, Nat.reduceSub, Array.replicate_succ, Array.replicate_zero, List.push_toArray, List.append_toArray, List.nil_append, List.cons_append]
  gi_wp2
  gi_loopw [7] (fun i wr => i = .int .i64 0 ∧ J [] wr) (fun _ _ => 0)
  case atStart => exact ⟨rfl, h0⟩
  case round =>
    obtain ⟨rfl, hJs⟩ := hrel
    gi_wp2
    go_end0
    exact ⟨⟨_, rfl⟩, hJs⟩
theorem each1F_stops {α : Type} (val : α → Int × Nat) (F : Fence) (n : Nat) (hf : F.fn 90) (hro : F.round = none) (hn : 1 ≤ n) (Bs : Nat) (v : Value) (xs : List α) (hreach : xs.length ≤ 1000000) (w : World) (hBs : Bs < w.heap.size)
    (hc : w.cell? ⟨Bs, 0, none⟩ = some v) (hI : Prw w.heap.size w v (xs.map val)) :
    SeqStopsK F n Tryz.prog 90 #[.pointer (some ⟨Bs, 0, none⟩)] (fun x => prEnc (val x)) (KpB (fun k => k = Bs ∨ some k = v.ownBlock)) (fun ys => ys = xs) (fun pre => ∃ k, k ≤ xs.length ∧ pre = xs.take k) xs.length w := fun l J Jx W hW hJ _ hY h0 => by
  have hc' := (hW.cell (p := ⟨Bs, 0, none⟩) hBs).trans hc
  rcases hI.below hW with ⟨rfl, e0⟩ | ⟨b, cap, rfl, hb, hcs⟩
  · obtain rfl : xs = [] := List.map_eq_nil_iff.1 e0
    exact (each1F_nil_in F n hf hro l Bs J W hc' h0).mono fun e W' ⟨he, hj⟩ => ⟨he, .inl ⟨_, rfl, hj⟩⟩
  · rw [List.length_map] at hc'
    refine (each1F_in val F n hf hro hn l Bs b cap _ xs hreach (Or.inr rfl) (Or.inl rfl) J Jx hY W hJ (fun k hk => by
      have := hW.size
      rcases hk with e | e
      · omega
      · injection e with e
        have e2 : k = b := e
        omega) hc' (fun j hj => by have := hcs j (by rw [List.length_map]; exact hj); simpa using this) h0).mono fun e W' ⟨he, hj⟩ => ⟨he, ?_⟩
    rcases hj with h | h
    · exact .inl ⟨_, rfl, h⟩
    · exact .inr h
end
end Go.Proofs.YtjlcbabnkhdgpaaGreatDoor
namespace Go.Proofs.YtjlcbabnkhdgpaaGreatDoor
section
set_option linter.unusedSimpArgs false
set_option linter.unusedVariables false
open Go.RowKit Go.Maps Go.Shelf
attribute [local go_sem] Oper.semAt_some

def dropL (xs : List Int) (x : Int) : List Int := if x ∈ xs then xs.take (xs.idxOf x) ++ xs.drop (xs.idxOf x + 1) else xs
def idxR (xs : List Int) (x : Int) : Int := if x ∈ xs then (xs.idxOf x : Int) else -1
def useL (xs : List Int) (x : Int) : List Int := dropL xs x ++ [x]
theorem elI : El Tryz.prog 22 3 1 8 := El.of Tryz.underlying22 (by decide) (by kernel_rfl)
abbrev Ints (base : Nat) (w : World) (v : Value) (xs : List Int) : Prop := w.ownsRow base 3 1 v xs.length (xs.map (Value.int .i64))
theorem ints_one (xs : List Int) : ∀ u ∈ xs.map (Value.int .i64), u.oneCell' = true := fun u hu => by obtain ⟨x, _, rfl⟩ := List.mem_map.1 hu; rfl
set_option maxHeartbeats 1600000 in
set_option maxRecDepth 100000 in
theorem idxi_any (v : Value) (xs : List Int) (x : Int) (w : World) (hs : IntsAt w v xs) (hn : xs.length ≤ 1000000) :
    Calls Tryz.prog 87 #[v, .int .i64 x] w fun e w' => e = .returned (.int .i64 (idxR xs x)) ∧ w = w' := by
  obtain ⟨A, cap, rfl, h1, h2⟩ := hs
  have H2 := Lib.hid h2
  clear h2
  go_enter Tryz.func87, Tryz.ntmps87
  go_wp2_with fail
  go_loopg [8] xs.length (fun gh i wr => ∃ k : Nat, k ≤ xs.length ∧ gh = xs.length - k ∧ i = .int .i64 (k : Int) ∧ x ∉ xs.take k ∧ wr = w)
  case atStart => exact ⟨0, Nat.zero_le _, rfl, rfl, by simp, rfl⟩
  case round =>
    obtain ⟨k, hk, rfl, rfl, hno, rfl⟩ := hrel
    have HNO := Lib.hid hno
    clear hno
    by_cases hlt : k < xs.length
    · have hltI : (k : Int) < (xs.length : Int) := by omega
      cases A with
      | none => obtain ⟨_, e⟩ := h1 rfl; rw [e] at hlt; simp at hlt
      | some ad =>
        have y0 := H2.out ad rfl k (.int .i64 xs[k]) (by simp [hlt])
        have hxk : xs.take (k + 1) = xs.take k ++ [xs[k]] := (List.take_append_getElem hlt).symm
        have hid : x = xs[k] → x ∈ xs ∧ xs.idxOf x = k := fun e => by
          refine ⟨by rw [e]; exact List.getElem_mem hlt, ?_⟩
          have h3 : xs = xs.take k ++ xs.drop k := (List.take_append_drop k xs).symm
          rw [h3, List.idxOf_append, if_neg HNO.out, List.length_take, List.drop_eq_getElem_cons hlt, ← e, List.idxOf_cons_self]
          omega
        obtain ⟨y, hy⟩ : ∃ y, y = xs[k] := ⟨_, rfl⟩
        rw [← hy] at y0 hid hxk
        have HID := Lib.hid hid; have HXK := Lib.hid hxk
        clear hy hid hxk
        by_cases hxy : x = y
        · have hR := Lib.hid (HID.out hxy)
          subst hxy
          go_wp2_with fail
          go_ret
          exact ⟨by rw [idxR, if_pos hR.out.1, hR.out.2]; rfl, rfl⟩
        · go_wp2_with fail
          go_roundg (xs.length - (k + 1))
          case measure => omega
          case rel => exact ⟨k + 1, by omega, rfl, by go_num, by rw [HXK.out, List.mem_append]; rintro (h | h); exact HNO.out h; exact hxy (by simpa using h), rfl⟩
    · have hltI : ¬ ((k : Int) < (xs.length : Int)) := by omega
      have hkl : k = xs.length := by omega
      have hR := Lib.hid (show x ∉ xs from by have := HNO.out; rwa [hkl, List.take_length] at this)
      go_wp2_with fail
      go_ret
      exact ⟨by rw [idxR, if_neg hR.out]; rfl, rfl⟩
set_option maxHeartbeats 4000000 in
set_option maxRecDepth 100000 in
theorem deli_any (base g cap p i : Nat) (xs : List Value) (w : World) (ho : w.ownsRow base 3 1 (.slice (some ⟨g, 0, none⟩) (p + 1) cap) (p + 1) xs) (hi : i ≤ p) (h1 : ∀ u ∈ xs, u.oneCell' = true) :
    Calls Tryz.prog 88 #[.slice (some ⟨g, 0, none⟩) (p + 1) cap, .int .i64 (i : Int), .int .i64 ((i : Int) + 1)] w fun e w' => e = .returned (.slice (some ⟨g, 0, none⟩) p cap) ∧ w'.ownsRow base 3 1 (.slice (some ⟨g, 0, none⟩) p cap) p (xs.take i ++ xs.drop (i + 1)) ∧ w.grownBy w' (some g) := by
  have hbd : Below w.heap.size w w.drew := (Below.refl _ w).drew
  have hod := ownsRow_grown ho (grown_of_below hbd none) (by simp)
  obtain ⟨z, hap, hcl, q1, q2⟩ := row_cut1 elI base g p cap i xs w.drew hod hi h1
  simp only [Nat.mul_one] at hap hcl q1 q2
  have Q1 := Lib.hid q1
  have Q2 := Lib.hid (grown_trans (grown_of_below hbd (some g)) q2)
  obtain ⟨g', cur, e, hB, hbg, hnc, hcm, hcs, htk⟩ := own_block ho
  cases e
  have hx0 : ∀ j u, xs[j]? = some u → w.cell? ⟨g, j, none⟩ = some u := fun j u hu => by
    obtain ⟨A, c, e1, _, e3⟩ := CellsAt.of_own ho
    injection e1 with e1 _ _
    have := e3 _ e1.symm j u hu
    rwa [Addr.add0, Nat.zero_add] at this
  have hxl := ho.1
  obtain ⟨A, hA, hsrc⟩ : ∃ A : Addr, (if cap = i + 1 then some (⟨g, 0, none⟩ : Addr) else some ⟨g, i + 1, none⟩) = some A ∧ Hid (∀ j u, (xs.drop (i + 1))[j]? = some u → w.drew.cell? (A.add j) = some u) := by
    by_cases h : cap = i + 1
    · refine ⟨⟨g, 0, none⟩, by simp [h], Lib.hid fun j u hu => ?_⟩
      rw [List.drop_of_length_le (by omega)] at hu
      simp at hu
    · refine ⟨⟨g, i + 1, none⟩, by simp [h], Lib.hid fun j u hu => ?_⟩
      rw [Addr.add0]
      rw [List.getElem?_drop] at hu
      exact hx0 _ u hu
  unfold maxLen at hcm
  have hip : (i : Int) ≤ (p : Int) := by omega
  have hip2 : (i : Int) < (p : Int) + 1 := by omega
  have hic : i ≤ cap := by omega
  have hi2 : (i : Int) + 1 ≤ (p : Int) + 1 := by omega
  have hb1 : ¬ ((i : Int) = (i : Int) + 1) := by omega
  have htn : ((i : Int) + 1).toNat = i + 1 := by omega
  have hb7 : (0 : Int) ≤ (i : Int) + 1 := by omega
  have hpc : ¬ (cap = p) := by omega
  have hpc2 : p ≤ cap := by omega
  have hpc3 : p < cap := by omega
  obtain ⟨W1, hW1⟩ : ∃ W1, W1 = w.drew.setCells g i (xs.drop (i + 1)) := ⟨_, rfl⟩
  rw [← hW1] at hap hcl Q1 Q2
  obtain ⟨Z, hZ⟩ : ∃ Z, Z = (Builtin.zeroCells z.cells 1).toList := ⟨_, rfl⟩
  rw [← hZ] at hcl Q1 Q2
  clear hZ
  clear ho hod q1 q2 hB hcs htk hbd hbg h1 hW1 hx0 hxl
  have mixed : Tryz.prog.follows .mixedOrders = true := by kernel_rfl
  go_enter Tryz.func88, Tryz.ntmps88
  go_wp2_with fail
  go_region_law_o (refine step_append_runI rfl (.tmp 22) (.tmp 25) 22 22 rfl (.slice (some ⟨g, 0, none⟩) i cap) (.slice (some A) (p - i) (cap - (i + 1))) (by simp [Act.eval, Act.put]) (by simp [Act.eval, Act.put]) (hap 22 A (cap - (i + 1)) hsrc.out) ?_)
  go_wp2_with fail
  go_ret
  exact ⟨rfl, Q1.out, Q2.out⟩
set_option maxHeartbeats 3200000 in
set_option maxRecDepth 100000 in
theorem rdrop_any (base b o : Nat) (T : TypeId) (cs : Array Value) (v : Value) (xs : List Int) (x : Int) (w : World) (hB : Blk w b T cs) (hv : cs[o]? = some v) (hT : T ≠ 3) (ho : Ints base w v xs) (hn : xs.length ≤ 900000) :
    Calls Tryz.prog 62 #[.pointer (some ⟨b, o, none⟩), .int .i64 x] w fun e w' => (∃ v, e = .returned v) ∧ ∃ v', Blk w' b T (cs.setIfInBounds o v') ∧ Ints base w' v' (dropL xs x) ∧
      Fr (fun c => c = b ∨ some c = v.ownBlock) w w' ∧ ∀ c, v'.ownBlock = some c → v.ownBlock = some c := by
  have hcell : w.cell? ⟨b, o, none⟩ = some v := by rw [hB.cell]; exact hv
  have hf := idxi_any v xs x w (IntsAt.of_own ho) (by omega)
  have hnb : some b ≠ v.ownBlock := hB.notOwn ho hT
  have HB := Lib.hid hB; have HO := Lib.hid ho; have HV := Lib.hid hv
  by_cases hx : x ∈ xs
  · rw [idxR, if_pos hx] at hf
    have hi : xs.idxOf x < xs.length := List.idxOf_lt_length_iff.2 hx
    have HL := Lib.hid (show dropL xs x = xs.take (xs.idxOf x) ++ xs.drop (xs.idxOf x + 1) by rw [dropL, if_pos hx])
    rcases ho.2 with ⟨e1, e2⟩ | ⟨g, cap, cur, rfl, _, _, hnc, hcm, _, _⟩
    · omega
    generalize xs.idxOf x = p at *
    obtain ⟨q, hq⟩ : ∃ q, xs.length = q + 1 := ⟨xs.length - 1, by omega⟩
    have HQ := Lib.hid hq
    unfold Ints at ho
    rw [hq] at ho hn hnb hv
    have HO1 := Lib.hid ho; have HV1 := Lib.hid hv
    have hpw : IntKind.i64.wrap ((p : Int) + 1) = (p : Int) + 1 := wrap_i64_in _ (by omega)
    have hpq : p ≤ q := by omega
    have hp0 : (0 : Int) ≤ (p : Int) := by omega
    clear hx hB ho hv HO HV hq hi hnc
    go_enter Tryz.func62, Tryz.ntmps62
    go_wp2_with fail
    refine hf.mono ?_
    clear hf
    rintro e w2 ⟨rfl, rfl⟩
    have hd := deli_any base g cap q p (xs.map (Value.int .i64)) w HO1.out hpq (ints_one xs)
    have hc2 : w.cell? ⟨b, o, none⟩ = some (.slice (some ⟨g, 0, none⟩) (q + 1) cap) := by rw [HB.out.cell]; exact HV1.out
    clear hcell
    go_wp2_with fail
    refine hd.mono ?_
    clear hd
    rintro e w3 ⟨rfl, q1, q2⟩
    have hB3 := HB.out.grown q2 hnb
    have hc3 : w3.cell? ⟨b, o, none⟩ = some (.slice (some ⟨g, 0, none⟩) (q + 1) cap) := by rw [hB3.cell]; exact HV1.out
    have hf3 := hB3.frozen o
    have hB4 := hB3.set o (.slice (some ⟨g, 0, none⟩) q cap)
    have hO4 := own_grown q1 hB3 hT (grown_setCell w3 b o (.slice (some ⟨g, 0, none⟩) q cap))
    have HB4 := Lib.hid hB4; have HO4 := Lib.hid hO4; have HQ2 := Lib.hid q2
    clear hB3 hB4 hO4 q1 q2 hc2
    go_wp2_with fail
    go_ret
    refine ⟨⟨_, rfl⟩, .slice (some ⟨g, 0, none⟩) q cap, HB4.out, ?_, ?_, fun c e => e⟩
    · have hlen : (dropL xs x).length = q := by
        rw [HL.out, List.length_append, List.length_take, List.length_drop, HQ.out]; omega
      unfold Ints
      rw [hlen, HL.out, List.map_append, List.map_take, List.map_drop]
      exact HO4.out
    · exact (Fr.grown HQ2.out).mono (fun c _ e => Or.inr e) |>.trans (Fr.setCell w3 b o _) (fun c _ e => Or.inl e)
  · rw [idxR, if_neg hx] at hf
    have HL := Lib.hid (show dropL xs x = xs by rw [dropL, if_neg hx])
    clear hx hB ho hv
    go_enter Tryz.func62, Tryz.ntmps62
    go_wp2_with fail
    refine hf.mono ?_
    clear hf
    rintro e w2 ⟨rfl, rfl⟩
    go_wp2_with fail
    go_ret
    refine ⟨⟨_, rfl⟩, v, ?_, ?_, Fr.refl _ _, fun c e => e⟩
    · have : cs.setIfInBounds o v = cs := by
        obtain ⟨ho1, ho2⟩ := Array.getElem?_eq_some_iff.1 HV.out
        apply Array.ext'
        rw [Array.toList_setIfInBounds, ← ho2]
        exact List.set_getElem_self ho1
      rw [this]
      exact HB.out
    · unfold Ints
      rw [HL.out]
      exact HO.out
theorem dropL_length (xs : List Int) (x : Int) : (dropL xs x).length ≤ xs.length := by
  unfold dropL
  split
  · simp only [List.length_append, List.length_take, List.length_drop]; omega
  · exact Nat.le_refl _
set_option maxHeartbeats 3200000 in
set_option maxRecDepth 100000 in
theorem ruse_any (base b o : Nat) (T : TypeId) (cs : Array Value) (v : Value) (xs : List Int) (x : Int) (w : World) (hB : Blk w b T cs) (hv : cs[o]? = some v) (hT : T ≠ 3) (ho : Ints base w v xs) (hn : xs.length ≤ 900000) (hbw : base ≤ w.heap.size) :
    Calls Tryz.prog 39 #[.pointer (some ⟨b, o, none⟩), .int .i64 x] w fun e w' => e = .returned (.tuple #[]) ∧ ∃ v', Blk w' b T (cs.setIfInBounds o v') ∧ Ints base w' v' (useL xs x) ∧
      Fr (fun c => c = b ∨ some c = v.ownBlock) w w' ∧ ∀ c, v'.ownBlock = some c → v.ownBlock = some c ∨ w.heap.size ≤ c := by
  have hd := rdrop_any base b o T cs v xs x w hB hv hT ho hn
  have hol : o < cs.size := (Array.getElem?_eq_some_iff.1 hv).1
  have hxl := dropL_length xs x
  clear hB hv ho
  go_enter Tryz.func39, Tryz.ntmps39
  go_wp2_with fail
  refine hd.mono ?_
  clear hd
  rintro e w2 ⟨⟨u, rfl⟩, v2, hB2, hO2, hF2, hv2⟩
  have hc2 : w2.cell? ⟨b, o, none⟩ = some v2 := by rw [hB2.cell]; simp [hol]
  have hb3 : Below w2.heap.size w2 (w2.alloc (.cells #[.int .i64 x] 3)) := (Below.refl _ _).alloc (Nat.le_refl _) _
  have hO3 := ownsRow_grown hO2 (grown_of_below hb3 none) (by simp)
  have hB3 := hB2.up hb3
  have hV3 : Blk (w2.alloc (.cells #[.int .i64 x] 3)) w2.heap.size 3 [Value.int .i64 x].toArray := Blk.made w2 _ _
  obtain ⟨v', w4, hr, q1, q2, q3⟩ := row_append elI 22 base v2 (dropL xs x).length 1 _ [Value.int .i64 x] (.slice (some ⟨w2.heap.size, 0, none⟩) 1 1) _ hO3 ⟨_, _, rfl, (fun h => by cases h), fun ad e => by cases e; exact hV3.news⟩ rfl (by intro u hu; simp at hu; subst hu; rfl) (by omega) (by decide) (Nat.le_trans hbw (Nat.le_trans hF2.size hb3.size))
  have hnb : some b ≠ v2.ownBlock := hB3.notOwn hO3 hT
  have hB4 := hB3.grown q2 hnb
  have hc4 : (w4.cell? ⟨b, o, none⟩).isSome = true := by rw [hB4.cell, Array.getElem?_eq_getElem (by simpa using hol)]; rfl
  obtain ⟨u0, hc4⟩ := Option.isSome_iff_exists.1 hc4
  have hf4 := hB4.frozen o
  obtain ⟨A', c', hve, _, _⟩ := CellsAt.of_own q1
  subst hve
  have hB5 := hB4.set o (.slice A' ((dropL xs x).length + 1) c')
  have hO5 := own_grown q1 hB4 hT (grown_setCell w4 b o (.slice A' ((dropL xs x).length + 1) c'))
  obtain ⟨A2, c2, hve2, _, _⟩ := CellsAt.of_own hO2
  have HB5 := Lib.hid hB5; have HO5 := Lib.hid hO5; have HF2 := Lib.hid hF2; have HQ2 := Lib.hid q2; have HQ3 := Lib.hid q3; have Hv2 := Lib.hid hv2; have Hb3 := Lib.hid hb3
  subst hve2
  clear hB2 hO2 hF2 hb3 hO3 hB3 hV3 q1 q2 q3 hB4 hB5 hO5 hv2
  go_wp2_with (at_builtin; refine Lib.wpList_append_run _ rfl _ _ _ _ rfl _ _ rfl rfl _ _ hr ?_)
  go_end0
  refine ⟨rfl, .slice A' ((dropL xs x).length + 1) c', ?_, ?_, ?_, fun c e => ?_⟩
  · have h := HB5.out
    rwa [show ((cs.setIfInBounds o (Value.slice A2 (dropL xs x).length c2)).setIfInBounds o (.slice A' ((dropL xs x).length + 1) c')) = cs.setIfInBounds o (.slice A' ((dropL xs x).length + 1) c') from by apply Array.ext'; simp] at h
  · unfold Ints useL
    rw [List.length_append, List.map_append]
    exact HO5.out
  · refine ((HF2.out.trans (Fr.up (F := fun c => c = b ∨ some c = v.ownBlock) Hb3.out) (fun _ _ e => e)).trans (Fr.grown HQ2.out) (fun c _ e => Or.inr (Hv2.out c e.symm).symm)).trans (Fr.setCell w4 b o _) (fun c _ e => Or.inl e)
  · rcases HQ3.out with h | h
    · exact Or.inl (Hv2.out c (h.symm.trans e))
    · have h := h.symm.trans e
      injection h with h
      have h1 := Hb3.out.size
      have h2 := HF2.out.size
      exact Or.inr (by omega)
set_option maxHeartbeats 1600000 in
set_option maxRecDepth 100000 in
theorem oldest_any (b o : Nat) (v : Value) (xs : List Int) (w : World) (hm : w.cell? ⟨b, o, none⟩ = some v) (hs : IntsAt w v xs) (hn : xs.length ≤ 900000) :
    Calls Tryz.prog 58 #[.pointer (some ⟨b, o, none⟩)] w fun e w' => ∃ (Bs : Nat) (v' : Value), e = .returned (.func (.func 82) #[] #[.pointer (some ⟨Bs, 0, none⟩)]) ∧ Blk w' Bs 22 #[v'] ∧ w.heap.size ≤ Bs ∧ Ints w.heap.size w' v' xs ∧ Below w.heap.size w w' := by
  have hc := clone_any xs v w hs (by omega)
  obtain ⟨A0, c0, hve, _, _⟩ := hs
  subst hve
  go_enter Tryz.func58, Tryz.ntmps58
  go_wp2_with fail
  refine hc.mono ?_
  clear hc
  rintro e w2 ⟨v', rfl, ho, hb⟩
  have hB := Blk.made w2 #[v'] 22
  have hb3 : Below w2.heap.size w2 (w2.alloc (.cells #[v'] 22)) := (Below.refl _ _).alloc (Nat.le_refl _) _
  have HO := Lib.hid (ownsRow_grown ho (grown_of_below hb3 none) (by simp))
  have HB := Lib.hid hB
  have Hb := Lib.hid (hb.trans (hb3.mono hb.size))
  have Hs := Lib.hid hb.size
  obtain ⟨A, c, hv, _⟩ := CellsAt.of_own ho
  subst hv
  clear ho hB hb hb3
  go_wp2_with fail
  go_ret
  exact ⟨_, _, rfl, HB.out, Hs.out, HO.out, Hb.out⟩
def intEnc (x : Int) : Array Value := #[.int .i64 x]
/-- Numbers in memory, below n₀. -/
def Inw (n₀ : Nat) (W : World) (v : Value) (xs : List Int) : Prop :=
  (v = .slice none 0 0 ∧ xs = []) ∨ ∃ b cap, v = .slice (some ⟨b, 0, none⟩) xs.length cap ∧ b < n₀ ∧ ∀ j (hj : j < xs.length), W.cell? ⟨b, j, none⟩ = some (.int .i64 xs[j])
theorem Inw.below {n₀ : Nat} {A B : World} (h : Below n₀ A B) {v : Value} {xs : List Int} : Inw n₀ A v xs → Inw n₀ B v xs
  | .inl e => .inl e
  | .inr ⟨b, cap, e, hb, hc⟩ => .inr ⟨b, cap, e, hb, fun j hj => (h.cell (p := ⟨b, j, none⟩) hb).trans (hc j hj)⟩
theorem Inw.of_own {w : World} {base : Nat} {v : Value} {l : List Int} (ho : Ints base w v l) : Inw w.heap.size w v l := by
  rcases ho.2 with ⟨hv, hn⟩ | ⟨g, cap, cur, hv, _, hg, _⟩
  · exact .inl ⟨hv, List.eq_nil_of_length_eq_zero hn⟩
  · refine .inr ⟨g, cap, hv, heap_lt hg, fun j hj => ?_⟩
    obtain ⟨A, c, e, _, h2⟩ := IntsAt.of_own ho
    rw [hv] at e
    injection e with e
    have := h2 _ e.symm j (.int .i64 l[j]) (by simp [hj])
    rwa [Addr.add0, Nat.zero_add] at this
set_option maxRecDepth 100000 in
set_option maxHeartbeats 2000000 in
theorem old1_in {α : Type} (val : α → Int) (F : Fence) (n : Nat) (hf : F.fn 82) (hro : F.round = none) (hn : 1 ≤ n) (l Bs b cap : Nat) (S : Nat → Prop) (xs : List α) (hreach : xs.length ≤ 1000000) (hb : S b) (hBn : S Bs) (J Jx : List α → World → Prop)
    (hY : ∀ pre x W, J pre W → pre.length < xs.length → YieldAt F (n - 1) Tryz.prog l (intEnc (val x)) W fun e W' =>
      (e = .returned (.bool true) ∧ J (pre ++ [x]) W' ∧ KpB S W W') ∨ (e = .returned (.bool false) ∧ Jx (pre ++ [x]) W'))
    (W : World) (hBs : W.cell? ⟨Bs, 0, none⟩ = some (.slice (some ⟨b, 0, none⟩) xs.length cap))
    (hc : ∀ j (hj : j < xs.length), W.cell? ⟨b, j, none⟩ = some (.int .i64 (val xs[j]))) (h0 : J [] W) :
    CallsIn F n Tryz.prog 82 #[.func (.yield l) #[] #[], .pointer (some ⟨Bs, 0, none⟩)] W fun e W' => (∃ v, e = .returned v) ∧
      (J xs W' ∨ (∃ pre, (∃ k, k ≤ xs.length ∧ pre = xs.take k) ∧ Jx pre W')) := by
  refine callsIn_of_wp Tryz.func82 rfl hf ?_ hro
  simp only [Tryz.ntmps82, List.size_toArray, List.length_cons, List.length_nil, Nat.reduceAdd, Nat.reduceSub, Array.replicate_succ, Array.replicate_zero, List.push_toArray, List.append_toArray, List.nil_append, List.cons_append]
  gi_wp2
  gi_loopw [7] (fun i wr => ∃ k : Nat, k ≤ xs.length ∧ i = .int .i64 (k : Int) ∧ J (xs.take k) wr ∧ KpB S W wr)
    (fun i _ => (xs.length - intOf i).toNat)
  case atStart => exact ⟨0, Nat.zero_le _, rfl, h0, KpB.refl _ _⟩
  case round =>
    obtain ⟨k, hk, rfl, hJs, hnx⟩ := hrel
    by_cases hlt : k < xs.length
    · have hltI : (k : Int) < (xs.length : Int) := by omega
      have hb1 := (hnx.cell (p := ⟨b, k, none⟩) hb).trans (hc k hlt)
      have hsucc : xs.take (k + 1) = xs.take k ++ [xs[k]] := (List.take_append_getElem hlt).symm
      obtain ⟨x, hx⟩ : ∃ x, x = xs[k] := ⟨_, rfl⟩
      rw [← hx] at hb1 hsucc
      have HS := Lib.hid hsucc
      clear hx hsucc
      have hlk : (xs.take k).length < xs.length := by rw [List.length_take]; omega
      obtain ⟨fn, tmps, assign, body, hy, hR⟩ := hY _ x _ hJs hlk
      unfold intEnc at hy
      have HN := Lib.hid hnx
      clear hlk hJs hnx
      gi_wp2
      refine hR.mono ?_
      rintro e W3 (⟨rfl, hJ3, hk3⟩ | ⟨rfl, hJx3⟩)
      · gi_wp2
        go_roundw
        case rel => exact ⟨k + 1, by omega, by congr 1, by rw [HS.out]; exact hJ3, HN.out.trans hk3⟩
        case measure => simp [intOf]; omega
      · gi_wp2
        refine bodyPost_ret (results_none rfl _ _ _) rfl ?_
        exact ⟨⟨_, rfl⟩, .inr ⟨_, ⟨k + 1, by omega, rfl⟩, by rw [HS.out]; exact hJx3⟩⟩
    · obtain rfl : k = xs.length := by omega
      rw [List.take_length] at hJs
      have hltI : ¬ ((xs.length : Int) < (xs.length : Int)) := by omega
      gi_wp2
      go_end0
      exact ⟨⟨_, rfl⟩, .inl hJs⟩
set_option maxRecDepth 100000 in
set_option maxHeartbeats 1000000 in
theorem old1_nil_in {α : Type} (F : Fence) (n : Nat) (hf : F.fn 82) (hro : F.round = none) (l Bs : Nat) (J : List α → World → Prop) (W : World) (hBs : W.cell? ⟨Bs, 0, none⟩ = some (.slice none 0 0)) (h0 : J [] W) :
    CallsIn F n Tryz.prog 82 #[.func (.yield l) #[] #[], .pointer (some ⟨Bs, 0, none⟩)] W fun e W' => (∃ v, e = .returned v) ∧ J [] W' := by
  refine callsIn_of_wp Tryz.func82 rfl hf ?_ hro
  simp only [Tryz.ntmps82, List.size_toArray, List.length_cons, List.length_nil, Nat.reduceAdd, Nat.reduceSub, Array.replicate_succ, Array.replicate_zero, List.push_toArray, List.append_toArray, List.nil_append, List.cons_append]
  gi_wp2
  gi_loopw [7] (fun i wr => i = .int .i64 0 ∧ J [] wr) (fun _ _ => 0)
  case atStart => exact ⟨rfl, h0⟩
  case round =>
    obtain ⟨rfl, hJs⟩ := hrel
    gi_wp2
    go_end0
    exact ⟨⟨_, rfl⟩, hJs⟩
theorem old1_stops {α : Type} (val : α → Int) (F : Fence) (n : Nat) (hf : F.fn 82) (hro : F.round = none) (hn : 1 ≤ n) (Bs : Nat) (v : Value) (xs : List α) (hreach : xs.length ≤ 1000000) (w : World) (hBs : Bs < w.heap.size)
    (hc : w.cell? ⟨Bs, 0, none⟩ = some v) (hI : Inw w.heap.size w v (xs.map val)) :
    SeqStopsK F n Tryz.prog 82 #[.pointer (some ⟨Bs, 0, none⟩)] (fun x => intEnc (val x)) (KpB (fun k => k = Bs ∨ some k = v.ownBlock)) (fun ys => ys = xs) (fun pre => ∃ k, k ≤ xs.length ∧ pre = xs.take k) xs.length w := fun l J Jx W hW hJ _ hY h0 => by
  have hc' := (hW.cell (p := ⟨Bs, 0, none⟩) hBs).trans hc
  rcases hI.below hW with ⟨rfl, e0⟩ | ⟨b, cap, rfl, hb, hcs⟩
  · obtain rfl : xs = [] := List.map_eq_nil_iff.1 e0
    exact (old1_nil_in F n hf hro l Bs J W hc' h0).mono fun e W' ⟨he, hj⟩ => ⟨he, .inl ⟨_, rfl, hj⟩⟩
  · rw [List.length_map] at hc'
    refine (old1_in val F n hf hro hn l Bs b cap _ xs hreach (Or.inr rfl) (Or.inl rfl) J Jx hY W hc' (fun j hj => by have := hcs j (by rw [List.length_map]; exact hj); simpa using this) h0).mono fun e W' ⟨he, hj⟩ => ⟨he, ?_⟩
    rcases hj with h | h
    · exact .inl ⟨_, rfl, h⟩
    · exact .inr h
end
end Go.Proofs.YtjlcbabnkhdgpaaGreatDoor
