/-
  Walks: the law's own pages: what 'made' keeps.
-/
import Derived.Test.YtlhcfmcbfdihoaaDoorPageH
namespace Go.Proofs.YtlhcfmcbfdihoaaDoor
open Go.RowKit

/-- Block g is just these cells, of type T. -/
def Blk (w : World) (g : Nat) (T : TypeId) (cs : Array Value) : Prop := w.heap[g]? = some (.cells cs T (0, 0))
section
variable {w w' : World} {g : Nat} {T : TypeId} {cs : Array Value}
theorem Blk.made (w : World) (cs : Array Value) (T : TypeId) : Blk (w.alloc (.cells cs T)) w.heap.size T cs := by
  show (w.heap.push _)[w.heap.size]? = _
  simp
theorem Blk.lt (h : Blk w g T cs) : g < w.heap.size := heap_lt h
theorem Blk.up (h : Blk w g T cs) (hb : Below w.heap.size w w') : Blk w' g T cs := (hb.block g h.lt).trans h
theorem Blk.alloc (h : Blk w g T cs) (o : Obj) : Blk (w.alloc o) g T cs := h.up ((Below.refl _ _).alloc (Nat.le_refl _) _)
theorem Blk.grown {r : Option Nat} (h : Blk w g T cs) (hb : w.grownBy w' r) (hg : some g ≠ r) : Blk w' g T cs := (hb.block g h.lt hg).trans h
theorem Blk.set (h : Blk w g T cs) (j : Nat) (v : Value) : Blk (w.setCell ⟨g, j, none⟩ v) g T (cs.setIfInBounds j v) := by
  unfold Blk at *
  simp [World.setCell, Array.getElem?_modify, h]
theorem Blk.setOther (h : Blk w g T cs) {g' : Nat} (hne : g ≠ g') (j : Nat) (v : Value) : Blk (w.setCell ⟨g', j, none⟩ v) g T cs := h.grown (grown_setCell w g' j v) (by simpa using hne)
theorem Blk.cell (h : Blk w g T cs) (j : Nat) : w.cell? ⟨g, j, none⟩ = cs[j]? := by unfold Blk at h; simp [World.cell?, h]
theorem Blk.frozen (h : Blk w g T cs) (j : Nat) : w.frozen? ⟨g, j, none⟩ = false := by unfold Blk at h; simp [World.frozen?, h]
theorem Blk.ne {g' : Nat} {T' : TypeId} {cs' : Array Value} (h : Blk w g T cs) (h' : Blk w g' T' cs') (hT : T ≠ T') : g ≠ g' := by
  intro e; subst e; unfold Blk at *; rw [h] at h'; simp at h'; exact hT h'.2
theorem Blk.notOwn {base : Nat} {e : TypeId} {size : Nat} {v : Value} {n : Nat} {xs : List Value} (h : Blk w g T cs) (ho : w.ownsRow base e size v n xs) (hT : T ≠ e) : some g ≠ v.ownBlock := by
  intro hv
  obtain ⟨_, hh⟩ := ho
  rcases hh with ⟨hv', _⟩ | ⟨g', cap, cur, hv', hg', hh, _⟩
  · subst hv'; simp [Value.ownBlock] at hv
  · subst hv'; simp [Value.ownBlock] at hv; subst hv; unfold Blk at h; rw [hh] at h; simp at h; exact hT h.2.symm
theorem own_grown {base : Nat} {e : TypeId} {size : Nat} {v : Value} {n : Nat} {xs : List Value} (ho : w.ownsRow base e size v n xs) (h : Blk w g T cs) (hT : T ≠ e) (hg : w.grownBy w' (some g)) : w'.ownsRow base e size v n xs :=
  ownsRow_grown ho hg (fun g' e' cs' fz hh => by
    simp at e'
    subst e'
    unfold Blk at h
    rw [h] at hh
    simp at hh
    exact hT hh.2.1)
/-- Two rows of different elements: what is written to one leaves the other. -/
theorem own_own {base : Nat} {e e' : TypeId} {size size' : Nat} {v v' : Value} {n n' : Nat} {xs xs' : List Value} (ho : w.ownsRow base e size v n xs) (ho' : w.ownsRow base e' size' v' n' xs') (hT : e ≠ e') (hg : w.grownBy w' v'.ownBlock) : w'.ownsRow base e size v n xs := by
  refine ownsRow_grown ho hg (fun g hv cs fz hh => ?_)
  obtain ⟨_, hh'⟩ := ho'
  rcases hh' with ⟨hv', _⟩ | ⟨g', cap, cur, hv', hg', hh', _⟩
  · subst hv'; simp [Value.ownBlock] at hv
  · subst hv'; simp [Value.ownBlock] at hv; subst hv; rw [hh'] at hh; simp at hh; exact hT hh.2.1.symm
theorem ownsRow_far {base : Nat} {e : TypeId} {size : Nat} {v : Value} {n : Nat} {xs : List Value} (h : w.ownsRow base e size v n xs) (hb : w.grownBy w' (some g)) (hne : some g ≠ v.ownBlock) : w'.ownsRow base e size v n xs := by
  obtain ⟨h1, h2⟩ := h
  refine ⟨h1, ?_⟩
  rcases h2 with h2 | ⟨g', cap, cur, hv, hg, hh, q⟩
  · exact Or.inl h2
  · exact Or.inr ⟨g', cap, cur, hv, hg, (hb.block g' (heap_lt hh) (fun e => hne (by rw [hv, ← e]; rfl))).trans hh, q⟩
theorem own_up {base : Nat} {e : TypeId} {size : Nat} {v : Value} {n : Nat} {xs : List Value} (ho : w.ownsRow base e size v n xs) (hb : Below w.heap.size w w') : w'.ownsRow base e size v n xs := ownsRow_grown ho (grown_of_below hb none) (by simp)
end

/-- An entry as the laws take it: no longer than 80 and 120 bytes. -/
def trunc (e : Ent) : Ent := ⟨e.key.take 80, e.value.take 120, e.marked⟩
def madePg (p : Pg) : Pg := ⟨p.lsn, p.kind, p.level, p.right, p.high.take 80, (p.ents.take 200).map trunc⟩
theorem madePg_small (p : Pg) : Small (madePg p) := by
  refine ⟨by simp [madePg]; omega, by simp [madePg]; omega, ?_⟩
  intro e he
  simp only [madePg, List.mem_map] at he
  obtain ⟨x, _, rfl⟩ := he
  simp [trunc]; omega
theorem made_snoc (l : List Ent) (k : Nat) (hk : k < l.length) : (l.take (k + 1)).map trunc = (l.take k).map trunc ++ [trunc l[k]] := by
  rw [List.take_succ_eq_append_getElem hk, List.map_append]; rfl

/-- What 'made' keeps: its argument's box, the two results' blocks, the two pages with the entries that they have. -/
def MInv (w0 : World) (xb r2 r3 pb qb : Nat) (x : Pg) (A : Option Addr) (c : Nat) (hi : List UInt8) (acc : List Ent) (w : World) : Prop :=
  Below w0.heap.size w0 w ∧ (w0.heap.size ≤ xb ∧ w0.heap.size ≤ r2 ∧ w0.heap.size ≤ r3 ∧ w0.heap.size ≤ pb ∧ w0.heap.size ≤ qb ∧ r2 ≠ pb ∧ r3 ≠ qb) ∧ ReadsE w w0.heap.size A x.ents ∧ Blk w xb 25 (pgCells x A c) ∧
  Blk w r2 29 zCells ∧ Blk w r3 32 zCells ∧
  ∃ v u, Blk w pb 29 #[.int .i64 x.lsn, .int .i64 x.kind, .int .i64 x.level, .int .i64 x.right, .string (bs hi), v] ∧ w.ownsRow w0.heap.size 56 3 v acc.length (entsCells acc) ∧
    Blk w qb 32 #[.int .i64 x.lsn, .int .i64 x.kind, .int .i64 x.level, .int .i64 x.right, .string (bs hi), u] ∧ w.ownsRow w0.heap.size 57 3 u acc.length (entsCells acc)

section
variable {w0 w w' : World} {xb r2 r3 pb qb : Nat} {x : Pg} {A : Option Addr} {c : Nat} {hi : List UInt8} {acc : List Ent}
theorem MInv.up (h : MInv w0 xb r2 r3 pb qb x A c hi acc w) (hb : Below w.heap.size w w') : MInv w0 xb r2 r3 pb qb x A c hi acc w' := by
  obtain ⟨h1, h2, h3, h4, h5, h6, v, u, h7, h8, h9, h10⟩ := h
  exact ⟨h1.trans (hb.mono h1.size), h2, h3.below (hb.mono h1.size), h4.up hb, h5.up hb, h6.up hb, v, u, h7.up hb, own_up h8 hb, h9.up hb, own_up h10 hb⟩
theorem MInv.alloc (h : MInv w0 xb r2 r3 pb qb x A c hi acc w) (o : Obj) : MInv w0 xb r2 r3 pb qb x A c hi acc (w.alloc o) := h.up ((Below.refl _ _).alloc (Nat.le_refl _) _)
theorem MInv.reads (h : MInv w0 xb r2 r3 pb qb x A c hi acc w) : ReadsE w w0.heap.size A x.ents := h.2.2.1
theorem MInv.xcell (h : MInv w0 xb r2 r3 pb qb x A c hi acc w) : w.cell? ⟨xb, 5, none⟩ = some (.slice A x.ents.length c) := h.2.2.2.1.cell 5

/-- In the midst of the two appends: the blocks' cells still hold the slices v and u; the rows that are owned are those of v' and u'. -/
def AS (w0 : World) (xb r2 r3 pb qb : Nat) (x : Pg) (A : Option Addr) (c : Nat) (hi : List UInt8) (v u : Value) (v' : Value) (accv : List Ent) (u' : Value) (accu : List Ent) (w : World) : Prop :=
  Below w0.heap.size w0 w ∧ (w0.heap.size ≤ xb ∧ w0.heap.size ≤ r2 ∧ w0.heap.size ≤ r3 ∧ w0.heap.size ≤ pb ∧ w0.heap.size ≤ qb ∧ r2 ≠ pb ∧ r3 ≠ qb) ∧ ReadsE w w0.heap.size A x.ents ∧ Blk w xb 25 (pgCells x A c) ∧
  Blk w r2 29 zCells ∧ Blk w r3 32 zCells ∧
  Blk w pb 29 #[.int .i64 x.lsn, .int .i64 x.kind, .int .i64 x.level, .int .i64 x.right, .string (bs hi), v] ∧ w.ownsRow w0.heap.size 56 3 v' accv.length (entsCells accv) ∧
  Blk w qb 32 #[.int .i64 x.lsn, .int .i64 x.kind, .int .i64 x.level, .int .i64 x.right, .string (bs hi), u] ∧ w.ownsRow w0.heap.size 57 3 u' accu.length (entsCells accu)
variable {v u v' u' v2 u2 : Value} {accv accu : List Ent}
theorem MInv.toAS (h : MInv w0 xb r2 r3 pb qb x A c hi acc w) : ∃ v u, AS w0 xb r2 r3 pb qb x A c hi v u v acc u acc w := by
  obtain ⟨h1, h2, h3, h4, h5, h6, v, u, h7, h8, h9, h10⟩ := h
  exact ⟨v, u, h1, h2, h3, h4, h5, h6, h7, h8, h9, h10⟩
theorem AS.up (h : AS w0 xb r2 r3 pb qb x A c hi v u v' accv u' accu w) (hb : Below w.heap.size w w') : AS w0 xb r2 r3 pb qb x A c hi v u v' accv u' accu w' := by
  obtain ⟨h1, h2, h3, h4, h5, h6, h7, h8, h9, h10⟩ := h
  exact ⟨h1.trans (hb.mono h1.size), h2, h3.below (hb.mono h1.size), h4.up hb, h5.up hb, h6.up hb, h7.up hb, own_up h8 hb, h9.up hb, own_up h10 hb⟩
theorem AS.alloc (h : AS w0 xb r2 r3 pb qb x A c hi v u v' accv u' accu w) (o : Obj) : AS w0 xb r2 r3 pb qb x A c hi v u v' accv u' accu (w.alloc o) := h.up ((Below.refl _ _).alloc (Nat.le_refl _) _)
theorem AS.drew (h : AS w0 xb r2 r3 pb qb x A c hi v u v' accv u' accu w) : AS w0 xb r2 r3 pb qb x A c hi v u v' accv u' accu w.drew := h.up (Below.refl _ _).drew
theorem AS.app1 (h : AS w0 xb r2 r3 pb qb x A c hi v u v' accv u' accu w) (e : Ent) (ho : w'.ownsRow w0.heap.size 56 3 v2 (accv.length + 1) (entsCells accv ++ entCells e)) (hg : w.grownBy w' v'.ownBlock) :
    AS w0 xb r2 r3 pb qb x A c hi v u v2 (accv ++ [e]) u' accu w' := by
  obtain ⟨h1, h2, h3, h4, h5, h6, h7, h8, h9, h10⟩ := h
  refine ⟨below_of_grown h1 hg h1.size (fun g e => (h8.lt g e).1), h2, h3.keep (fun p hp => ?_), h4.grown hg (h4.notOwn h8 (by decide)), h5.grown hg (h5.notOwn h8 (by decide)), h6.grown hg (h6.notOwn h8 (by decide)),
    h7.grown hg (h7.notOwn h8 (by decide)), ?_, h9.grown hg (h9.notOwn h8 (by decide)), own_own h10 h8 (by decide) hg⟩
  · exact World.cell?_of_block (hg.block p.block (Nat.lt_of_lt_of_le hp h1.size) (fun e => by have := (h8.lt _ e.symm).1; omega))
  · rw [entsCells_snoc, List.length_append]; exact ho
theorem AS.app2 (h : AS w0 xb r2 r3 pb qb x A c hi v u v' accv u' accu w) (e : Ent) (ho : w'.ownsRow w0.heap.size 57 3 u2 (accu.length + 1) (entsCells accu ++ entCells e)) (hg : w.grownBy w' u'.ownBlock) :
    AS w0 xb r2 r3 pb qb x A c hi v u v' accv u2 (accu ++ [e]) w' := by
  obtain ⟨h1, h2, h3, h4, h5, h6, h7, h8, h9, h10⟩ := h
  refine ⟨below_of_grown h1 hg h1.size (fun g e => (h10.lt g e).1), h2, h3.keep (fun p hp => ?_), h4.grown hg (h4.notOwn h10 (by decide)), h5.grown hg (h5.notOwn h10 (by decide)), h6.grown hg (h6.notOwn h10 (by decide)),
    h7.grown hg (h7.notOwn h10 (by decide)), own_own h8 h10 (by decide) hg, h9.grown hg (h9.notOwn h10 (by decide)), ?_⟩
  · exact World.cell?_of_block (hg.block p.block (Nat.lt_of_lt_of_le hp h1.size) (fun e => by have := (h10.lt _ e.symm).1; omega))
  · rw [entsCells_snoc, List.length_append]; exact ho
theorem AS.cells (h : AS w0 xb r2 r3 pb qb x A c hi v u v' accv u' accu w) : w.cell? ⟨pb, 5, none⟩ = some v ∧ w.cell? ⟨qb, 5, none⟩ = some u ∧ w.frozen? ⟨pb, 5, none⟩ = false ∧ w.frozen? ⟨qb, 5, none⟩ = false := by
  obtain ⟨h1, h2, h3, h4, h5, h6, h7, h8, h9, h10⟩ := h
  exact ⟨h7.cell 5, h9.cell 5, h7.frozen 5, h9.frozen 5⟩
theorem AS.own1 (h : AS w0 xb r2 r3 pb qb x A c hi v u v' accv u' accu w) : w.ownsRow w0.heap.size 56 3 v' accv.length (entsCells accv) := h.2.2.2.2.2.2.2.1
theorem AS.own2 (h : AS w0 xb r2 r3 pb qb x A c hi v u v' accv u' accu w) : w.ownsRow w0.heap.size 57 3 u' accu.length (entsCells accu) := h.2.2.2.2.2.2.2.2.2
theorem AS.size (h : AS w0 xb r2 r3 pb qb x A c hi v u v' accv u' accu w) : w0.heap.size ≤ w.heap.size := h.1.size
theorem AS.ne (h : AS w0 xb r2 r3 pb qb x A c hi v u v' accv u' accu w) : pb ≠ qb := h.2.2.2.2.2.2.1.ne h.2.2.2.2.2.2.2.2.1 (by decide)
/-- Both slices are stored. -/
theorem AS.stored (h : AS w0 xb r2 r3 pb qb x A c hi v u v' acc u' acc w) : MInv w0 xb r2 r3 pb qb x A c hi acc ((w.setCell ⟨pb, 5, none⟩ v').setCell ⟨qb, 5, none⟩ u') := by
  have hne := h.ne
  obtain ⟨h1, h2, h3, h4, h5, h6, h7, h8, h9, h10⟩ := h
  obtain ⟨i1, i2, i3, i4, i5, i6, i7⟩ := h2
  have n1 : xb ≠ pb := h4.ne h7 (by decide)
  have n2 : xb ≠ qb := h4.ne h9 (by decide)
  have n3 : r2 ≠ qb := h5.ne h9 (by decide)
  have n4 : r3 ≠ pb := h6.ne h7 (by decide)
  refine ⟨(h1.setCell i4 _).setCell i5 _, ⟨i1, i2, i3, i4, i5, i6, i7⟩, h3.keep (fun p hp => ?_), (h4.setOther n1 _ _).setOther n2 _ _, (h5.setOther i6 _ _).setOther n3 _ _, (h6.setOther n4 _ _).setOther i7 _ _, v', u', ?_, ?_, ?_, ?_⟩
  · rw [World.cell?_setCell_other _ _ _ _ (fun e => by subst e; simp at hp; omega), World.cell?_setCell_other _ _ _ _ (fun e => by subst e; simp at hp; omega)]
  · simpa using (h7.set 5 v').setOther hne 5 u'
  · exact own_grown (own_grown h8 h7 (by decide) (grown_setCell _ _ _ _)) (h9.setOther hne.symm 5 v') (by decide) (grown_setCell _ _ _ _)
  · simpa using (h9.setOther hne.symm 5 v').set 5 u'
  · exact own_grown (own_grown h10 h7 (by decide) (grown_setCell _ _ _ _)) (h9.setOther hne.symm 5 v') (by decide) (grown_setCell _ _ _ _)
theorem AS.far (h : AS w0 xb r2 r3 pb qb x A c hi v u v' accv u' accu w) {eb : Nat} (he : w0.heap.size ≤ eb) {cs : Array Value} (hB : Blk w eb 57 cs) (hu : some eb ≠ u'.ownBlock) (hg : w.grownBy w' (some eb)) :
    AS w0 xb r2 r3 pb qb x A c hi v u v' accv u' accu w' := by
  obtain ⟨h1, h2, h3, h4, h5, h6, h7, h8, h9, h10⟩ := h
  have n4 : some xb ≠ some eb := by simpa using h4.ne hB (by decide)
  have n5 : some r2 ≠ some eb := by simpa using h5.ne hB (by decide)
  have n6 : some r3 ≠ some eb := by simpa using h6.ne hB (by decide)
  have n7 : some pb ≠ some eb := by simpa using h7.ne hB (by decide)
  have n9 : some qb ≠ some eb := by simpa using h9.ne hB (by decide)
  refine ⟨below_of_grown h1 hg h1.size (fun g e => by simp at e; omega), h2, h3.keep (fun p hp => ?_), h4.grown hg n4, h5.grown hg n5, h6.grown hg n6, h7.grown hg n7, own_grown h8 hB (by decide) hg, h9.grown hg n9, ?_⟩
  · exact World.cell?_of_block (hg.block p.block (Nat.lt_of_lt_of_le hp h1.size) (fun e => by simp at e; omega))
  · exact ownsRow_far h10 hg hu
end

theorem cell_store (w : World) (pb qb j : Nat) (v : Value) {u : Value} (hne : pb ≠ qb) (h : w.cell? ⟨qb, j, none⟩ = some u) (hf : w.frozen? ⟨qb, j, none⟩ = false) :
    (w.setCell ⟨pb, j, none⟩ v).cell? ⟨qb, j, none⟩ = some u ∧ (w.setCell ⟨pb, j, none⟩ v).frozen? ⟨qb, j, none⟩ = false := by
  refine ⟨?_, ?_⟩
  · rw [World.cell?_setCell_other _ _ _ _ (fun e => hne (congrArg Addr.block e))]; exact h
  · rw [World.frozen?_setCell]; exact hf
theorem entOne (e : Ent) : ∀ u ∈ entCells e, u.oneCell' = true := by
  intro u hu
  simp [entCells] at hu
  rcases hu with h | h | h <;> subst h <;> rfl
theorem info_entry2 : ∃ i z, Tryd.prog.info? 57 = some i ∧ i.zero = some z ∧ i.size = 3 ∧ i.bytes = 40 ∧ z.cells.size = 3 := by
  have h : (Tryd.prog.info? 57).bind (fun i => i.zero.map fun z => (i.size, i.bytes, z.cells.size)) = some (3, 40, 3) := by kernel_rfl
  cases hi : Tryd.prog.info? 57 with
  | none => rw [hi] at h; simp at h
  | some i =>
    rw [hi] at h
    cases hz : i.zero with
    | none => simp [hz] at h
    | some z =>
      simp [hz] at h
      exact ⟨i, z, rfl, hz, h.1, h.2.1, h.2.2⟩

/-- In the midst of the round's two appends, with the entry's own block and the blocks of the slices that are built. -/
def RS (w0 : World) (xb r2 r3 pb qb : Nat) (x : Pg) (A : Option Addr) (c : Nat) (hi : List UInt8) (v u : Value) (v' : Value) (accv : List Ent) (u' : Value) (accu : List Ent) (eb : Nat) (e : Ent) (o1 o2 : Option Nat) (w : World) : Prop :=
  AS w0 xb r2 r3 pb qb x A c hi v u v' accv u' accu w ∧ Blk w eb 57 (entCells e).toArray ∧
  (∀ B, o1 = some B → Blk w B 56 (entCells e).toArray) ∧ (∀ B, o2 = some B → Blk w B 57 (entCells e).toArray)
section
variable {w0 w w' : World} {xb r2 r3 pb qb eb B : Nat} {x : Pg} {A : Option Addr} {c : Nat} {hi : List UInt8} {acc accv accu : List Ent} {v u v' u' v2 u2 : Value} {e : Ent} {o1 o2 : Option Nat}
theorem RS.up (h : RS w0 xb r2 r3 pb qb x A c hi v u v' accv u' accu eb e o1 o2 w) (hb : Below w.heap.size w w') : RS w0 xb r2 r3 pb qb x A c hi v u v' accv u' accu eb e o1 o2 w' :=
  ⟨h.1.up hb, h.2.1.up hb, fun B e => (h.2.2.1 B e).up hb, fun B e => (h.2.2.2 B e).up hb⟩
theorem RS.build1 (h : RS w0 xb r2 r3 pb qb x A c hi v u v' accv u' accu eb e o1 o2 w) : RS w0 xb r2 r3 pb qb x A c hi v u v' accv u' accu eb e (some w.heap.size) o2 (w.alloc (.cells (entCells e).toArray 56)) := by
  have h' := h.up ((Below.refl _ _).alloc (Nat.le_refl _) (.cells (entCells e).toArray 56))
  exact ⟨h'.1, h'.2.1, fun B e => by cases e; exact Blk.made _ _ _, h'.2.2.2⟩
theorem RS.build2 (h : RS w0 xb r2 r3 pb qb x A c hi v u v' accv u' accu eb e o1 o2 w) : RS w0 xb r2 r3 pb qb x A c hi v u v' accv u' accu eb e o1 (some w.heap.size) (w.alloc (.cells (entCells e).toArray 57)) := by
  have h' := h.up ((Below.refl _ _).alloc (Nat.le_refl _) (.cells (entCells e).toArray 57))
  exact ⟨h'.1, h'.2.1, h'.2.2.1, fun B e => by cases e; exact Blk.made _ _ _⟩
theorem RS.app1 (h : RS w0 xb r2 r3 pb qb x A c hi v u v' accv u' accu eb e o1 o2 w) (ho : w'.ownsRow w0.heap.size 56 3 v2 (accv.length + 1) (entsCells accv ++ entCells e)) (hg : w.grownBy w' v'.ownBlock) :
    RS w0 xb r2 r3 pb qb x A c hi v u v2 (accv ++ [e]) u' accu eb e none o2 w' :=
  ⟨h.1.app1 e ho hg, h.2.1.grown hg (h.2.1.notOwn h.1.own1 (by decide)), fun B e => by simp at e, fun B e => (h.2.2.2 B e).grown hg ((h.2.2.2 B e).notOwn h.1.own1 (by decide))⟩
theorem RS.app2 (h : RS w0 xb r2 r3 pb qb x A c hi v u v' accv u' accu eb e o1 o2 w) (ho : w'.ownsRow w0.heap.size 57 3 u2 (accu.length + 1) (entsCells accu ++ entCells e)) (hg : w.grownBy w' u'.ownBlock) :
    AS w0 xb r2 r3 pb qb x A c hi v u v' accv u2 (accu ++ [e]) w' := h.1.app2 e ho hg
theorem RS.cells (h : RS w0 xb r2 r3 pb qb x A c hi v u v' accv u' accu eb e o1 o2 w) : w.cell? ⟨pb, 5, none⟩ = some v ∧ w.cell? ⟨qb, 5, none⟩ = some u ∧
    w.cell? ⟨eb, 0, none⟩ = some (.string (bs e.key)) ∧ w.cell? ⟨eb, 1, none⟩ = some (.string (bs e.value)) ∧ w.cell? ⟨eb, 2, none⟩ = some (.bool e.marked) :=
  ⟨h.1.cells.1, h.1.cells.2.1, h.2.1.cell 0, h.2.1.cell 1, h.2.1.cell 2⟩
theorem RS.news1 (h : RS w0 xb r2 r3 pb qb x A c hi v u v' accv u' accu eb e (some B) o2 w) : ∀ j y, (entCells e)[j]? = some y → w.cell? ((⟨B, 0, none⟩ : Addr).add j) = some y :=
  fun j y hj => World.news_of_block (h.2.2.1 B rfl) j y (by simpa using hj)
theorem RS.news2 (h : RS w0 xb r2 r3 pb qb x A c hi v u v' accv u' accu eb e o1 (some B) w) : ∀ j y, (entCells e)[j]? = some y → w.cell? ((⟨B, 0, none⟩ : Addr).add j) = some y :=
  fun j y hj => World.news_of_block (h.2.2.2 B rfl) j y (by simpa using hj)
theorem RS.own1 (h : RS w0 xb r2 r3 pb qb x A c hi v u v' accv u' accu eb e o1 o2 w) : w.ownsRow w0.heap.size 56 3 v' accv.length (entsCells accv) := h.1.own1
theorem RS.own2 (h : RS w0 xb r2 r3 pb qb x A c hi v u v' accv u' accu eb e o1 o2 w) : w.ownsRow w0.heap.size 57 3 u' accu.length (entsCells accu) := h.1.own2
theorem RS.size (h : RS w0 xb r2 r3 pb qb x A c hi v u v' accv u' accu eb e o1 o2 w) : w0.heap.size ≤ w.heap.size := h.1.size
theorem RS.start (h : MInv w0 xb r2 r3 pb qb x A c hi acc w) (e0 e : Ent) (hm : e.marked = e0.marked) : ∃ v u, RS w0 xb r2 r3 pb qb x A c hi v u v acc u acc w.heap.size e none none
    ((((w.alloc (.cells #[.string (bs e0.key), .string (bs e0.value), .bool e0.marked] 57)).setCell ⟨w.heap.size, 0, none⟩ (.string (bs e.key))).setCell ⟨w.heap.size, 1, none⟩ (.string (bs e.value))).drew).drew := by
  obtain ⟨v, u, ha⟩ := h.toAS
  have hs := ha.size
  have hu : some w.heap.size ≠ u.ownBlock := fun e => by have := (ha.own2.lt _ e.symm).2; omega
  have hB := Blk.made w #[.string (bs e0.key), .string (bs e0.value), .bool e0.marked] 57
  have ha := ha.alloc (.cells #[.string (bs e0.key), .string (bs e0.value), .bool e0.marked] 57)
  generalize w.alloc (.cells #[.string (bs e0.key), .string (bs e0.value), .bool e0.marked] 57) = w1 at *
  have ha := ha.far hs hB hu (grown_setCell w1 w.heap.size 0 (.string (bs e.key)))
  have hB := hB.set 0 (.string (bs e.key))
  generalize w1.setCell ⟨w.heap.size, 0, none⟩ (.string (bs e.key)) = w2 at *
  have ha := ha.far hs hB hu (grown_setCell w2 w.heap.size 1 (.string (bs e.value)))
  have hB := hB.set 1 (.string (bs e.value))
  generalize w2.setCell ⟨w.heap.size, 1, none⟩ (.string (bs e.value)) = w3 at *
  refine ⟨v, u, ha.drew.drew, ?_, fun _ e => by simp at e, fun _ e => by simp at e⟩
  have hB := (hB.up (Below.refl _ _).drew).up (Below.refl _ _).drew
  rw [← hm] at hB
  exact hB
end
theorem Blk.six {w : World} {g : Nat} {T : TypeId} {u0 u1 u2 u3 u4 u5 : Value} (h : Blk w g T #[u0, u1, u2, u3, u4, u5]) (v0 v1 v2 v3 v4 v5 : Value) : Blk (six w g v0 v1 v2 v3 v4 v5) g T #[v0, v1, v2, v3, v4, v5] := by
  have := (((((h.set 0 v0).set 1 v1).set 2 v2).set 3 v3).set 4 v4).set 5 v5
  unfold Go.Proofs.YtlhcfmcbfdihoaaDoor.six
  simpa using this
theorem made_results (tmps : Array Value) (r2 r3 : Nat) (W : World) {v0 v1 v2 v3 v4 v5 u0 u1 u2 u3 u4 u5 : Value} (h2 : tmps.getD 2 undef = .pointer (some ⟨r2, 0, none⟩)) (h3 : tmps.getD 3 undef = .pointer (some ⟨r3, 0, none⟩))
    (h : Blk W r2 29 #[v0, v1, v2, v3, v4, v5]) (h' : Blk W r3 32 #[u0, u1, u2, u3, u4, u5]) :
    (results Tryd.f9 tmps).run Tryd.prog W = .ok (.tuple #[.agg #[v0, v1, v2, v3, v4, v5], .agg #[u0, u1, u2, u3, u4, u5]]) W := by
  have c0 := h.cell 0; have c1 := h.cell 1; have c2 := h.cell 2; have c3 := h.cell 3; have c4 := h.cell 4; have c5 := h.cell 5
  have d0 := h'.cell 0; have d1 := h'.cell 1; have d2 := h'.cell 2; have d3 := h'.cell 3; have d4 := h'.cell 4; have d5 := h'.cell 5
  have h2' : tmps[2]?.getD undef = .pointer (some ⟨r2, 0, none⟩) := by simpa using h2
  have h3' : tmps[3]?.getD undef = .pointer (some ⟨r3, 0, none⟩) := by simpa using h3
  simp at c0 c1 c2 c3 c4 c5 d0 d1 d2 d3 d4 d5
  simp [results, Tryd.results9, go_sem, c0, c1, c2, c3, c4, c5, d0, d1, d2, d3, d4, d5, h2', h3']

/-- What 'made' answers: the page twice. -/
def MadePost (p : Pg) (w : World) (e : Ending) (w' : World) : Prop :=
  ∃ A1 c1 A2 c2, e = .returned (.tuple #[.agg (pgCells p A1 c1), .agg (pgCells p A2 c2)]) ∧ ReadsE w' w'.heap.size A1 p.ents ∧ p.ents.length ≤ c1 ∧ ReadsE w' w'.heap.size A2 p.ents ∧ p.ents.length ≤ c2 ∧ Below w.heap.size w w'

theorem MInv.final {w0 w : World} {xb r2 r3 pb qb : Nat} {x : Pg} {A : Option Addr} {c : Nat} {hi : List UInt8} {acc : List Ent} (h : MInv w0 xb r2 r3 pb qb x A c hi acc w) :
    ∃ A1 c1 A2 c2, Blk w pb 29 (pgCells ⟨x.lsn, x.kind, x.level, x.right, hi, acc⟩ A1 c1) ∧ Blk w qb 32 (pgCells ⟨x.lsn, x.kind, x.level, x.right, hi, acc⟩ A2 c2) ∧ Blk w r2 29 zCells ∧ Blk w r3 32 zCells ∧ (r2 ≠ pb ∧ r3 ≠ qb ∧ r2 ≠ qb ∧ r3 ≠ pb ∧ r2 ≠ r3) ∧
      ∀ W, W = (six (six w r2 (.int .i64 x.lsn) (.int .i64 x.kind) (.int .i64 x.level) (.int .i64 x.right) (.string (bs hi)) (.slice A1 acc.length c1)) r3 (.int .i64 x.lsn) (.int .i64 x.kind) (.int .i64 x.level) (.int .i64 x.right) (.string (bs hi)) (.slice A2 acc.length c2)).drew →
        Blk W r2 29 (pgCells ⟨x.lsn, x.kind, x.level, x.right, hi, acc⟩ A1 c1) ∧ Blk W r3 32 (pgCells ⟨x.lsn, x.kind, x.level, x.right, hi, acc⟩ A2 c2) ∧
        MadePost ⟨x.lsn, x.kind, x.level, x.right, hi, acc⟩ w0 (.returned (.tuple #[.agg (pgCells ⟨x.lsn, x.kind, x.level, x.right, hi, acc⟩ A1 c1), .agg (pgCells ⟨x.lsn, x.kind, x.level, x.right, hi, acc⟩ A2 c2)])) W := by
  unfold MInv at h
  obtain ⟨h1, ⟨i1, i2, i3, i4, i5, i6, i7⟩, h3, h4, h5, h6, v, u, h7, h8, h9, h10⟩ := h
  obtain ⟨A1, c1, hv, _, _⟩ := own_slice h8
  obtain ⟨A2, c2, hu, _, _⟩ := own_slice h10
  subst hv
  subst hu
  refine ⟨A1, c1, A2, c2, h7, h9, h5, h6, ⟨i6, i7, h5.ne h9 (by decide), h6.ne h7 (by decide), h5.ne h6 (by decide)⟩, ?_⟩
  intro W hW
  have g1 := grown_six w r2 (.int .i64 x.lsn) (.int .i64 x.kind) (.int .i64 x.level) (.int .i64 x.right) (.string (bs hi)) (.slice A1 acc.length c1)
  have k1 := below_six h1 i2 (.int .i64 x.lsn) (.int .i64 x.kind) (.int .i64 x.level) (.int .i64 x.right) (.string (bs hi)) (.slice A1 acc.length c1)
  have b1 := h5.six (.int .i64 x.lsn) (.int .i64 x.kind) (.int .i64 x.level) (.int .i64 x.right) (.string (bs hi)) (.slice A1 acc.length c1)
  have hne : r2 ≠ r3 := h5.ne h6 (by decide)
  have o1 := own_grown h8 h5 (by decide) g1
  have o2 := own_grown h10 h5 (by decide) g1
  have b2 := h6.grown g1 (by simp; exact fun e => hne e.symm)
  generalize six w r2 (.int .i64 x.lsn) (.int .i64 x.kind) (.int .i64 x.level) (.int .i64 x.right) (.string (bs hi)) (.slice A1 acc.length c1) = w1 at *
  have g2 := grown_six w1 r3 (.int .i64 x.lsn) (.int .i64 x.kind) (.int .i64 x.level) (.int .i64 x.right) (.string (bs hi)) (.slice A2 acc.length c2)
  have k2 := below_six k1 i3 (.int .i64 x.lsn) (.int .i64 x.kind) (.int .i64 x.level) (.int .i64 x.right) (.string (bs hi)) (.slice A2 acc.length c2)
  have b3 := b2.six (.int .i64 x.lsn) (.int .i64 x.kind) (.int .i64 x.level) (.int .i64 x.right) (.string (bs hi)) (.slice A2 acc.length c2)
  have b4 := b1.grown g2 (by simp; exact hne)
  have q1 := own_grown o1 b2 (by decide) g2
  have q2 := own_grown o2 b2 (by decide) g2
  have k2 := k2.trans ((Below.refl _ _).drew)
  have b3 := b3.up (Below.refl _ _).drew
  have b4 := b4.up (Below.refl _ _).drew
  have q1 := q1.drew
  have q2 := q2.drew
  rw [← hW] at k2 b3 b4 q1 q2
  obtain ⟨A1', c1', e1, r1, l1⟩ := own_slice q1
  obtain ⟨A2', c2', e2, r2', l2⟩ := own_slice q2
  injection e1 with e1 _ e1'
  injection e2 with e2 _ e2'
  subst e1; subst e2; subst e1'; subst e2'
  exact ⟨b4, b3, A1, c1, A2, c2, rfl, r1, l1, r2', l2, k2⟩

attribute [irreducible] MInv AS RS
end Go.Proofs.YtlhcfmcbfdihoaaDoor
