/-
  What TwinPlays' rounds hold.
-/
import Derived.Test.YtfkhgmdnajiabaaDoorTwX
namespace Go.Proofs.YtfkhgmdnajiabaaDoor
set_option linter.unusedSimpArgs false
set_option linter.unusedVariables false
open Go.RowKit Go.Maps

/-- A round, as plain data. -/
structure Rnd where
  puts : List (Int × List UInt8)
  cut : Int
  keep : List Int
/-- Rounds that are handed in. -/
def RndsAt (w : World) (n0 : Nat) (A : Option Addr) (l : List Rnd) : Prop :=
  ∀ k (hk : k < l.length), ∃ b o AP cP AK cK, A = some ⟨b, o, none⟩ ∧ b < n0 ∧ w.cell? ⟨b, o + k * 3, none⟩ = some (.slice AP l[k].puts.length cP) ∧ w.cell? ⟨b, o + k * 3 + 1, none⟩ = some (.int .i64 l[k].cut) ∧ w.cell? ⟨b, o + k * 3 + 2, none⟩ = some (.slice AK l[k].keep.length cK) ∧
    PutsAt w n0 AP l[k].puts ∧ IntsIn w n0 AK l[k].keep ∧ (AK = none → cK = 0 ∧ l[k].keep = []) ∧ l[k].keep.length ≤ cK ∧ cK ≤ 9223372036854775807
theorem RndsAt.below {w w' : World} {n0 : Nat} {A : Option Addr} {l : List Rnd} (h : RndsAt w n0 A l) (hb : Below n0 w w') : RndsAt w' n0 A l := fun k hk => by
  obtain ⟨b, o, AP, cP, AK, cK, e, hlt, h1, h2, h3, h4, h5, h6⟩ := h k hk
  exact ⟨b, o, AP, cP, AK, cK, e, hlt, (hb.cell (p := ⟨b, o + k * 3, none⟩) hlt).trans h1, (hb.cell (p := ⟨b, o + k * 3 + 1, none⟩) hlt).trans h2, (hb.cell (p := ⟨b, o + k * 3 + 2, none⟩) hlt).trans h3, h4.below hb, h5.below hb, h6⟩

/-- A round's images. -/
def playI (L : Nat) (l : List (Int × List UInt8)) (k : Nat) : List Img := upto (fun i => ((l.getD i (0, [])).1 % 8, imgB ((L : Int) + 1 + i) (l.getD i (0, [])).2)) k
theorem playI_succ (L : Nat) (l : List (Int × List UInt8)) (k : Nat) (hk : k < l.length) : playI L l (k + 1) = playI L l k ++ [(l[k].1 % 8, imgB ((L : Int) + 1 + k) l[k].2)] := by
  unfold playI
  rw [upto_succ]
  simp [List.getD, hk]
theorem playI_length (L : Nat) (l : List (Int × List UInt8)) (k : Nat) : (playI L l k).length = k := upto_length _ _
theorem playI_mem (L : Nat) (l : List (Int × List UInt8)) (k : Nat) (hL : L + k ≤ 1000000) (x : Img) (hx : x ∈ playI L l k) : (0 ≤ x.1 ∧ x.1 < 8) ∧ x.2.length = 512 ∧ wholeB x.2 = true ∧ L < lsnB x.2 ∧ lsnB x.2 ≤ L + k := by
  unfold playI upto at hx
  obtain ⟨i, hi, rfl⟩ := List.mem_map.1 hx
  rw [List.mem_range] at hi
  refine ⟨by dsimp only; omega, imgB_length (by omega) (by omega), imgB_whole (by omega) (by omega), ?_, ?_⟩
  · dsimp only; rw [imgB_lsn (by omega) (by omega)]; omega
  · dsimp only; rw [imgB_lsn (by omega) (by omega)]; omega
theorem playI_rise (L : Nat) (l : List (Int × List UInt8)) (k : Nat) (hL : L + k ≤ 1000000) : (playI L l k).Pairwise (fun x y => lsnB x.2 < lsnB y.2) := by
  unfold playI upto
  rw [List.pairwise_map]
  refine List.Pairwise.imp_of_mem ?_ List.pairwise_lt_range
  intro i j hi hj hij
  rw [List.mem_range] at hi hj
  dsimp only
  rw [imgB_lsn (by omega) (by omega), imgB_lsn (by omega) (by omega)]
  omega
theorem playI_next {a : ArM} (ha : a.pg = 8) (L : Nat) (l : List (Int × List UInt8)) (k : Nat) (hL : L + k ≤ 1000000) : Next a (playI L l k) L (L + k) :=
  ⟨fun x hx => by
    obtain ⟨h1, h2, h3, h4, h5⟩ := playI_mem L l k hL x hx
    exact ⟨⟨by rw [ha]; exact h1, h2⟩, h3⟩, playI_rise L l k hL, fun x hx => by
    obtain ⟨h1, h2, h3, h4, h5⟩ := playI_mem L l k hL x hx
    exact ⟨h4, h5⟩, Nat.le_add_right _ _⟩
theorem Sound.congr {a : ArM} {d : DevM} {now now' : Int → List UInt8} {L : Nat} (h : Sound a d now L) (e : ∀ p, 0 ≤ p → p < a.pg → now' p = now p) : Sound a d now' L :=
  ⟨h.off, h.wait, h.fits, h.full, fun p p0 p1 => (h.page p p0 p1).trans (e p p0 p1).symm, fun p p0 p1 => by rw [e p p0 p1]; exact h.old p p0 p1, h.slots⟩
theorem ownsRow_kept2 {w w' : World} {n0 n1 g m sz n : Nat} {T : TypeId} {u : Value} {xs : List Value} (ho : w.ownsRow n1 T sz u n xs) (hK : Kept n0 g m w w') (hg : ∃ cs, Blk w g 66 cs) (hm : ∃ es c, w.heap[m]? = some (.map es c)) (h1 : T ≠ 66) (h2 : T ≠ 100) : w'.ownsRow n1 T sz u n xs := by
  obtain ⟨hx, hh⟩ := ho
  refine ⟨hx, ?_⟩
  rcases hh with hh | ⟨g', cap, cur, hv', hg', hh, q⟩
  · exact Or.inl hh
  · refine Or.inr ⟨g', cap, cur, hv', hg', ?_, q⟩
    refine hK.at_ hh ?_ ?_ (fun cs fz e => by injection e with _ e _; exact h2 e)
    · intro e
      subst e
      obtain ⟨cs, hb⟩ := hg
      unfold Blk at hb
      rw [hb] at hh
      injection hh with hh
      injection hh with _ hh _
      exact h1 hh.symm
    · intro e
      subst e
      obtain ⟨es, c, hb⟩ := hm
      rw [hb] at hh
      cases hh
/-- Three rows: the images, their pages, their bytes. -/
structure Three (n1 : Nat) (w : World) (im at_ tx : Value) (l : List Img) : Prop where
  img : w.ownsRow n1 36 2 im l.length (imgCells l)
  pg : w.ownsRow n1 3 1 at_ (l.map (·.1)).length ((l.map (·.1)).map (Value.int .i64))
  txt : Strs n1 w tx (l.map (·.2))
  at1 : n1 ≤ w.heap.size
section
variable {w w' : World} {n0 n1 : Nat} {im at_ tx : Value} {l : List Img}
theorem Three.nil (hn : n1 ≤ w.heap.size) : Three n1 w (.slice none 0 0) (.slice none 0 0) (.slice none 0 0) [] := ⟨World.ownsRow_nil _ _ _ _, World.ownsRow_nil _ _ _ _, World.ownsRow_nil _ _ _ _, hn⟩
theorem Three.up (h : Three n1 w im at_ tx l) (hb : Below w.heap.size w w') : Three n1 w' im at_ tx l :=
  ⟨ownsRow_grown h.img (grown_of_below hb none) (by simp), ownsRow_grown h.pg (grown_of_below hb none) (by simp), ownsRow_grown h.txt (grown_of_below hb none) (by simp), Nat.le_trans h.at1 hb.size⟩
theorem Three.kept {ga g m : Nat} {a : ArM} {d : DevM} (h : Three n1 w im at_ tx l) (hT : Tw n0 w ga g m a d) (hK : Kept n0 g m w w') : Three n1 w' im at_ tx l :=
  ⟨ownsRow_kept2 h.img hK hT.dv.blk2 hT.dv.map2 (by decide) (by decide), ownsRow_kept2 h.pg hK hT.dv.blk2 hT.dv.map2 (by decide) (by decide), ownsRow_kept2 h.txt hK hT.dv.blk2 hT.dv.map2 (by decide) (by decide), Nat.le_trans h.at1 hK.below.size⟩
end
theorem Two.mono {w : World} {n0 n1 : Nat} {u v : Value} {xs ys : List (List UInt8)} (h : Two n1 w u v xs ys) (hn : n0 ≤ n1) : Two n0 w u v xs ys :=
  ⟨ownsRow_base h.one hn, ownsRow_base h.two hn, h.apart, Nat.le_trans hn h.at0⟩
theorem Two.kept {w w' : World} {n0 n1 ga g m : Nat} {a : ArM} {d : DevM} {u v : Value} {xs ys : List (List UInt8)} (h : Two n1 w u v xs ys) (hT : Tw n0 w ga g m a d) (hK : Kept n0 g m w w') : Two n1 w' u v xs ys :=
  ⟨ownsRow_kept2 h.one hK hT.dv.blk2 hT.dv.map2 (by decide) (by decide), ownsRow_kept2 h.two hK hT.dv.blk2 hT.dv.map2 (by decide) (by decide), h.apart, Nat.le_trans h.at0 hK.below.size⟩
theorem Blk.kept {w w' : World} {n0 ga g m b : Nat} {a : ArM} {d : DevM} {cs : Array Value} (h : Blk w b 58 cs) (hT : Tw n0 w ga g m a d) (hK : Kept n0 g m w w') : Blk w' b 58 cs := by
  obtain ⟨cs', hg⟩ := hT.dv.blk2
  obtain ⟨es, c, hm⟩ := hT.dv.map2
  refine hK.blk h (h.ne hg (by decide)) (fun e => ?_) (by decide)
  subst e
  unfold Blk at h
  rw [h] at hm
  cases hm
/-- A block of pages as a row of one. -/
theorem Blk.row {w : World} {n0 b : Nat} {u v : Value} (h : Blk w b 58 #[u, v]) (hb : n0 ≤ b) : w.ownsRow n0 58 2 (.slice (some ⟨b, 0, none⟩) 1 1) 1 [u, v] :=
  ⟨rfl, Or.inr ⟨b, 1, #[u, v], rfl, hb, h, Nat.le_refl _, by unfold maxLen; omega, rfl, rfl⟩⟩
theorem Tw.setPages {w : World} {n0 ga g m b : Nat} {a : ArM} {d : DevM} {u v : Value} (h : Tw n0 w ga g m a d) (hb : Blk w b 58 #[u, v]) (hn : n0 ≤ b) (j : Nat) (x : Value) : Tw n0 (w.setCell ⟨b, j, none⟩ x) ga g m a d :=
  h.far (hb.row hn) (grown_setCell w b j x) (by decide) (by decide) (by decide) (by decide)
theorem Tw.setStr {w : World} {n0 ga g m b n c : Nat} {a : ArM} {d : DevM} {v : Value} {xs ys : List (List UInt8)} (h : Tw n0 w ga g m a d) (hT : Two n0 w (.slice (some ⟨b, 0, none⟩) n c) v xs ys) (j : Nat) (x : Value) : Tw n0 (w.setCell ⟨b, j, none⟩ x) ga g m a d :=
  h.far hT.one (grown_setCell w b j x) (by decide) (by decide) (by decide) (by decide)
theorem Three.push {w : World} {n1 : Nat} {im at_ tx : Value} {l : List Img} (h : Three n1 w im at_ tx l) (p : Int) (s : List UInt8) (hl : l.length ≤ 1000) :
    ∃ im' w7 at' w9 tx' w11, (Builtin.append_ #[37, 37] 37 #[im, .slice (some ⟨w.heap.size, 0, none⟩) 1 1]).run Tryd.prog (w.alloc (.cells #[.int .i64 p, .string (bs s)] 36)) = .ok im' w7 ∧
      (Builtin.append_ #[52, 52] 52 #[at_, .slice (some ⟨w7.heap.size, 0, none⟩) 1 1]).run Tryd.prog (w7.alloc (.cells #[.int .i64 p] 3)) = .ok at' w9 ∧
      (Builtin.append_ #[56, 56] 56 #[tx, .slice (some ⟨w9.heap.size, 0, none⟩) 1 1]).run Tryd.prog (w9.alloc (.cells #[.string (bs s)] 9)) = .ok tx' w11 ∧
      Three n1 w11 im' at' tx' (l ++ [(p, s)]) ∧ Below n1 w w11 := by
  have hb6 : Below w.heap.size w (w.alloc (.cells #[.int .i64 p, .string (bs s)] 36)) := (Below.refl _ _).alloc (Nat.le_refl _) _
  have hBk := Blk.made w #[.int .i64 p, .string (bs s)] 36
  have h6 := h.up hb6
  have B6 : Below n1 w _ := hb6.mono h.at1
  obtain ⟨im', w7, hr7, i7, g7⟩ := imgs_append n1 im l p s _ _ h6.img hBk (by omega) h6.at1
  have p7 := own_own h6.pg h6.img (by decide) g7
  have t7 : Strs n1 w7 tx _ := own_own h6.txt h6.img (by decide) g7
  have B7 := below_far B6 h6.img g7 (Nat.le_refl _) h6.at1
  have n7 := below_sz B7 h.at1
  have hb8 : Below w7.heap.size w7 (w7.alloc (.cells #[.int .i64 p] 3)) := (Below.refl _ _).alloc (Nat.le_refl _) _
  have hBk8 := Blk.made w7 #[.int .i64 p] 3
  have i8 := ownsRow_grown i7 (grown_of_below hb8 none) (by simp)
  have p8 := ownsRow_grown p7 (grown_of_below hb8 none) (by simp)
  have t8 : Strs n1 _ tx _ := ownsRow_grown t7 (grown_of_below hb8 none) (by simp)
  have B8 := B7.trans (hb8.mono n7)
  have hIA : IntsAt (w7.alloc (.cells #[.int .i64 p] 3)) (.slice (some ⟨w7.heap.size, 0, none⟩) 1 1) [p] :=
    ⟨some ⟨w7.heap.size, 0, none⟩, 1, rfl, (fun e => by cases e), fun ad e j u hu => by cases e; exact World.news_of_block hBk8 j u (by simpa using hu)⟩
  obtain ⟨at', w9, hr9, p9, g9⟩ := ints_append n1 at_ (l.map (·.1)) [p] _ _ p8 hIA (by simp; omega) (by simp) (below_sz B8 h.at1)
  have i9 := own_own i8 p8 (by decide) g9
  have t9 : Strs n1 w9 tx _ := own_own t8 p8 (by decide) g9
  have B9 := below_far B8 p8 g9 (Nat.le_refl _) (below_sz B8 h.at1)
  have n9 := below_sz B9 h.at1
  have hb10 : Below w9.heap.size w9 (w9.alloc (.cells #[.string (bs s)] 9)) := (Below.refl _ _).alloc (Nat.le_refl _) _
  have hBk10 := Blk.made w9 #[.string (bs s)] 9
  have i10 := ownsRow_grown i9 (grown_of_below hb10 none) (by simp)
  have p10 := ownsRow_grown p9 (grown_of_below hb10 none) (by simp)
  have t10 : Strs n1 _ tx _ := ownsRow_grown t9 (grown_of_below hb10 none) (by simp)
  have B10 := B9.trans (hb10.mono n9)
  obtain ⟨tx', w11, hr11, t11, g11, _⟩ := str_append n1 tx (l.map (·.2)) s _ _ t10 hBk10 (by simp; omega) (below_sz B10 h.at1)
  have i11 := own_own i10 t10 (by decide) g11
  have p11 := own_own p10 t10 (by decide) g11
  have B11 := below_far B10 t10 g11 (Nat.le_refl _) (below_sz B10 h.at1)
  refine ⟨im', w7, at', w9, tx', w11, hr7, hr9, hr11, ⟨i11, ?_, ?_, below_sz B11 h.at1⟩, B11⟩
  · rw [List.map_append]; exact p11
  · rw [List.map_append]; exact t11
end Go.Proofs.YtfkhgmdnajiabaaDoor
