/-
  What the law RecSmall computes: true.
-/
import Derived.Test.YtpeajffnhmmaeaaSmall1
import Derived.Test.YtpeajffnhmmaeaaEqualV
import Derived.Test.YtpeajffnhmmaeaaConcat
import Derived.Test.YtpeajffnhmmaeaaAlive09
namespace Go.Proofs.Ytpeajffnhmmaeaa
set_option linter.unusedVariables false
open Go.RowKit

/-- the law's parameter in its box -/
structure SmBox (w : World) (b x0 x1 x2 y0 y1 y2 y3 : Nat) (y4 : Bool) (z0 z1 z2 v0 v1 : Nat) : Prop where
  obj : w.heap[b]? = some (.cells #[.int .u64 (x0 : Int), .int .u64 (x1 : Int), .int .u16 (x2 : Int), .int .u64 (y0 : Int), .int .u64 (y1 : Int), .int .u16 (y2 : Int), .int .u8 (y3 : Int), .bool y4, .int .u16 (z0 : Int), .int .u16 (z1 : Int), .int .u16 (z2 : Int), .int .u16 (v0 : Int), .int .u16 (v1 : Int)] 64 (0, 0))
section
variable {w w' : World} {b x0 x1 x2 y0 y1 y2 y3 : Nat} {y4 : Bool} {z0 z1 z2 v0 v1 : Nat}
theorem SmBox.cells (h : SmBox w b x0 x1 x2 y0 y1 y2 y3 y4 z0 z1 z2 v0 v1) : w.cell? ⟨b, 0, none⟩ = some (.int .u64 (x0 : Int)) ∧ w.cell? ⟨b, 1, none⟩ = some (.int .u64 (x1 : Int)) ∧ w.cell? ⟨b, 2, none⟩ = some (.int .u16 (x2 : Int)) ∧
    w.cell? ⟨b, 3, none⟩ = some (.int .u64 (y0 : Int)) ∧ w.cell? ⟨b, 4, none⟩ = some (.int .u64 (y1 : Int)) ∧ w.cell? ⟨b, 5, none⟩ = some (.int .u16 (y2 : Int)) ∧ w.cell? ⟨b, 6, none⟩ = some (.int .u8 (y3 : Int)) ∧ w.cell? ⟨b, 7, none⟩ = some (.bool y4) ∧
    w.cell? ⟨b, 8, none⟩ = some (.int .u16 (z0 : Int)) ∧ w.cell? ⟨b, 9, none⟩ = some (.int .u16 (z1 : Int)) ∧ w.cell? ⟨b, 10, none⟩ = some (.int .u16 (z2 : Int)) ∧ w.cell? ⟨b, 11, none⟩ = some (.int .u16 (v0 : Int)) ∧ w.cell? ⟨b, 12, none⟩ = some (.int .u16 (v1 : Int)) := by
  refine ⟨?_, ?_, ?_, ?_, ?_, ?_, ?_, ?_, ?_, ?_, ?_, ?_, ?_⟩ <;> (rw [cell_of_row w b _ _ _ (0, 0) h.obj]; rfl)
theorem SmBox.lt (h : SmBox w b x0 x1 x2 y0 y1 y2 y3 y4 z0 z1 z2 v0 v1) : b < w.heap.size := (Array.getElem?_eq_some_iff.1 h.obj).1
theorem SmBox.next (h : SmBox w b x0 x1 x2 y0 y1 y2 y3 y4 z0 z1 z2 v0 v1) (hb : Below w.heap.size w w') : SmBox w' b x0 x1 x2 y0 y1 y2 y3 y4 z0 z1 z2 v0 v1 := ⟨(hb.block b h.lt).trans h.obj⟩
end
/-- a variable's row, made since -/
theorem row_later {w w' : World} {k : Nat} {o : Obj} (h : w.heap[k]? = some o) (hb : Below w.heap.size w w') : w'.heap[k]? = some o := (hb.block k (Array.getElem?_eq_some_iff.1 h).1).trans h
theorem two_rows (w : World) (o1 o2 : Obj) {w' : World} (hb : Below ((w.alloc o1).alloc o2).heap.size ((w.alloc o1).alloc o2) w') : w'.heap[w.heap.size]? = some o1 ∧ w'.heap[w.heap.size + 1]? = some o2 :=
  ⟨row_later (two_new w o1 o2).1 hb, row_later (two_new w o1 o2).2 hb⟩

/-- all bytes of the law -/
def smB (x0 x1 x2 y0 y1 y2 y3 : Nat) (y4 : Bool) (z0 z1 z2 v0 v1 : Nat) : List UInt8 := winB x0 x1 x2 ++ regB y0 y1 y2 y3 y4 ++ headB z0 z1 z2 ++ linkB v0 v1
theorem smB_len (x0 x1 x2 y0 y1 y2 y3 : Nat) (y4 : Bool) (z0 z1 z2 v0 v1 : Nat) : (smB x0 x1 x2 y0 y1 y2 y3 y4 z0 z1 z2 v0 v1).length = 64 := by simp only [smB, List.length_append, winB_len, regB_len, headB_len, linkB_len]
theorem RdS.lit {w : World} {T : TypeId} {L : List Sl} {cs : Array Value} (hcs : cs.toList = L.map Sl.val) (h : ∀ s ∈ L, Rd w w.heap.size s.A s.xs) : RdS (w.alloc (.cells cs T)) (w.alloc (.cells cs T)).heap.size (some ⟨w.heap.size, 0, none⟩) L := by
  refine ⟨.inr ⟨w.heap.size, 0, rfl, by simp, fun j s hj => ?_⟩, fun s hs => ((h s hs).alloc (Nat.le_refl _) _).more (by simp)⟩
  rw [Nat.zero_add, World.cell?_alloc_at (w := w) _ _ _ _ rfl]
  have : cs.toList[j]? = some s.val := by rw [hcs, List.getElem?_map, hj]; rfl
  simpa using this
/-- what the law keeps: its box, the bytes, variables made since -/
structure SmSt (w0 w : World) (X : World → Prop) (A : Option Addr) (c : Nat) (S : List UInt8) (rows : List (Nat × Obj)) : Prop where
  box : X w
  own : Own w A c S
  bel : Below w0.heap.size w0 w
  rows : ∀ p ∈ rows, w.heap[p.1]? = some p.2
section
variable {w0 w w' : World} {X : World → Prop} {A : Option Addr} {c : Nat} {S : List UInt8} {rows : List (Nat × Obj)}
theorem SmSt.next (h : SmSt w0 w X A c S rows) (hX : ∀ a b, X a → Below a.heap.size a b → X b) (hb : Below w.heap.size w w') : SmSt w0 w' X A c S rows :=
  ⟨hX _ _ h.box hb, h.own.keep (S := fun _ => False) (Chg.of_below hb) (fun _ _ h => h), h.bel.trans (hb.mono h.bel.size), fun p hp => row_later (h.rows p hp) hb⟩
theorem SmSt.two (h : SmSt w0 w X A c S rows) (hX : ∀ a b, X a → Below a.heap.size a b → X b) (o1 o2 : Obj) : SmSt w0 ((w.alloc o1).alloc o2) X A c S ((w.heap.size, o1) :: (w.heap.size + 1, o2) :: rows) := by
  have h1 := h.next hX (((Below.refl _ w).alloc (Nat.le_refl _) o1).alloc (by simp) o2)
  refine ⟨h1.box, h1.own, h1.bel, fun p hp => ?_⟩
  rcases List.mem_cons.1 hp with rfl | hp
  · exact (two_new w o1 o2).1
  rcases List.mem_cons.1 hp with rfl | hp
  · exact (two_new w o1 o2).2
  · exact h1.rows p hp
end

set_option maxRecDepth 100000 in
set_option maxHeartbeats 4000000 in
theorem RecSmall_main (x0 x1 x2 y0 y1 y2 y3 : Nat) (y4 : Bool) (z0 z1 z2 v0 v1 : Nat) (w : World) (hx0 : x0 < 18446744073709551616) (hx1 : x1 < 18446744073709551616) (hx2 : x2 < 65536) (hy0 : y0 < 18446744073709551616) (hy1 : y1 < 18446744073709551616) (hy2 : y2 < 65536) (hy3 : (y3 : Int) ≤ 7)
    (hz0 : z0 < 65536) (hz1 : z1 < 65536) (hz2 : z2 < 65536) (hv0 : v0 < 65536) (hv1 : v1 < 65536) :
    Calls Try.prog 6 #[.agg #[.int .u64 (x0 : Int), .int .u64 (x1 : Int), .int .u16 (x2 : Int), .int .u64 (y0 : Int), .int .u64 (y1 : Int), .int .u16 (y2 : Int), .int .u8 (y3 : Int), .bool y4, .int .u16 (z0 : Int), .int .u16 (z1 : Int), .int .u16 (z2 : Int), .int .u16 (v0 : Int), .int .u16 (v1 : Int)]] w (AliveOK w) := by
  obtain ⟨wb, hwb⟩ : ∃ wb, wb = w.alloc (.cells #[.int .u64 (x0 : Int), .int .u64 (x1 : Int), .int .u16 (x2 : Int), .int .u64 (y0 : Int), .int .u64 (y1 : Int), .int .u16 (y2 : Int), .int .u8 (y3 : Int), .bool y4, .int .u16 (z0 : Int), .int .u16 (z1 : Int), .int .u16 (z2 : Int), .int .u16 (v0 : Int), .int .u16 (v1 : Int)] 64) := ⟨_, rfl⟩
  have hbox : SmBox wb w.heap.size x0 x1 x2 y0 y1 y2 y3 y4 z0 z1 z2 v0 v1 := ⟨by rw [hwb]; exact heap_alloc_new w _⟩
  have hbw : Below w.heap.size w wb := by rw [hwb]; exact (Below.refl _ w).alloc (Nat.le_refl _) _
  have HWB := Lib.hid hwb
  have HX := Lib.hid hbox
  have HB0 := Lib.hid hbw
  have hsz := hbw.size
  have hd7 : decide ((7 : Int) < (y3 : Int)) = false := decide_eq_false (by omega)
  have HXN : Hid (∀ a b, SmBox a w.heap.size x0 x1 x2 y0 y1 y2 y3 y4 z0 z1 z2 v0 v1 → Below a.heap.size a b → SmBox b w.heap.size x0 x1 x2 y0 y1 y2 y3 y4 z0 z1 z2 v0 v1) := fun a b h hb => h.next hb
  have C1 : Hid (Clear (resWindow (smB x0 x1 x2 y0 y1 y2 y3 y4 z0 z1 z2 v0 v1) 0) #[.int .u64 (x0 : Int), .int .u64 (x1 : Int), .int .u16 (x2 : Int)] (codeWindow (smB x0 x1 x2 y0 y1 y2 y3 y4 z0 z1 z2 v0 v1) 0) (placeWindow (smB x0 x1 x2 y0 y1 y2 y3 y4 z0 z1 z2 v0 v1) 0)) := by
    show Clear _ _ _ _
    have h := clear_win [] (regB y0 y1 y2 y3 y4 ++ headB z0 z1 z2 ++ linkB v0 v1) x0 x1 x2 hx0 hx1 hx2
    simpa only [smB, List.append_assoc, List.nil_append, List.length_nil] using h
  have C2 : Hid (Clear (resRegion (smB x0 x1 x2 y0 y1 y2 y3 y4 z0 z1 z2 v0 v1) 24) #[.int .u64 (y0 : Int), .int .u64 (y1 : Int), .int .u16 (y2 : Int), .int .u8 (y3 : Int), .bool y4] (codeRegion (smB x0 x1 x2 y0 y1 y2 y3 y4 z0 z1 z2 v0 v1) 24) (placeRegion (smB x0 x1 x2 y0 y1 y2 y3 y4 z0 z1 z2 v0 v1) 24)) := by
    show Clear _ _ _ _
    have h := clear_reg (winB x0 x1 x2) (headB z0 z1 z2 ++ linkB v0 v1) y0 y1 y2 y3 y4 hy0 hy1 hy2 (by omega)
    rw [winB_len] at h
    simpa only [smB, List.append_assoc, Nat.reduceAdd] using h
  have C3 : Hid (Clear (resHead (smB x0 x1 x2 y0 y1 y2 y3 y4 z0 z1 z2 v0 v1) 48) #[.int .u16 (z0 : Int), .int .u16 (z1 : Int), .int .u16 (z2 : Int)] (codeHead (smB x0 x1 x2 y0 y1 y2 y3 y4 z0 z1 z2 v0 v1) 48) (placeHead (smB x0 x1 x2 y0 y1 y2 y3 y4 z0 z1 z2 v0 v1) 48)) := by
    show Clear _ _ _ _
    have h := clear_head (winB x0 x1 x2 ++ regB y0 y1 y2 y3 y4) (linkB v0 v1) z0 z1 z2 hz0 hz1 hz2
    rw [List.length_append, winB_len, regB_len] at h
    simpa only [smB, List.append_assoc, Nat.reduceAdd] using h
  have C4 : Hid (Clear (resLink (smB x0 x1 x2 y0 y1 y2 y3 y4 z0 z1 z2 v0 v1) 56) #[.int .u16 (v0 : Int), .int .u16 (v1 : Int)] (codeLink (smB x0 x1 x2 y0 y1 y2 y3 y4 z0 z1 z2 v0 v1) 56) (placeLink (smB x0 x1 x2 y0 y1 y2 y3 y4 z0 z1 z2 v0 v1) 56)) := by
    show Clear _ _ _ _
    have h := clear_link (winB x0 x1 x2 ++ regB y0 y1 y2 y3 y4 ++ headB z0 z1 z2) [] v0 v1 hv0 hv1
    rw [List.length_append, List.length_append, winB_len, regB_len, headB_len] at h
    simpa only [smB, List.append_assoc, List.append_nil, Nat.reduceAdd] using h
  have HLN := Lib.hid (smB_len x0 x1 x2 y0 y1 y2 y3 y4 z0 z1 z2 v0 v1)
  have HDF : Hid (smB x0 x1 x2 y0 y1 y2 y3 y4 z0 z1 z2 v0 v1 = [] ++ winB x0 x1 x2 ++ regB y0 y1 y2 y3 y4 ++ headB z0 z1 z2 ++ linkB v0 v1) := rfl
  have HDC : Hid (catS [⟨none, 0, winB x0 x1 x2⟩, ⟨none, 0, regB y0 y1 y2 y3 y4⟩, ⟨none, 0, headB z0 z1 z2⟩, ⟨none, 0, linkB v0 v1⟩] = smB x0 x1 x2 y0 y1 y2 y3 y4 z0 z1 z2 v0 v1) := by
    show _ = _
    simp only [catS, smB, List.map_cons, List.map_nil, List.flatten_cons, List.flatten_nil, List.append_nil, List.append_assoc]
  obtain ⟨k0, k1, k2, k3, k4, k5, k6, k7, k8, k9, k10, k11, k12⟩ := hbox.cells
  clear hwb hbox hbw
  go_enter Try.func6, Try.ntmps6
  go_wp2_with fail
  rw [← HWB.out]
  clear HWB k0 k1 k2 k3 k4 k5 k6 k7 k8 k9 k10 k11 k12
  refine (New_ok wb.heap.size none 0 0 [] wb rfl Rd.nil (Nat.le_refl _) (by simp)).mono ?_
  rintro e w1 ⟨g, rfl, hB1⟩
  have HB1 := Lib.hid hB1
  obtain ⟨k0, k1, k2, k3, k4, k5, k6, k7, k8, k9, k10, k11, k12⟩ := (HX.out.next hB1.bel).cells
  clear hB1
  go_wp2_with fail
  refine (PutWindow_ok wb w1 g [] HB1.out x0 x1 x2 hx0 hx1 hx2 (by simp)).mono ?_
  rintro e w2 ⟨rfl, hB2⟩
  clear k0 k1 k2 k3 k4 k5 k6 k7 k8 k9 k10 k11 k12
  have HB2 := Lib.hid hB2
  obtain ⟨k0, k1, k2, k3, k4, k5, k6, k7, k8, k9, k10, k11, k12⟩ := (HX.out.next hB2.bel).cells
  clear hB2 HB1
  go_wp2_with fail
  refine (PutRegion_ok wb w2 g _ HB2.out y0 y1 y2 y3 y4 hy0 hy1 hy2 (by omega) (by simp only [List.length_append, List.length_nil, winB_len]; omega)).mono ?_
  rintro e w3 ⟨rfl, hB3⟩
  clear k0 k1 k2 k3 k4 k5 k6 k7 k8 k9 k10 k11 k12
  have HB3 := Lib.hid hB3
  obtain ⟨k0, k1, k2, k3, k4, k5, k6, k7, k8, k9, k10, k11, k12⟩ := (HX.out.next hB3.bel).cells
  clear hB3 HB2
  go_wp2_with fail
  refine (PutHead_ok wb w3 g _ HB3.out z0 z1 z2 hz0 hz1 hz2 (by simp only [List.length_append, List.length_nil, winB_len, regB_len]; omega)).mono ?_
  rintro e w4 ⟨rfl, hB4⟩
  clear k0 k1 k2 k3 k4 k5 k6 k7 k8 k9 k10 k11 k12
  have HB4 := Lib.hid hB4
  obtain ⟨k0, k1, k2, k3, k4, k5, k6, k7, k8, k9, k10, k11, k12⟩ := (HX.out.next hB4.bel).cells
  clear hB4 HB3
  go_wp2_with fail
  refine (PutLink_ok2 wb w4 g _ HB4.out v0 v1 hv0 hv1 (by simp only [List.length_append, List.length_nil, winB_len, regB_len, headB_len]; omega)).mono ?_
  rintro e w5 ⟨rfl, hB5⟩
  clear k0 k1 k2 k3 k4 k5 k6 k7 k8 k9 k10 k11 k12
  rw [← HDF.out] at hB5
  have HB5 := Lib.hid hB5
  clear hB5 HB4 HDF
  generalize smB x0 x1 x2 y0 y1 y2 y3 y4 z0 z1 z2 v0 v1 = S at *
  go_wp2_with fail
  refine (Bytes_ok wb w5 g S HB5.out (by rw [HLN.out]; omega)).mono ?_
  rintro e w6 ⟨A, c, rfl, ho6, hf6, hB6⟩
  have G6 := Lib.hid (show SmSt w w6 (fun u => SmBox u w.heap.size x0 x1 x2 y0 y1 y2 y3 y4 z0 z1 z2 v0 v1) A c S [] from ⟨HX.out.next hB6.bel, ho6, HB0.out.trans (hB6.bel.mono hsz), fun p hp => by simp at hp⟩)
  have HLE := Lib.hid ho6.le
  clear ho6 hf6 hB6 HB5
  go_wp2_with fail
  refine (GetWindow_yes w6.heap.size A c S 0 w6 G6.out.own.rd (Nat.le_refl _) HLE.out.1 HLE.out.2 (by rw [HLN.out]; omega) (by rw [HLN.out]; omega)).mono ?_
  rintro e w7 ⟨he, hb7⟩
  rw [C1.out.1, C1.out.2.1, C1.out.2.2] at he
  subst he
  have G7 := Lib.hid ((G6.out.next HXN.out hb7).two HXN.out (.cells #[.int .u64 (x0 : Int), .int .u64 (x1 : Int), .int .u16 (x2 : Int)] 58) (.cells #[.int .i64 0, .int .i64 0, .int .i64 0] 34))
  clear hb7 G6 C1
  go_wp2_with fail
  generalize ((w7.alloc (.cells #[.int .u64 (x0 : Int), .int .u64 (x1 : Int), .int .u16 (x2 : Int)] 58)).alloc (.cells #[.int .i64 0, .int .i64 0, .int .i64 0] 34)) = u7 at *
  refine (GetRegion_yes u7.heap.size A c S 24 u7 G7.out.own.rd (Nat.le_refl _) HLE.out.1 HLE.out.2 (by rw [HLN.out]; omega) (by rw [HLN.out]; omega)).mono ?_
  rintro e w8 ⟨he, hb8⟩
  rw [C2.out.1, C2.out.2.1, C2.out.2.2] at he
  subst he
  have G8 := Lib.hid ((G7.out.next HXN.out hb8).two HXN.out (.cells #[.int .u64 (y0 : Int), .int .u64 (y1 : Int), .int .u16 (y2 : Int), .int .u8 (y3 : Int), .bool y4] 50) (.cells #[.int .i64 0, .int .i64 0, .int .i64 0] 34))
  clear hb8 G7 C2
  go_wp2_with fail
  generalize ((w8.alloc (.cells #[.int .u64 (y0 : Int), .int .u64 (y1 : Int), .int .u16 (y2 : Int), .int .u8 (y3 : Int), .bool y4] 50)).alloc (.cells #[.int .i64 0, .int .i64 0, .int .i64 0] 34)) = u8 at *
  refine (GetHead_yes u8.heap.size A c S 48 u8 G8.out.own.rd (Nat.le_refl _) HLE.out.1 HLE.out.2 (by rw [HLN.out]; omega) (by rw [HLN.out]; omega)).mono ?_
  rintro e w9 ⟨he, hb9⟩
  rw [C3.out.1, C3.out.2.1, C3.out.2.2] at he
  subst he
  have G9 := Lib.hid ((G8.out.next HXN.out hb9).two HXN.out (.cells #[.int .u16 (z0 : Int), .int .u16 (z1 : Int), .int .u16 (z2 : Int)] 67) (.cells #[.int .i64 0, .int .i64 0, .int .i64 0] 34))
  clear hb9 G8 C3
  go_wp2_with fail
  generalize ((w9.alloc (.cells #[.int .u16 (z0 : Int), .int .u16 (z1 : Int), .int .u16 (z2 : Int)] 67)).alloc (.cells #[.int .i64 0, .int .i64 0, .int .i64 0] 34)) = u9 at *
  refine (GetLink_yes u9.heap.size A c S 56 u9 G9.out.own.rd (Nat.le_refl _) HLE.out.1 HLE.out.2 (by rw [HLN.out]; omega) (by rw [HLN.out]; omega)).mono ?_
  rintro e w10 ⟨he, hb10⟩
  rw [C4.out.1, C4.out.2.1, C4.out.2.2] at he
  subst he
  have G10 := Lib.hid ((G9.out.next HXN.out hb10).two HXN.out (.cells #[.int .u16 (v0 : Int), .int .u16 (v1 : Int)] 69) (.cells #[.int .i64 0, .int .i64 0, .int .i64 0] 34))
  clear hb10 G9 C4
  go_wp2_with fail
  generalize ((w10.alloc (.cells #[.int .u16 (v0 : Int), .int .u16 (v1 : Int)] 69)).alloc (.cells #[.int .i64 0, .int .i64 0, .int .i64 0] 34)) = u10 at *
  have K0 := Lib.hid (Kept.nil u10).drew
  have G10d := Lib.hid (G10.out.next HXN.out ((Below.refl _ u10).drew))
  have hS := G10d.out.box
  refine wp_region_Z (fun u => SmBox u w.heap.size x0 x1 x2 y0 y1 y2 y3 y4 z0 z1 z2 v0 v1) 14 (by kernel_rfl) ?_
  generalize w.heap.size = b at *
  refine anyZ_take 0 (.pointer (some ⟨b, 0, none⟩)) rfl (by kernel_rfl) (by kernel_rfl) (by kernel_rfl) (by kernel_rfl) (fun _ _ _ h => h) (by rfl) hS (fun w' hSw => by obtain ⟨s0, s1, s2, s3, s4, s5, s6, s7, s8, s9, s10, s11, s12⟩ := hSw.cells; go_simp) ?_
  refine anyZ_take 1 (.agg #[.int .u64 (x0 : Int), .int .u64 (x1 : Int), .int .u16 (x2 : Int)]) rfl (by kernel_rfl) (by kernel_rfl) (by kernel_rfl) (by kernel_rfl) (fun _ _ _ h => h) (by rfl) hS (fun w' hSw => by obtain ⟨s0, s1, s2, s3, s4, s5, s6, s7, s8, s9, s10, s11, s12⟩ := hSw.cells; go_simp) ?_
  refine anyZ_take 3 (.pointer (some ⟨b, 3, none⟩)) rfl (by kernel_rfl) (by kernel_rfl) (by kernel_rfl) (by kernel_rfl) (fun _ _ _ h => h) (by rfl) hS (fun w' hSw => by obtain ⟨s0, s1, s2, s3, s4, s5, s6, s7, s8, s9, s10, s11, s12⟩ := hSw.cells; go_simp) ?_
  refine anyZ_take 4 (.agg #[.int .u64 (y0 : Int), .int .u64 (y1 : Int), .int .u16 (y2 : Int), .int .u8 (y3 : Int), .bool y4]) rfl (by kernel_rfl) (by kernel_rfl) (by kernel_rfl) (by kernel_rfl) (fun _ _ _ h => h) (by rfl) hS (fun w' hSw => by obtain ⟨s0, s1, s2, s3, s4, s5, s6, s7, s8, s9, s10, s11, s12⟩ := hSw.cells; go_simp) ?_
  refine anyZ_take 6 (.pointer (some ⟨b, 8, none⟩)) rfl (by kernel_rfl) (by kernel_rfl) (by kernel_rfl) (by kernel_rfl) (fun _ _ _ h => h) (by rfl) hS (fun w' hSw => by obtain ⟨s0, s1, s2, s3, s4, s5, s6, s7, s8, s9, s10, s11, s12⟩ := hSw.cells; go_simp) ?_
  refine anyZ_take 7 (.agg #[.int .u16 (z0 : Int), .int .u16 (z1 : Int), .int .u16 (z2 : Int)]) rfl (by kernel_rfl) (by kernel_rfl) (by kernel_rfl) (by kernel_rfl) (fun _ _ _ h => h) (by rfl) hS (fun w' hSw => by obtain ⟨s0, s1, s2, s3, s4, s5, s6, s7, s8, s9, s10, s11, s12⟩ := hSw.cells; go_simp) ?_
  refine anyZ_take 9 (.pointer (some ⟨b, 11, none⟩)) rfl (by kernel_rfl) (by kernel_rfl) (by kernel_rfl) (by kernel_rfl) (fun _ _ _ h => h) (by rfl) hS (fun w' hSw => by obtain ⟨s0, s1, s2, s3, s4, s5, s6, s7, s8, s9, s10, s11, s12⟩ := hSw.cells; go_simp) ?_
  refine anyZ_take 10 (.agg #[.int .u16 (v0 : Int), .int .u16 (v1 : Int)]) rfl (by kernel_rfl) (by kernel_rfl) (by kernel_rfl) (by kernel_rfl) (fun _ _ _ h => h) (by rfl) hS (fun w' hSw => by obtain ⟨s0, s1, s2, s3, s4, s5, s6, s7, s8, s9, s10, s11, s12⟩ := hSw.cells; go_simp) ?_
  clear hS
  refine anyZ_next 2 rfl (by kernel_rfl) (fun K hK => ?_)
  rw [if_pos (by rfl)]
  go_simp
  refine (refWindow_any x0 x1 x2 _ hx0 hx1 hx2).mono ?_
  rintro e d1 ⟨A1, c1, rfl, q1, l1⟩
  have GA1 := Lib.hid (G10d.out.next HXN.out q1.bel)
  have O1 := Lib.hid q1.own
  have L1 := Lib.hid l1
  have B1 := Lib.hid q1.bel
  clear q1 l1
  go_simp
  refine hK _ _ (fun _ => GA1.out.box) ?_
  clear hK K
  refine anyZ_next 5 rfl (by kernel_rfl) (fun K hK => ?_)
  rw [if_pos (by rfl)]
  go_simp
  refine (refRegion_any y0 y1 y2 y3 y4 _ hy0 hy1 hy2 (by omega)).mono ?_
  rintro e d2 ⟨A2, c2, rfl, q2, l2⟩
  have GA2 := Lib.hid (GA1.out.next HXN.out q2.bel)
  have O2 := Lib.hid q2.own
  have L2 := Lib.hid l2
  have B2 := Lib.hid q2.bel
  clear q2 l2
  go_simp
  refine hK _ _ (fun _ => GA2.out.box) ?_
  clear hK K
  refine anyZ_next 8 rfl (by kernel_rfl) (fun K hK => ?_)
  rw [if_pos (by rfl)]
  go_simp
  refine (refHeadBytes_any z0 z1 z2 _ hz0 hz1 hz2).mono ?_
  rintro e d3 ⟨A3, c3, rfl, q3, l3⟩
  have GA3 := Lib.hid (GA2.out.next HXN.out q3.bel)
  have O3 := Lib.hid q3.own
  have L3 := Lib.hid l3
  have B3 := Lib.hid q3.bel
  clear q3 l3
  go_simp
  refine hK _ _ (fun _ => GA3.out.box) ?_
  clear hK K
  refine anyZ_next 11 rfl (by kernel_rfl) (fun K hK => ?_)
  rw [if_pos (by rfl)]
  go_simp
  refine (refLinkBytes_any v0 v1 _ hv0 hv1).mono ?_
  rintro e d4 ⟨A4, c4, rfl, q4, l4⟩
  have GA4 := Lib.hid (GA3.out.next HXN.out q4.bel)
  have O4 := Lib.hid q4.own
  have L4 := Lib.hid l4
  have B4 := Lib.hid q4.bel
  clear q4 l4
  go_simp
  refine hK _ _ (fun _ => GA4.out.box) ?_
  clear hK K
  have kp : ∀ {a b : World} {A : Option Addr} {c : Nat} {xs : List UInt8}, Own a A c xs → Below a.heap.size a b → Own b A c xs := fun h hb => h.keep (S := fun _ => False) (Chg.of_below hb) (fun _ _ h => h)
  have hcs : (#[.slice A1 24 c1, .slice A2 24 c2, .slice A3 8 c3, .slice A4 8 c4] : Array Value).toList = ([⟨A1, c1, winB x0 x1 x2⟩, ⟨A2, c2, regB y0 y1 y2 y3 y4⟩, ⟨A3, c3, headB z0 z1 z2⟩, ⟨A4, c4, linkB v0 v1⟩] : List Sl).map Sl.val := by
    simp only [Sl.val, List.map_cons, List.map_nil, winB_len, regB_len, headB_len, linkB_len]
  have hL : ∀ s ∈ ([⟨A1, c1, winB x0 x1 x2⟩, ⟨A2, c2, regB y0 y1 y2 y3 y4⟩, ⟨A3, c3, headB z0 z1 z2⟩, ⟨A4, c4, linkB v0 v1⟩] : List Sl), Rd d4 d4.heap.size s.A s.xs := by
    intro s hs
    simp only [List.mem_cons, List.not_mem_nil, or_false] at hs
    rcases hs with rfl | rfl | rfl | rfl
    · exact (kp (kp (kp O1.out B2.out) B3.out) B4.out).rd
    · exact (kp (kp O2.out B3.out) B4.out).rd
    · exact (kp O3.out B4.out).rd
    · exact O4.out.rd
  have hcat : catS ([⟨A1, c1, winB x0 x1 x2⟩, ⟨A2, c2, regB y0 y1 y2 y3 y4⟩, ⟨A3, c3, headB z0 z1 z2⟩, ⟨A4, c4, linkB v0 v1⟩] : List Sl) = S := HDC.out
  have HC := Lib.hid (Concat_any (some ⟨d4.heap.size, 0, none⟩) 4 4 _ _ rfl (RdS.lit (T := 22) hcs hL) (by omega) (by rw [hcat, HLN.out]; omega))
  have HCAT := Lib.hid hcat
  have HKP := Lib.hid (fun (a b : World) (A : Option Addr) (c : Nat) (xs : List UInt8) (h : Own a A c xs) (hb : Below a.heap.size a b) => kp h hb)
  have GB := Lib.hid (fun o => GA4.out.next HXN.out ((Below.refl _ d4).alloc (Nat.le_refl _) o))
  clear hcs hL hcat kp HDC O1 O2 O3 O4 L1 L2 L3 L4 B1 B2 B3 B4
  refine anyZ_next 12 rfl (by kernel_rfl) (fun K hK => ?_)
  rw [if_pos (by rfl)]
  go_simp
  refine hK _ _ (fun _ => (GB.out _).box) ?_
  clear hK K
  refine anyZ_next 13 rfl (by kernel_rfl) (fun K hK => ?_)
  rw [if_pos (by rfl)]
  go_simp
  refine HC.out.mono ?_
  rintro e d5 ⟨A5, c5, rfl, ho5, hf5, hb5⟩
  rw [HCAT.out] at ho5 ⊢
  have GC := Lib.hid ((GB.out _).next HXN.out hb5)
  have O5 := Lib.hid ho5
  clear ho5 hf5 hb5 HC HCAT GB
  go_simp
  refine hK _ _ (fun _ => GC.out.box) ?_
  clear hK K
  refine anyZ_next 14 rfl (by kernel_rfl) (fun K hK => ?_)
  rw [if_pos (by rfl)]
  go_simp
  refine hK _ _ (fun h => absurd rfl h) ?_
  clear hK K
  refine anyZ_done (by kernel_rfl) ?_ _
  go_wp2_with fail
  refine (alive09 _).mono ?_
  rintro e d6 ⟨rfl, hb6⟩
  have GD := Lib.hid (GC.out.next HXN.out hb6)
  have O6 := Lib.hid (HKP.out _ _ _ _ _ O5.out hb6)
  clear hb6 O5
  go_wp2_with fail
  refine (EqualV_any d6.heap.size A c S d6.heap.size A5 c5 S _ _ d6 rfl rfl GD.out.own.rd O6.out.rd (by rw [HLN.out]; omega) (by rw [HLN.out]; omega)).mono ?_
  rintro e d7 ⟨rfl, q, rfl⟩
  rw [decide_eq_true (Eq.refl S)]
  obtain ⟨k0, k1, k2, k3, k4, k5, k6, k7, k8, k9, k10, k11, k12⟩ := GD.out.box.cells
  obtain ⟨a0, a1, a2⟩ := row3_cells (GD.out.rows (w7.heap.size, .cells #[.int .u64 (x0 : Int), .int .u64 (x1 : Int), .int .u16 (x2 : Int)] 58) (by simp))
  obtain ⟨a3, a4, a5⟩ := row3_cells (GD.out.rows (w7.heap.size + 1, .cells #[.int .i64 0, .int .i64 0, .int .i64 0] 34) (by simp))
  obtain ⟨b0, b1, b2, b3, b4⟩ := row5_cells (GD.out.rows (w8.heap.size, .cells #[.int .u64 (y0 : Int), .int .u64 (y1 : Int), .int .u16 (y2 : Int), .int .u8 (y3 : Int), .bool y4] 50) (by simp))
  obtain ⟨b5, b6, b7⟩ := row3_cells (GD.out.rows (w8.heap.size + 1, .cells #[.int .i64 0, .int .i64 0, .int .i64 0] 34) (by simp))
  obtain ⟨f0, f1, f2⟩ := row3_cells (GD.out.rows (w9.heap.size, .cells #[.int .u16 (z0 : Int), .int .u16 (z1 : Int), .int .u16 (z2 : Int)] 67) (by simp))
  obtain ⟨f3, f4, f5⟩ := row3_cells (GD.out.rows (w9.heap.size + 1, .cells #[.int .i64 0, .int .i64 0, .int .i64 0] 34) (by simp))
  obtain ⟨g0, g1⟩ := row2_cells (GD.out.rows (w10.heap.size, .cells #[.int .u16 (v0 : Int), .int .u16 (v1 : Int)] 69) (by simp))
  obtain ⟨g2, g3, g4⟩ := row3_cells (GD.out.rows (w10.heap.size + 1, .cells #[.int .i64 0, .int .i64 0, .int .i64 0] 34) (by simp))
  have hbel := Lib.hid GD.out.bel
  clear GD O6 GC
  go_wp2
  go_ret
  exact ⟨by simp, ⟨hbel.out.os, hbel.out.tape, hbel.out.output, hbel.out.size, hbel.out.block⟩⟩
end Go.Proofs.Ytpeajffnhmmaeaa
