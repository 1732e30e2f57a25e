/-
  Contracts of rec.done: no fault; all together.
-/
import Derived.Test.YtpeajffnhmmaeaaRecE
namespace Go.Proofs.Ytpeajffnhmmaeaa
set_option linter.unusedVariables false
open Go.RowKit

theorem doneLink_any {w wi : World} {Z : Array Value} {ty r n c : Nat} {A : Option Addr} {a fc fa dc da : Int} (h : GSt w wi Z ty r A n c a fc fa dc da) (hf : Clean 15 fc fa) (hd : Clean 14 dc da) (x0 : Int) (x1 : Int) :
    Calls Try.prog 68 #[.pointer (some ⟨r, 0, none⟩), .agg #[.int .u16 x0, .int .u16 x1]] wi fun e w' =>
      e = .returned (.tuple #[.agg (if fc = 0 ∧ dc = 0 then #[.int .u16 x0, .int .u16 x1] else #[.int .u16 0, .int .u16 0]), .agg #[.int .i64 (fltC fc dc), .int .i64 0, .int .i64 (fltA fc fa da)]]) ∧ GEnd w w' Z ty := by
  have hr := h.rd
  rcases hf with ⟨rfl, rfl⟩ | rfl
  · rcases hd with ⟨rfl, rfl⟩ | rfl
    · exact (doneLink_ok A n c a r wi hr x0 x1).mono fun _ _ ⟨he, hb⟩ => ⟨he, h.end_ hb⟩
    · exact (doneLink_d A n c a da r wi hr x0 x1).mono fun _ _ ⟨he, hb⟩ => ⟨he, h.end_ hb⟩
  · exact (doneLink_f A n c a fa dc da r wi hr x0 x1).mono fun _ _ ⟨he, hb⟩ => ⟨by rw [he, if_neg (by omega)]; rfl, h.end_ hb⟩
set_option maxRecDepth 20000 in
set_option maxHeartbeats 400000 in
theorem doneHead_ok (A : Option Addr) (n c : Nat) (a : Int) (r : Nat) (w : World) (hr : Rdr w r A n c a 0 0 0 0) (x0 : Int) (x1 : Int) (x2 : Int) :
    Calls Try.prog 67 #[.pointer (some ⟨r, 0, none⟩), .agg #[.int .u16 x0, .int .u16 x1, .int .u16 x2]] w fun e w' =>
      e = .returned (.tuple #[.agg #[.int .u16 x0, .int .u16 x1, .int .u16 x2], .agg #[.int .i64 0, .int .i64 0, .int .i64 0]]) ∧ Below w.heap.size w w' := by
  obtain ⟨h0, h1, h2, h3, h4, h5, h6, h7⟩ := hr.cells
  have hlt := hr.lt
  have HR := Lib.hid hr
  clear hr h0 h1
  have up : ∀ k v, w.cell? ⟨r, k, none⟩ = some v → ∀ o1 o2 o3 o4, ((((w.alloc o1).alloc o2).alloc o3).alloc o4).cell? ⟨r, k, none⟩ = some v := by
    intro k v hk o1 o2 o3 o4
    rw [World.cell?_alloc_lt _ _ _ (by simp; omega), World.cell?_alloc_lt _ _ _ (by simp; omega), World.cell?_alloc_lt _ _ _ (by simp; omega), World.cell?_alloc_lt _ _ _ (by simpa using hlt), hk]
  have u2 := up _ _ h2
  have u3 := up _ _ h3
  have u4 := up _ _ h4
  have u5 := up _ _ h5
  have u6 := up _ _ h6
  have u7 := up _ _ h7
  clear h2 h3 h4 h5 h6 h7 up
  go_enter Try.func67, Try.ntmps67
  go_wp2
  refine bodyPost_ret (v := .tuple #[.agg #[.int .u16 x0, .int .u16 x1, .int .u16 x2], .agg #[.int .i64 0, .int .i64 0, .int .i64 0]]) (by simp [results, Try.results67, go_sem]) rfl ⟨rfl, ?_⟩
  exact ((((Below.refl _ w).alloc (Nat.le_refl _) _).alloc (by simp) _).alloc (by simp; omega) _).alloc (by simp; omega) _
theorem doneHead_any {w wi : World} {Z : Array Value} {ty r n c : Nat} {A : Option Addr} {a fc fa dc da : Int} (h : GSt w wi Z ty r A n c a fc fa dc da) (hf : Clean 15 fc fa) (hd : Clean 14 dc da) (x0 : Int) (x1 : Int) (x2 : Int) :
    Calls Try.prog 67 #[.pointer (some ⟨r, 0, none⟩), .agg #[.int .u16 x0, .int .u16 x1, .int .u16 x2]] wi fun e w' =>
      e = .returned (.tuple #[.agg (if fc = 0 ∧ dc = 0 then #[.int .u16 x0, .int .u16 x1, .int .u16 x2] else #[.int .u16 0, .int .u16 0, .int .u16 0]), .agg #[.int .i64 (fltC fc dc), .int .i64 0, .int .i64 (fltA fc fa da)]]) ∧ GEnd w w' Z ty := by
  have hr := h.rd
  rcases hf with ⟨rfl, rfl⟩ | rfl
  · rcases hd with ⟨rfl, rfl⟩ | rfl
    · exact (doneHead_ok A n c a r wi hr x0 x1 x2).mono fun _ _ ⟨he, hb⟩ => ⟨he, h.end_ hb⟩
    · exact (doneHead_d A n c a da r wi hr x0 x1 x2).mono fun _ _ ⟨he, hb⟩ => ⟨he, h.end_ hb⟩
  · exact (doneHead_f A n c a fa dc da r wi hr x0 x1 x2).mono fun _ _ ⟨he, hb⟩ => ⟨by rw [he, if_neg (by omega)]; rfl, h.end_ hb⟩
set_option maxRecDepth 20000 in
set_option maxHeartbeats 400000 in
theorem doneWindow_ok (A : Option Addr) (n c : Nat) (a : Int) (r : Nat) (w : World) (hr : Rdr w r A n c a 0 0 0 0) (x0 : Int) (x1 : Int) (x2 : Int) :
    Calls Try.prog 66 #[.pointer (some ⟨r, 0, none⟩), .agg #[.int .u64 x0, .int .u64 x1, .int .u16 x2]] w fun e w' =>
      e = .returned (.tuple #[.agg #[.int .u64 x0, .int .u64 x1, .int .u16 x2], .agg #[.int .i64 0, .int .i64 0, .int .i64 0]]) ∧ Below w.heap.size w w' := by
  obtain ⟨h0, h1, h2, h3, h4, h5, h6, h7⟩ := hr.cells
  have hlt := hr.lt
  have HR := Lib.hid hr
  clear hr h0 h1
  have up : ∀ k v, w.cell? ⟨r, k, none⟩ = some v → ∀ o1 o2 o3 o4, ((((w.alloc o1).alloc o2).alloc o3).alloc o4).cell? ⟨r, k, none⟩ = some v := by
    intro k v hk o1 o2 o3 o4
    rw [World.cell?_alloc_lt _ _ _ (by simp; omega), World.cell?_alloc_lt _ _ _ (by simp; omega), World.cell?_alloc_lt _ _ _ (by simp; omega), World.cell?_alloc_lt _ _ _ (by simpa using hlt), hk]
  have u2 := up _ _ h2
  have u3 := up _ _ h3
  have u4 := up _ _ h4
  have u5 := up _ _ h5
  have u6 := up _ _ h6
  have u7 := up _ _ h7
  clear h2 h3 h4 h5 h6 h7 up
  go_enter Try.func66, Try.ntmps66
  go_wp2
  refine bodyPost_ret (v := .tuple #[.agg #[.int .u64 x0, .int .u64 x1, .int .u16 x2], .agg #[.int .i64 0, .int .i64 0, .int .i64 0]]) (by simp [results, Try.results66, go_sem]) rfl ⟨rfl, ?_⟩
  exact ((((Below.refl _ w).alloc (Nat.le_refl _) _).alloc (by simp) _).alloc (by simp; omega) _).alloc (by simp; omega) _
theorem doneWindow_any {w wi : World} {Z : Array Value} {ty r n c : Nat} {A : Option Addr} {a fc fa dc da : Int} (h : GSt w wi Z ty r A n c a fc fa dc da) (hf : Clean 15 fc fa) (hd : Clean 14 dc da) (x0 : Int) (x1 : Int) (x2 : Int) :
    Calls Try.prog 66 #[.pointer (some ⟨r, 0, none⟩), .agg #[.int .u64 x0, .int .u64 x1, .int .u16 x2]] wi fun e w' =>
      e = .returned (.tuple #[.agg (if fc = 0 ∧ dc = 0 then #[.int .u64 x0, .int .u64 x1, .int .u16 x2] else #[.int .u64 0, .int .u64 0, .int .u16 0]), .agg #[.int .i64 (fltC fc dc), .int .i64 0, .int .i64 (fltA fc fa da)]]) ∧ GEnd w w' Z ty := by
  have hr := h.rd
  rcases hf with ⟨rfl, rfl⟩ | rfl
  · rcases hd with ⟨rfl, rfl⟩ | rfl
    · exact (doneWindow_ok A n c a r wi hr x0 x1 x2).mono fun _ _ ⟨he, hb⟩ => ⟨he, h.end_ hb⟩
    · exact (doneWindow_d A n c a da r wi hr x0 x1 x2).mono fun _ _ ⟨he, hb⟩ => ⟨he, h.end_ hb⟩
  · exact (doneWindow_f A n c a fa dc da r wi hr x0 x1 x2).mono fun _ _ ⟨he, hb⟩ => ⟨by rw [he, if_neg (by omega)]; rfl, h.end_ hb⟩
set_option maxRecDepth 20000 in
set_option maxHeartbeats 400000 in
theorem doneRegion_ok (A : Option Addr) (n c : Nat) (a : Int) (r : Nat) (w : World) (hr : Rdr w r A n c a 0 0 0 0) (x0 : Int) (x1 : Int) (x2 : Int) (x3 : Int) (x4 : Bool) :
    Calls Try.prog 65 #[.pointer (some ⟨r, 0, none⟩), .agg #[.int .u64 x0, .int .u64 x1, .int .u16 x2, .int .u8 x3, .bool x4]] w fun e w' =>
      e = .returned (.tuple #[.agg #[.int .u64 x0, .int .u64 x1, .int .u16 x2, .int .u8 x3, .bool x4], .agg #[.int .i64 0, .int .i64 0, .int .i64 0]]) ∧ Below w.heap.size w w' := by
  obtain ⟨h0, h1, h2, h3, h4, h5, h6, h7⟩ := hr.cells
  have hlt := hr.lt
  have HR := Lib.hid hr
  clear hr h0 h1
  have up : ∀ k v, w.cell? ⟨r, k, none⟩ = some v → ∀ o1 o2 o3 o4, ((((w.alloc o1).alloc o2).alloc o3).alloc o4).cell? ⟨r, k, none⟩ = some v := by
    intro k v hk o1 o2 o3 o4
    rw [World.cell?_alloc_lt _ _ _ (by simp; omega), World.cell?_alloc_lt _ _ _ (by simp; omega), World.cell?_alloc_lt _ _ _ (by simp; omega), World.cell?_alloc_lt _ _ _ (by simpa using hlt), hk]
  have u2 := up _ _ h2
  have u3 := up _ _ h3
  have u4 := up _ _ h4
  have u5 := up _ _ h5
  have u6 := up _ _ h6
  have u7 := up _ _ h7
  clear h2 h3 h4 h5 h6 h7 up
  go_enter Try.func65, Try.ntmps65
  go_wp2
  refine bodyPost_ret (v := .tuple #[.agg #[.int .u64 x0, .int .u64 x1, .int .u16 x2, .int .u8 x3, .bool x4], .agg #[.int .i64 0, .int .i64 0, .int .i64 0]]) (by simp [results, Try.results65, go_sem]) rfl ⟨rfl, ?_⟩
  exact ((((Below.refl _ w).alloc (Nat.le_refl _) _).alloc (by simp) _).alloc (by simp; omega) _).alloc (by simp; omega) _
theorem doneRegion_any {w wi : World} {Z : Array Value} {ty r n c : Nat} {A : Option Addr} {a fc fa dc da : Int} (h : GSt w wi Z ty r A n c a fc fa dc da) (hf : Clean 15 fc fa) (hd : Clean 14 dc da) (x0 : Int) (x1 : Int) (x2 : Int) (x3 : Int) (x4 : Bool) :
    Calls Try.prog 65 #[.pointer (some ⟨r, 0, none⟩), .agg #[.int .u64 x0, .int .u64 x1, .int .u16 x2, .int .u8 x3, .bool x4]] wi fun e w' =>
      e = .returned (.tuple #[.agg (if fc = 0 ∧ dc = 0 then #[.int .u64 x0, .int .u64 x1, .int .u16 x2, .int .u8 x3, .bool x4] else #[.int .u64 0, .int .u64 0, .int .u16 0, .int .u8 0, .bool false]), .agg #[.int .i64 (fltC fc dc), .int .i64 0, .int .i64 (fltA fc fa da)]]) ∧ GEnd w w' Z ty := by
  have hr := h.rd
  rcases hf with ⟨rfl, rfl⟩ | rfl
  · rcases hd with ⟨rfl, rfl⟩ | rfl
    · exact (doneRegion_ok A n c a r wi hr x0 x1 x2 x3 x4).mono fun _ _ ⟨he, hb⟩ => ⟨he, h.end_ hb⟩
    · exact (doneRegion_d A n c a da r wi hr x0 x1 x2 x3 x4).mono fun _ _ ⟨he, hb⟩ => ⟨he, h.end_ hb⟩
  · exact (doneRegion_f A n c a fa dc da r wi hr x0 x1 x2 x3 x4).mono fun _ _ ⟨he, hb⟩ => ⟨by rw [he, if_neg (by omega)]; rfl, h.end_ hb⟩
set_option maxRecDepth 20000 in
set_option maxHeartbeats 400000 in
theorem donePartition_ok (A : Option Addr) (n c : Nat) (a : Int) (r : Nat) (w : World) (hr : Rdr w r A n c a 0 0 0 0) (x0 : Int) (x1 : ByteArray) (x2 : Int) (x3 : Int) :
    Calls Try.prog 62 #[.pointer (some ⟨r, 0, none⟩), .agg #[.int .u16 x0, .string x1, .int .u64 x2, .int .u64 x3]] w fun e w' =>
      e = .returned (.tuple #[.agg #[.int .u16 x0, .string x1, .int .u64 x2, .int .u64 x3], .agg #[.int .i64 0, .int .i64 0, .int .i64 0]]) ∧ Below w.heap.size w w' := by
  obtain ⟨h0, h1, h2, h3, h4, h5, h6, h7⟩ := hr.cells
  have hlt := hr.lt
  have HR := Lib.hid hr
  clear hr h0 h1
  have up : ∀ k v, w.cell? ⟨r, k, none⟩ = some v → ∀ o1 o2 o3 o4, ((((w.alloc o1).alloc o2).alloc o3).alloc o4).cell? ⟨r, k, none⟩ = some v := by
    intro k v hk o1 o2 o3 o4
    rw [World.cell?_alloc_lt _ _ _ (by simp; omega), World.cell?_alloc_lt _ _ _ (by simp; omega), World.cell?_alloc_lt _ _ _ (by simp; omega), World.cell?_alloc_lt _ _ _ (by simpa using hlt), hk]
  have u2 := up _ _ h2
  have u3 := up _ _ h3
  have u4 := up _ _ h4
  have u5 := up _ _ h5
  have u6 := up _ _ h6
  have u7 := up _ _ h7
  clear h2 h3 h4 h5 h6 h7 up
  go_enter Try.func62, Try.ntmps62
  go_wp2
  refine bodyPost_ret (v := .tuple #[.agg #[.int .u16 x0, .string x1, .int .u64 x2, .int .u64 x3], .agg #[.int .i64 0, .int .i64 0, .int .i64 0]]) (by simp [results, Try.results62, go_sem]) rfl ⟨rfl, ?_⟩
  exact ((((Below.refl _ w).alloc (Nat.le_refl _) _).alloc (by simp) _).alloc (by simp; omega) _).alloc (by simp; omega) _
theorem donePartition_any {w wi : World} {Z : Array Value} {ty r n c : Nat} {A : Option Addr} {a fc fa dc da : Int} (h : GSt w wi Z ty r A n c a fc fa dc da) (hf : Clean 15 fc fa) (hd : Clean 14 dc da) (x0 : Int) (x1 : ByteArray) (x2 : Int) (x3 : Int) :
    Calls Try.prog 62 #[.pointer (some ⟨r, 0, none⟩), .agg #[.int .u16 x0, .string x1, .int .u64 x2, .int .u64 x3]] wi fun e w' =>
      e = .returned (.tuple #[.agg (if fc = 0 ∧ dc = 0 then #[.int .u16 x0, .string x1, .int .u64 x2, .int .u64 x3] else #[.int .u16 0, .string ⟨#[]⟩, .int .u64 0, .int .u64 0]), .agg #[.int .i64 (fltC fc dc), .int .i64 0, .int .i64 (fltA fc fa da)]]) ∧ GEnd w w' Z ty := by
  have hr := h.rd
  rcases hf with ⟨rfl, rfl⟩ | rfl
  · rcases hd with ⟨rfl, rfl⟩ | rfl
    · exact (donePartition_ok A n c a r wi hr x0 x1 x2 x3).mono fun _ _ ⟨he, hb⟩ => ⟨he, h.end_ hb⟩
    · exact (donePartition_d A n c a da r wi hr x0 x1 x2 x3).mono fun _ _ ⟨he, hb⟩ => ⟨he, h.end_ hb⟩
  · exact (donePartition_f A n c a fa dc da r wi hr x0 x1 x2 x3).mono fun _ _ ⟨he, hb⟩ => ⟨by rw [he, if_neg (by omega)]; rfl, h.end_ hb⟩
set_option maxRecDepth 20000 in
set_option maxHeartbeats 400000 in
theorem donePort_ok (A : Option Addr) (n c : Nat) (a : Int) (r : Nat) (w : World) (hr : Rdr w r A n c a 0 0 0 0) (x0 : Int) (x1 : Int) (x2 : ByteArray) (x3 : Bool) (x4 : Bool) (x5 : Int) :
    Calls Try.prog 56 #[.pointer (some ⟨r, 0, none⟩), .agg #[.int .u16 x0, .int .u16 x1, .string x2, .bool x3, .bool x4, .int .u32 x5]] w fun e w' =>
      e = .returned (.tuple #[.agg #[.int .u16 x0, .int .u16 x1, .string x2, .bool x3, .bool x4, .int .u32 x5], .agg #[.int .i64 0, .int .i64 0, .int .i64 0]]) ∧ Below w.heap.size w w' := by
  obtain ⟨h0, h1, h2, h3, h4, h5, h6, h7⟩ := hr.cells
  have hlt := hr.lt
  have HR := Lib.hid hr
  clear hr h0 h1
  have up : ∀ k v, w.cell? ⟨r, k, none⟩ = some v → ∀ o1 o2 o3 o4, ((((w.alloc o1).alloc o2).alloc o3).alloc o4).cell? ⟨r, k, none⟩ = some v := by
    intro k v hk o1 o2 o3 o4
    rw [World.cell?_alloc_lt _ _ _ (by simp; omega), World.cell?_alloc_lt _ _ _ (by simp; omega), World.cell?_alloc_lt _ _ _ (by simp; omega), World.cell?_alloc_lt _ _ _ (by simpa using hlt), hk]
  have u2 := up _ _ h2
  have u3 := up _ _ h3
  have u4 := up _ _ h4
  have u5 := up _ _ h5
  have u6 := up _ _ h6
  have u7 := up _ _ h7
  clear h2 h3 h4 h5 h6 h7 up
  go_enter Try.func56, Try.ntmps56
  go_wp2
  refine bodyPost_ret (v := .tuple #[.agg #[.int .u16 x0, .int .u16 x1, .string x2, .bool x3, .bool x4, .int .u32 x5], .agg #[.int .i64 0, .int .i64 0, .int .i64 0]]) (by simp [results, Try.results56, go_sem]) rfl ⟨rfl, ?_⟩
  exact ((((Below.refl _ w).alloc (Nat.le_refl _) _).alloc (by simp) _).alloc (by simp; omega) _).alloc (by simp; omega) _
theorem donePort_any {w wi : World} {Z : Array Value} {ty r n c : Nat} {A : Option Addr} {a fc fa dc da : Int} (h : GSt w wi Z ty r A n c a fc fa dc da) (hf : Clean 15 fc fa) (hd : Clean 14 dc da) (x0 : Int) (x1 : Int) (x2 : ByteArray) (x3 : Bool) (x4 : Bool) (x5 : Int) :
    Calls Try.prog 56 #[.pointer (some ⟨r, 0, none⟩), .agg #[.int .u16 x0, .int .u16 x1, .string x2, .bool x3, .bool x4, .int .u32 x5]] wi fun e w' =>
      e = .returned (.tuple #[.agg (if fc = 0 ∧ dc = 0 then #[.int .u16 x0, .int .u16 x1, .string x2, .bool x3, .bool x4, .int .u32 x5] else #[.int .u16 0, .int .u16 0, .string ⟨#[]⟩, .bool false, .bool false, .int .u32 0]), .agg #[.int .i64 (fltC fc dc), .int .i64 0, .int .i64 (fltA fc fa da)]]) ∧ GEnd w w' Z ty := by
  have hr := h.rd
  rcases hf with ⟨rfl, rfl⟩ | rfl
  · rcases hd with ⟨rfl, rfl⟩ | rfl
    · exact (donePort_ok A n c a r wi hr x0 x1 x2 x3 x4 x5).mono fun _ _ ⟨he, hb⟩ => ⟨he, h.end_ hb⟩
    · exact (donePort_d A n c a da r wi hr x0 x1 x2 x3 x4 x5).mono fun _ _ ⟨he, hb⟩ => ⟨he, h.end_ hb⟩
  · exact (donePort_f A n c a fa dc da r wi hr x0 x1 x2 x3 x4 x5).mono fun _ _ ⟨he, hb⟩ => ⟨by rw [he, if_neg (by omega)]; rfl, h.end_ hb⟩
end Go.Proofs.Ytpeajffnhmmaeaa
