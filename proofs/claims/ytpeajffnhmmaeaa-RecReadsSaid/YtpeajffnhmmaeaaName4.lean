/-
  Contract of the reader's name.
-/
import Derived.Test.YtpeajffnhmmaeaaName3
namespace Go.Proofs.Ytpeajffnhmmaeaa
set_option linter.unusedVariables false
open Go.RowKit

noncomputable def nameS (xs : List UInt8) (p q : Int) : ByteArray := unpS (part xs q.toNat 30) ((numV xs p 1 : Nat) : Int)
noncomputable def nameB (xs : List UInt8) (p q : Int) : Bool := unpB (part xs q.toNat 30) ((numV xs p 1 : Nat) : Int)
def nmC (fc : Int) (ok : Bool) : Int := if ok then fc else wrC fc
def nmA (fc fa : Int) (ok : Bool) (p : Int) : Int := if ok then fa else wrA fc fa p
theorem nmC_clean {fc fa p : Int} {ok : Bool} (h : Clean 15 fc fa) : Clean 15 (nmC fc ok) (nmA fc fa ok p) := by
  unfold nmC nmA
  cases ok
  · exact wrC_clean h
  · exact h
theorem range_own {w : World} {g c : Nat} {p : List UInt8} (h : Own w (some ⟨g, 0, none⟩) c p) : w.rangeAt g 0 (bvs p) := by
  intro j v hj
  have hlt : j < p.length := by
    have := (List.getElem?_eq_some_iff.1 hj).1
    rwa [bvs_length] at this
  obtain ⟨b, off, e, _, hc⟩ := h.rd.at_ hlt
  injection e with e
  injection e with e1 e2 _
  subst e1; subst e2
  rw [bvs_get p j hlt] at hj
  rw [← Option.some.inj hj]
  exact hc
theorem range_next {w w' : World} {g : Nat} {cs : List Value} (h : w.rangeAt g 0 cs) (hg : g < w.heap.size) (hb : Below w.heap.size w w') : w'.rangeAt g 0 cs := fun j v hj => (hb.cell (p := ⟨g, 0 + j, none⟩) hg).trans (h j v hj)
theorem exec_arrayAt {P : Program} {o : Oper} {a : Act} (arr : TypeId) (x : Operand) (ho : o.op = .sliceToArrayPointer arr x) (g len c n : Nat) (e : TypeId) (hx : a.eval x = .slice (some ⟨g, 0, none⟩) len c) (hu : P.underlying arr = some (.array n e)) (hn : n ≤ len) (w : World) :
    (execOp a.eval o).run P w = .ok (.value (.pointer (some ⟨g, 0, none⟩))) w := by
  unfold execOp
  simp [ho, hx, Instr.arrayAt, run_underlying hu, show ¬ len < n by omega]
theorem exec_load_mid {P : Program} {o : Oper} {a : Act} (ty : TypeId) (x : Operand) (ho : o.op = .load ty x) (b : Nat) (hx : a.eval x = .pointer (some ⟨b, 0, none⟩)) (cs : List Value) (d : TypeDesc) (w : World) (hr : w.rangeAt b 0 cs)
    (hu : P.underlying ty = some d) (hd : d.isRow = true) (hi : (P.info? ty).map (·.size) = some cs.length) : (execOp a.eval o).run P w = .ok (.value (.agg cs.toArray)) w := by
  unfold execOp
  simp only [ho, hx, Instr.loadAt, Instr.sureAddr, Sem.run_bind, Sem.run_pure, Result.andThen_ok, run_loadVar_mid w b 0 ty cs d hr hu hd hi]

set_option maxRecDepth 100000 in
set_option maxHeartbeats 2000000 in
theorem name_any (B : Nat) (A : Option Addr) (c : Nat) (xs : List UInt8) (a off len : Nat) (fc fa dc da : Int) (r : Nat) (w : World) (hr : Rdr w r A xs.length c a fc fa dc da) (hR : Rd w B A xs) (hB : B ≤ w.heap.size) (hc : xs.length ≤ c) (hn : c ≤ 9223372036854775807) (hl : xs.length ≤ 140737488355328)
    (hx : a + off + 30 ≤ xs.length) (hlen : len ≤ 100) (hf : Clean 15 fc fa) :
    Calls Try.prog 53 #[.pointer (some ⟨r, 0, none⟩), .int .i64 (len : Int), .int .i64 (off : Int)] w fun e w' =>
      e = .returned (.string (nameS xs ((a : Int) + len) ((a : Int) + off))) ∧ Rdr w' r A xs.length c a (nmC fc (nameB xs ((a : Int) + len) ((a : Int) + off))) (nmA fc fa (nameB xs ((a : Int) + len) ((a : Int) + off)) ((a : Int) + len)) dc da ∧ Chg (· = r) w w' := by
  obtain ⟨h0, h1, _⟩ := hr.cells
  have HR := Lib.hid hr
  have HRD := Lib.hid hR
  have hlt := hr.lt
  have hpl : (part xs (a + off) 30).length = 30 := part_length (by omega)
  have HPN := Lib.hid (fun w' (hR : Rd w' B A xs) (hB : B ≤ w'.heap.size) => Part_nat B A c xs (a + off) 30 w' hR hB hc hn hl (by omega))
  have HU8 := Lib.hid (fun w' (hr : Rdr w' r A xs.length c a fc fa dc da) (hR : Rd w' B A xs) => rd_u8 B A c xs a len fc fa dc da r w' hr hR hc hn (by omega))
  have HNS : Hid (nameS xs ((a : Int) + len) ((a : Int) + off) = unpS (part xs (a + off) 30) ((numV xs ((a : Int) + len) 1 : Nat) : Int)) := by
    show _ = _
    unfold nameS
    rw [show ((a : Int) + off).toNat = a + off by omega]
  have HNB : Hid (nameB xs ((a : Int) + len) ((a : Int) + off) = unpB (part xs (a + off) 30) ((numV xs ((a : Int) + len) 1 : Nat) : Int)) := by
    show _ = _
    unfold nameB
    rw [show ((a : Int) + off).toNat = a + off by omega]
  have hnl := numV_lt xs ((a : Int) + len) 1
  have hnl2 : numV xs ((a : Int) + len) 1 < 256 := by simpa using hnl
  have hw1 : IntKind.i64.wrap ((a : Int) + (off : Int)) = (a : Int) + (off : Int) := IntWalk.i64_in _ (by omega)
  have HWN := Lib.hid (fun w' (hr : Rdr w' r A xs.length c a fc fa dc da) => wrong_any A xs.length c a len fc fa dc da r w' hr (by omega) hf)
  have HUN := Lib.hid (fun w' => Unpad_any (part xs (a + off) 30) ((numV xs ((a : Int) + len) 1 : Nat) : Int) w' hpl)
  have HPL := Lib.hid hpl
  clear hr hR hpl hnl
  rw [HNS.out, HNB.out]
  clear HNS HNB
  generalize unpS (part xs (a + off) 30) ((numV xs ((a : Int) + len) 1 : Nat) : Int) = us at *
  generalize unpB (part xs (a + off) 30) ((numV xs ((a : Int) + len) 1 : Nat) : Int) = ub at *
  generalize part xs (a + off) 30 = p at *
  generalize numV xs ((a : Int) + len) 1 = nn at *
  generalize xs.length = xl at *
  have hw2 : IntKind.i64.wrap (nn : Int) = (nn : Int) := IntWalk.i64_in _ (by omega)
  go_enter Try.func53, Try.ntmps53
  go_wp2_with fail
  have hS0 : w.drew.cell? ⟨r, 0, none⟩ = some (.slice A xl c) ∧ w.drew.cell? ⟨r, 1, none⟩ = some (.int .i64 (a : Int)) := ⟨h0, h1⟩
  refine wp_region_Z (fun w' => w'.cell? ⟨r, 0, none⟩ = some (.slice A xl c) ∧ w'.cell? ⟨r, 1, none⟩ = some (.int .i64 (a : Int))) 100 (by kernel_rfl) ?_
  refine anyZ_take 0 (.pointer (some ⟨r, 0, none⟩)) rfl (by kernel_rfl) (by kernel_rfl) (by kernel_rfl) (by kernel_rfl) (fun _ _ _ h => h) (by rfl) hS0 (fun w' hSw => by obtain ⟨s0, s1⟩ := hSw; go_simp) ?_
  refine anyZ_take 1 (.pointer (some ⟨r, 0, none⟩)) rfl (by kernel_rfl) (by kernel_rfl) (by kernel_rfl) (by kernel_rfl) (fun _ _ _ h => h) (by rfl) hS0 (fun w' hSw => by obtain ⟨s0, s1⟩ := hSw; go_simp) ?_
  refine anyZ_take 2 (.pointer (some ⟨r, 0, none⟩)) rfl (by kernel_rfl) (by kernel_rfl) (by kernel_rfl) (by kernel_rfl) (fun _ _ _ h => h) (by rfl) hS0 (fun w' hSw => by obtain ⟨s0, s1⟩ := hSw; go_simp) ?_
  refine anyZ_take 3 (.slice A xl c) rfl (by kernel_rfl) (by kernel_rfl) (by kernel_rfl) (by kernel_rfl) (fun _ _ _ h => h) (by rfl) hS0 (fun w' hSw => by obtain ⟨s0, s1⟩ := hSw; go_simp) ?_
  refine anyZ_take 4 (.pointer (some ⟨r, 0, none⟩)) rfl (by kernel_rfl) (by kernel_rfl) (by kernel_rfl) (by kernel_rfl) (fun _ _ _ h => h) (by rfl) hS0 (fun w' hSw => by obtain ⟨s0, s1⟩ := hSw; go_simp) ?_
  refine anyZ_take 5 (.pointer (some ⟨r, 0, none⟩)) rfl (by kernel_rfl) (by kernel_rfl) (by kernel_rfl) (by kernel_rfl) (fun _ _ _ h => h) (by rfl) hS0 (fun w' hSw => by obtain ⟨s0, s1⟩ := hSw; go_simp) ?_
  refine anyZ_take 6 (.pointer (some ⟨r, 1, none⟩)) rfl (by kernel_rfl) (by kernel_rfl) (by kernel_rfl) (by kernel_rfl) (fun _ _ _ h => h) (by rfl) hS0 (fun w' hSw => by obtain ⟨s0, s1⟩ := hSw; go_simp) ?_
  refine anyZ_take 7 (.int .i64 (a : Int)) rfl (by kernel_rfl) (by kernel_rfl) (by kernel_rfl) (by kernel_rfl) (fun _ _ _ h => h) (by rfl) hS0 (fun w' hSw => by obtain ⟨s0, s1⟩ := hSw; go_simp) ?_
  refine anyZ_take 8 (.int .i64 (off : Int)) rfl (by kernel_rfl) (by kernel_rfl) (by kernel_rfl) (by kernel_rfl) (fun _ _ _ h => h) (by rfl) hS0 (fun w' hSw => by obtain ⟨s0, s1⟩ := hSw; go_simp) ?_
  refine anyZ_take 9 (.int .i64 ((a : Int) + (off : Int))) rfl (by kernel_rfl) (by kernel_rfl) (by kernel_rfl) (by kernel_rfl) (fun _ _ _ h => h) (by rfl) hS0 (fun w' hSw => by obtain ⟨s0, s1⟩ := hSw; go_simp) ?_
  refine anyZ_next 10 rfl (by kernel_rfl) (fun K hK => ?_)
  rw [if_pos (by rfl)]
  go_simp
  refine (HPN.out w.drew HRD.out hB).mono ?_
  rintro e w2 ⟨A2, c2, rfl, ho2, hf2, hb2⟩
  rw [HPL.out]
  obtain ⟨gp, rfl⟩ : ∃ gp, A2 = some ⟨gp, 0, none⟩ := by
    rcases ho2.form with ⟨_, _, h⟩ | ⟨gp, _, h, _⟩
    · have := HPL.out
      rw [h] at this
      cases this
    · exact ⟨gp, h⟩
  have hgp : gp < w2.heap.size := ho2.lt gp rfl
  have HRG := Lib.hid (range_own ho2)
  have B2 := Lib.hid (((Below.refl _ w).drew).trans hb2)
  have hS2 : w2.cell? ⟨r, 0, none⟩ = some (.slice A xl c) ∧ w2.cell? ⟨r, 1, none⟩ = some (.int .i64 (a : Int)) := ⟨(B2.out.cell (p := ⟨r, 0, none⟩) hlt).trans h0, (B2.out.cell (p := ⟨r, 1, none⟩) hlt).trans h1⟩
  clear ho2 hf2 hb2
  go_simp
  refine hK _ _ (fun _ => hS2) ?_
  clear hK K
  refine anyZ_take 11 (.tuple #[.slice (some ⟨gp, 0, none⟩) 30 c2, .bool true]) rfl (by kernel_rfl) (by kernel_rfl) (by kernel_rfl) (by kernel_rfl) (fun _ _ _ h => h) (by rfl) hS2 (fun w' hSw => by go_simp) ?_
  refine anyZ_take 12 (.slice (some ⟨gp, 0, none⟩) 30 c2) rfl (by kernel_rfl) (by kernel_rfl) (by kernel_rfl) (by kernel_rfl) (fun _ _ _ h => h) (by rfl) hS2 (fun w' hSw => by go_simp) ?_
  refine anyZ_take 13 (.bool true) rfl (by kernel_rfl) (by kernel_rfl) (by kernel_rfl) (by kernel_rfl) (fun _ _ _ h => h) (by rfl) hS2 (fun w' hSw => by go_simp) ?_
  refine anyZ_take 14 (.slice (some ⟨gp, 0, none⟩) 30 c2) rfl (by kernel_rfl) (by kernel_rfl) (by kernel_rfl) (by kernel_rfl) (fun _ _ _ h => h) (by rfl) hS2 (fun w' hSw => by go_simp) ?_
  refine anyZ_take 15 (.bool true) rfl (by kernel_rfl) (by kernel_rfl) (by kernel_rfl) (by kernel_rfl) (fun _ _ _ h => h) (by rfl) hS2 (fun w' hSw => by go_simp) ?_
  refine anyZ_done (by kernel_rfl) ?_ _
  go_wp2_with fail
  clear hS0 hS2
  have B2d : Below w.heap.size w w2.drew := B2.out.drew
  have hT2 : w2.drew.rangeAt gp 0 (bvs p) := range_next HRG.out hgp (Below.refl _ w2).drew
  refine wp_region_Z (fun w' => w'.rangeAt gp 0 (bvs p)) 100 (by kernel_rfl) ?_
  refine anyZ_take 0 (.slice (some ⟨gp, 0, none⟩) 30 c2) rfl (by kernel_rfl) (by kernel_rfl) (by kernel_rfl) (by kernel_rfl) (fun _ _ _ h => h) (by rfl) hT2 (fun w' hSw => by go_simp) ?_
  refine anyZ_take 1 (.pointer (some ⟨gp, 0, none⟩)) rfl (by kernel_rfl) (by kernel_rfl) (by kernel_rfl) (by kernel_rfl) (fun _ _ _ h => h) (by rfl) hT2 (fun w' hSw => exec_arrayAt 133 (.tmp 26) rfl gp 30 c2 30 _ rfl Try.underlying133 (Nat.le_refl _) w') ?_
  refine anyZ_take 2 (.agg (bvA p)) rfl (by kernel_rfl) (by kernel_rfl) (by kernel_rfl) (by kernel_rfl) (fun _ _ _ h => h) (by rfl) hT2 (fun w' hSw => exec_load_mid 133 (.tmp 27) rfl gp rfl (bvs p) _ w' hSw Try.underlying133 rfl (by rw [infoA, bvs_length, HPL.out])) ?_
  refine anyZ_take 3 (.pointer (some ⟨r, 0, none⟩)) rfl (by kernel_rfl) (by kernel_rfl) (by kernel_rfl) (by kernel_rfl) (fun _ _ _ h => h) (by rfl) hT2 (fun w' hSw => by go_simp) ?_
  refine anyZ_take 4 (.int .i64 (len : Int)) rfl (by kernel_rfl) (by kernel_rfl) (by kernel_rfl) (by kernel_rfl) (fun _ _ _ h => h) (by rfl) hT2 (fun w' hSw => by go_simp) ?_
  refine anyZ_next 5 rfl (by kernel_rfl) (fun K hK => ?_)
  rw [if_pos (by rfl)]
  go_simp
  refine (HU8.out w2.drew (HR.out.below B2d) (HRD.out.after hB B2d)).mono ?_
  rintro e w3 ⟨rfl, q, rfl⟩
  have B3 : Below w.heap.size w (w2.drew.drewN q) := ⟨B2d.os, B2d.tape, B2d.output, B2d.size, B2d.block⟩
  have hT3 : (w2.drew.drewN q).rangeAt gp 0 (bvs p) := hT2
  have hgp3 : gp < (w2.drew.drewN q).heap.size := hgp
  generalize w2.drew.drewN q = w3 at *
  go_simp
  refine hK _ _ (fun _ => hT3) ?_
  clear hK K hT2
  refine anyZ_take 6 (.int .i64 (nn : Int)) rfl (by kernel_rfl) (by kernel_rfl) (by kernel_rfl) (by kernel_rfl) (fun _ _ _ h => h) (by rfl) hT3 (fun w' hSw => by go_simp) ?_
  refine anyZ_next 7 rfl (by kernel_rfl) (fun K hK => ?_)
  rw [if_pos (by rfl)]
  go_simp
  refine (HUN.out w3).mono ?_
  rintro e w4 ⟨rfl, hb4⟩
  have B4 : Below w.heap.size w w4 := B3.trans (hb4.mono B3.size)
  have hT4 := range_next hT3 hgp3 hb4
  have HR4 := Lib.hid (HR.out.below B4)
  clear hb4 hT3
  go_simp
  refine hK _ _ (fun _ => hT4) ?_
  clear hK K
  refine anyZ_take 8 (.tuple #[.string us, .bool ub]) rfl (by kernel_rfl) (by kernel_rfl) (by kernel_rfl) (by kernel_rfl) (fun _ _ _ h => h) (by rfl) hT4 (fun w' hSw => by go_simp) ?_
  refine anyZ_take 9 (.string us) rfl (by kernel_rfl) (by kernel_rfl) (by kernel_rfl) (by kernel_rfl) (fun _ _ _ h => h) (by rfl) hT4 (fun w' hSw => by go_simp) ?_
  refine anyZ_take 10 (.bool ub) rfl (by kernel_rfl) (by kernel_rfl) (by kernel_rfl) (by kernel_rfl) (fun _ _ _ h => h) (by rfl) hT4 (fun w' hSw => by go_simp) ?_
  refine anyZ_take 11 (.string us) rfl (by kernel_rfl) (by kernel_rfl) (by kernel_rfl) (by kernel_rfl) (fun _ _ _ h => h) (by rfl) hT4 (fun w' hSw => by go_simp) ?_
  refine anyZ_take 12 (.bool ub) rfl (by kernel_rfl) (by kernel_rfl) (by kernel_rfl) (by kernel_rfl) (fun _ _ _ h => h) (by rfl) hT4 (fun w' hSw => by go_simp) ?_
  refine anyZ_done (by kernel_rfl) ?_ _
  have C4 := Lib.hid (Chg.of_below (S := (· = r)) B4)
  clear B2d B3 hT4 B4
  cases ub
  · go_wp2_with fail
    refine (HWN.out w4 HR4.out).mono ?_
    rintro e w5 ⟨rfl, hr5, hc5⟩
    have HR5 := Lib.hid hr5
    have C5 := Lib.hid (C4.out.trans hc5 (fun _ _ h => h))
    clear hr5 hc5
    go_wp2_with fail
    go_ret
    exact ⟨rfl, HR5.out, C5.out⟩
  · go_wp2_with fail
    go_ret
    exact ⟨rfl, HR4.out, C4.out⟩

theorem GSt.name {w wi : World} {Z : Array Value} {ty r c : Nat} {A : Option Addr} {a : Nat} {fc fa dc da : Int} {B : Nat} {xs : List UInt8} (h : GSt w wi Z ty r A xs.length c a fc fa dc da) (hR : Rd w B A xs) (hB : B ≤ w.heap.size) (hc : xs.length ≤ c) (hn : c ≤ 9223372036854775807) (hl : xs.length ≤ 140737488355328)
    (len off : Nat) (hx : a + off + 30 ≤ xs.length) (hlen : len ≤ 100) (hf : Clean 15 fc fa) :
    Calls Try.prog 53 #[.pointer (some ⟨r, 0, none⟩), .int .i64 (len : Int), .int .i64 (off : Int)] wi fun e w' => e = .returned (.string (nameS xs ((a : Int) + len) ((a : Int) + off))) ∧
      GSt w w' Z ty r A xs.length c a (nmC fc (nameB xs ((a : Int) + len) ((a : Int) + off))) (nmA fc fa (nameB xs ((a : Int) + len) ((a : Int) + off)) ((a : Int) + len)) dc da :=
  (name_any B A c xs a off len fc fa dc da r wi h.rd (hR.after hB h.bel) (Nat.le_trans hB h.bel.size) hc hn hl hx hlen hf).mono fun _ _ ⟨he, hr, hch⟩ => ⟨he, h.chg hr hch⟩
end Go.Proofs.Ytpeajffnhmmaeaa
