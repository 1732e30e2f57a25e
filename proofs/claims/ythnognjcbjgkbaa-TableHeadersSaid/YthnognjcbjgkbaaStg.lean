/-
  A region that draws its order and writes: one walk of the lexical order serves every order, where what is known of the world hangs on which operations have come up. No program is named.
-/
import Derived.Test.YthnognjcbjgkbaaCls
namespace Go.Proofs.Ythnognjcbjgkbaa
set_option linter.unusedVariables false
open Go Go.RowKit

/-- operation k has not come up -/
def Open (L : Array Bool) (k : Nat) : Prop := L.getD k true = false
/-- operation k comes up -/
def Next (L : Array Bool) (k : Nat) : Array Bool := L.setIfInBounds k true
/-- operation k has come up -/
def Came (L : Array Bool) (k : Nat) : Bool := L.getD k false
theorem Came_ne {L : Array Bool} {i k : Nat} (h : k ≠ i) : Came (Next L k) i = Came L i := getD_set_ne false h
theorem Open.lt {L : Array Bool} {k : Nat} (h : Open L k) : k < L.size := by
  unfold Open at h
  rcases Nat.lt_or_ge k L.size with h' | h'
  · exact h'
  · simp [Array.getElem?_eq_none h'] at h
theorem Came_same {L : Array Bool} {k : Nat} (h : Open L k) : Came (Next L k) k = true := by
  have := h.lt
  unfold Came Next
  simp [this]
theorem Came_open {L : Array Bool} {k : Nat} (h : Open L k) : Came L k = false := by
  have := h.lt
  unfold Open at h
  unfold Came
  simp [this] at h ⊢
  exact h

section
variable {F : Fence} {n : Nat} {P : Program} {ops : Array Oper} {md : Region.Mode} {D : Array Bool → World → Prop} {Q : Array Bool → Act → Prop}

/-- one operation: its value, and what is known of the world behind it -/
def upS (F : Fence) (n : Nat) (P : Program) (C : World → Prop) (v : Value) : Result Go.Next → Prop
  | .ok (.value u) w' => u = v ∧ C w'
  | .ok .skip w' => v = undef ∧ C w'
  | .ok (.enter f args) w' => (F.depth.isSome = true → 1 ≤ n) ∧ CallsIn F (n - 1) P f args w' (fun e w'' => e = .returned v ∧ C w'')
  | _ => False
def atS (F : Fence) (n : Nat) (P : Program) (o : Oper) (a : Act) (C : World → Prop) (w : World) (v : Value) : Prop := upS F n P C v ((execOp a.eval o).run P w)
def YieldsS (F : Fence) (n : Nat) (P : Program) (ops : Array Oper) (D : Array Bool → World → Prop) (i : Nat) (o : Oper) (v : Value) (a : Act) : Prop :=
  ∀ L w, Open L i → D L w → (∀ f, o.about P w a.eval = some f → F.fn f) ∧ if Region.wanted o (yielded ops a.tmps) then atS F n P o a (D (Next L i)) w v else v = undef ∧ D (Next L i) w

theorem YieldsS.of_same {i : Nat} {o : Oper} {v : Value} {a a' : Act} (hy : YieldsS F n P ops D i o v a) (he : execOp a'.eval o = execOp a.eval o)
    (hw : Region.wanted o (yielded ops a'.tmps) = Region.wanted o (yielded ops a.tmps)) (hb : ∀ w, o.about P w a'.eval = o.about P w a.eval) : YieldsS F n P ops D i o v a' := by
  intro L w hL hD
  obtain ⟨h1, h2⟩ := hy L w hL hD
  refine ⟨fun f hf => h1 f (by rw [← hb w]; exact hf), ?_⟩
  unfold atS at *
  rw [he, hw]
  exact h2

/-- whatever order is picked from here on -/
def anyS (F : Fence) (n : Nat) (P : Program) (md : Region.Mode) (ops : Array Oper) (D : Array Bool → World → Prop) (Q : Array Bool → Act → Prop) : Nat → Array Bool → Act → Prop
  | 0, L, a => Region.ready md ops L = [] ∧ Q L a
  | fuel + 1, L, a => (Region.ready md ops L = [] → Q L a) ∧ ∀ i ∈ Region.ready md ops L, ∃ o v, ops[i]? = some o ∧ YieldsS F n P ops D i o v a ∧ anyS F n P md ops D Q fuel (Next L i) (a.put o.dst v)

theorem open_of_ready {i : Nat} {L : Array Bool} (h : i ∈ Region.ready md ops L) : Open L i := (mem_ready.1 h).1

theorem wpOpIn_of_S {i : Nat} {o : Oper} {v : Value} {a : Act} {L : Array Bool} {w : World} {K' : Act → World → Prop} {Q' : Exit → Act → World → Prop} (hnd : ∀ c, o.op ≠ .defer c) (hi : ops[i]? = some o) (hL : Open L i) (hD : D L w)
    (hy : YieldsS F n P ops D i o v a) (h : ∀ w', D (Next L i) w' → K' (a.put o.dst v) w') : wpOpIn F n P ops Q' i K' a w := by
  obtain ⟨h1, h2⟩ := hy L w hL hD
  unfold wpOpIn
  simp only [hi]
  by_cases hw : Region.wanted o (yielded ops a.tmps) = true
  · simp only [hw, if_true] at h2 ⊢
    unfold Oper.wpIn
    refine ⟨h1, ?_⟩
    unfold atS at h2
    rw [Oper.semAt_plain F _ _ hnd]
    generalize (execOp a.eval o).run P w = r at *
    cases r with
    | ok x w' =>
      cases x <;> simp only [upS] at h2 <;> simp only [Oper.uponIn]
      case value u =>
        obtain ⟨e1, e2⟩ := h2
        rw [e1]
        exact h _ e2
      case skip =>
        obtain ⟨e1, e2⟩ := h2
        rw [← e1]
        exact h _ e2
      case enter f args =>
        exact ⟨h2.1, h2.2.mono fun e w'' ⟨he, hw''⟩ => by subst he; exact h _ hw''⟩
    | halt x w' => simp only [upS] at h2
  · simp only [hw, Bool.false_eq_true, if_false] at h2 ⊢
    obtain ⟨e1, e2⟩ := h2
    rw [← e1]
    exact ⟨h1, h _ e2⟩

theorem wpAnyIn_of_S {Q' : Exit → Act → World → Prop} (hnd : ∀ o ∈ ops.toList, ∀ c, o.op ≠ .defer c) (hQ : ∀ L a w, D L w → Q L a → Q' .normal a w) : ∀ (fuel : Nat) (L : Array Bool) (a : Act) (w : World), D L w →
    anyS F n P md ops D Q fuel L a → wpAnyIn F n P md ops Q' fuel L a w
  | 0, _, _, _, hw, h => ⟨h.1, hQ _ _ _ hw h.2⟩
  | fuel + 1, L, a, w, hw, h => ⟨fun h0 => hQ _ _ _ hw (h.1 h0), fun i hi => by
      obtain ⟨o, v, ho, hy, hn⟩ := h.2 i hi
      exact wpOpIn_of_S (hnd o (Array.mem_toList_iff.2 (Array.mem_of_getElem? ho))) ho (open_of_ready hi) hw hy (fun w' hw' => wpAnyIn_of_S hnd hQ fuel _ _ w' hw' hn)⟩

theorem anyS_first {i : Nat} {oi : Oper} {v : Value} (hi : ops[i]? = some oi) (hsel : ∀ (j : Nat) (o : Oper) cs b, ops[j]? = some o → o.op ≠ .select cs b) :
    ∀ (fuel : Nat) (L : Array Bool) (a : Act),
      (∀ j oj, ops[j]? = some oj → j ≠ i → L.getD j true = false → (∀ e ∈ oj.after, Region.binds md e = true → e.on ≠ i) → oi.apart ops oj = true) →
      i ∈ Region.ready md ops L → YieldsS F n P ops D i oi v a →
      anyS F n P md ops D Q fuel (Next L i) (a.put oi.dst v) → anyS F n P md ops D Q (fuel + 1) L a := by
  intro fuel
  induction fuel with
  | zero =>
    intro L a _ hr hy H
    refine ⟨fun h => (by rw [h] at hr; cases hr), fun j hj => ?_⟩
    by_cases hji : j = i
    · subst hji; exact ⟨oi, v, hi, hy, H⟩
    · have := ready_mono hj hji
      have e := H.1
      unfold Next at e
      rw [e] at this
      cases this
  | succ fuel ih =>
    intro L a hfree hr hy H
    refine ⟨fun h => (by rw [h] at hr; cases hr), fun j hj => ?_⟩
    by_cases hji : j = i
    · subst hji; exact ⟨oi, v, hi, hy, H⟩
    · obtain ⟨oj, u, hoj, hyj, hn⟩ := H.2 j (ready_mono hj hji)
      obtain ⟨hjun, oj', hoj', hall⟩ := mem_ready.1 hj
      obtain rfl : oj = oj' := Option.some.inj (hoj.symm.trans hoj')
      have hnot : ∀ e ∈ oj.after, Region.binds md e = true → e.on ≠ i := fun e he hb heq => by
        have h1 := hall e he hb
        have h0 := (mem_ready.1 hr).1
        rw [heq] at h1
        rcases Nat.lt_or_ge i L.size with h' | h'
        · simp [h'] at h0 h1; rw [h0] at h1; cases h1
        · simp [Array.getElem?_eq_none h'] at h1
      have hap := hfree j oj hoj hji hjun hnot
      obtain ⟨a1, a2, a3⟩ := Oper.apart_spec hap
      have hsi : ∀ cs b, oi.op ≠ .select cs b := fun cs b => hsel i oi cs b hi
      have hsj : ∀ cs b, oj.op ≠ .select cs b := fun cs b => hsel j oj cs b hoj
      have hyj' : YieldsS F n P ops D j oj u a := hyj.of_same (execOp_put oj hsj a oi.dst v a1).symm (wanted_put oj a oi.dst v a1).symm (fun w => (about_put oj w a oi.dst v a1).symm)
      have hyi' : YieldsS F n P ops D i oi v (a.put oj.dst u) := hy.of_same (execOp_put oi hsi a oj.dst u a3) (wanted_put oi a oj.dst u a3) (fun w => about_put oi w a oj.dst u a3)
      have hfree' : ∀ k ok, ops[k]? = some ok → k ≠ i → (Next L j).getD k true = false →
          (∀ e ∈ ok.after, Region.binds md e = true → e.on ≠ i) → oi.apart ops ok = true := fun k ok hk hki hun hno => by
        refine hfree k ok hk hki ?_ hno
        by_cases hjk : j = k
        · subst hjk; exact hjun
        · unfold Next at hun; rw [getD_set_ne true hjk] at hun; exact hun
      refine ⟨oj, u, hoj, hyj', ih (Next L j) (a.put oj.dst u) hfree' (ready_mono hr (Ne.symm hji)) hyi' ?_⟩
      have e1 : Next (Next L j) i = Next (Next L i) j := by unfold Next; rw [Array.setIfInBounds_comm _ _ hji]
      rw [e1, ← Act.put_comm a v u a2]
      exact hn

/-- the lexical walk -/
def lexS (F : Fence) (n : Nat) (P : Program) (ops : Array Oper) (D : Array Bool → World → Prop) (Q : Array Bool → Act → Prop) : Nat → Array Bool → List Oper → Act → Prop
  | _, L, [], a => Q L a
  | k, L, o :: rest, a => ∃ v, YieldsS F n P ops D k o v a ∧ lexS F n P ops D Q (k + 1) (Next L k) rest (a.put o.dst v)

theorem anyS_lex (hs : Region.noSelect ops = true) : ∀ (l : List Oper) (k : Nat) (L : Array Bool) (a : Act), (∀ j, l[j]? = ops[k + j]?) →
    Region.lexFrom md ops l.length k L = true → lexS F n P ops D Q k L l a → anyS F n P md ops D Q l.length L a
  | [], _, _, _, _, hB, h => ⟨by simpa [Region.lexFrom] using hB, h⟩
  | o :: l, k, L, a, hl, hB, h => by
    have h0 : ops[k]? = some o := by simpa using (hl 0).symm
    simp only [List.length_cons, Region.lexFrom, Bool.and_eq_true] at hB
    obtain ⟨⟨hr, hf⟩, hB'⟩ := hB
    obtain ⟨v, hy, hK⟩ := h
    exact anyS_first h0 (Region.noSelect_spec hs) l.length L a (Region.free_spec h0 hf) (by simpa using hr) hy
      (anyS_lex hs l (k + 1) _ _ (fun j => by have := hl (j + 1); simpa [Nat.add_assoc, Nat.add_comm 1 j] using this) hB' hK)

/-- one operation at a time -/
theorem lexS_step {k : Nat} {L0 : Array Bool} {o : Oper} {rest : List Oper} {a : Act}
    (h : ∀ K : Act → Prop, (∀ a, lexS F n P ops D Q (k + 1) (Next L0 k) rest a → K a) → ∃ v, (∀ L w, Open L k → D L w → (∀ f, o.about P w a.eval = some f → F.fn f) ∧ if Region.wanted o (yielded ops a.tmps) then atS F n P o a (D (Next L k)) w v else v = undef ∧ D (Next L k) w) ∧ K (a.put o.dst v)) :
    lexS F n P ops D Q k L0 (o :: rest) a := h _ (fun _ h => h)
theorem lexS_nil {k : Nat} {L0 : Array Bool} {a : Act} (h : Q L0 a) : lexS F n P ops D Q k L0 [] a := h

theorem wpIn_region_stage {id : Nat} {Q : Exit → Act → World → Prop} {a : Act} {w : World} {l : List Oper} (D : Array Bool → World → Prop) (hm : P.follows .mixedOrders = true) (hnd : noDefer l = true) (hB : Region.lexB .any l.toArray = true) (hC : D (Array.replicate l.length false) w.drew)
    (h : lexS F n P l.toArray D (fun L a' => ∀ w', D L w' → Q .normal a' w') 0 (Array.replicate l.length false) l a) : (Code.region id l.toArray true).wpIn F n P Q a w := by
  have hB' := hB
  simp only [Region.lexB, Bool.and_eq_true] at hB
  refine wpIn_region_any hm (wpAnyIn_of_S (Q := fun L a' => ∀ w', D L w' → Q .normal a' w') (by simpa using noDefer_spec hnd) (fun _ _ w' hw' h => h w' hw') _ _ _ _ (by simpa using hC) ?_)
  have := anyS_lex (F := F) (n := n) (P := P) (D := D) (md := .any) hB.1 l 0 (Array.replicate l.toArray.size false) a (by simp) (by simpa using hB.2) (by simpa using h)
  simpa using this
end
section
variable {F : Fence} {n : Nat} {P : Program} {C : World → Prop} {o : Oper} {a : Act} {K : Act → Prop}
/-- a whole row is loaded, in every world of the class -/
theorem quiet_load_row (ty : TypeId) (x : Operand) (ho : o.op = .load ty x) (g : Nat) (hx : a.eval x = .pointer (some ⟨g, 0, none⟩)) (t : TypeId) (cs : Array Value) (fr : Nat × Nat) (d : TypeDesc)
    (hg : ∀ w, C w → w.heap[g]? = some (.cells cs t fr)) (hu : P.underlying ty = some d) (hd : (match d with | .struct _ | .array _ _ => true | _ => false) = true) (hi : (P.info? ty).map (·.size) = some cs.size)
    (hk : K (a.put o.dst (.agg cs))) : o.quietIn F n P a C K := by
  refine ⟨_, fun w hw => ?_, hk⟩
  unfold Oper.quietAtIn execOp
  simp only [ho, hx, Instr.loadAt, Instr.sureAddr, Sem.run_bind, Sem.run_pure, Result.andThen_ok, run_loadVar_row w g t ty cs fr d (hg w hw) hu hd hi]
  exact ⟨rfl, rfl⟩
end
end Go.Proofs.Ythnognjcbjgkbaa
