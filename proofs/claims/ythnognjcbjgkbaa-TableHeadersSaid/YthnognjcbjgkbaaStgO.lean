/-
  A region that draws its order and writes, where one operation must find what another has left: one walk of the lexical order serves every order; an operation is asked only where all that it waits for has come up. No program is named.
-/
import Derived.Test.YthnognjcbjgkbaaStg
namespace Go.Proofs.Ythnognjcbjgkbaa
set_option linter.unusedVariables false
open Go Go.RowKit

/-- operation i may come up -/
def Rdy (md : Region.Mode) (ops : Array Oper) (i : Nat) (L : Array Bool) : Prop := i ∈ Region.ready md ops L
theorem Open.of_ready {md : Region.Mode} {ops : Array Oper} {i : Nat} {L : Array Bool} (h : Rdy md ops i L) : Open L i := (mem_ready.1 h).1
/-- operation i waits for operation j -/
def waitsOn (md : Region.Mode) (ops : Array Oper) (i j : Nat) : Bool := match ops[i]? with
  | some o => o.after.any fun e => Region.binds md e && e.on == j
  | none => false
theorem came_of_ready {md : Region.Mode} {ops : Array Oper} {i j : Nat} {L : Array Bool} (hw : waitsOn md ops i j = true) (h : Rdy md ops i L) (hj : j < L.size) : Came L j = true := by
  obtain ⟨_, o, ho, hall⟩ := mem_ready.1 h
  unfold waitsOn at hw
  rw [ho] at hw
  obtain ⟨e, he, hb⟩ := Array.any_eq_true'.1 hw
  simp only [Bool.and_eq_true, beq_iff_eq] at hb
  have := hall e he hb.1
  rw [hb.2] at this
  unfold Came
  simp [hj] at this ⊢
  exact this
theorem Next_size {L : Array Bool} {k : Nat} : (Next L k).size = L.size := by unfold Next; simp

section
variable {F : Fence} {n : Nat} {P : Program} {ops : Array Oper} {md : Region.Mode} {D : Array Bool → World → Prop} {Q : Array Bool → Act → Prop}

def YieldsO (F : Fence) (n : Nat) (P : Program) (md : Region.Mode) (ops : Array Oper) (D : Array Bool → World → Prop) (i : Nat) (o : Oper) (v : Value) (a : Act) : Prop :=
  ∀ L w, Rdy md ops i L → D L w → (∀ f, o.about P w a.eval = some f → F.fn f) ∧ if Region.wanted o (yielded ops a.tmps) then atS F n P o a (D (Next L i)) w v else v = undef ∧ D (Next L i) w

theorem YieldsO.of_same {i : Nat} {o : Oper} {v : Value} {a a' : Act} (hy : YieldsO F n P md ops D i o v a) (he : execOp a'.eval o = execOp a.eval o)
    (hw : Region.wanted o (yielded ops a'.tmps) = Region.wanted o (yielded ops a.tmps)) (hb : ∀ w, o.about P w a'.eval = o.about P w a.eval) : YieldsO F n P md ops D i o v a' := by
  intro L w hL hD
  obtain ⟨h1, h2⟩ := hy L w hL hD
  refine ⟨fun f hf => h1 f (by rw [← hb w]; exact hf), ?_⟩
  unfold atS at *
  rw [he, hw]
  exact h2

/-- whatever order is picked from here on -/
def anyO (F : Fence) (n : Nat) (P : Program) (md : Region.Mode) (ops : Array Oper) (D : Array Bool → World → Prop) (Q : Array Bool → Act → Prop) : Nat → Array Bool → Act → Prop
  | 0, L, a => Region.ready md ops L = [] ∧ Q L a
  | fuel + 1, L, a => (Region.ready md ops L = [] → Q L a) ∧ ∀ i ∈ Region.ready md ops L, ∃ o v, ops[i]? = some o ∧ YieldsO F n P md ops D i o v a ∧ anyO F n P md ops D Q fuel (Next L i) (a.put o.dst v)


theorem wpOpIn_of_O {i : Nat} {o : Oper} {v : Value} {a : Act} {L : Array Bool} {w : World} {K' : Act → World → Prop} {Q' : Exit → Act → World → Prop} (hnd : ∀ c, o.op ≠ .defer c) (hi : ops[i]? = some o) (hL : i ∈ Region.ready md ops L) (hD : D L w)
    (hy : YieldsO F n P md ops D i o v a) (h : ∀ w', D (Next L i) w' → K' (a.put o.dst v) w') : wpOpIn F n P ops Q' i K' a w := by
  obtain ⟨h1, h2⟩ := hy L w hL hD
  unfold wpOpIn
  simp only [hi]
  by_cases hw : Region.wanted o (yielded ops a.tmps) = true
  · simp only [hw, if_true] at h2 ⊢
    unfold Oper.wpIn
    refine ⟨h1, ?_⟩
    unfold atS at h2
    rw [Oper.semAt_plain F _ _ hnd]
    generalize (execOp a.eval o).run P w = r at *
    cases r with
    | ok x w' =>
      cases x <;> simp only [upS] at h2 <;> simp only [Oper.uponIn]
      case value u =>
        obtain ⟨e1, e2⟩ := h2
        rw [e1]
        exact h _ e2
      case skip =>
        obtain ⟨e1, e2⟩ := h2
        rw [← e1]
        exact h _ e2
      case enter f args =>
        exact ⟨h2.1, h2.2.mono fun e w'' ⟨he, hw''⟩ => by subst he; exact h _ hw''⟩
    | halt x w' => simp only [upS] at h2
  · simp only [hw, Bool.false_eq_true, if_false] at h2 ⊢
    obtain ⟨e1, e2⟩ := h2
    rw [← e1]
    exact ⟨h1, h _ e2⟩

theorem wpAnyIn_of_O {Q' : Exit → Act → World → Prop} (hnd : ∀ o ∈ ops.toList, ∀ c, o.op ≠ .defer c) (hQ : ∀ L a w, D L w → Q L a → Q' .normal a w) : ∀ (fuel : Nat) (L : Array Bool) (a : Act) (w : World), D L w →
    anyO F n P md ops D Q fuel L a → wpAnyIn F n P md ops Q' fuel L a w
  | 0, _, _, _, hw, h => ⟨h.1, hQ _ _ _ hw h.2⟩
  | fuel + 1, L, a, w, hw, h => ⟨fun h0 => hQ _ _ _ hw (h.1 h0), fun i hi => by
      obtain ⟨o, v, ho, hy, hn⟩ := h.2 i hi
      exact wpOpIn_of_O (hnd o (Array.mem_toList_iff.2 (Array.mem_of_getElem? ho))) ho hi hw hy (fun w' hw' => wpAnyIn_of_O hnd hQ fuel _ _ w' hw' hn)⟩

theorem anyO_first {i : Nat} {oi : Oper} {v : Value} (hi : ops[i]? = some oi) (hsel : ∀ (j : Nat) (o : Oper) cs b, ops[j]? = some o → o.op ≠ .select cs b) :
    ∀ (fuel : Nat) (L : Array Bool) (a : Act),
      (∀ j oj, ops[j]? = some oj → j ≠ i → L.getD j true = false → (∀ e ∈ oj.after, Region.binds md e = true → e.on ≠ i) → oi.apart ops oj = true) →
      i ∈ Region.ready md ops L → YieldsO F n P md ops D i oi v a →
      anyO F n P md ops D Q fuel (Next L i) (a.put oi.dst v) → anyO F n P md ops D Q (fuel + 1) L a := by
  intro fuel
  induction fuel with
  | zero =>
    intro L a _ hr hy H
    refine ⟨fun h => (by rw [h] at hr; cases hr), fun j hj => ?_⟩
    by_cases hji : j = i
    · subst hji; exact ⟨oi, v, hi, hy, H⟩
    · have := ready_mono hj hji
      have e := H.1
      unfold Next at e
      rw [e] at this
      cases this
  | succ fuel ih =>
    intro L a hfree hr hy H
    refine ⟨fun h => (by rw [h] at hr; cases hr), fun j hj => ?_⟩
    by_cases hji : j = i
    · subst hji; exact ⟨oi, v, hi, hy, H⟩
    · obtain ⟨oj, u, hoj, hyj, hn⟩ := H.2 j (ready_mono hj hji)
      obtain ⟨hjun, oj', hoj', hall⟩ := mem_ready.1 hj
      obtain rfl : oj = oj' := Option.some.inj (hoj.symm.trans hoj')
      have hnot : ∀ e ∈ oj.after, Region.binds md e = true → e.on ≠ i := fun e he hb heq => by
        have h1 := hall e he hb
        have h0 := (mem_ready.1 hr).1
        rw [heq] at h1
        rcases Nat.lt_or_ge i L.size with h' | h'
        · simp [h'] at h0 h1; rw [h0] at h1; cases h1
        · simp [Array.getElem?_eq_none h'] at h1
      have hap := hfree j oj hoj hji hjun hnot
      obtain ⟨a1, a2, a3⟩ := Oper.apart_spec hap
      have hsi : ∀ cs b, oi.op ≠ .select cs b := fun cs b => hsel i oi cs b hi
      have hsj : ∀ cs b, oj.op ≠ .select cs b := fun cs b => hsel j oj cs b hoj
      have hyj' : YieldsO F n P md ops D j oj u a := hyj.of_same (execOp_put oj hsj a oi.dst v a1).symm (wanted_put oj a oi.dst v a1).symm (fun w => (about_put oj w a oi.dst v a1).symm)
      have hyi' : YieldsO F n P md ops D i oi v (a.put oj.dst u) := hy.of_same (execOp_put oi hsi a oj.dst u a3) (wanted_put oi a oj.dst u a3) (fun w => about_put oi w a oj.dst u a3)
      have hfree' : ∀ k ok, ops[k]? = some ok → k ≠ i → (Next L j).getD k true = false →
          (∀ e ∈ ok.after, Region.binds md e = true → e.on ≠ i) → oi.apart ops ok = true := fun k ok hk hki hun hno => by
        refine hfree k ok hk hki ?_ hno
        by_cases hjk : j = k
        · subst hjk; exact hjun
        · unfold Next at hun; rw [getD_set_ne true hjk] at hun; exact hun
      refine ⟨oj, u, hoj, hyj', ih (Next L j) (a.put oj.dst u) hfree' (ready_mono hr (Ne.symm hji)) hyi' ?_⟩
      have e1 : Next (Next L j) i = Next (Next L i) j := by unfold Next; rw [Array.setIfInBounds_comm _ _ hji]
      rw [e1, ← Act.put_comm a v u a2]
      exact hn

/-- the lexical walk -/
def lexO (F : Fence) (n : Nat) (P : Program) (md : Region.Mode) (ops : Array Oper) (D : Array Bool → World → Prop) (Q : Array Bool → Act → Prop) : Nat → Array Bool → List Oper → Act → Prop
  | _, L, [], a => Q L a
  | k, L, o :: rest, a => ∃ v, YieldsO F n P md ops D k o v a ∧ lexO F n P md ops D Q (k + 1) (Next L k) rest (a.put o.dst v)

theorem anyO_lex (hs : Region.noSelect ops = true) : ∀ (l : List Oper) (k : Nat) (L : Array Bool) (a : Act), (∀ j, l[j]? = ops[k + j]?) →
    Region.lexFrom md ops l.length k L = true → lexO F n P md ops D Q k L l a → anyO F n P md ops D Q l.length L a
  | [], _, _, _, _, hB, h => ⟨by simpa [Region.lexFrom] using hB, h⟩
  | o :: l, k, L, a, hl, hB, h => by
    have h0 : ops[k]? = some o := by simpa using (hl 0).symm
    simp only [List.length_cons, Region.lexFrom, Bool.and_eq_true] at hB
    obtain ⟨⟨hr, hf⟩, hB'⟩ := hB
    obtain ⟨v, hy, hK⟩ := h
    exact anyO_first h0 (Region.noSelect_spec hs) l.length L a (Region.free_spec h0 hf) (by simpa using hr) hy
      (anyO_lex hs l (k + 1) _ _ (fun j => by have := hl (j + 1); simpa [Nat.add_assoc, Nat.add_comm 1 j] using this) hB' hK)

/-- one operation at a time -/
theorem lexO_step {k : Nat} {L0 : Array Bool} {o : Oper} {rest : List Oper} {a : Act}
    (h : ∀ K : Act → Prop, (∀ a, lexO F n P md ops D Q (k + 1) (Next L0 k) rest a → K a) → ∃ v, (∀ L w, Rdy md ops k L → D L w → (∀ f, o.about P w a.eval = some f → F.fn f) ∧ if Region.wanted o (yielded ops a.tmps) then atS F n P o a (D (Next L k)) w v else v = undef ∧ D (Next L k) w) ∧ K (a.put o.dst v)) :
    lexO F n P md ops D Q k L0 (o :: rest) a := h _ (fun _ h => h)
theorem lexO_nil {k : Nat} {L0 : Array Bool} {a : Act} (h : Q L0 a) : lexO F n P md ops D Q k L0 [] a := h

theorem wpIn_region_ord {id : Nat} {Q : Exit → Act → World → Prop} {a : Act} {w : World} {l : List Oper} (D : Array Bool → World → Prop) (hm : P.follows .mixedOrders = true) (hnd : noDefer l = true) (hB : Region.lexB .any l.toArray = true) (hC : D (Array.replicate l.length false) w.drew)
    (h : lexO F n P .any l.toArray D (fun L a' => ∀ w', D L w' → Q .normal a' w') 0 (Array.replicate l.length false) l a) : (Code.region id l.toArray true).wpIn F n P Q a w := by
  have hB' := hB
  simp only [Region.lexB, Bool.and_eq_true] at hB
  refine wpIn_region_any hm (wpAnyIn_of_O (Q := fun L a' => ∀ w', D L w' → Q .normal a' w') (by simpa using noDefer_spec hnd) (fun _ _ w' hw' h => h w' hw') _ _ _ _ (by simpa using hC) ?_)
  have := anyO_lex (F := F) (n := n) (P := P) (D := D) (md := .any) hB.1 l 0 (Array.replicate l.toArray.size false) a (by simp) (by simpa using hB.2) (by simpa using h)
  simpa using this
end
section
variable {F : Fence} {n : Nat} {P : Program} {ops : Array Oper} {md : Region.Mode} {D : Array Bool → World → Prop} {Q : Array Bool → Act → Prop}
/-- an append whose run is known in the one world where it comes up -/
theorem lexO_append {k : Nat} {L0 : Array Bool} {o : Oper} {rest : List Oper} {a : Act} (hg : o.guard = none) (s x : Operand) (t : TypeId) (hop : o.op = .call { callee := .builtin .append, args := #[s, x], argTypes := #[t, t] })
    (v xv v' : Value) (hs : a.eval s = v) (hx : a.eval x = xv) (W2 W3 : World) (hrun : (Builtin.append_ #[t, t] o.type #[v, xv]).run P W2 = .ok v' W3) (hD : ∀ L w, Rdy md ops k L → D L w → w = W2 ∧ D (Next L k) W3)
    (h : lexO F n P md ops D Q (k + 1) (Next L0 k) rest (a.put o.dst v')) : lexO F n P md ops D Q k L0 (o :: rest) a := by
  refine ⟨v', fun L w hL hw => ?_, h⟩
  obtain ⟨rfl, h2⟩ := hD L w hL hw
  refine ⟨?_, ?_⟩
  · simp [Oper.about, hop, resolve, Target.leads, Sem.run_pure]
  · rw [if_pos (by simp [Region.wanted, hg])]
    unfold atS
    simp [execOp, hop, resolve, invoke, builtin, hs, hx, hrun, Result.andThen, upS]
    exact h2
end

/-- a slice is read (j), a new value lies in a block of its own (k), it is appended (m), the result is stored (n): the worlds behind them, in whatever order the others come up -/
def AppSt (N j k m n : Nat) (W1 W2 W3 W4 : World) (L : Array Bool) (w : World) : Prop :=
  L.size = N ∧ (Came L n = true → Came L m = true) ∧ (Came L m = true → Came L k = true ∧ Came L j = true) ∧ w = (if Came L n = true then W4 else if Came L m = true then W3 else if Came L k = true then W2 else W1)
section
variable {N j k m n : Nat} {W1 W2 W3 W4 w : World} {L : Array Bool}
theorem AppSt.start (h : j < N ∧ k < N ∧ m < N ∧ n < N) : AppSt N j k m n W1 W2 W3 W4 (Array.replicate N false) W1 := by
  have e : ∀ i, i < N → Came (Array.replicate N false) i = false := fun i hi => by unfold Came; simp [hi]
  refine ⟨by simp, ?_, ?_, ?_⟩ <;> simp [e m h.2.2.1, e n h.2.2.2, e k h.2.1]
theorem AppSt.other (h : AppSt N j k m n W1 W2 W3 W4 L w) (i : Nat) (hi : j ≠ i ∧ k ≠ i ∧ m ≠ i ∧ n ≠ i) : AppSt N j k m n W1 W2 W3 W4 (Next L i) w := by
  unfold AppSt
  rw [Came_ne (Ne.symm hi.1), Came_ne (Ne.symm hi.2.1), Came_ne (Ne.symm hi.2.2.1), Came_ne (Ne.symm hi.2.2.2), Next_size]
  exact h
theorem AppSt.read (h : AppSt N j k m n W1 W2 W3 W4 L w) (ho : Open L j) (hn : k ≠ j ∧ m ≠ j ∧ n ≠ j) : (w = W1 ∨ w = W2) ∧ AppSt N j k m n W1 W2 W3 W4 (Next L j) w := by
  obtain ⟨h1, h2, h3, h4⟩ := h
  have h0 := Came_open ho
  have hm : Came L m = false := by
    cases e : Came L m with
    | false => rfl
    | true => have := (h3 e).2; rw [h0] at this; cases this
  have hn' : Came L n = false := by
    cases e : Came L n with
    | false => rfl
    | true => have := h2 e; rw [hm] at this; cases this
  refine ⟨?_, ?_⟩
  · rw [h4, hm, hn']
    cases Came L k <;> simp
  · unfold AppSt
    rw [Came_ne (Ne.symm hn.1), Came_ne (Ne.symm hn.2.1), Came_ne (Ne.symm hn.2.2), Next_size, Came_same ho]
    exact ⟨h1, h2, fun e => ⟨(h3 e).1, rfl⟩, h4⟩
theorem AppSt.lay (h : AppSt N j k m n W1 W2 W3 W4 L w) (ho : Open L k) (hn : j ≠ k ∧ m ≠ k ∧ n ≠ k) : w = W1 ∧ AppSt N j k m n W1 W2 W3 W4 (Next L k) W2 := by
  obtain ⟨h1, h2, h3, h4⟩ := h
  have h0 := Came_open ho
  have hm : Came L m = false := by
    cases e : Came L m with
    | false => rfl
    | true => have := (h3 e).1; rw [h0] at this; cases this
  have hn' : Came L n = false := by
    cases e : Came L n with
    | false => rfl
    | true => have := h2 e; rw [hm] at this; cases this
  refine ⟨by rw [h4, hm, hn', h0]; simp, ?_⟩
  unfold AppSt
  rw [Came_ne (Ne.symm hn.1), Came_ne (Ne.symm hn.2.1), Came_ne (Ne.symm hn.2.2), Next_size, Came_same ho]
  exact ⟨h1, h2, fun e => ⟨rfl, (h3 e).2⟩, by rw [hm, hn']; simp⟩
theorem AppSt.app (h : AppSt N j k m n W1 W2 W3 W4 L w) (ho : Open L m) (hj : Came L j = true) (hk : Came L k = true) (hn : j ≠ m ∧ k ≠ m ∧ n ≠ m) : w = W2 ∧ AppSt N j k m n W1 W2 W3 W4 (Next L m) W3 := by
  obtain ⟨h1, h2, h3, h4⟩ := h
  have hm := Came_open ho
  have hn' : Came L n = false := by
    cases e : Came L n with
    | false => rfl
    | true => have := h2 e; rw [hm] at this; cases this
  refine ⟨by rw [h4, hm, hn', hk]; simp, ?_⟩
  unfold AppSt
  rw [Came_ne (Ne.symm hn.1), Came_ne (Ne.symm hn.2.1), Came_ne (Ne.symm hn.2.2), Next_size, Came_same ho]
  exact ⟨h1, fun _ => rfl, fun _ => ⟨hk, hj⟩, by rw [hn']; simp⟩
theorem AppSt.put (h : AppSt N j k m n W1 W2 W3 W4 L w) (ho : Open L n) (hm : Came L m = true) (hn : j ≠ n ∧ k ≠ n ∧ m ≠ n) : w = W3 ∧ AppSt N j k m n W1 W2 W3 W4 (Next L n) W4 := by
  obtain ⟨h1, h2, h3, h4⟩ := h
  have hn' := Came_open ho
  refine ⟨by rw [h4, hm, hn']; simp, ?_⟩
  unfold AppSt
  rw [Came_ne (Ne.symm hn.1), Came_ne (Ne.symm hn.2.1), Came_ne (Ne.symm hn.2.2), Next_size, Came_same ho]
  exact ⟨h1, fun _ => hm, h3, by simp⟩
theorem AppSt.done (h : AppSt N j k m n W1 W2 W3 W4 L w) (hn : Came L n = true) : w = W4 := by
  rw [h.2.2.2, hn]; simp
end
end Go.Proofs.Ythnognjcbjgkbaa
