/- A drawn region of plain reads before one store, within a round of a range over a function: what the fence's round asks of such operations is what the walk asks anywhere. -/
import Derived.StillTail
import Derived.StillTactics
import Derived.OrdersIn
import Derived.TacticsIn
namespace Go.Proofs.Ytdcnpkpibbefhaa
open Go
def tame : Op → Bool
  | .move _ | .assign _ | .pick .. | .load .. | .store .. | .binOp .. | .unOp .. | .convert .. => true
  | _ => false
theorem tame_exec {o : Oper} (h : tame o.op = true) (ρ : Operand → Value) : (∃ s : Sem Value, execOp ρ o = (do pure (Next.value (← s)))) ∨ (∃ s : Sem Unit, execOp ρ o = (do s; pure Next.skip)) := by
  unfold execOp
  cases ho : o.op <;> rw [ho] at h <;> first | (cases h; done) | skip
  case move x => exact .inl ⟨pure (ρ x), rfl⟩
  case assign x => exact .inl ⟨pure (ρ x), rfl⟩
  case pick c x y => exact .inl ⟨do pure (if ← asBool (ρ c) then ρ x else ρ y), by simp⟩
  case load => exact .inl ⟨_, rfl⟩
  case store => exact .inr ⟨_, rfl⟩
  case binOp => exact .inl ⟨_, rfl⟩
  case unOp => exact .inl ⟨_, rfl⟩
  case convert => exact .inl ⟨_, rfl⟩
theorem tame_defer {o : Oper} (h : tame o.op = true) (c : _) : o.op ≠ .defer c := by
  intro e; rw [e] at h; cases h
theorem tame_about {o : Oper} (h : tame o.op = true) (P : Program) (w : World) (ρ : Operand → Value) : o.about P w ρ = none := by
  unfold Oper.about
  cases ho : o.op <;> first | rfl | (rw [ho] at h; cases h)
section
variable {F : Fence} {n : Nat} {P : Program} {Q : Exit → Act → World → Prop}
/-- The plain end alone. -/
def Nrm (Q : Exit → Act → World → Prop) : Exit → Act → World → Prop := fun e a w => e = .normal ∧ Q .normal a w
theorem tame_wp {o : Oper} (h : tame o.op = true) {a : Act} {w : World} {K K' : Act → World → Prop} (hK : ∀ a w, K a w → K' a w) (hw : o.wp P a w K (Nrm Q)) : o.wpIn F n P a w K' Q := by
  refine ⟨fun f hf => (by rw [tame_about h] at hf; cases hf), ?_⟩
  have hs : o.semAt F.round a.eval = execOp a.eval o := by
    cases F.round with
    | none => exact Oper.semAt_none _ _
    | some l => exact Oper.semAt_some _ _ _ (tame_defer h)
  rw [hs]
  unfold Oper.wp at hw
  rcases tame_exec h a.eval with ⟨s, e⟩ | ⟨s, e⟩ <;> rw [e] at hw ⊢
  · simp only [Sem.run_bind, Sem.run_pure] at hw ⊢
    cases hr : s.run P w with
    | ok v w' => rw [hr] at hw; simp [Result.andThen, Oper.upon, Oper.uponIn] at hw ⊢; exact hK _ _ hw
    | halt c w' => rw [hr] at hw; cases c <;> simp [Result.andThen, Oper.upon, Nrm] at hw
  · simp only [Sem.run_bind, Sem.run_pure] at hw ⊢
    cases hr : s.run P w with
    | ok v w' => rw [hr] at hw; simp [Result.andThen, Oper.upon, Oper.uponIn] at hw ⊢; exact hK _ _ hw
    | halt c w' => rw [hr] at hw; cases c <;> simp [Result.andThen, Oper.upon, Nrm] at hw
theorem tame_op {ops : Array Oper} (h : ops.toList.all (fun o => tame o.op) = true) {i : Nat} {a : Act} {w : World} {K K' : Act → World → Prop} (hK : ∀ a w, K a w → K' a w) (hw : wpOp P ops (Nrm Q) i K a w) : wpOpIn F n P ops Q i K' a w := by
  unfold wpOp at hw
  unfold wpOpIn
  cases ho : ops[i]? with
  | none => rw [ho] at hw; exact hK _ _ hw
  | some o =>
    rw [ho] at hw
    have ht : tame o.op = true := by
      rw [List.all_eq_true] at h
      refine h o ?_
      rw [Array.mem_toList_iff]
      exact Array.mem_of_getElem? ho
    simp only at hw ⊢
    split
    · rename_i h1
      rw [if_pos h1] at hw
      rcases hw with hw | ⟨_, _, _, h2, _⟩
      · exact tame_wp ht hK hw
      · cases h2
    · rename_i h1
      rw [if_neg h1] at hw
      exact ⟨fun f hf => (by rw [tame_about ht] at hf; cases hf), hK _ _ hw⟩
theorem tame_any {md : Region.Mode} {ops : Array Oper} (h : ops.toList.all (fun o => tame o.op) = true) : ∀ (fuel : Nat) (listed : Array Bool) (a : Act) (w : World), wpAny P md ops (Nrm Q) fuel listed a w → wpAnyIn F n P md ops Q fuel listed a w
  | 0, _, _, _, hw => ⟨hw.1, hw.2.2⟩
  | fuel + 1, _, _, _, hw => ⟨fun h0 => (hw.1 h0).2, fun i hi => tame_op h (fun a' w' => tame_any h fuel _ a' w') (hw.2 i hi)⟩
theorem tame_list {ops : Array Oper} : ∀ (l : List Oper), l.all (fun o => tame o.op) = true → ∀ (a : Act) (w : World), wpListIn F n P ops Q l a w → True := fun _ _ _ _ _ => trivial
/-- The law. -/
theorem in_still_tail {id : Nat} {a : Act} {w : World} {l : List Oper} (k : Nat) (hm : P.follows .mixedOrders = true) (ht : l.all (fun o => tame o.op) = true) (hB : Region.lexTailB .any l.toArray k = true)
    (h : wpStill P l.toArray w.drew (fun a' => wpList P l.toArray (Nrm Q) (l.drop k) a' w.drew) (l.take k) a) : (Code.region id l.toArray true).wpIn F n P Q a w := by
  refine wpIn_region_any hm (tame_any (by simpa using ht) _ _ _ _ ?_)
  simp only [Region.lexTailB, Bool.and_eq_true, decide_eq_true_eq] at hB
  obtain ⟨⟨⟨⟨h1, h2⟩, h3⟩, h4⟩, h5⟩ := hB
  have hk : k < l.length := by simpa using h2
  have e1 : (l.take k).length = k := by simp; omega
  have e2 : l.toArray.size - k = (l.drop k).length := by simp
  have inv : HeadInv .any l.toArray k (Array.replicate l.toArray.size false) :=
    { size := by simp
      closed := fun j oj _ hl => (by rw [getD_replicate_false] at hl; cases hl)
      tail := fun t _ hlt => getD_in (by simpa using hlt) (getD_replicate_false _ _) }
  have H := wpAnyL_lex (md := .any) (g := (l.drop k).length) h1 h3 h4 h2 (l.take k) 0 _ a (fun j hj => by
    have : j < k := by omega
    simp [this]) (by omega) inv (by rw [e1, ← e2]; exact h5) h
  have R := wpAny_of_head (Q' := Nrm Q) (g := (l.drop k).length) (fun listed a' hL => wpAny_of_seq (md := .any) (l.drop k) k listed a' w.drew (fun j => by simp [List.getElem?_drop]) hL.1 hL.2) _ _ _ H
  have e3 : (l.take k).length + (l.drop k).length = l.toArray.size := by simp; omega
  rw [e3] at R
  exact R
end
end Go.Proofs.Ytdcnpkpibbefhaa
