/- From a contract over descriptions to the form that a law's frame takes. -/
import Derived.Test.YtdcnpkpibbefhaaLG
import Derived.Test.YtdcnpkpibbefhaaLC
namespace Go.Proofs.Ytdcnpkpibbefhaa
open Go.RowKit
set_option linter.unusedVariables false
set_option linter.unusedSimpArgs false
theorem rows_of {w : World} {S : Nat → Prop} {b : Nat} : ∀ {l : List UInt8} {o : Nat}, (∀ j u, (bv l)[j]? = some u → w.cell? ⟨b, o + j, none⟩ = some u) → rowsAt w S b 1 o (l.map bD)
  | [], _, _ => trivial
  | c :: l, o, h => by
    simp only [List.map_cons, rowsAt]
    refine ⟨rfl, ?_, rows_of fun j u hu => ?_⟩
    · simp only [bD, cellsAt, D.is]
      exact ⟨⟨_, h 0 _ rfl, rfl, rfl⟩, trivial⟩
    · have := h (j + 1) u hu
      rw [show o + 1 + j = o + (j + 1) by omega]
      exact this
theorem seq_of_row {w : World} {a : Option Addr} {len cap : Nat} {zs : List Int} (h : Row .u8 1 w a len cap zs) :
    ∃ l : List UInt8, l.length = len ∧ l.length ≤ 140737488351232 ∧ D.is w Heap.none.others (.seq 1 (l.map bD)) (.slice a len cap) := by
  obtain ⟨l, rfl, hr, hl, hc⟩ := rd_of_row h
  refine ⟨l, rfl, by omega, ?_⟩
  simp only [D.is, List.length_map]
  refine ⟨a, cap, rfl, hl, ?_⟩
  cases l with
  | nil => exact .inl rfl
  | cons c l =>
    obtain ⟨b, o, rfl, hb, hc⟩ := hr 0 _ rfl
    refine .inr ⟨b, o, rfl, rfl, hb, rows_of fun j u hu => ?_⟩
    obtain ⟨b', o', e, _, h2⟩ := hr j u hu
    cases e
    exact h2
theorem walk_of {P : Program} {f : FuncId} {ds : List D} {vs : List Value} {w : World} (h : Does P f ds .none fun d _ => d = .val (.bool true)) (hv : valsAll w Heap.none.others ds vs) :
    Calls P f vs.toArray w fun e w' => e = .returned (.bool true) ∧ Below w.heap.size w w' :=
  (h.2 w vs hv (fun b x hb => by cases hb)).mono fun e w' ⟨v, d, H', he, hd, _, hev, hk⟩ => by
    subst hk
    rw [is_val hd] at he
    exact ⟨he, hev.os, hev.tape, hev.output, hev.size, fun k hk => (hev.keep k hk rfl).1⟩
end Go.Proofs.Ytdcnpkpibbefhaa
