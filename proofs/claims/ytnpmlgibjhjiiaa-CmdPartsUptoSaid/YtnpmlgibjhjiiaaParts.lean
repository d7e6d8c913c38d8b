/-
  CmdParts: two lines with a semicolon between are the commands of both, blanks more or less turn nothing; for arguments of at most 1048576 values and letters.
-/
import Derived.Test.YtnpmlgibjhjiiaaLine
namespace Go.Proofs.Ytnpmlgibjhjiiaa.parts
open Go Go.Cm Go.ChangeShapes Go.WideShapes Go.ChangeAt Go.RowKit Go.Proofs.Ytnpmlgibjhjiiaa.frame

theorem contract (H : Type) (enc : TypeId × Value → H) (W : World) (base : Nat) (args : Array Value) (ds gs : List (DataW H)) (before : List MemPlace)
    (hval : ∀ (j : Nat) t v, Try.f6.params[j]? = some t → args[j]? = some v → Value.okWide Try.prog W .any base t v)
    (hW : DataW.Whole enc Try.prog Try.f6.params.toList Rows.cmdPartsSpec.vars false W args.toList ds gs before) (hk : Rows.uptoSmall H (ds ++ gs) = true) :
    Calls Try.prog 6 args W fun e W' => ∃ v, e = .returned v ∧ Rows.cmdPartsSpec.post enc Try.prog Try.f6 false true false false W args v W' := by
  have hW' := hW
  obtain ⟨p, q, hA0, hV, _⟩ := hW'
  obtain ⟨rfl, _⟩ := trodVars_none hV
  have hA : DataW.TrodAll enc Try.prog W 0 (fun _ => true) true Try.f6.params.toList args.toList ds p := hA0
  rw [Try.params6] at hA
  obtain ⟨v0, vs0, d0, ds0, p0, q0, _, rfl, _, _, r0⟩ := trodAll_cons hA
  obtain ⟨v1, vs1, d1, ds1, p1, q1, _, rfl, _, _, r1⟩ := trodAll_cons r0
  obtain ⟨v2, vs2, d2, ds2, p2, q2, _, rfl, _, _, r2⟩ := trodAll_cons r1
  obtain ⟨_, rfl, _⟩ := trodAll_nil r2
  have hbulk : Rows.uptoBulkAll ([d0, d1, d2] ++ ([] : List (DataW H))) ≤ 1048576 := of_decide_eq_true hk
  simp only [List.cons_append, List.nil_append, Rows.uptoBulkAll] at hbulk
  refine law_contract (C := dec.C) (N := dec.NN) (dep := 10) prog_ok Try.func6 rfl (by kernel_rfl) (by kernel_rfl) hW rfl rfl ?_ ?_ rfl Try.underlying4 hval ?_
  · rw [Try.params6]
    intro t ht
    simp only [List.mem_cons, List.not_mem_nil, or_false] at ht
    rcases ht with rfl | rfl | rfl <;> kernel_rfl
  · rw [Try.params6]
    intro t ht
    simp only [List.mem_cons, List.not_mem_nil, or_false] at ht
    rcases ht with rfl | rfl | rfl <;> exact ⟨by kernel_rfl, of_decide_eq_true (by kernel_rfl)⟩
  · intro ws vs hvs
    rw [Try.params6] at hvs
    match vs, hvs with
    | [u0, u1, u2], ⟨⟨a0, b0⟩, ⟨a1, b1⟩, ⟨a2, b2⟩, _⟩ =>
      obtain ⟨x0, e0, i0⟩ := raws_of a0 (by omega)
      obtain ⟨x1, e1, i1⟩ := raws_of a1 (by omega)
      obtain ⟨n, e2, _⟩ := a2.int_inv Try.underlying3
      obtain rfl := one_cells e0 (b0 (by kernel_rfl))
      obtain rfl := one_cells e1 (b1 (by kernel_rfl))
      obtain rfl := one_cells e2 (b2 (by kernel_rfl))
      obtain ⟨H', h⟩ := dec.CmdParts_s 0 x0 x1 n (heapW ws) i0 i1
      exact ⟨4, H', h⟩

set_option maxRecDepth 100000 in
theorem lifted (os : Os) (started : os.Started) (H : Type) (enc : TypeId × Value → H) (F : Stop.Interp) :
    ReturnsInHanded {} Try.checked os 6 .any ((Rows.OpenSpec.upto Rows.cmdPartsSpec).pre6 enc Try.prog Try.f6 Rows.cmdPartsUptoRow.domain false) (((Rows.OpenSpec.upto Rows.cmdPartsSpec).at F).post enc Try.prog Try.f6 false true false false) := by
  refine returnsInHanded_of_cond (C := Try.checked) (s := Rows.OpenSpec.upto Rows.cmdPartsSpec) (k := Rows.uptoSmall) rfl own started (by kernel_rfl) Try.func6
    (OpenSpec.witness (enc := enc) (C := Try.checked) (s := Rows.OpenSpec.upto Rows.cmdPartsSpec) (k := Rows.uptoSmall) rfl false ⟨#[], #[.slice none 0 0, .slice none 0 0, .int .i64 0], []⟩ 8 (by kernel_rfl) (by kernel_rfl) (by kernel_rfl)
      (x := ([.nil, .nil, .lit (.int .i64 0)], [], [])) (by kernel_rfl) rfl (by kernel_rfl)) ?_
  intro W base args ds gs before hval hW _ hk _
  exact contract H enc W base args ds gs before hval hW hk

theorem over : Rows.cmdPartsUptoRow.holds Try.pinned (Rows.OpenSpec.upto Rows.cmdPartsSpec) :=
  OpenClaim.holds_of_cond 6 Try.f6 rfl rfl rfl rfl rfl rfl rfl ⟨rfl, rfl, rfl, rfl, rfl⟩ rfl rfl rfl rfl rfl (by kernel_rfl) Try.func6 (by kernel_rfl)
    (of_decide_eq_true (by kernel_rfl)) (by unfold Func.isWrapper; first | (rw [if_pos (by decide +kernel)]; kernel_rfl) | (rw [if_neg (by decide +kernel)]; exact ⟨rfl, rfl⟩))
    (fun os started H enc _ F => lifted os started H enc F)

theorem cmdParts_holds : Rows.CmdPartsUptoSaid :=
  over
end Go.Proofs.Ytnpmlgibjhjiiaa.parts
