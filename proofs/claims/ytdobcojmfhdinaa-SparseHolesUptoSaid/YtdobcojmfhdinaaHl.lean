/- Lemmas of this session's own over the print's words: rows of bytes of the call's own that a copy writes into; a string turned into bytes. -/
import Derived.Test.YtdobcojmfhdinaaWMore
import Derived.Lib.BufferWrite
import Derived.Laws.CopyRow
import Derived.Laws.CopyOwn
import Derived.Lib.ConvBytes
namespace Go.Proofs.Ytdobcojmfhdinaa.Hl
open Go.RowKit Go.Proofs.YtdobcojmfhdinaaW.PrintWords Go.Proofs.YtdobcojmfhdinaaW.PrintLast Go.Proofs.YtdobcojmfhdinaaW.PrintMore
set_option linter.unusedVariables false
set_option linter.unusedSimpArgs false

theorem below_set_ {B : Nat} {w W : World} (h : Below B w W) {g j : Nat} (hg : B ≤ g) {u : Value} : Below B w (W.setCell ⟨g, j, none⟩ u) := h.setCell (p := ⟨g, j, none⟩) hg u
theorem byteCells_encs (d : ByteArray) : Lib.byteCells d.data.toList = encs (Value.int .u8) (bytesOf d) := by
  simp [Lib.byteCells, encs, bytesOf]
theorem bytesOf_len (d : ByteArray) : (bytesOf d).length = d.size := by rw [bytesOf, List.length_map, ← Lib.size_eq]

/-- copy(b[a:], d), b a row of the call's own, d a string that fits: what is there behind it. -/
theorem splice_u8 {P : Program} {W : World} {base e : Nat} {ok : Nat → Prop} {v : Value} {xs : List Int} (h : (Kd.int .u8).R e W base ok v xs) (a : Nat) (d : ByteArray) (hd : 0 < d.size) (ha : a + d.size ≤ xs.length)
    (dT sT ty : TypeId) (hu : P.underlying dT = some (.slice e)) (hi : (P.info? e).map (·.size) = some 1) :
    ∃ g cap W', v = .slice (some ⟨g, 0, none⟩) xs.length cap ∧ xs.length ≤ cap ∧ base ≤ g ∧
      (∀ L C, d.size ≤ L → (Builtin.copy_ #[dT, sT] ty #[.slice (some ⟨g, a, none⟩) L C, .string d]).run P W = .ok (goInt d.size) W') ∧
      (Kd.int .u8).R e W' base ok v (xs.take a ++ bytesOf d ++ xs.drop (a + d.size)) ∧ W.grownBy W' (some g) ∧ Below base W W' := by
  have ho := Kd.own_of_R h
  rcases ho.2 with ⟨_, h0⟩ | ⟨g, cap, cur, rfl, hb, hg, hnc, hcm, hcs, htk⟩
  · omega
  refine ⟨g, cap, W.setRow g (cur.toList.take a ++ Lib.byteCells d.data.toList ++ cur.toList.drop (a + d.size)).toArray, rfl, hnc, hb, fun L C hL => ?_, ?_, ?_, ?_⟩
  · exact Lib.run_copy_row_string W dT sT ty e g a L C d cur e hu hi hg hL (by omega)
  · have hl : (xs.take a ++ bytesOf d ++ xs.drop (a + d.size)).length = xs.length := by
      simp only [List.length_append, List.length_take, List.length_drop, bytesOf_len]; omega
    have hcl : cur.toList.length = cap := by rw [Array.length_toList, hcs, Nat.mul_one]
    refine Kd.R_of_own ?_ h.1
    rw [hl]
    refine ⟨by rw [encs_length, hl, Nat.mul_one], .inr ⟨g, cap, _, rfl, hb, setRow_heap _ _ cur _ e (0, 0) hg, hnc, hcm, ?_, ?_⟩⟩
    · simp only [List.size_toArray, List.length_append, List.length_take, List.length_drop, Lib.byteCells_length, hcl, ← Lib.size_eq]; omega
    · rw [Nat.mul_one] at htk ⊢
      rw [byteCells_encs]
      have e1 : cur.toList.take a = encs (Value.int .u8) (xs.take a) := by
        have := congrArg (List.take a) htk
        rw [List.take_take, Nat.min_eq_left (by omega)] at this
        rw [this]; simp [encs, List.map_take]
      have e2 : (cur.toList.drop (a + d.size)).take (xs.length - (a + d.size)) = encs (Value.int .u8) (xs.drop (a + d.size)) := by
        have := congrArg (List.drop (a + d.size)) htk
        rw [List.drop_take] at this
        rw [this]; simp [encs, List.map_drop]
      rw [List.toList_toArray, e1]
      have e3 : xs.length = ((encs (Value.int .u8) (xs.take a) ++ encs (Value.int .u8) (bytesOf d)).length) + (xs.length - (a + d.size)) := by
        simp only [List.length_append, encs_length, List.length_take, bytesOf_len]; omega
      conv => lhs; rw [e3]
      rw [List.take_length_add_append, e2]
      simp [encs]
  · exact ⟨rfl, rfl, rfl, by simp, fun k hk hne => setRow_other _ _ _ _ (fun he => hne (by rw [he]))⟩
  · exact ⟨rfl, rfl, rfl, by simp, fun k hk => setRow_other _ _ _ _ (by omega)⟩

/-- []byte(s), s a string: what can be read of it; what was there stays. -/
theorem conv_bytes {P : Program} (w : World) (src dst e : TypeId) (s : ByteArray) {u : TypeDesc} (hs : P.underlying src = some u) (hd : P.underlying dst = some (.slice e)) (he : P.underlying e = some (.int .u8)) (hl : s.size ≤ 9223372036854775807) :
    ∃ A c W', (convert src dst (.string s)).run P w = .ok (.slice A s.size c) W' ∧ (Kd.int .u8).C W' A s.size (bytesOf s) ∧ Below w.heap.size w W' ∧ s.size ≤ c := by
  refine ⟨_, _, _, Lib.run_convert_string_bytes w src dst e s hs hd he, ?_, ?_, ?_⟩
  · refine Kd.C_of_reads (d := (0 : Int)) (h1 := fun _ => rfl) ⟨bytesOf_len s, hl, fun _ => ⟨_, rfl, fun j hj => ?_⟩⟩
    rw [add_plain]
    rw [Lib.bytesWorld_cell w e s j hj]
    have hj' : j < s.data.toList.length := by rw [← Lib.size_eq]; exact hj
    simp only [bytesOf, List.getD_eq_getElem?_getD, List.getElem?_map, List.getElem?_eq_getElem hj', Option.map_some, Option.getD_some]
  · exact ⟨rfl, rfl, rfl, by rw [Lib.bytesWorld_size]; omega, fun j hj => Lib.bytesWorld_at_old w e s j hj⟩
  · exact grownCap_ge w s.size 0 e
end Go.Proofs.Ytdobcojmfhdinaa.Hl
