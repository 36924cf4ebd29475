/- The functions that this seat's laws reach, each as a function in Lean (NAME.f) with its contract (NAME.calls): printed by the kit's print.py; those that it does not take by hand. Conditions: those that each contract names. Lean checks it all. -/
import Derived.Test.YtdobcojmfhdinaaPr0
import Derived.Test.YtdobcojmfhdinaaPr6
import Derived.Test.YtdobcojmfhdinaaPr7
namespace Go.Proofs.Ytdobcojmfhdinaa.Pr
open Go.RowKit Go.Proofs.YtdobcojmfhdinaaW.PrintWords Go.Proofs.YtdobcojmfhdinaaW.PrintLast Go.Proofs.YtdobcojmfhdinaaW.PrintMore
attribute [local go_sem] max2_int min2_int max_two min_two max_three min_three max_four min_four   -- for this text's walks alone
set_option linter.unusedVariables false
set_option linter.unusedSimpArgs false

/-! ### sparse_without: function 24 (by hand) -/
def jFold (rs l : List S33) (a b : Int) : List S33 := l.foldl (fun rs r => jPart rs r.f0 r.f1 a b) rs
def jWithout (l : List S33) (a b : Int) (d : ByteArray) : List S33 := jFold (jAdd (jFold [] l 0 a) a d.data.toList) l b 65536
theorem jFold_take (rs l : List S33) (a b : Int) (k : Nat) (hk : k < l.length) (z : S33) : jFold rs (l.take (k + 1)) a b = jPart (jFold rs (l.take k) a b) (l.getD k z).f0 (l.getD k z).f1 a b := by
  unfold jFold
  rw [List.take_succ_eq_append_getElem hk, List.foldl_append]
  simp [List.getD_eq_getElem?_getD, List.getElem?_eq_getElem hk]
theorem jPush_good {rs : List S33} {x : Int} {c : UInt8} (h : jGood rs) (h0 : 0 ≤ x) (h1 : x + 1 ≤ 65536) : jGood (jPush rs x c) ∧ (jPush rs x c).length ≤ rs.length + 1 := by
  have e : ((⟨#[c]⟩ : ByteArray).size : Int) = 1 := rfl
  unfold jPush
  split
  · exact ⟨h, by omega⟩
  · have := jGood_chunk (s := ⟨#[c]⟩) h h0 (by rw [e]; exact h1)
    have h2 := jChunk_length rs x ⟨#[c]⟩
    unfold jChunk at this h2
    exact ⟨this, h2⟩
theorem jAdd_good : ∀ {l : List UInt8} {rs : List S33} {x : Int}, jGood rs → (0 < l.length → 0 ≤ x ∧ x + l.length ≤ 65536) → jGood (jAdd rs x l) ∧ (jAdd rs x l).length ≤ rs.length + l.length
  | [], rs, x, h, _ => ⟨h, by simp [jAdd]⟩
  | c :: l, rs, x, h, hx => by
    obtain ⟨h0, h1⟩ := hx (by simp)
    simp only [List.length_cons] at h1
    obtain ⟨g1, g2⟩ := jPush_good (c := c) h h0 (by push_cast at h1; omega)
    obtain ⟨g3, g4⟩ := jAdd_good (l := l) (rs := jPush rs x c) (x := x + 1) g1 (fun _ => ⟨by omega, by push_cast at h1; omega⟩)
    simp only [jAdd, List.length_cons]
    exact ⟨g3, by omega⟩
theorem jPart_good {rs : List S33} {r0 : Int} {r1 : ByteArray} {a b : Int} (h : jGood rs) (h0 : 0 ≤ r0) (h1 : r0 + r1.size ≤ 65536) (ha : 0 ≤ a) : jGood (jPart rs r0 r1 a b) ∧ (jPart rs r0 r1 a b).length ≤ rs.length + 65536 := by
  unfold jPart
  split
  · rename_i hlt
    have hm0 : r0 ≤ mx a r0 := by unfold mx; split <;> omega
    have hn0 : mn b (r0 + r1.size) ≤ r0 + r1.size := by unfold mn; split <;> omega
    have hsz : (r1.extract (mx a r0 - r0).toNat (mn b (r0 + r1.size) - r0).toNat).data.toList.length = (mn b (r0 + r1.size) - r0).toNat - (mx a r0 - r0).toNat := by
      rw [← Lib.size_eq, ByteArray.size_extract]; omega
    obtain ⟨g1, g2⟩ := jAdd_good (l := (r1.extract (mx a r0 - r0).toNat (mn b (r0 + r1.size) - r0).toNat).data.toList) (x := mx a r0) h (fun _ => ⟨by omega, by rw [hsz]; omega⟩)
    exact ⟨g1, by omega⟩
  · exact ⟨h, by omega⟩
theorem jFold_good {l : List S33} : ∀ {rs : List S33} {a b : Int}, jGood rs → jGood l → 0 ≤ a → jGood (jFold rs l a b) ∧ (jFold rs l a b).length ≤ rs.length + l.length * 65536 := by
  induction l with
  | nil => intro rs a b h _ _; exact ⟨h, by simp [jFold]⟩
  | cons r l ih =>
    intro rs a b h hl ha
    have hr := hl r List.mem_cons_self
    obtain ⟨g1, g2⟩ := jPart_good (b := b) h hr.1 hr.2 ha
    obtain ⟨g3, g4⟩ := ih (rs := jPart rs r.f0 r.f1 a b) (a := a) (b := b) g1 (fun q hq => hl q (List.mem_cons_of_mem _ hq)) ha
    refine ⟨g3, ?_⟩
    show (jFold (jPart rs r.f0 r.f1 a b) l a b).length ≤ _
    simp only [List.length_cons]
    omega
theorem jGood_take {l : List S33} (h : jGood l) (k : Nat) : jGood (l.take k) := fun r hr => h r (List.mem_of_mem_take hr)
/-- what is told of the state between the calls -/
def jSt (w wr : World) (g : Nat) (rs : List S33) : Prop :=
  w.heap.size ≤ g ∧ ∃ v, wr.heap[g]? = some (.cells #[v] 51 (0, 0)) ∧ Below w.heap.size w wr ∧ Kd.R k33 33 wr w.heap.size (fun _ => True) v rs
theorem jSt_boxed {w wr w1 : World} {g gb : Nat} {rs : List S33} (h : jSt w wr g rs) (hb : Below wr.heap.size wr w1) (hg : gb = wr.heap.size) (u0 u1 : Value) : jSt w ((w1.setCell ⟨gb, 0, none⟩ u0).setCell ⟨gb, 1, none⟩ u1) g rs := by
  obtain ⟨hg0, v, h1, h2, h3⟩ := h
  have hne : g ≠ gb := by have := blk_lt h1; omega
  refine ⟨hg0, v, blk_far (blk_far (blk_below h1 hb) (p := ⟨gb, 0, none⟩) hne u0) (p := ⟨gb, 1, none⟩) hne u1, below_set_ (below_set_ (below_then h2 h2.size hb) (by have := h2.size; omega)) (by have := h2.size; omega), ?_⟩
  exact Kd.R_mono (Kd.R_far (p := ⟨gb, 1, none⟩) (Kd.R_far (p := ⟨gb, 0, none⟩) (Kd.R_old h3 hb) (fun k hk => by rw [hg]; exact Nat.ne_of_lt hk.2) u0) (fun k hk => by rw [hg]; exact Nat.ne_of_lt hk.2) u1) (fun _ _ => trivial)
theorem jSt_drewN {w wr : World} {g : Nat} {rs : List S33} (h : jSt w wr g rs) (n : Nat) : jSt w (wr.drewN n) g rs := by
  obtain ⟨hg0, v, h1, h2, h3⟩ := h
  exact ⟨hg0, v, h1, pw_below_drewN h2 n, Kd.R_drewN h3 n⟩
theorem jSt.part {w wr : World} {g : Nat} {rs : List S33} (h : jSt w wr g rs) (r0 : Int) (r1 : ByteArray) (a b : Int) (h0 : 0 ≤ r0) (h1 : r0 + r1.size ≤ 65536) (ha : 0 ≤ a) (hl : rs.length + r1.size ≤ 4000000000000) (hgd : jGood rs) :
    Calls Try.prog 29 #[.pointer (some ⟨g, 0, none⟩), .agg #[.int .i64 r0, .string r1], .int .i64 a, .int .i64 b] wr fun e w' => e = .returned (.tuple #[]) ∧ Aside0 (jSt w w' g (jPart rs r0 r1 a b)) := by
  obtain ⟨hg0, v, h2, h3, h4⟩ := h
  refine (sparse_joiner_part.walk g r0 r1 a b rs v w wr h2 hg0 h3 h4 h0 h1 ha hl hgd).mono ?_
  rintro e w' ⟨rfl, v', h5, h6, h7⟩
  exact ⟨rfl, ⟨hg0, v', h5, h6, h7⟩⟩
theorem jSt.add {w wr : World} {g : Nat} {rs : List S33} (h : jSt w wr g rs) (x : Int) (d : ByteArray) (h1 : 0 < d.size → 0 ≤ x ∧ x + d.size ≤ 65536) (hl : rs.length + d.size ≤ 4000000000000) (hgd : jGood rs) :
    Calls Try.prog 30 #[.pointer (some ⟨g, 0, none⟩), .int .i64 x, .string d] wr fun e w' => e = .returned (.tuple #[]) ∧ Aside0 (jSt w w' g (jAdd rs x d.data.toList)) := by
  obtain ⟨hg0, v, h2, h3, h4⟩ := h
  refine (sparse_joiner_add.walk g x d rs v w wr h2 hg0 h3 h4 h1 hl hgd).mono ?_
  rintro e w' ⟨rfl, v', h5, h6, h7⟩
  exact ⟨rfl, ⟨hg0, v', h5, h6, h7⟩⟩
def sparse_without.f (l0 : List S33) (a1 a2 : Int) (a3 : ByteArray) : Option (List S33) :=
  if l0.length ≤ 65536 ∧ jGood l0 ∧ (0 < a3.size → 0 ≤ a1 ∧ a1 + a3.size ≤ 65536) ∧ 0 ≤ a2 ∧ a3.size ≤ 65536 then some (jWithout l0 a1 a2 a3) else none
set_option maxHeartbeats 8000000 in
set_option maxRecDepth 100000 in
theorem sparse_without.calls (A0 : Option Addr) (c0 : Nat) (l0 : List (S33)) (a1 : Int) (a2 : Int) (a3 : ByteArray) (r : List (S33)) (w : World) (hr0 : Kd.C k33 w A0 l0.length l0) (hc0 : l0.length ≤ c0) (h : sparse_without.f l0 a1 a2 a3 = some r) :
    Calls Try.prog 24 #[.slice A0 l0.length c0, .int .i64 a1, .int .i64 a2, .string a3] w fun e w' => ∃ v0_ : Value, e = .returned (v0_) ∧ Kd.R k33 33 w' w.heap.size (fun _ => True) v0_ r ∧ Below w.heap.size w w' := by
  unfold sparse_without.f at h
  split at h
  case isFalse => cases h
  case isTrue hh =>
    obtain ⟨hlen, hgood, ha1, ha2, ha3⟩ := hh
    obtain rfl := Option.some.inj h
    clear h
    have hu33 := Try.underlying33
    have hu51 := Try.underlying51
    have HR0 := Aside0.mk hr0
    have HGL := Aside0.mk hgood
    have HA1 := Aside0.mk ha1
    have HL := Aside0.mk hlen
    clear hr0 hgood ha1 hc0
    go_enter Try.func24, Try.ntmps24
    go_wp2_with (first | ((with_reducible refine gate_dst (N := 9) rfl ?_); refine box_event ?hg (N := 9) ?hd (cs := #[.slice none 0 0]) (t := 51) ?hr ?_; (case hd => rfl); (case hg => rfl); (case hr => first | (go_simp; done) | (go_simp; rfl)); intro gj hgj w2 hbox hb2; have HX := Aside0.mk hbox; have HB2 := Aside0.mk hb2; have HGJ := Aside0.mk hgj; clear hb2 hbox hgj))
    have ST0 : jSt w w2 gj [] := ⟨by rw [HGJ.out]; exact Nat.le_refl _, _, HX.out, HB2.out, Kd.R_nil _ _ _ _ _⟩
    have HST0 := Aside0.mk ST0
    clear ST0 HX HB2 HGJ
    go_loopw [16] (fun i wr => ∃ x : Int, i = .int .i64 x ∧ 0 ≤ x ∧ x ≤ l0.length ∧ Aside0 (jSt w wr gj (jFold [] (l0.take x.toNat) 0 a1))) (fun i _ => (l0.length - intOf i).toNat)
    case atStart => exact ⟨0, rfl, by omega, by omega, HST0⟩
    case round =>
      clear HST0
      obtain ⟨x, rfl, hx0, hx1, HST⟩ := hrel
      by_cases hx : x < l0.length
      · have hxb : decide (x < (l0.length : Int)) = true := by simpa using hx
        have HX := Aside0.mk hx
        obtain ⟨ad, e, q0, q1⟩ := at_T33 HR0.out x hx0 hx
        cases e
        have hB := HST.out.2.choose_spec.2.1
        replace q0 := (hB.cell (World.block_lt_of_cell? w _ q0)).trans q0
        replace q1 := (hB.cell (World.block_lt_of_cell? w _ q1)).trans q1
        clear hB
        obtain ⟨r, hr⟩ : ∃ r, r = rd_T33 l0 x := ⟨_, rfl⟩
        rw [← hr] at q0 q1
        have hm : r ∈ l0 := by
          rw [hr]; unfold rd_T33
          rw [List.getD_eq_getElem?_getD, List.getElem?_eq_getElem (by omega)]; exact List.getElem_mem _
        obtain ⟨hr0, hr1⟩ := HGL.out r hm
        have HN := Aside0.mk (show jFold [] (l0.take (x + 1).toNat) 0 a1 = jPart (jFold [] (l0.take x.toNat) 0 a1) r.f0 r.f1 0 a1 by
          rw [show (x + 1).toNat = x.toNat + 1 by omega, jFold_take _ _ _ _ _ (by omega) z33, hr]; rfl)
        obtain ⟨g1, g2⟩ := jFold_good (rs := []) (a := 0) (b := a1) (fun _ hq => by cases hq) (jGood_take HGL.out x.toNat) (Int.le_refl 0)
        have hlen2 : (jFold [] (l0.take x.toNat) 0 a1).length + r.f1.size ≤ 4000000000000 := by
          have h3 := List.length_take_le x.toNat l0
          have h4 := HL.out
          have h5 : (l0.take x.toNat).length * 65536 ≤ 65536 * 65536 := Nat.mul_le_mul_right _ (by rw [List.length_take]; omega)
          simp only [List.length_nil] at g2
          omega
        have HG1 := Aside0.mk g1
        have HL2 := Aside0.mk hlen2
        have hxx0 := eq_true hx0
        have hxx1 := eq_true hx
        clear hr hm g1 g2 hlen2 hx
        go_wp2_with (first | ((with_reducible refine gate_dst (N := 11) rfl ?_); refine box_event ?hg (N := 11) ?hd (cs := #[.int .i64 0, .string (⟨#[]⟩ : ByteArray)]) (t := 33) ?hr ?_; (case hd => rfl); (case hg => rfl); (case hr => first | (go_simp; done) | (go_simp; rfl)); intro gb hgb w3 hbox hb3; have S3 := Aside0.mk (jSt_boxed HST.out hb3 hgb (.int .i64 r.f0) (.string r.f1)); have z0 : w3.cell? ⟨gb, 0, none⟩ = some (.int .i64 0) := (blk_cell hbox 0).trans rfl; have z1 : w3.cell? ⟨gb, 1, none⟩ = some (.string (⟨#[]⟩ : ByteArray)) := (blk_cell hbox 1).trans rfl; have y0 := blk_frozen hbox 0; have y1 := blk_frozen hbox 1; clear hb3 hbox hgb) | (go_at_call 29; refine (S3.out.part r.f0 r.f1 0 a1 hr0 hr1 (by omega) HL2.out HG1.out).mono ?_; rintro e w4 ⟨rfl, S4⟩))
        go_roundw
        case rel => exact ⟨x + 1, by go_num, by omega, by have := HX.out; omega, ⟨by rw [HN.out]; exact S4.out⟩⟩
        case measure => have := HX.out; simp [intOf]; omega
      · have hxb : decide (x < (l0.length : Int)) = false := by simpa using hx
        obtain rfl : x = l0.length := by omega
        clear hx
        have HM := Aside0.mk (jFold_good (rs := []) (a := 0) (b := a1) (l := l0) (fun _ hq => by cases hq) HGL.out (Int.le_refl 0))
        have HST1 : Aside0 (jSt w wr gj (jFold [] l0 0 a1)) := ⟨by have := HST.out; rwa [Int.toNat_natCast, List.take_length] at this⟩
        clear HST
        have HA := Aside0.mk (jAdd_good (l := a3.data.toList) (rs := jFold [] l0 0 a1) (x := a1) HM.out.1 (fun h => by rw [← Lib.size_eq] at h ⊢; exact HA1.out h))
        have hb1 : l0.length * 65536 ≤ 65536 * 65536 := Nat.mul_le_mul_right _ hlen
        have hl1 : (jFold [] l0 0 a1).length + a3.size ≤ 4000000000000 := by have := HM.out.2; simp only [List.length_nil] at this; omega
        have HL1 := Aside0.mk hl1
        have hl2 : (jAdd (jFold [] l0 0 a1) a1 a3.data.toList).length ≤ 3000000000000 := by have := HA.out.2; have h3 := HM.out.2; rw [← Lib.size_eq] at this; simp only [List.length_nil] at h3; omega
        have HL2 := Aside0.mk hl2
        clear hb1 hl1 hl2
        go_wp2_with (go_at_call 30; refine (HST1.out.add a1 a3 HA1.out HL1.out HM.out.1).mono ?_; rintro e w5 ⟨rfl, S5⟩)
        go_loopw [29] (fun i wr => ∃ x : Int, i = .int .i64 x ∧ 0 ≤ x ∧ x ≤ l0.length ∧ Aside0 (jSt w wr gj (jFold (jAdd (jFold [] l0 0 a1) a1 a3.data.toList) (l0.take x.toNat) a2 65536))) (fun i _ => (l0.length - intOf i).toNat)
        case atStart => exact ⟨0, rfl, by omega, by omega, S5⟩
        case round =>
          clear S5 HST1
          obtain ⟨x, rfl, hx0, hx1, HST⟩ := hrel
          by_cases hx : x < l0.length
          · have hxb : decide (x < (l0.length : Int)) = true := by simpa using hx
            have HX := Aside0.mk hx
            obtain ⟨ad, e, q0, q1⟩ := at_T33 HR0.out x hx0 hx
            cases e
            have hB := HST.out.2.choose_spec.2.1
            replace q0 := (hB.cell (World.block_lt_of_cell? w _ q0)).trans q0
            replace q1 := (hB.cell (World.block_lt_of_cell? w _ q1)).trans q1
            clear hB
            obtain ⟨r, hr⟩ : ∃ r, r = rd_T33 l0 x := ⟨_, rfl⟩
            rw [← hr] at q0 q1
            have hm : r ∈ l0 := by
              rw [hr]; unfold rd_T33
              rw [List.getD_eq_getElem?_getD, List.getElem?_eq_getElem (by omega)]; exact List.getElem_mem _
            obtain ⟨hr0, hr1⟩ := HGL.out r hm
            have HN := Aside0.mk (show jFold (jAdd (jFold [] l0 0 a1) a1 a3.data.toList) (l0.take (x + 1).toNat) a2 65536 = jPart (jFold (jAdd (jFold [] l0 0 a1) a1 a3.data.toList) (l0.take x.toNat) a2 65536) r.f0 r.f1 a2 65536 by
              rw [show (x + 1).toNat = x.toNat + 1 by omega, jFold_take _ _ _ _ _ (by omega) z33, hr]; rfl)
            obtain ⟨g1, g2⟩ := jFold_good (rs := jAdd (jFold [] l0 0 a1) a1 a3.data.toList) (a := a2) (b := 65536) HA.out.1 (jGood_take HGL.out x.toNat) ha2
            have hlen2 : (jFold (jAdd (jFold [] l0 0 a1) a1 a3.data.toList) (l0.take x.toNat) a2 65536).length + r.f1.size ≤ 4000000000000 := by
              have h5 : (l0.take x.toNat).length * 65536 ≤ 65536 * 65536 := Nat.mul_le_mul_right _ (by rw [List.length_take]; omega)
              have h6 := HL2.out
              omega
            have HG1 := Aside0.mk g1
            have HL3 := Aside0.mk hlen2
            have hxx0 := eq_true hx0
            have hxx1 := eq_true hx
            clear hr hm g1 g2 hlen2 hx
            go_wp2_with (first | ((with_reducible refine gate_dst (N := 13) rfl ?_); refine box_event ?hg (N := 13) ?hd (cs := #[.int .i64 0, .string (⟨#[]⟩ : ByteArray)]) (t := 33) ?hr ?_; (case hd => rfl); (case hg => rfl); (case hr => first | (go_simp; done) | (go_simp; rfl)); intro gb hgb w3 hbox hb3; have S3 := Aside0.mk (jSt_boxed HST.out hb3 hgb (.int .i64 r.f0) (.string r.f1)); have z0 : w3.cell? ⟨gb, 0, none⟩ = some (.int .i64 0) := (blk_cell hbox 0).trans rfl; have z1 : w3.cell? ⟨gb, 1, none⟩ = some (.string (⟨#[]⟩ : ByteArray)) := (blk_cell hbox 1).trans rfl; have y0 := blk_frozen hbox 0; have y1 := blk_frozen hbox 1; clear hb3 hbox hgb) | (go_at_call 29; refine (S3.out.part r.f0 r.f1 a2 65536 hr0 hr1 ha2 HL3.out HG1.out).mono ?_; rintro e w4 ⟨rfl, S4⟩))
            go_roundw
            case rel => exact ⟨x + 1, by go_num, by omega, by have := HX.out; omega, ⟨by rw [HN.out]; exact S4.out⟩⟩
            case measure => have := HX.out; simp [intOf]; omega
          · have hxb : decide (x < (l0.length : Int)) = false := by simpa using hx
            obtain rfl : x = l0.length := by omega
            clear hx
            have hst := HST.out
            rw [Int.toNat_natCast, List.take_length] at hst
            obtain ⟨hgj, v, hbv, hBv, hOv⟩ := hst
            obtain ⟨A, c, rfl⟩ := Kd.R_slice hOv
            have hcell : wr.cell? ⟨gj, 0, none⟩ = some (.slice A (jFold (jAdd (jFold [] l0 0 a1) a1 a3.data.toList) l0 a2 65536).length c) := (blk_cell hbv 0).trans rfl
            have HO := Aside0.mk hOv
            have HB := Aside0.mk hBv
            clear hOv hBv hbv HST
            go_wp2_with fail
            go_ret
            exact ⟨_, rfl, HO.out, HB.out⟩

end Go.Proofs.Ytdobcojmfhdinaa.Pr
