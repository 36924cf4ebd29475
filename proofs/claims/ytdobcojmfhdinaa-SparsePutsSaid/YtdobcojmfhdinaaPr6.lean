/- The functions that this seat's laws reach, each as a function in Lean (NAME.f) with its contract (NAME.calls): printed by the kit's print.py; those that it does not take by hand. Conditions: those that each contract names. Lean checks it all. -/
import Derived.Test.YtdobcojmfhdinaaPr0
import Derived.Test.YtdobcojmfhdinaaPr3
import Derived.Test.YtdobcojmfhdinaaPr5
namespace Go.Proofs.Ytdobcojmfhdinaa.Pr
open Go.RowKit Go.Proofs.YtdobcojmfhdinaaW.PrintWords Go.Proofs.YtdobcojmfhdinaaW.PrintLast Go.Proofs.YtdobcojmfhdinaaW.PrintMore
attribute [local go_sem] max2_int min2_int max_two min_two max_three min_three max_four min_four   -- for this text's walks alone
set_option linter.unusedVariables false
set_option linter.unusedSimpArgs false

/-! ### sparse_joiner_add: function 30 (by hand) -/
/-- one byte more at a place: nothing for 0; into the last run where it ends there; else a run of its own -/
def jPush (rs : List S33) (x : Int) (c : UInt8) : List S33 :=
  if c = 0 then rs else
  match rs.getLast? with
  | some r => if r.f0 + r.f1.size = x then rs.dropLast ++ [⟨r.f0, r.f1 ++ ⟨#[c]⟩⟩] else rs ++ [⟨x, ⟨#[c]⟩⟩]
  | none => rs ++ [⟨x, ⟨#[c]⟩⟩]
def jAdd : List S33 → Int → List UInt8 → List S33
  | rs, _, [] => rs
  | rs, x, c :: l => jAdd (jPush rs x c) (x + 1) l
/-- the same for bytes none of which is 0 -/
def jChunk (rs : List S33) (x : Int) (s : ByteArray) : List S33 :=
  match rs.getLast? with
  | some r => if r.f0 + r.f1.size = x then rs.dropLast ++ [⟨r.f0, r.f1 ++ s⟩] else rs ++ [⟨x, s⟩]
  | none => rs ++ [⟨x, s⟩]
theorem ba_append_assoc (a b c : ByteArray) : a ++ b ++ c = a ++ (b ++ c) := by
  apply ByteArray.ext; simp [Array.append_assoc]
theorem ba_size_append (a b : ByteArray) : (a ++ b).size = a.size + b.size := by simp
theorem ba_ext {a b : ByteArray} (h : a.data.toList = b.data.toList) : a = b := by
  apply ByteArray.ext; exact Array.toList_inj.1 h
theorem ba_toList_append (a b : ByteArray) : (a ++ b).data.toList = a.data.toList ++ b.data.toList := by simp
theorem jAdd_last (rs0 : List S33) (a : Int) : ∀ (zs l : List UInt8) (b : ByteArray), (∀ c ∈ zs, c ≠ 0) →
    jAdd (rs0 ++ [⟨a, b⟩]) (a + b.size) (zs ++ l) = jAdd (rs0 ++ [⟨a, b ++ ⟨zs.toArray⟩⟩]) (a + b.size + zs.length) l
  | [], l, b, _ => by
    have : b ++ (⟨([] : List UInt8).toArray⟩ : ByteArray) = b := ba_ext (by simp)
    simp [this]
  | c :: zs, l, b, h => by
    have hc : c ≠ 0 := h c List.mem_cons_self
    have e1 : jPush (rs0 ++ [⟨a, b⟩]) (a + b.size) c = rs0 ++ [⟨a, b ++ ⟨#[c]⟩⟩] := by simp [jPush, hc]
    have ih := jAdd_last rs0 a zs l (b ++ ⟨#[c]⟩) (fun d hd => h d (List.mem_cons_of_mem _ hd))
    have e2 : b ++ (⟨#[c]⟩ : ByteArray) ++ ⟨zs.toArray⟩ = b ++ ⟨(c :: zs).toArray⟩ := ba_ext (by simp)
    have e3 : ((b ++ (⟨#[c]⟩ : ByteArray)).size : Int) = b.size + 1 := by rw [ba_size_append]; rfl
    rw [e2, e3] at ih
    rw [List.cons_append, jAdd, e1, show a + (b.size : Int) + 1 = a + ((b.size : Int) + 1) by omega, ih, List.length_cons]
    congr 1
    push_cast; omega
theorem jAdd_chunk (rs : List S33) (x : Int) (s : ByteArray) (l : List UInt8) (hs : 0 < s.size) (h : ∀ c ∈ s.data.toList, c ≠ 0) :
    jAdd rs x (s.data.toList ++ l) = jAdd (jChunk rs x s) (x + s.size) l := by
  have hl : s.size = s.data.toList.length := Lib.size_eq s
  match hz : s.data.toList, h, hl with
  | [], _, hl => rw [hl] at hs; simp at hs
  | c :: zs, h, hl =>
    have hc : c ≠ 0 := h c List.mem_cons_self
    have hzs : ∀ d ∈ zs, d ≠ 0 := fun d hd => h d (List.mem_cons_of_mem _ hd)
    have es : (⟨#[c]⟩ : ByteArray) ++ ⟨zs.toArray⟩ = s := ba_ext (by rw [hz]; simp)
    have fresh : ∀ rs0 : List S33, jAdd (rs0 ++ [⟨x, ⟨#[c]⟩⟩]) (x + 1) (zs ++ l) = jAdd (rs0 ++ [⟨x, s⟩]) (x + s.size) l := by
      intro rs0
      have := jAdd_last rs0 x zs l ⟨#[c]⟩ hzs
      rw [es] at this
      have e1 : ((⟨#[c]⟩ : ByteArray).size : Int) = 1 := rfl
      rw [e1] at this
      rw [this, hl, List.length_cons]
      congr 1; push_cast; omega
    rw [List.cons_append, jAdd]
    unfold jPush jChunk
    rw [if_neg hc]
    cases hg : rs.getLast? with
    | none => exact fresh rs
    | some r =>
      simp only
      by_cases hr : r.f0 + r.f1.size = x
      · rw [if_pos hr, if_pos hr]
        have := jAdd_last rs.dropLast r.f0 zs l (r.f1 ++ ⟨#[c]⟩) hzs
        rw [ba_append_assoc, es, ba_size_append] at this
        have e1 : ((r.f1.size + (⟨#[c]⟩ : ByteArray).size : Nat) : Int) = (r.f1.size : Int) + 1 := rfl
        rw [e1, show r.f0 + ((r.f1.size : Int) + 1) = x + 1 by omega] at this
        rw [this, hl, List.length_cons]
        congr 1; push_cast; omega
      · rw [if_neg hr, if_neg hr]
        exact fresh rs
/-- the loop's round: the first bytes up to the next 0 -/
theorem jAdd_round (rs : List S33) (x j : Int) (s : ByteArray) (m : Nat) (hj : j = Lib.indexByte s.data.toList 0) (hm : (m : Int) = if j = -1 then (s.size : Int) else j) (h0 : 0 < m) (h1 : m ≤ s.size) :
    jAdd rs x s.data.toList = jAdd (jChunk rs x (s.extract 0 m)) (x + m) (s.extract m s.size).data.toList := by
  have hsz : s.size = s.data.toList.length := Lib.size_eq s
  have e1 : (s.extract 0 m).data.toList = s.data.toList.take m := by simp [Lib.extract_data]
  have e2 : (s.extract m s.size).data.toList = s.data.toList.drop m := by rw [Lib.extract_data, List.take_of_length_le]; rw [List.length_drop]; omega
  have e3 : (s.extract 0 m).size = m := by
    have : (s.extract 0 m).size = (s.extract 0 m).data.toList.length := Lib.size_eq _
    rw [this, e1, List.length_take]; omega
  have hn : ∀ c ∈ (s.extract 0 m).data.toList, c ≠ 0 := by
    intro c hc
    rw [e1] at hc
    obtain ⟨k, hk, rfl⟩ := List.getElem_of_mem hc
    rw [List.length_take] at hk
    rw [List.getElem_take]
    have hk' : k < s.data.toList.length := by omega
    intro hz
    by_cases h : j = -1
    · exact Lib.indexByte_none (hj.symm.trans h) k (by rw [List.getElem?_eq_getElem hk', hz])
    · rw [if_neg h] at hm
      have := (Lib.indexByte_some (o := m) (by rw [← hj, hm])).2 k (by omega)
      exact this (by rw [List.getElem?_eq_getElem hk', hz])
  have := jAdd_chunk rs x (s.extract 0 m) (s.extract m s.size).data.toList (by omega) hn
  rw [e3, e1, e2, List.take_append_drop] at this
  rw [e2]
  exact this
theorem jAdd_zero (rs : List S33) (x j : Int) (s : ByteArray) (hj : j = Lib.indexByte s.data.toList 0) (h : j = 0) :
    jAdd rs x s.data.toList = jAdd rs (x + 1) (s.extract 1 s.size).data.toList := by
  have e2 : (s.extract 1 s.size).data.toList = s.data.toList.drop 1 := by
    have hsz : s.size = s.data.toList.length := Lib.size_eq s
    rw [Lib.extract_data, List.take_of_length_le]; rw [List.length_drop]; omega
  rw [e2]
  have := (Lib.indexByte_some (l := s.data.toList) (c := 0) (o := 0) (by rw [← hj, h]; rfl)).1
  match hz : s.data.toList, this with
  | c :: zs, this =>
    simp at this
    subst this
    simp [jAdd, jPush]
/-- what holds of the runs that are gathered -/
def jGood (rs : List S33) : Prop := ∀ r ∈ rs, 0 ≤ r.f0 ∧ r.f0 + r.f1.size ≤ 65536
theorem jGood_chunk {rs : List S33} {x : Int} {s : ByteArray} (h : jGood rs) (h0 : 0 ≤ x) (h1 : x + s.size ≤ 65536) : jGood (jChunk rs x s) := by
  intro q hq
  unfold jChunk at hq
  have snoc : ∀ q ∈ rs ++ [(⟨x, s⟩ : S33)], 0 ≤ q.f0 ∧ q.f0 + q.f1.size ≤ 65536 := by
    intro q hq
    rcases List.mem_append.1 hq with hq | hq
    · exact h q hq
    · rw [List.mem_singleton.1 hq]; exact ⟨h0, h1⟩
  cases hg : rs.getLast? with
  | none => rw [hg] at hq; exact snoc q hq
  | some r =>
    rw [hg] at hq
    simp only at hq
    have hr := h r (List.mem_of_getLast? hg)
    split at hq
    · rename_i he
      rcases List.mem_append.1 hq with hq | hq
      · exact h q (List.dropLast_subset _ hq)
      · rw [List.mem_singleton.1 hq]
        refine ⟨hr.1, ?_⟩
        show r.f0 + ((r.f1 ++ s).size : Int) ≤ 65536
        rw [ba_size_append]; push_cast; omega
    · exact snoc q hq
theorem jChunk_length (rs : List S33) (x : Int) (s : ByteArray) : (jChunk rs x s).length ≤ rs.length + 1 := by
  unfold jChunk
  cases hg : rs.getLast? with
  | none => simp
  | some r =>
    simp only
    split
    · simp
    · simp
theorem jChunk_nil {rs : List S33} (x : Int) (s : ByteArray) (h : rs.length = 0) : jChunk rs x s = rs ++ [⟨x, s⟩] := by
  obtain rfl := List.eq_nil_of_length_eq_zero h
  rfl
theorem jLast {rs : List S33} (h : 0 < rs.length) : rs.getLast? = some (rs.getD (rs.length - 1) z33) := by
  rw [List.getLast?_eq_getElem?, List.getD_eq_getElem?_getD, List.getElem?_eq_getElem (by omega)]; rfl
theorem jChunk_apart {rs : List S33} {r : S33} (x : Int) (s : ByteArray) (h : 0 < rs.length) (hr : r = rs.getD (rs.length - 1) z33) (ht : ¬ r.f0 + r.f1.size = x) : jChunk rs x s = rs ++ [⟨x, s⟩] := by
  subst hr
  unfold jChunk
  rw [jLast h]
  simp only
  rw [if_neg ht]
theorem jChunk_touch {rs : List S33} {r : S33} (x : Int) (s : ByteArray) (h : 0 < rs.length) (hr : r = rs.getD (rs.length - 1) z33) (ht : r.f0 + r.f1.size = x) : jChunk rs x s = rs.set (rs.length - 1) ⟨r.f0, r.f1 ++ s⟩ := by
  have hl := jLast h
  rw [← hr] at hl
  unfold jChunk
  rw [hl]
  simp only
  rw [if_pos ht]
  have e : rs = rs.dropLast ++ [r] := by
    have hne : rs ≠ [] := by intro h0; rw [h0] at h; simp at h
    have h2 := List.dropLast_concat_getLast hne
    rw [List.getLast?_eq_some_getLast hne] at hl
    rw [Option.some.inj hl] at h2
    exact h2.symm
  generalize rs.dropLast = q at e
  subst e
  simp
instance jGood_dec (l : List S33) : Decidable (jGood l) := by unfold jGood; infer_instance
def refSplice (c : List Int) (a : Nat) (d : ByteArray) : List Int := c.take a ++ bytesOf d ++ c.drop (a + d.size)
theorem jIndex_lt (l : List UInt8) (c : UInt8) : Lib.indexByte l c < l.length := by
  induction l with
  | nil => simp [Lib.indexByte]
  | cons b l ih => have := Lib.indexByte_ge l c; unfold Lib.indexByte; simp only [List.length_cons]; split <;> (try split) <;> omega
theorem below_set_ {B : Nat} {w W : World} (h : Below B w W) {g j : Nat} (hg : B ≤ g) {u : Value} : Below B w (W.setCell ⟨g, j, none⟩ u) := h.setCell (p := ⟨g, j, none⟩) hg u
theorem Below_drewN_ {B : Nat} {w W : World} (h : Below B w W) (n : Nat) : Below B w (W.drewN n) := pw_below_drewN h n
set_option maxHeartbeats 8000000 in
set_option maxRecDepth 100000 in
theorem sparse_joiner_add.walk (g : Nat) (at_ : Int) (data : ByteArray) (rs : List S33) (v : Value) (w0 w : World)
    (hb : w.heap[g]? = some (.cells #[v] 51 (0, 0))) (hg : w0.heap.size ≤ g) (hB : Below w0.heap.size w0 w) (ho : Kd.R k33 33 w w0.heap.size (fun _ => True) v rs)
    (h01 : 0 < data.size → 0 ≤ at_ ∧ at_ + data.size ≤ 65536) (hl : rs.length + data.size ≤ 4000000000000) (hgd : jGood rs) :
    Calls Try.prog 30 #[.pointer (some ⟨g, 0, none⟩), .int .i64 at_, .string data] w fun e w' => e = .returned (.tuple #[]) ∧ ∃ v', w'.heap[g]? = some (.cells #[v'] 51 (0, 0)) ∧ Below w0.heap.size w0 w' ∧ Kd.R k33 33 w' w0.heap.size (fun _ => True) v' (jAdd rs at_ data.data.toList) := by
  have hu51 := Try.underlying51
  have hu33 := Try.underlying33
  have HF := Aside0.mk hl
  clear hl
  go_enter Try.func30, Try.ntmps30
  go_wp2
  go_loopw [1, 2] (fun a d wr => ∃ (x : Int) (s : ByteArray) (ys : List S33) (u : Value), a = .int .i64 x ∧ d = .string s ∧ Aside0 (0 < s.size → 0 ≤ x ∧ x + s.size ≤ 65536) ∧ ys.length + s.size ≤ 4000000000000 ∧ Aside0 (wr.heap[g]? = some (.cells #[u] 51 (0, 0))) ∧ Aside0 (Below w0.heap.size w0 wr) ∧ Aside0 (Kd.R k33 33 wr w0.heap.size (fun _ => True) u ys) ∧ Aside0 (jGood ys) ∧ Aside0 (jAdd ys x s.data.toList = jAdd rs at_ data.data.toList)) (fun _ d _ => match d with | .string s => s.size | _ => 0)
  case atStart => exact ⟨at_, data, rs, v, rfl, rfl, ⟨h01⟩, HF.out, ⟨hb⟩, ⟨hB⟩, ⟨ho⟩, ⟨hgd⟩, ⟨rfl⟩⟩
  case round =>
    obtain ⟨x, s, ys, u, rfl, rfl, HX, hy, HB1, HBB, HO, HG, HE⟩ := hrel
    clear hb hB ho hgd
    by_cases hs : s.size = 0
    · have hse : (!s.toList.isEmpty) = false := by rw [Lib.toList_data]; rw [Lib.size_eq] at hs; simp [List.eq_nil_of_length_eq_zero hs]
      have hnil : s.data.toList = [] := List.eq_nil_of_length_eq_zero (by rw [← Lib.size_eq]; exact hs)
      have HN := Aside0.mk hnil
      clear hs hnil
      go_wp2_with fail
      go_end0
      refine ⟨rfl, u, HB1.out, HBB.out, ?_⟩
      have := HE.out
      rw [HN.out] at this
      rw [← this]
      exact HO.out
    · have hse : (!s.toList.isEmpty) = true := by rw [Lib.toList_data]; rw [Lib.size_eq] at hs; simpa using fun h => hs (by rw [h]; rfl)
      have hsp : 0 < s.size := by omega
      obtain ⟨hx0, hx1⟩ := HX.out hsp
      clear hs
      obtain ⟨j, hj⟩ : ∃ j, j = Lib.indexByte s.data.toList (0 : Int).toNat.toUInt8 := ⟨_, rfl⟩
      have HJ := Aside0.mk hj
      have hjl : j < s.size := by rw [hj, Lib.size_eq]; exact jIndex_lt _ _
      have hjg : -1 ≤ j := by rw [hj]; exact Lib.indexByte_ge _ _
      clear hj
      by_cases hj0 : j = 0
      · have hjb : (j == 0) = true := by simpa using hj0
        have HJ0 := Aside0.mk hj0
        clear hj0
        go_wp2_with (go_at_call 27; refine (Try.strings_IndexByte s 0 _).mono ?_; rintro e wr ⟨rfl, rfl⟩; rw [← HJ.out])
        go_quiet (fail)
        go_wp2_with fail
        go_roundw
        case rel =>
          refine ⟨x + 1, s.extract 1 s.size, ys, u, by go_num, rfl, ⟨by rw [ByteArray.size_extract]; omega⟩, by rw [ByteArray.size_extract]; omega, ⟨HB1.out⟩, ⟨Below_drewN_ HBB.out _⟩, ⟨Kd.R_drewN HO.out _⟩, HG, ⟨?_⟩⟩
          rw [← HE.out]
          exact (jAdd_zero ys x j s HJ.out HJ0.out).symm
        case measure => simp [ByteArray.size_extract]; omega
      · have hjb : (j == 0) = false := by simpa using hj0
        clear hj0
        go_upto_block 2 with (go_at_call 27; refine (Try.strings_IndexByte s 0 _).mono ?_; rintro e wr ⟨rfl, rfl⟩; rw [← HJ.out])
        obtain ⟨wq, HQ⟩ : ∃ wq, Aside0 (wq = wr) := ⟨wr, ⟨rfl⟩⟩
        go_cut [1, 2, 6] (fun a d k wx => a = .int .i64 x ∧ d = .string s ∧ ∃ m : Nat, k = .int .i64 m ∧ Aside0 ((m : Int) = if j = -1 then (s.size : Int) else j) ∧ 0 < m ∧ m ≤ s.size ∧ Aside0 (wx = wq))
        case first =>
          by_cases hj1 : j = -1
          · have hjb1 : (j == -1) = true := by simpa using hj1
            have HJ1 := Aside0.mk hj1
            clear hj1
            go_wp2_with fail
            go_meet
            exact ⟨rfl, rfl, s.size, rfl, ⟨by rw [if_pos HJ1.out]⟩, hsp, Nat.le_refl _, ⟨HQ.out.symm⟩⟩
          · have hjb1 : (j == -1) = false := by simpa using hj1
            have HJ1 := Aside0.mk hj1
            have hj2 : 0 < j := by simp at hjb; omega
            clear hj1
            go_wp2_with fail
            go_meet
            exact ⟨rfl, rfl, j.toNat, by rw [Int.toNat_of_nonneg (by omega)], ⟨by rw [if_neg HJ1.out]; omega⟩, by omega, by omega, ⟨HQ.out.symm⟩⟩
        case rest =>
          obtain ⟨rfl, rfl, m, rfl, HM, hm0, hm1, HW⟩ := hcut
          obtain rfl := HW.out.trans HQ.out
          clear HQ HW
          obtain ⟨A, c, rfl⟩ := Kd.R_slice HO.out
          have hcell : wc.cell? ⟨g, 0, none⟩ = some (.slice A ys.length c) := (blk_cell HB1.out 0).trans rfl
          have hfrz := blk_frozen HB1.out 0
          have hes : (s.extract 0 m).size = m := by rw [ByteArray.size_extract]; omega
          have HR := Aside0.mk (jAdd_round ys x j s m HJ.out HM.out hm0 hm1)
          have HGc := Aside0.mk (jGood_chunk (s := s.extract 0 m) HG.out hx0 (by rw [hes]; omega))
          have HL := Aside0.mk (jChunk_length ys x (s.extract 0 m))
          have HES := Aside0.mk hes
          clear hes
          by_cases hz : ys.length = 0
          · have hzb : decide (0 < ys.length) = false := by simp [hz]
            have hzi : ((ys.length : Int) > 0) = False := by simp [hz]
            have HC := Aside0.mk (jChunk_nil x (s.extract 0 m) hz)
            clear hz
            go_wp2_with fail
            have hbk_ := HB1.out
            have hB_ := HBB.out
            have hO_ := HO.out
            refine start_ (n := 16) (S := fun w' => w'.cell? ⟨g, 0, none⟩ = some (.slice A ys.length c)) (ds := [15]) #[false, false, false, false, false, false, false, false, false, false, false, false, false, false, false, false] (by kernel_rfl) rfl rfl ((blk_cell hbk_ 0).trans rfl) (fun hHeld => ?_)
            refine pure_ (i := 0) (N := some 58) (v := ?_) (a' := ?_) #[true, false, false, false, false, false, false, false, false, false, false, false, false, false, false, false] rfl rfl (by kernel_rfl) (fun _ _ _ h => h) (Or.inl ⟨by rfl, ?_⟩) ?_ ?_
            rotate_left
            · intro w'
              go_simp
              with_reducible rfl
            rotate_left
            · simp only [Act.put, List.setIfInBounds_toArray, List.set_cons_zero, List.set_cons_succ, i64_w, i32_w]
              rfl
            refine pure_ (i := 1) (N := some 59) (v := ?_) (a' := ?_) #[true, true, false, false, false, false, false, false, false, false, false, false, false, false, false, false] rfl rfl (by kernel_rfl) (fun _ _ _ h => h) (Or.inl ⟨by rfl, ?_⟩) ?_ ?_
            rotate_left
            · intro w'
              go_simp
              with_reducible rfl
            rotate_left
            · simp only [Act.put, List.setIfInBounds_toArray, List.set_cons_zero, List.set_cons_succ, i64_w, i32_w]
              rfl
            refine pure_ (i := 2) (N := some 60) (v := ?_) (a' := ?_) #[true, true, true, false, false, false, false, false, false, false, false, false, false, false, false, false] rfl rfl (by kernel_rfl) (fun _ _ _ h => h) (Or.inl ⟨by rfl, ?_⟩) ?_ ?_
            rotate_left
            · intro w'
              go_simp
              with_reducible rfl
            rotate_left
            · simp only [Act.put, List.setIfInBounds_toArray, List.set_cons_zero, List.set_cons_succ, i64_w, i32_w]
              rfl
            refine pure_ (i := 3) (N := some 61) (v := ?_) (a' := ?_) #[true, true, true, true, false, false, false, false, false, false, false, false, false, false, false, false] rfl rfl (by kernel_rfl) (fun _ _ _ h => h) (Or.inl ⟨by rfl, ?_⟩) ?_ ?_
            rotate_left
            · intro w'
              go_simp
              with_reducible rfl
            rotate_left
            · simp only [Act.put, List.setIfInBounds_toArray, List.set_cons_zero, List.set_cons_succ, i64_w, i32_w]
              rfl
            refine pure_ (i := 5) (N := some 63) (v := ?_) (a' := ?_) #[true, true, true, true, false, true, false, false, false, false, false, false, false, false, false, false] rfl rfl (by kernel_rfl) (fun _ _ _ h => h) (Or.inl ⟨by rfl, ?_⟩) ?_ ?_
            rotate_left
            · intro w'
              go_simp
              with_reducible rfl
            rotate_left
            · simp only [Act.put, List.setIfInBounds_toArray, List.set_cons_zero, List.set_cons_succ, i64_w, i32_w]
              rfl
            refine pure_ (i := 6) (N := some 64) (v := ?_) (a' := ?_) #[true, true, true, true, false, true, true, false, false, false, false, false, false, false, false, false] rfl rfl (by kernel_rfl) (fun _ _ _ h => h) (Or.inl ⟨by rfl, ?_⟩) ?_ ?_
            rotate_left
            · intro w'
              go_simp
              with_reducible rfl
            rotate_left
            · simp only [Act.put, List.setIfInBounds_toArray, List.set_cons_zero, List.set_cons_succ, i64_w, i32_w]
              rfl
            refine pure_ (i := 7) (N := some 65) (v := ?_) (a' := ?_) #[true, true, true, true, false, true, true, true, false, false, false, false, false, false, false, false] rfl rfl (by kernel_rfl) (fun _ _ _ h => h) (Or.inl ⟨by rfl, ?_⟩) ?_ ?_
            rotate_left
            · intro w'
              go_simp
              with_reducible rfl
            rotate_left
            · simp only [Act.put, List.setIfInBounds_toArray, List.set_cons_zero, List.set_cons_succ, i64_w, i32_w]
              rfl
            refine pure_ (i := 8) (N := some 66) (v := ?_) (a' := ?_) #[true, true, true, true, false, true, true, true, true, false, false, false, false, false, false, false] rfl rfl (by kernel_rfl) (fun _ _ _ h => h) (Or.inl ⟨by rfl, ?_⟩) ?_ ?_
            rotate_left
            · intro w'
              go_simp
              with_reducible rfl
            rotate_left
            · simp only [Act.put, List.setIfInBounds_toArray, List.set_cons_zero, List.set_cons_succ, i64_w, i32_w]
              rfl
            refine take_ (i := 4) (N := some 62) (v := ?_) (a' := ?_) #[true, true, true, true, true, true, true, true, true, false, false, false, false, false, false, false] rfl rfl (by kernel_rfl) (fun _ _ _ h => h) (Or.inl ⟨by rfl, ?_⟩) hHeld ?_ ?_
            rotate_left
            · intro w' s0
              go_simp
              with_reducible rfl
            rotate_left
            · simp only [Act.put, List.setIfInBounds_toArray, List.set_cons_zero, List.set_cons_succ, i64_w, i32_w]
              rfl
            refine one_ (i := 9) (N := some 67) #[true, true, true, true, true, true, true, true, true, true, false, false, false, false, false, false] rfl rfl (by kernel_rfl) (by decide) (fun K hK => ?_)
            refine goes_ Try.func32 (by kernel_rfl) rfl #[.string (s.extract 0 m)] (by rfl) rfl rfl (by simp only [List.map_toArray, List.map_cons, List.map_nil]; rfl) ?_
            with_reducible refine (strings_Clone.calls (s.extract 0 m) (s.extract 0 m) _ (by unfold strings_Clone.f; rw [if_pos (by rw [HES.out]; omega)])).mono ?_
            rintro e w3 ⟨rfl, hb3⟩
            refine ⟨_, rfl, ?_⟩
            have hbk3 := blk_below (blk_drew hbk_) hb3
            have hB3 := below_then (below_drew hB_) hB_.size hb3
            have hO3 := Kd.R_below (Kd.R_drew hO_) hb3
            refine hK.out _ _ ((hb3.cell (World.block_lt_of_cell? _ _ hHeld)).trans hHeld) (fun hHeld => ?_)
            clear hK K
            refine norm_ (a' := ?_) ?_ ?_
            rotate_left
            · show Act.put _ (some 67) _ = _
              simp only [Act.put, List.setIfInBounds_toArray, List.set_cons_zero, List.set_cons_succ, i64_w, i32_w]
              rfl
            refine pure_ (i := 10) (N := some 68) (v := ?_) (a' := ?_) #[true, true, true, true, true, true, true, true, true, true, true, false, false, false, false, false] rfl rfl (by kernel_rfl) (fun _ _ _ h => h) (Or.inl ⟨by rfl, ?_⟩) ?_ ?_
            rotate_left
            · intro w'
              go_simp
              with_reducible rfl
            rotate_left
            · simp only [Act.put, List.setIfInBounds_toArray, List.set_cons_zero, List.set_cons_succ, i64_w, i32_w]
              rfl
            refine one_ (i := 11) (N := some 69) #[true, true, true, true, true, true, true, true, true, true, true, true, false, false, false, false] rfl rfl (by kernel_rfl) (by decide) (fun K hK => ?_)
            refine value_ (w1 := ?_) (v := ?_) (by rfl) rfl ?_ ?_
            rotate_left 2
            · go_simp
              constructor
              · rfl
              · rfl
            refine hK.out _ _ ((World.cell?_alloc_lt _ _ _ (World.block_lt_of_cell? _ _ hHeld)).trans hHeld) (fun hHeld => ?_)
            clear hK K
            refine norm_ (a' := ?_) ?_ ?_
            rotate_left
            · show Act.put _ (some 69) _ = _
              simp only [Act.put, List.setIfInBounds_toArray, List.set_cons_zero, List.set_cons_succ, i64_w, i32_w]
              rfl
            refine one_ (i := 12) (N := some 70) #[true, true, true, true, true, true, true, true, true, true, true, true, true, false, false, false] rfl rfl (by kernel_rfl) (by decide) (fun K hK => ?_)
            refine Kd.R_append_step k33 (w0 := w0) w0.heap.size (by rfl) (.tmp 62) (.tmp 69) 22 33 (.agg #[(.int .i64 0), (.string ⟨#[]⟩)]) 24 rfl Try.underlying22 info33 rfl (by decide) (by omega) (.slice A ys.length c) ys (⟨x, s.extract 0 m⟩ : S33) [.int .i64 x, .string (s.extract 0 m)] (fun _ => True) (fun _ => False) rfl rfl (k33_mkM _ _ _ (⟨x, s.extract 0 m⟩ : S33)) (fun _ hk => hk.elim) (fun _ _ => trivial) hO3 hB3 (below_size hB3) (by omega) ?_
            intro v1 w4 hO4 hB4 hg4 hat4
            have hbk4 := blk_grown hbk3 hg4 (Kd.R_ne hO3 hbk3 (by decide))
            have hf4 := blk_frozen hbk4 0
            obtain ⟨A4, c4, rfl⟩ := Kd.R_slice hO4
            refine hK.out _ _ ((blk_cell hbk4 0).trans rfl) (fun hHeld => ?_)
            clear hK K
            refine norm_ (a' := ?_) ?_ ?_
            rotate_left
            · show Act.put _ (some 70) _ = _
              simp only [Act.put, List.setIfInBounds_toArray, List.set_cons_zero, List.set_cons_succ, i64_w, i32_w]
              rfl
            refine pure_ (i := 13) (N := some 71) (v := ?_) (a' := ?_) #[true, true, true, true, true, true, true, true, true, true, true, true, true, true, false, false] rfl rfl (by kernel_rfl) (fun _ _ _ h => h) (Or.inl ⟨by rfl, ?_⟩) ?_ ?_
            rotate_left
            · intro w'
              go_simp
              with_reducible rfl
            rotate_left
            · simp only [Act.put, List.setIfInBounds_toArray, List.set_cons_zero, List.set_cons_succ, i64_w, i32_w]
              rfl
            refine pure_ (i := 14) (N := some 72) (v := ?_) (a' := ?_) #[true, true, true, true, true, true, true, true, true, true, true, true, true, true, true, false] rfl rfl (by kernel_rfl) (fun _ _ _ h => h) (Or.inl ⟨by rfl, ?_⟩) ?_ ?_
            rotate_left
            · intro w'
              go_simp
              with_reducible rfl
            rotate_left
            · simp only [Act.put, List.setIfInBounds_toArray, List.set_cons_zero, List.set_cons_succ, i64_w, i32_w]
              rfl
            refine last_ (i := 15) (N := none) #[true, true, true, true, true, true, true, true, true, true, true, true, true, true, true, true] rfl rfl (by kernel_rfl) (by decide) (fun K hK => ?_)
            have hc4 := hHeld
            refine skip_ (w1 := ?_) (by rfl) rfl ?_ ?_
            rotate_left
            · go_simp
              rfl
            refine hK.out _ _ ?_
            clear hK K
            refine done_ (by kernel_rfl) ?_
            go_wp2_with fail
            go_quiet (fail)
            go_wp2_with fail
            go_roundw
            case rel =>
              rw [List.length_append, List.length_singleton] at hO4
              refine ⟨x + m, s.extract m s.size, jChunk ys x (s.extract 0 m), .slice A4 (ys.length + 1) c4, by go_num, rfl, ⟨by rw [ByteArray.size_extract]; omega⟩, by have := HL.out; rw [ByteArray.size_extract]; omega, ⟨blk_put (cs := #[.slice A ys.length c]) hbk4 0 _ rfl⟩, ⟨Below_drewN_ (below_set_ hB4 hg) _⟩, ⟨Kd.R_drewN ?_ _⟩, HGc, ⟨HR.out.symm.trans HE.out⟩⟩
              rw [HC.out]
              exact Kd.R_set hO4 hbk4 (by decide) 0 _
            case measure => simp [ByteArray.size_extract]; omega
          · have hzb : decide (0 < ys.length) = true := by simp; omega
            have hzp : 0 < ys.length := by omega
            clear hz
            obtain ⟨inner, hown⟩ := Kd.R_own HO.out
            obtain ⟨gr, cap, hv, _, _⟩ := hown.form hzp
            injection hv with hA _ hc
            subst hA hc
            clear hown
            obtain ⟨cs, hcl, hM, hcc, hfr⟩ := Kd.R_elem HO.out z33 ((ys.length - 1 : Nat) : Int) (by omega) (by omega)
            obtain rfl := k33_openM hM
            obtain ⟨r, hr⟩ : ∃ r, r = ys.getD (ys.length - 1) z33 := ⟨_, rfl⟩
            rw [Int.toNat_natCast] at hcc hfr hM
            rw [← hr] at hcc hM
            have e0 : wc.cell? ⟨gr, (ys.length - 1) * 2, none⟩ = some (.int .i64 r.f0) := hcc 0 _ rfl
            have e1 : wc.cell? ⟨gr, (ys.length - 1) * 2 + 1, none⟩ = some (.string r.f1) := hcc 1 _ rfl
            have e1f : wc.frozen? ⟨gr, (ys.length - 1) * 2 + 1, none⟩ = false := hfr 1
            have HRR := Aside0.mk hr
            have HCC := Aside0.mk hcc
            have HMM := Aside0.mk hM
            have hgr := HG.out r (by rw [hr, List.getD_eq_getElem?_getD, List.getElem?_eq_getElem (by omega)]; exact List.getElem_mem _)
            obtain ⟨hgr0, hgr1⟩ := hgr
            clear hr hcc hM hfr hcl
            have hwr : wrap64 (r.f0 + (r.f1.size : Int)) = r.f0 + r.f1.size := by unfold wrap64; omega
            have HWR := Aside0.mk (show sparse_end.f r.f0 r.f1 = some (r.f0 + r.f1.size) by unfold sparse_end.f; rw [hwr])
            clear hwr
            by_cases ht : r.f0 + (r.f1.size : Int) = x
            · have htb : (r.f0 + (r.f1.size : Int) == x) = true := by simpa using ht
              have HC := Aside0.mk (jChunk_touch x (s.extract 0 m) hzp HRR.out ht)
              clear ht
              go_wp2_with (go_at_call 28; refine (sparse_end.calls r.f0 r.f1 _ _ HWR.out).mono ?_; rintro e w2 ⟨rfl, hb2⟩; have c2 : w2.cell? ⟨g, 0, none⟩ = some (.slice (some ⟨gr, 0, none⟩) ys.length c) := (hb2.cell (World.block_lt_of_cell? _ _ hcell)).trans hcell; have d1 : w2.cell? ⟨gr, (ys.length - 1) * 2 + 1, none⟩ = some (.string r.f1) := (hb2.cell (World.block_lt_of_cell? _ _ e1)).trans e1; have HB2 := Aside0.mk hb2; clear hb2)
              have hsum : ¬ (9223372036854775807 < r.f1.size + m) := by omega
              have d1f : w2.frozen? ⟨gr, (ys.length - 1) * 2 + 1, none⟩ = false := (HB2.out.frozen (World.block_lt_of_cell? _ _ e1)).trans e1f
              have hwl1 : wrap64 ((ys.length : Int) - 1) = (ys.length : Int) - 1 := by unfold wrap64; omega
              have hwl2 : IntKind.i64.wrap ((ys.length : Int) - 1) = (ys.length : Int) - 1 := IntWalk.i64_in _ (by omega)
              have hwl3 : (1 : Int) ≤ ys.length := by omega
              have hwl4 : (ys.length : Int) - 1 < ys.length := by omega
              have hwl5 : ((ys.length : Int) - 1).toNat = ys.length - 1 := by omega
              refine start_ (n := 16) (S := fun w' => w'.cell? ⟨g, 0, none⟩ = some (.slice (some ⟨gr, 0, none⟩) ys.length c) ∧ w'.cell? ⟨gr, (ys.length - 1) * 2 + 1, none⟩ = some (.string r.f1)) (ds := [15]) #[false, false, false, false, false, false, false, false, false, false, false, false, false, false, false, false] (by kernel_rfl) rfl rfl ⟨c2, d1⟩ (fun hHeld => ?_)
              refine pure_ (i := 0) (N := some 43) (v := ?_) (a' := ?_) #[true, false, false, false, false, false, false, false, false, false, false, false, false, false, false, false] rfl rfl (by kernel_rfl) (fun _ _ _ h => h) (Or.inl ⟨by rfl, ?_⟩) ?_ ?_
              rotate_left
              · intro w'
                go_simp
                with_reducible rfl
              rotate_left
              · simp only [Act.put, List.setIfInBounds_toArray, List.set_cons_zero, List.set_cons_succ, i64_w, i32_w]
                rfl
              refine pure_ (i := 1) (N := some 44) (v := ?_) (a' := ?_) #[true, true, false, false, false, false, false, false, false, false, false, false, false, false, false, false] rfl rfl (by kernel_rfl) (fun _ _ _ h => h) (Or.inl ⟨by rfl, ?_⟩) ?_ ?_
              rotate_left
              · intro w'
                go_simp
                with_reducible rfl
              rotate_left
              · simp only [Act.put, List.setIfInBounds_toArray, List.set_cons_zero, List.set_cons_succ, i64_w, i32_w]
                rfl
              refine pure_ (i := 2) (N := some 45) (v := ?_) (a' := ?_) #[true, true, true, false, false, false, false, false, false, false, false, false, false, false, false, false] rfl rfl (by kernel_rfl) (fun _ _ _ h => h) (Or.inl ⟨by rfl, ?_⟩) ?_ ?_
              rotate_left
              · intro w'
                go_simp
                with_reducible rfl
              rotate_left
              · simp only [Act.put, List.setIfInBounds_toArray, List.set_cons_zero, List.set_cons_succ, i64_w, i32_w]
                rfl
              refine pure_ (i := 4) (N := some 47) (v := ?_) (a' := ?_) #[true, true, true, false, true, false, false, false, false, false, false, false, false, false, false, false] rfl rfl (by kernel_rfl) (fun _ _ _ h => h) (Or.inl ⟨by rfl, ?_⟩) ?_ ?_
              rotate_left
              · intro w'
                go_simp
                with_reducible rfl
              rotate_left
              · simp only [Act.put, List.setIfInBounds_toArray, List.set_cons_zero, List.set_cons_succ, i64_w, i32_w]
                rfl
              refine pure_ (i := 5) (N := some 48) (v := ?_) (a' := ?_) #[true, true, true, false, true, true, false, false, false, false, false, false, false, false, false, false] rfl rfl (by kernel_rfl) (fun _ _ _ h => h) (Or.inl ⟨by rfl, ?_⟩) ?_ ?_
              rotate_left
              · intro w'
                go_simp
                with_reducible rfl
              rotate_left
              · simp only [Act.put, List.setIfInBounds_toArray, List.set_cons_zero, List.set_cons_succ, i64_w, i32_w]
                rfl
              refine pure_ (i := 9) (N := some 52) (v := ?_) (a' := ?_) #[true, true, true, false, true, true, false, false, false, true, false, false, false, false, false, false] rfl rfl (by kernel_rfl) (fun _ _ _ h => h) (Or.inl ⟨by rfl, ?_⟩) ?_ ?_
              rotate_left
              · intro w'
                go_simp
                with_reducible rfl
              rotate_left
              · simp only [Act.put, List.setIfInBounds_toArray, List.set_cons_zero, List.set_cons_succ, i64_w, i32_w]
                rfl
              refine pure_ (i := 10) (N := some 53) (v := ?_) (a' := ?_) #[true, true, true, false, true, true, false, false, false, true, true, false, false, false, false, false] rfl rfl (by kernel_rfl) (fun _ _ _ h => h) (Or.inl ⟨by rfl, ?_⟩) ?_ ?_
              rotate_left
              · intro w'
                go_simp
                with_reducible rfl
              rotate_left
              · simp only [Act.put, List.setIfInBounds_toArray, List.set_cons_zero, List.set_cons_succ, i64_w, i32_w]
                rfl
              refine pure_ (i := 11) (N := some 54) (v := ?_) (a' := ?_) #[true, true, true, false, true, true, false, false, false, true, true, true, false, false, false, false] rfl rfl (by kernel_rfl) (fun _ _ _ h => h) (Or.inl ⟨by rfl, ?_⟩) ?_ ?_
              rotate_left
              · intro w'
                go_simp
                with_reducible rfl
              rotate_left
              · simp only [Act.put, List.setIfInBounds_toArray, List.set_cons_zero, List.set_cons_succ, i64_w, i32_w]
                rfl
              refine take_ (i := 3) (N := some 46) (v := ?_) (a' := ?_) #[true, true, true, true, true, true, false, false, false, true, true, true, false, false, false, false] rfl rfl (by kernel_rfl) (fun _ _ _ h => h) (Or.inl ⟨by rfl, ?_⟩) hHeld ?_ ?_
              rotate_left
              · rintro w' ⟨s0, s1⟩
                go_simp
                with_reducible rfl
              rotate_left
              · simp only [Act.put, List.setIfInBounds_toArray, List.set_cons_zero, List.set_cons_succ, i64_w, i32_w]
                rfl
              refine pure_ (i := 6) (N := some 49) (v := ?_) (a' := ?_) #[true, true, true, true, true, true, true, false, false, true, true, true, false, false, false, false] rfl rfl (by kernel_rfl) (fun _ _ _ h => h) (Or.inl ⟨by rfl, ?_⟩) ?_ ?_
              rotate_left
              · intro w'
                go_simp
                with_reducible rfl
              rotate_left
              · simp only [Act.put, List.setIfInBounds_toArray, List.set_cons_zero, List.set_cons_succ, i64_w, i32_w]
                rfl
              refine pure_ (i := 7) (N := some 50) (v := ?_) (a' := ?_) #[true, true, true, true, true, true, true, true, false, true, true, true, false, false, false, false] rfl rfl (by kernel_rfl) (fun _ _ _ h => h) (Or.inl ⟨by rfl, ?_⟩) ?_ ?_
              rotate_left
              · intro w'
                go_simp
                with_reducible rfl
              rotate_left
              · simp only [Act.put, List.setIfInBounds_toArray, List.set_cons_zero, List.set_cons_succ, i64_w, i32_w]
                rfl
              refine take_ (i := 8) (N := some 51) (v := ?_) (a' := ?_) #[true, true, true, true, true, true, true, true, true, true, true, true, false, false, false, false] rfl rfl (by kernel_rfl) (fun _ _ _ h => h) (Or.inl ⟨by rfl, ?_⟩) hHeld ?_ ?_
              rotate_left
              · rintro w' ⟨s0, s1⟩
                go_simp
                with_reducible rfl
              rotate_left
              · simp only [Act.put, List.setIfInBounds_toArray, List.set_cons_zero, List.set_cons_succ, i64_w, i32_w]
                rfl
              refine pure_ (i := 12) (N := some 55) (v := ?_) (a' := ?_) #[true, true, true, true, true, true, true, true, true, true, true, true, true, false, false, false] rfl rfl (by kernel_rfl) (fun _ _ _ h => h) (Or.inl ⟨by rfl, ?_⟩) ?_ ?_
              rotate_left
              · intro w'
                go_simp
                with_reducible rfl
              rotate_left
              · simp only [Act.put, List.setIfInBounds_toArray, List.set_cons_zero, List.set_cons_succ, i64_w, i32_w]
                rfl
              refine pure_ (i := 13) (N := some 56) (v := ?_) (a' := ?_) #[true, true, true, true, true, true, true, true, true, true, true, true, true, true, false, false] rfl rfl (by kernel_rfl) (fun _ _ _ h => h) (Or.inl ⟨by rfl, ?_⟩) ?_ ?_
              rotate_left
              · intro w'
                go_simp
                with_reducible rfl
              rotate_left
              · simp only [Act.put, List.setIfInBounds_toArray, List.set_cons_zero, List.set_cons_succ, i64_w, i32_w]
                rfl
              refine pure_ (i := 14) (N := some 57) (v := ?_) (a' := ?_) #[true, true, true, true, true, true, true, true, true, true, true, true, true, true, true, false] rfl rfl (by kernel_rfl) (fun _ _ _ h => h) (Or.inl ⟨by rfl, ?_⟩) ?_ ?_
              rotate_left
              · intro w'
                go_simp
                with_reducible rfl
              rotate_left
              · simp only [Act.put, List.setIfInBounds_toArray, List.set_cons_zero, List.set_cons_succ, i64_w, i32_w]
                rfl
              refine last_ (i := 15) (N := none) #[true, true, true, true, true, true, true, true, true, true, true, true, true, true, true, true] rfl rfl (by kernel_rfl) (by decide) (fun K hK => ?_)
              refine skip_ (w1 := ?_) (by rfl) rfl ?_ ?_
              rotate_left
              · go_simp
                rfl
              refine hK.out _ _ ?_
              clear hK K
              refine done_ (by kernel_rfl) ?_
              clear hwl1 hwl2 hwl3 hwl4 hwl5 hsum
              go_wp2_with fail
              go_quiet (fail)
              go_wp2_with fail
              go_roundw
              case rel =>
                have hO2 := Kd.R_below HO.out HB2.out
                have hbk2 := blk_below HB1.out HB2.out
                have hB2 := below_then HBB.out HBB.out.size HB2.out
                have hcc2 : ∀ (i : Nat) (u : Value), [Value.int .i64 r.f0, .string r.f1][i]? = some u → w2.cell? ⟨gr, ((ys.length - 1 : Nat) : Int).toNat * 2 + i, none⟩ = some u := fun i u hu => by
                  have h9 := HCC.out i u hu
                  exact (HB2.out.cell (World.block_lt_of_cell? _ _ h9)).trans h9
                have hseg := Kd.R_seg hO2 (((ys.length - 1 : Nat) : Int)) (by omega) (by omega) (c := [Value.int .i64 r.f0, .string r.f1]) (seg := [.string (r.f1 ++ s.extract 0 m)]) (j := 1) rfl hcc2 (by show 1 + 1 ≤ 2; omega) (x' := ⟨r.f0, r.f1 ++ s.extract 0 m⟩) (okp := fun _ => False) (k33_mkM _ _ _ (⟨r.f0, r.f1 ++ s.extract 0 m⟩ : S33)) (fun _ h => h.elim)
                obtain ⟨hO3, hg3⟩ := hseg
                simp only [World.setCells, Int.toNat_natCast] at hO3 hg3
                have hgb : w0.heap.size ≤ gr := by
                  have := Kd.R_base HO.out gr (by simp [Value.ownBlock])
                  exact this
                refine ⟨x + m, s.extract m s.size, jChunk ys x (s.extract 0 m), .slice (some ⟨gr, 0, none⟩) ys.length c, by go_num, rfl, ⟨by rw [ByteArray.size_extract]; omega⟩, by have := HL.out; rw [ByteArray.size_extract]; omega, ⟨blk_far hbk2 (p := ⟨gr, (ys.length - 1) * 2 + 1, none⟩) (fun he => Kd.R_ne hO2 hbk2 (by decide) (by rw [he]; rfl)) _⟩, ⟨Below_drewN_ (below_drew (below_set_ hB2 hgb)) _⟩, ⟨Kd.R_drewN ?_ _⟩, HGc, ⟨HR.out.symm.trans HE.out⟩⟩
                rw [HC.out]
                exact Kd.R_drew hO3
              case measure => simp [ByteArray.size_extract]; omega
            · have htb : (r.f0 + (r.f1.size : Int) == x) = false := by simpa using ht
              have HC := Aside0.mk (jChunk_apart x (s.extract 0 m) hzp HRR.out ht)
              clear ht
              go_wp2_with (go_at_call 28; refine (sparse_end.calls r.f0 r.f1 _ _ HWR.out).mono ?_; rintro e w2 ⟨rfl, hb2⟩; have HB2 := Aside0.mk hb2; clear hb2)
              have hbk_ := blk_below HB1.out HB2.out
              have hB_ := below_then HBB.out HBB.out.size HB2.out
              have hO_ := Kd.R_below HO.out HB2.out
              refine start_ (n := 16) (S := fun w' => w'.cell? ⟨g, 0, none⟩ = some (.slice (some ⟨gr, 0, none⟩) ys.length c)) (ds := [15]) #[false, false, false, false, false, false, false, false, false, false, false, false, false, false, false, false] (by kernel_rfl) rfl rfl ((blk_cell hbk_ 0).trans rfl) (fun hHeld => ?_)
              refine pure_ (i := 0) (N := some 58) (v := ?_) (a' := ?_) #[true, false, false, false, false, false, false, false, false, false, false, false, false, false, false, false] rfl rfl (by kernel_rfl) (fun _ _ _ h => h) (Or.inl ⟨by rfl, ?_⟩) ?_ ?_
              rotate_left
              · intro w'
                go_simp
                with_reducible rfl
              rotate_left
              · simp only [Act.put, List.setIfInBounds_toArray, List.set_cons_zero, List.set_cons_succ, i64_w, i32_w]
                rfl
              refine pure_ (i := 1) (N := some 59) (v := ?_) (a' := ?_) #[true, true, false, false, false, false, false, false, false, false, false, false, false, false, false, false] rfl rfl (by kernel_rfl) (fun _ _ _ h => h) (Or.inl ⟨by rfl, ?_⟩) ?_ ?_
              rotate_left
              · intro w'
                go_simp
                with_reducible rfl
              rotate_left
              · simp only [Act.put, List.setIfInBounds_toArray, List.set_cons_zero, List.set_cons_succ, i64_w, i32_w]
                rfl
              refine pure_ (i := 2) (N := some 60) (v := ?_) (a' := ?_) #[true, true, true, false, false, false, false, false, false, false, false, false, false, false, false, false] rfl rfl (by kernel_rfl) (fun _ _ _ h => h) (Or.inl ⟨by rfl, ?_⟩) ?_ ?_
              rotate_left
              · intro w'
                go_simp
                with_reducible rfl
              rotate_left
              · simp only [Act.put, List.setIfInBounds_toArray, List.set_cons_zero, List.set_cons_succ, i64_w, i32_w]
                rfl
              refine pure_ (i := 3) (N := some 61) (v := ?_) (a' := ?_) #[true, true, true, true, false, false, false, false, false, false, false, false, false, false, false, false] rfl rfl (by kernel_rfl) (fun _ _ _ h => h) (Or.inl ⟨by rfl, ?_⟩) ?_ ?_
              rotate_left
              · intro w'
                go_simp
                with_reducible rfl
              rotate_left
              · simp only [Act.put, List.setIfInBounds_toArray, List.set_cons_zero, List.set_cons_succ, i64_w, i32_w]
                rfl
              refine pure_ (i := 5) (N := some 63) (v := ?_) (a' := ?_) #[true, true, true, true, false, true, false, false, false, false, false, false, false, false, false, false] rfl rfl (by kernel_rfl) (fun _ _ _ h => h) (Or.inl ⟨by rfl, ?_⟩) ?_ ?_
              rotate_left
              · intro w'
                go_simp
                with_reducible rfl
              rotate_left
              · simp only [Act.put, List.setIfInBounds_toArray, List.set_cons_zero, List.set_cons_succ, i64_w, i32_w]
                rfl
              refine pure_ (i := 6) (N := some 64) (v := ?_) (a' := ?_) #[true, true, true, true, false, true, true, false, false, false, false, false, false, false, false, false] rfl rfl (by kernel_rfl) (fun _ _ _ h => h) (Or.inl ⟨by rfl, ?_⟩) ?_ ?_
              rotate_left
              · intro w'
                go_simp
                with_reducible rfl
              rotate_left
              · simp only [Act.put, List.setIfInBounds_toArray, List.set_cons_zero, List.set_cons_succ, i64_w, i32_w]
                rfl
              refine pure_ (i := 7) (N := some 65) (v := ?_) (a' := ?_) #[true, true, true, true, false, true, true, true, false, false, false, false, false, false, false, false] rfl rfl (by kernel_rfl) (fun _ _ _ h => h) (Or.inl ⟨by rfl, ?_⟩) ?_ ?_
              rotate_left
              · intro w'
                go_simp
                with_reducible rfl
              rotate_left
              · simp only [Act.put, List.setIfInBounds_toArray, List.set_cons_zero, List.set_cons_succ, i64_w, i32_w]
                rfl
              refine pure_ (i := 8) (N := some 66) (v := ?_) (a' := ?_) #[true, true, true, true, false, true, true, true, true, false, false, false, false, false, false, false] rfl rfl (by kernel_rfl) (fun _ _ _ h => h) (Or.inl ⟨by rfl, ?_⟩) ?_ ?_
              rotate_left
              · intro w'
                go_simp
                with_reducible rfl
              rotate_left
              · simp only [Act.put, List.setIfInBounds_toArray, List.set_cons_zero, List.set_cons_succ, i64_w, i32_w]
                rfl
              refine take_ (i := 4) (N := some 62) (v := ?_) (a' := ?_) #[true, true, true, true, true, true, true, true, true, false, false, false, false, false, false, false] rfl rfl (by kernel_rfl) (fun _ _ _ h => h) (Or.inl ⟨by rfl, ?_⟩) hHeld ?_ ?_
              rotate_left
              · intro w' s0
                go_simp
                with_reducible rfl
              rotate_left
              · simp only [Act.put, List.setIfInBounds_toArray, List.set_cons_zero, List.set_cons_succ, i64_w, i32_w]
                rfl
              refine one_ (i := 9) (N := some 67) #[true, true, true, true, true, true, true, true, true, true, false, false, false, false, false, false] rfl rfl (by kernel_rfl) (by decide) (fun K hK => ?_)
              refine goes_ Try.func32 (by kernel_rfl) rfl #[.string (s.extract 0 m)] (by rfl) rfl rfl (by simp only [List.map_toArray, List.map_cons, List.map_nil]; rfl) ?_
              with_reducible refine (strings_Clone.calls (s.extract 0 m) (s.extract 0 m) _ (by unfold strings_Clone.f; rw [if_pos (by rw [HES.out]; omega)])).mono ?_
              rintro e w3 ⟨rfl, hb3⟩
              refine ⟨_, rfl, ?_⟩
              have hbk3 := blk_below (blk_drew hbk_) hb3
              have hB3 := below_then (below_drew hB_) hB_.size hb3
              have hO3 := Kd.R_below (Kd.R_drew hO_) hb3
              refine hK.out _ _ ((hb3.cell (World.block_lt_of_cell? _ _ hHeld)).trans hHeld) (fun hHeld => ?_)
              clear hK K
              refine norm_ (a' := ?_) ?_ ?_
              rotate_left
              · show Act.put _ (some 67) _ = _
                simp only [Act.put, List.setIfInBounds_toArray, List.set_cons_zero, List.set_cons_succ, i64_w, i32_w]
                rfl
              refine pure_ (i := 10) (N := some 68) (v := ?_) (a' := ?_) #[true, true, true, true, true, true, true, true, true, true, true, false, false, false, false, false] rfl rfl (by kernel_rfl) (fun _ _ _ h => h) (Or.inl ⟨by rfl, ?_⟩) ?_ ?_
              rotate_left
              · intro w'
                go_simp
                with_reducible rfl
              rotate_left
              · simp only [Act.put, List.setIfInBounds_toArray, List.set_cons_zero, List.set_cons_succ, i64_w, i32_w]
                rfl
              refine one_ (i := 11) (N := some 69) #[true, true, true, true, true, true, true, true, true, true, true, true, false, false, false, false] rfl rfl (by kernel_rfl) (by decide) (fun K hK => ?_)
              refine value_ (w1 := ?_) (v := ?_) (by rfl) rfl ?_ ?_
              rotate_left 2
              · go_simp
                constructor
                · rfl
                · rfl
              refine hK.out _ _ ((World.cell?_alloc_lt _ _ _ (World.block_lt_of_cell? _ _ hHeld)).trans hHeld) (fun hHeld => ?_)
              clear hK K
              refine norm_ (a' := ?_) ?_ ?_
              rotate_left
              · show Act.put _ (some 69) _ = _
                simp only [Act.put, List.setIfInBounds_toArray, List.set_cons_zero, List.set_cons_succ, i64_w, i32_w]
                rfl
              refine one_ (i := 12) (N := some 70) #[true, true, true, true, true, true, true, true, true, true, true, true, true, false, false, false] rfl rfl (by kernel_rfl) (by decide) (fun K hK => ?_)
              refine Kd.R_append_step k33 (w0 := w0) w0.heap.size (by rfl) (.tmp 62) (.tmp 69) 22 33 (.agg #[(.int .i64 0), (.string ⟨#[]⟩)]) 24 rfl Try.underlying22 info33 rfl (by decide) (by omega) (.slice (some ⟨gr, 0, none⟩) ys.length c) ys (⟨x, s.extract 0 m⟩ : S33) [.int .i64 x, .string (s.extract 0 m)] (fun _ => True) (fun _ => False) rfl rfl (k33_mkM _ _ _ (⟨x, s.extract 0 m⟩ : S33)) (fun _ hk => hk.elim) (fun _ _ => trivial) hO3 hB3 (below_size hB3) (by omega) ?_
              intro v1 w4 hO4 hB4 hg4 hat4
              have hbk4 := blk_grown hbk3 hg4 (Kd.R_ne hO3 hbk3 (by decide))
              have hf4 := blk_frozen hbk4 0
              obtain ⟨A4, c4, rfl⟩ := Kd.R_slice hO4
              refine hK.out _ _ ((blk_cell hbk4 0).trans rfl) (fun hHeld => ?_)
              clear hK K
              refine norm_ (a' := ?_) ?_ ?_
              rotate_left
              · show Act.put _ (some 70) _ = _
                simp only [Act.put, List.setIfInBounds_toArray, List.set_cons_zero, List.set_cons_succ, i64_w, i32_w]
                rfl
              refine pure_ (i := 13) (N := some 71) (v := ?_) (a' := ?_) #[true, true, true, true, true, true, true, true, true, true, true, true, true, true, false, false] rfl rfl (by kernel_rfl) (fun _ _ _ h => h) (Or.inl ⟨by rfl, ?_⟩) ?_ ?_
              rotate_left
              · intro w'
                go_simp
                with_reducible rfl
              rotate_left
              · simp only [Act.put, List.setIfInBounds_toArray, List.set_cons_zero, List.set_cons_succ, i64_w, i32_w]
                rfl
              refine pure_ (i := 14) (N := some 72) (v := ?_) (a' := ?_) #[true, true, true, true, true, true, true, true, true, true, true, true, true, true, true, false] rfl rfl (by kernel_rfl) (fun _ _ _ h => h) (Or.inl ⟨by rfl, ?_⟩) ?_ ?_
              rotate_left
              · intro w'
                go_simp
                with_reducible rfl
              rotate_left
              · simp only [Act.put, List.setIfInBounds_toArray, List.set_cons_zero, List.set_cons_succ, i64_w, i32_w]
                rfl
              refine last_ (i := 15) (N := none) #[true, true, true, true, true, true, true, true, true, true, true, true, true, true, true, true] rfl rfl (by kernel_rfl) (by decide) (fun K hK => ?_)
              have hc4 := hHeld
              refine skip_ (w1 := ?_) (by rfl) rfl ?_ ?_
              rotate_left
              · go_simp
                rfl
              refine hK.out _ _ ?_
              clear hK K
              refine done_ (by kernel_rfl) ?_
              go_wp2_with fail
              go_quiet (fail)
              go_wp2_with fail
              go_roundw
              case rel =>
                rw [List.length_append, List.length_singleton] at hO4
                refine ⟨x + m, s.extract m s.size, jChunk ys x (s.extract 0 m), .slice A4 (ys.length + 1) c4, by go_num, rfl, ⟨by rw [ByteArray.size_extract]; omega⟩, by have := HL.out; rw [ByteArray.size_extract]; omega, ⟨blk_put (cs := #[.slice (some ⟨gr, 0, none⟩) ys.length c]) hbk4 0 _ rfl⟩, ⟨Below_drewN_ (below_set_ hB4 hg) _⟩, ⟨Kd.R_drewN ?_ _⟩, HGc, ⟨HR.out.symm.trans HE.out⟩⟩
                rw [HC.out]
                exact Kd.R_set hO4 hbk4 (by decide) 0 _
              case measure => simp [ByteArray.size_extract]; omega

end Go.Proofs.Ytdobcojmfhdinaa.Pr
