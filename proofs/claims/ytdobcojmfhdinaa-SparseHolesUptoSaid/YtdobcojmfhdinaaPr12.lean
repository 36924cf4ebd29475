/- The functions that this seat's laws reach, each as a function in Lean (NAME.f) with its contract (NAME.calls): printed by the kit's print.py; those that it does not take by hand. Conditions: those that each contract names. Lean checks it all. -/
import Derived.Test.YtdobcojmfhdinaaPr0
import Derived.Test.YtdobcojmfhdinaaPr3
import Derived.Test.YtdobcojmfhdinaaPr4
import Derived.Test.YtdobcojmfhdinaaPr6
namespace Go.Proofs.Ytdobcojmfhdinaa.Pr
open Go.RowKit Go.Proofs.YtdobcojmfhdinaaW.PrintWords Go.Proofs.YtdobcojmfhdinaaW.PrintLast Go.Proofs.YtdobcojmfhdinaaW.PrintMore
attribute [local go_sem] max2_int min2_int max_two min_two max_three min_three max_four min_four   -- for this text's walks alone
set_option linter.unusedVariables false
set_option linter.unusedSimpArgs false

/-! ### sparse_Bytes: function 20 (by hand) -/
def bStep (at_ n : Int) (cur : List Int) (r : S33) : List Int :=
  if mx r.f0 at_ < mn (r.f0 + r.f1.size) (at_ + n) then refSplice cur (mx r.f0 at_ - at_).toNat (r.f1.extract (mx r.f0 at_ - r.f0).toNat (mn (r.f0 + r.f1.size) (at_ + n) - r.f0).toNat) else cur
def bFold (l : List S33) (at_ n : Int) : List Int := l.foldl (bStep at_ n) (List.replicate n.toNat 0)
theorem bFold_take (l : List S33) (a b : Int) (k : Nat) (hk : k < l.length) (z : S33) : bFold (l.take (k + 1)) a b = bStep a b (bFold (l.take k) a b) (l.getD k z) := by
  unfold bFold
  rw [List.take_succ_eq_append_getElem hk, List.foldl_append]
  simp [List.getD_eq_getElem?_getD, List.getElem?_eq_getElem hk]
theorem bStep_length {at_ n : Int} {cur : List Int} {r : S33} (h0 : 0 ≤ at_) (hn : 0 ≤ n) (hr : 0 ≤ r.f0) (hl : cur.length = n.toNat) : (bStep at_ n cur r).length = n.toNat := by
  unfold bStep
  split
  · rename_i hlt
    have hm0 : r.f0 ≤ mx r.f0 at_ := by unfold mx; split <;> omega
    have hm1 : at_ ≤ mx r.f0 at_ := by unfold mx; split <;> omega
    have hn0 : mn (r.f0 + r.f1.size) (at_ + n) ≤ r.f0 + r.f1.size := by unfold mn; split <;> omega
    have hn1 : mn (r.f0 + r.f1.size) (at_ + n) ≤ at_ + n := by unfold mn; split <;> omega
    unfold refSplice
    simp only [List.length_append, List.length_take, List.length_drop, Hl.bytesOf_len, ByteArray.size_extract]
    omega
  · exact hl
theorem bFold_length {a b : Int} (h0 : 0 ≤ a) (hn : 0 ≤ b) (l : List S33) (hg : jGood l) : (bFold l a b).length = b.toNat := by
  have key : ∀ (l : List S33) (cur : List Int), jGood l → cur.length = b.toNat → (l.foldl (bStep a b) cur).length = b.toNat := by
    intro l
    induction l with
    | nil => intro cur _ h; exact h
    | cons r l ih => intro cur hg h; exact ih _ (fun q hq => hg q (List.mem_cons_of_mem _ hq)) (bStep_length h0 hn (hg r List.mem_cons_self).1 h)
  exact key l _ hg (by simp)
def sparse_Bytes.f (k : Nat) (l0 : List S33) (a1 a2 : Int) : Option (ByteArray × Int) :=
  (sparse_Check.f k l0).bind fun e => if e ≠ 0 ∨ a1 < 0 ∨ a2 < 0 then some (⟨#[]⟩, 1) else if a1 > 65536 ∨ a2 > 65536 - a1 then some (⟨#[]⟩, 10) else
    if jGood l0 ∧ l0.length ≤ 65536 then some (strOfNums (bFold l0 a1 a2), 0) else none
/-- between the rounds: the row of bytes -/
def bSt (w wr : World) (A : Option Addr) (n c : Nat) (cur : List Int) : Prop := cur.length = n ∧ Below w.heap.size w wr ∧ (Kd.int .u8).R 5 wr w.heap.size (fun _ => True) (.slice A n c) cur
theorem bSt_boxed {w wr w1 : World} {A : Option Addr} {n c gb : Nat} {cur : List Int} (h : bSt w wr A n c cur) (hb : Below wr.heap.size wr w1) (hg : gb = wr.heap.size) (u0 u1 : Value) : bSt w ((w1.setCell ⟨gb, 0, none⟩ u0).setCell ⟨gb, 1, none⟩ u1) A n c cur := by
  obtain ⟨hl, h2, h3⟩ := h
  refine ⟨hl, Hl.below_set_ (Hl.below_set_ (below_then h2 h2.size hb) (by have := h2.size; omega)) (by have := h2.size; omega), ?_⟩
  exact Kd.R_mono (Kd.R_far (p := ⟨gb, 1, none⟩) (Kd.R_far (p := ⟨gb, 0, none⟩) (Kd.R_old h3 hb) (fun k hk => by rw [hg]; exact Nat.ne_of_lt hk.2) u0) (fun k hk => by rw [hg]; exact Nat.ne_of_lt hk.2) u1) (fun _ _ => trivial)
theorem bSt_below {w wr w1 : World} {A : Option Addr} {n c : Nat} {cur : List Int} (h : bSt w wr A n c cur) (hb : Below wr.heap.size wr w1) : bSt w w1 A n c cur := ⟨h.1, below_then h.2.1 h.2.1.size hb, Kd.R_below h.2.2 hb⟩
theorem bSt_drew {w wr : World} {A : Option Addr} {n c : Nat} {cur : List Int} (h : bSt w wr A n c cur) : bSt w wr.drew A n c cur := ⟨h.1, below_drew h.2.1, Kd.R_drew h.2.2⟩
theorem sparse_Bytes.mono : ∀ a0 a1 a2 k, LeO (sparse_Bytes.f k a0 a1 a2) (sparse_Bytes.f (k + 1) a0 a1 a2) := by
  intro a0 a1 a2 k
  unfold sparse_Bytes.f
  exact LeO.bind (sparse_Check.mono _ _) fun _ => LeO.refl _
set_option maxHeartbeats 8000000 in
set_option maxRecDepth 100000 in
theorem sparse_Bytes.calls (k : Nat) (A0 : Option Addr) (c0 : Nat) (l0 : List (S33)) (a1 : Int) (a2 : Int) (r1 : ByteArray) (r2 : Int) (w : World) (hr0 : Kd.C k33 w A0 l0.length l0) (hc0 : l0.length ≤ c0) (h : sparse_Bytes.f k l0 a1 a2 = some (r1, r2)) :
    Calls Try.prog 20 #[.slice A0 l0.length c0, .int .i64 a1, .int .i64 a2] w fun e w' => e = .returned (.tuple #[.string r1, .int .i64 r2]) ∧ Below w.heap.size w w' := by
  unfold sparse_Bytes.f at h
  obtain ⟨e, he, h⟩ := Option.bind_eq_some_iff.1 h
  have HE := Aside0.mk he
  have HR0 := Aside0.mk hr0
  have HC0 := Aside0.mk hc0
  clear he hr0 hc0
  by_cases c1 : e ≠ 0 ∨ a1 < 0 ∨ a2 < 0
  · rw [if_pos c1] at h
    have h2 := Option.some.inj h
    injection h2 with h3 h4
    subst h3 h4
    clear h
    by_cases c2 : e = 0
    · have b1 : (e != 0) = false := by simpa using c2
      by_cases c3 : a1 < 0
      · have b2 : decide (a1 < 0) = true := by simpa using c3
        clear c1 c2
        go_enter Try.func20, Try.ntmps20
        go_wp2_with (go_at_call 16; refine (sparse_Check.calls k A0 c0 l0 e _ HR0.out HC0.out HE.out).mono ?_; rintro e_ w1 ⟨rfl, hb1⟩; have HB1 := Aside0.mk hb1; clear hb1)
        go_ret2
        exact ⟨rfl, HB1.out⟩
      · have b2 : decide (a1 < 0) = false := by simpa using c3
        have c4 : a2 < 0 := by rcases c1 with c1 | c1 | c1 <;> first | exact absurd c2 c1 | exact absurd c1 c3 | exact c1
        have b3 : decide (a2 < 0) = true := by simpa using c4
        clear c1 c2
        go_enter Try.func20, Try.ntmps20
        go_wp2_with (go_at_call 16; refine (sparse_Check.calls k A0 c0 l0 e _ HR0.out HC0.out HE.out).mono ?_; rintro e_ w1 ⟨rfl, hb1⟩; have HB1 := Aside0.mk hb1; clear hb1)
        go_ret2
        exact ⟨rfl, HB1.out⟩
    · have b1 : (e != 0) = true := by simpa using c2
      clear c1
      go_enter Try.func20, Try.ntmps20
      go_wp2_with (go_at_call 16; refine (sparse_Check.calls k A0 c0 l0 e _ HR0.out HC0.out HE.out).mono ?_; rintro e_ w1 ⟨rfl, hb1⟩; have HB1 := Aside0.mk hb1; clear hb1)
      go_ret2
      exact ⟨rfl, HB1.out⟩
  · rw [if_neg c1] at h
    have c2 : e = 0 := Classical.byContradiction fun hc => c1 (.inl hc)
    have c3 : ¬ a1 < 0 := fun hc => c1 (.inr (.inl hc))
    have c4 : ¬ a2 < 0 := fun hc => c1 (.inr (.inr hc))
    have b1 : (e != 0) = false := by simpa using c2
    have b2 : decide (a1 < 0) = false := by simpa using c3
    have b3 : decide (a2 < 0) = false := by simpa using c4
    clear c1 c2
    by_cases c5 : a1 > 65536 ∨ a2 > 65536 - a1
    · rw [if_pos c5] at h
      have h2 := Option.some.inj h
      injection h2 with h3 h4
      subst h3 h4
      clear h
      by_cases c6 : 65536 < a1
      · have b4 : decide (65536 < a1) = true := by simpa using c6
        clear c5
        go_enter Try.func20, Try.ntmps20
        go_wp2_with (go_at_call 16; refine (sparse_Check.calls k A0 c0 l0 e _ HR0.out HC0.out HE.out).mono ?_; rintro e_ w1 ⟨rfl, hb1⟩; have HB1 := Aside0.mk hb1; clear hb1)
        go_ret2
        exact ⟨rfl, HB1.out⟩
      · have b4 : decide (65536 < a1) = false := by simpa using c6
        have b5 : decide (65536 - a1 < a2) = true := by simp; omega
        clear c5
        go_enter Try.func20, Try.ntmps20
        go_wp2_with (go_at_call 16; refine (sparse_Check.calls k A0 c0 l0 e _ HR0.out HC0.out HE.out).mono ?_; rintro e_ w1 ⟨rfl, hb1⟩; have HB1 := Aside0.mk hb1; clear hb1)
        go_ret2
        exact ⟨rfl, HB1.out⟩
    · rw [if_neg c5] at h
      by_cases c6 : jGood l0 ∧ l0.length ≤ 65536
      case neg => rw [if_neg c6] at h; cases h
      rw [if_pos c6] at h
      have h2 := Option.some.inj h
      injection h2 with h3 h4
      subst h3 h4
      clear h
      obtain ⟨hgood, hlen⟩ := c6
      have c7 : a1 ≤ 65536 := by omega
      have c8 : a2 ≤ 65536 - a1 := by omega
      have hx1 : 0 ≤ a1 := by omega
      have hx2 : 0 ≤ a2 := by omega
      have b4 : decide (65536 < a1) = false := by simp; omega
      have b5 : decide (65536 - a1 < a2) = false := by simp; omega
      obtain ⟨nn, rfl⟩ := Int.eq_ofNat_of_zero_le hx2
      have HGL := Aside0.mk hgood
      have HL := Aside0.mk hlen
      have hu33 := Try.underlying33
      clear c5 hgood c3 c4
      go_enter Try.func20, Try.ntmps20
      go_wp2_with (first | (go_at_call 16; refine (sparse_Check.calls k A0 c0 l0 e _ HR0.out HC0.out HE.out).mono ?_; rintro e_ w1 ⟨rfl, hb1⟩; have HB1 := Aside0.mk hb1; clear hb1) | ((with_reducible refine gate_dst (N := 33) rfl ?_); refine Kd.R_make (Kd.int .u8) (w0 := w) w.heap.size 5 rfl (N := 33) rfl 41 (.tmp 32) (.tmp 32) rfl (nn : Int) rfl rfl Try.underlying41 (.int .u8 0) 1 info5 rfl (by decide) (by decide) 0 (ok := fun _ => True) (okp := fun _ => True) rfl (fun _ h => h) trivial (by omega) (by omega) HB1.out (below_size HB1.out) ?_; intro v8 w8 ho8 hb8 hg8 hat8; have HO8 := Aside0.mk ho8; have HB8 := Aside0.mk hb8; clear ho8 hb8 hg8 hat8; obtain ⟨A8, c8', e8⟩ := Kd.R_slice HO8.out; subst e8))
      have hS : bSt w w8 A8 nn c8' (List.replicate nn 0) := ⟨by simp, HB8.out, by have := HO8.out; rwa [List.length_replicate, Int.toNat_natCast] at this⟩
      have HS := Aside0.mk hS
      clear hS HO8 HB8 HB1
      go_loopw [36] (fun i wr => ∃ x : Int, i = .int .i64 x ∧ 0 ≤ x ∧ x ≤ l0.length ∧ Aside0 (bSt w wr A8 nn c8' (bFold (l0.take x.toNat) a1 (nn : Int)))) (fun i _ => (l0.length - intOf i).toNat)
      case atStart => exact ⟨0, rfl, by omega, by omega, ⟨by have := HS.out; simpa [bFold] using this⟩⟩
      case round =>
        clear HS
        obtain ⟨x, rfl, hx0, hx1', HST⟩ := hrel
        by_cases hx : x < l0.length
        · have hxb : decide (x < (l0.length : Int)) = true := by simpa using hx
          have HX := Aside0.mk hx
          obtain ⟨ad, e', q0, q1⟩ := at_T33 HR0.out x hx0 hx
          cases e'
          replace q0 := (HST.out.2.1.cell (World.block_lt_of_cell? w _ q0)).trans q0
          replace q1 := (HST.out.2.1.cell (World.block_lt_of_cell? w _ q1)).trans q1
          obtain ⟨r, hr⟩ : ∃ r, r = rd_T33 l0 x := ⟨_, rfl⟩
          rw [← hr] at q0 q1
          have hm : r ∈ l0 := by
            rw [hr]; unfold rd_T33
            rw [List.getD_eq_getElem?_getD, List.getElem?_eq_getElem (by omega)]; exact List.getElem_mem _
          obtain ⟨hr0, hr1⟩ := HGL.out r hm
          have HNX := Aside0.mk (show bFold (l0.take (x + 1).toNat) a1 (nn : Int) = bStep a1 (nn : Int) (bFold (l0.take x.toNat) a1 (nn : Int)) r by
            rw [show (x + 1).toNat = x.toNat + 1 by omega, bFold_take _ _ _ _ (by omega) z33, hr]; rfl)
          obtain ⟨cur, hcur⟩ : ∃ cur, cur = bFold (l0.take x.toNat) a1 (nn : Int) := ⟨_, rfl⟩
          rw [← hcur] at HST HNX
          clear hcur hr hm
          obtain ⟨M, hM⟩ : ∃ M, (if r.f0 < a1 then a1 else r.f0) = M := ⟨_, rfl⟩
          obtain ⟨N, hN⟩ : ∃ N, (if a1 + (nn : Int) < r.f0 + (r.f1.size : Int) then a1 + (nn : Int) else r.f0 + (r.f1.size : Int)) = N := ⟨_, rfl⟩
          have hM0 : r.f0 ≤ M := by rw [← hM]; split <;> omega
          have hM1 : a1 ≤ M := by rw [← hM]; split <;> omega
          have hN0 : N ≤ r.f0 + r.f1.size := by rw [← hN]; split <;> omega
          have hN1 : N ≤ a1 + (nn : Int) := by rw [← hN]; split <;> omega
          have EM := Aside0.mk (show mx r.f0 a1 = M from hM)
          have EN := Aside0.mk (show mn (r.f0 + r.f1.size) (a1 + (nn : Int)) = N from hN)
          have hwr : wrap64 (r.f0 + (r.f1.size : Int)) = r.f0 + r.f1.size := by unfold wrap64; omega
          have HWR := Aside0.mk (show sparse_end.f r.f0 r.f1 = some (r.f0 + r.f1.size) by unfold sparse_end.f; rw [hwr])
          have hwa : wrap64 (a1 + (nn : Int)) = a1 + (nn : Int) := by unfold wrap64; omega
          have hwb : IntKind.i64.wrap (a1 + (nn : Int)) = a1 + (nn : Int) := IntWalk.i64_in _ (by omega)
          have hxx0 := eq_true hx0
          have hxx1 := eq_true hx
          clear hx hwr
          go_wp2_with (first | ((with_reducible refine gate_dst (N := 10) rfl ?_); refine box_event ?hg (N := 10) ?hd (cs := #[.int .i64 0, .string (⟨#[]⟩ : ByteArray)]) (t := 33) ?hr ?_; (case hd => rfl); (case hg => rfl); (case hr => first | (go_simp; done) | (go_simp; rfl)); intro gb hgb w3 hbox hb3; have S3 := Aside0.mk (bSt_boxed HST.out hb3 hgb (.int .i64 r.f0) (.string r.f1)); have z0 : w3.cell? ⟨gb, 0, none⟩ = some (.int .i64 0) := (blk_cell hbox 0).trans rfl; have z1 : w3.cell? ⟨gb, 1, none⟩ = some (.string (⟨#[]⟩ : ByteArray)) := (blk_cell hbox 1).trans rfl; have y0 := blk_frozen hbox 0; have y1 := blk_frozen hbox 1; have BX := Aside0.mk (blk_put (cs' := #[.int .i64 r.f0, .string r.f1]) (blk_put (cs' := #[.int .i64 r.f0, .string (⟨#[]⟩ : ByteArray)]) hbox 0 (.int .i64 r.f0) rfl) 1 (.string r.f1) rfl); clear hb3 hbox hgb))
          refine start_ (n := 12) (S := fun w' => w'.cell? ⟨gb, 0, none⟩ = some (.int .i64 r.f0) ∧ w'.cell? ⟨gb, 1, none⟩ = some (.string r.f1)) (ds := []) #[false, false, false, false, false, false, false, false, false, false, false, false] (by kernel_rfl) rfl rfl ⟨((blk_cell BX.out 0).trans rfl), ((blk_cell BX.out 1).trans rfl)⟩ (fun hHeld => ?_)
          refine pure_ (i := 0) (N := some 40) (v := ?_) (a' := ?_) #[true, false, false, false, false, false, false, false, false, false, false, false] rfl rfl (by kernel_rfl) (fun _ _ _ h => h) (Or.inl ⟨by rfl, ?_⟩) ?_ ?_
          rotate_left
          · intro w'
            go_simp
            with_reducible rfl
          rotate_left
          · simp only [Act.put, List.setIfInBounds_toArray, List.set_cons_zero, List.set_cons_succ, i64_w, i32_w]
            rfl
          refine pure_ (i := 2) (N := some 42) (v := ?_) (a' := ?_) #[true, false, true, false, false, false, false, false, false, false, false, false] rfl rfl (by kernel_rfl) (fun _ _ _ h => h) (Or.inl ⟨by rfl, ?_⟩) ?_ ?_
          rotate_left
          · intro w'
            go_simp
            with_reducible rfl
          rotate_left
          · simp only [Act.put, List.setIfInBounds_toArray, List.set_cons_zero, List.set_cons_succ, i64_w, i32_w]
            rfl
          refine pure_ (i := 6) (N := some 46) (v := ?_) (a' := ?_) #[true, false, true, false, false, false, true, false, false, false, false, false] rfl rfl (by kernel_rfl) (fun _ _ _ h => h) (Or.inl ⟨by rfl, ?_⟩) ?_ ?_
          rotate_left
          · intro w'
            go_simp
            with_reducible rfl
          rotate_left
          · simp only [Act.put, List.setIfInBounds_toArray, List.set_cons_zero, List.set_cons_succ, i64_w, i32_w]
            rfl
          refine pure_ (i := 7) (N := some 47) (v := ?_) (a' := ?_) #[true, false, true, false, false, false, true, true, false, false, false, false] rfl rfl (by kernel_rfl) (fun _ _ _ h => h) (Or.inl ⟨by rfl, ?_⟩) ?_ ?_
          rotate_left
          · intro w'
            go_simp
            with_reducible rfl
          rotate_left
          · simp only [Act.put, List.setIfInBounds_toArray, List.set_cons_zero, List.set_cons_succ, i64_w, i32_w]
            rfl
          refine pure_ (i := 8) (N := some 48) (v := ?_) (a' := ?_) #[true, false, true, false, false, false, true, true, true, false, false, false] rfl rfl (by kernel_rfl) (fun _ _ _ h => h) (Or.inl ⟨by rfl, ?_⟩) ?_ ?_
          rotate_left
          · intro w'
            go_simp
            with_reducible rfl
          rotate_left
          · simp only [Act.put, List.setIfInBounds_toArray, List.set_cons_zero, List.set_cons_succ, i64_w, i32_w]
            rfl
          refine take_ (i := 1) (N := some 41) (v := ?_) (a' := ?_) #[true, true, true, false, false, false, true, true, true, false, false, false] rfl rfl (by kernel_rfl) (fun _ _ _ h => h) (Or.inl ⟨by rfl, ?_⟩) hHeld ?_ ?_
          rotate_left
          · rintro w' ⟨s0, s1⟩
            go_simp
            with_reducible rfl
          rotate_left
          · simp only [Act.put, List.setIfInBounds_toArray, List.set_cons_zero, List.set_cons_succ, i64_w, i32_w]
            rfl
          refine pure_ (i := 3) (N := some 43) (v := ?_) (a' := ?_) #[true, true, true, true, false, false, true, true, true, false, false, false] rfl rfl (by kernel_rfl) (fun _ _ _ h => h) (Or.inl ⟨by rfl, ?_⟩) ?_ ?_
          rotate_left
          · intro w'
            go_simp
            with_reducible rfl
          rotate_left
          · simp only [Act.put, List.setIfInBounds_toArray, List.set_cons_zero, List.set_cons_succ, i64_w, i32_w]
            rfl
          refine take_ (i := 4) (N := some 44) (v := ?_) (a' := ?_) #[true, true, true, true, true, false, true, true, true, false, false, false] rfl rfl (by kernel_rfl) (fun _ _ _ h => h) (Or.inl ⟨by rfl, ?_⟩) hHeld ?_ ?_
          rotate_left
          · rintro w' ⟨s0, s1⟩
            go_simp
            with_reducible rfl
          rotate_left
          · simp only [Act.put, List.setIfInBounds_toArray, List.set_cons_zero, List.set_cons_succ, i64_w, i32_w]
            rfl
          refine one_ (i := 5) (N := some 45) #[true, true, true, true, true, true, true, true, true, false, false, false] rfl rfl (by kernel_rfl) (by decide) (fun K hK => ?_)
          refine goes_ Try.func28 (by kernel_rfl) rfl #[.agg #[.int .i64 r.f0, .string r.f1]] (by rfl) rfl rfl (by simp only [List.map_toArray, List.map_cons, List.map_nil]; rfl) ?_
          with_reducible refine (sparse_end.calls r.f0 r.f1 _ _ HWR.out).mono ?_
          rintro e w5 ⟨rfl, hb5⟩
          refine ⟨_, rfl, ?_⟩
          have k0 := (hb5.cell (World.block_lt_of_cell? _ _ hHeld.1)).trans hHeld.1
          have k1 := (hb5.cell (World.block_lt_of_cell? _ _ hHeld.2)).trans hHeld.2
          have HB5 := Aside0.mk hb5
          clear hb5
          refine hK.out _ _ ⟨k0, k1⟩ (fun hHeld => ?_)
          clear hK K
          refine norm_ (a' := ?_) ?_ ?_
          rotate_left
          · show Act.put _ (some 45) _ = _
            simp only [Act.put, List.setIfInBounds_toArray, List.set_cons_zero, List.set_cons_succ, i64_w, i32_w]
            rfl
          refine pure_ (i := 9) (N := some 49) (v := ?_) (a' := ?_) #[true, true, true, true, true, true, true, true, true, true, false, false] rfl rfl (by kernel_rfl) (fun _ _ _ h => h) (Or.inl ⟨by rfl, ?_⟩) ?_ ?_
          rotate_left
          · intro w'
            go_simp
            with_reducible rfl
          rotate_left
          · simp only [Act.put, List.setIfInBounds_toArray, List.set_cons_zero, List.set_cons_succ, i64_w, i32_w]
            rfl
          refine pure_ (i := 10) (N := some 11) (v := ?_) (a' := ?_) #[true, true, true, true, true, true, true, true, true, true, true, false] rfl rfl (by kernel_rfl) (fun _ _ _ h => h) (Or.inl ⟨by rfl, ?_⟩) ?_ ?_
          rotate_left
          · intro w'
            go_simp
            with_reducible rfl
          rotate_left
          · simp only [Act.put, List.setIfInBounds_toArray, List.set_cons_zero, List.set_cons_succ, i64_w, i32_w]
            rfl
          refine pure_ (i := 11) (N := some 12) (v := ?_) (a' := ?_) #[true, true, true, true, true, true, true, true, true, true, true, true] rfl rfl (by kernel_rfl) (fun _ _ _ h => h) (Or.inl ⟨by rfl, ?_⟩) ?_ ?_
          rotate_left
          · intro w'
            go_simp
            with_reducible rfl
          rotate_left
          · simp only [Act.put, List.setIfInBounds_toArray, List.set_cons_zero, List.set_cons_succ, i64_w, i32_w]
            rfl
          refine done_ (by kernel_rfl) ?_
          have S5 := Aside0.mk (bSt_below (bSt_drew S3.out) HB5.out)
          clear hHeld hM hN hwa hwb S3 HB5 BX z0 z1 y0 y1
          by_cases hlt : M < N
          · have hlb : decide (M < N) = true := by simpa using hlt
            obtain ⟨p, hp⟩ : ∃ p : Nat, M = a1 + p := ⟨(M - a1).toNat, by omega⟩
            obtain ⟨q, hq⟩ : ∃ q : Nat, M = r.f0 + q := ⟨(M - r.f0).toNat, by omega⟩
            obtain ⟨t, ht⟩ : ∃ t : Nat, N = r.f0 + t := ⟨(N - r.f0).toNat, by omega⟩
            have f1 : q < t := by omega
            have f2 : t ≤ r.f1.size := by omega
            have f3 : p + (t - q) ≤ nn := by omega
            have hes : (r.f1.extract q t).size = t - q := by rw [ByteArray.size_extract]; omega
            have EP := Aside0.mk (show bStep a1 (nn : Int) cur r = refSplice cur p (r.f1.extract q t) by
              unfold bStep; rw [EM.out, EN.out, if_pos hlt, show (M - a1).toNat = p by omega, show (M - r.f0).toNat = q by omega, show (N - r.f0).toNat = t by omega])
            obtain ⟨gr, cap, W', hv, hcap, hbase, hrun, hO7, hg7, hB7⟩ := Hl.splice_u8 (P := Try.prog) (Kd.R_drew S5.out.2.2) p (r.f1.extract q t) (by omega) (by rw [S5.out.1]; omega) 41 9 3 Try.underlying41 (by kernel_rfl)
            injection hv with hA hl' hc
            subst hA hc
            have hcp := hrun (nn - p) (c8' - p) (by omega)
            have S7 : Aside0 (bSt w W' (some ⟨gr, 0, none⟩) nn c8' (refSplice cur p (r.f1.extract q t))) := ⟨by
              refine ⟨?_, (below_drew S5.out.2.1).trans hB7, hO7⟩
              have := S5.out.1
              unfold refSplice; simp only [List.length_append, List.length_take, List.length_drop, Hl.bytesOf_len]; omega⟩
            have hco : ¬ c8' = p := by have := S5.out.1; omega
            have hw1 : wrap64 (M - a1) = (p : Int) := by unfold wrap64; omega
            have hw2 : IntKind.i64.wrap (M - a1) = (p : Int) := by rw [IntWalk.i64_in _ (by omega)]; omega
            have hw3 : wrap64 (M - r.f0) = (q : Int) := by unfold wrap64; omega
            have hw4 : IntKind.i64.wrap (M - r.f0) = (q : Int) := by rw [IntWalk.i64_in _ (by omega)]; omega
            have hw5 : wrap64 (N - r.f0) = (t : Int) := by unfold wrap64; omega
            have hw6 : IntKind.i64.wrap (N - r.f0) = (t : Int) := by rw [IntWalk.i64_in _ (by omega)]; omega
            have f4 : p ≤ nn := by omega
            have f5 : q ≤ t := by omega
            clear hp hq ht hlt hl' hrun hO7 hg7 hB7 hcap hbase f3 hes
            go_wp2_with fail
            refine start_ (n := 17) (S := fun w' => w'.cell? ⟨gb, 0, none⟩ = some (.int .i64 r.f0) ∧ w'.cell? ⟨gb, 1, none⟩ = some (.string r.f1)) (ds := [16]) #[false, false, false, false, false, false, false, false, false, false, false, false, false, false, false, false, false] (by kernel_rfl) rfl rfl ⟨k0, k1⟩ (fun hHeld => ?_)
            refine pure_ (i := 0) (N := some 53) (v := ?_) (a' := ?_) #[true, false, false, false, false, false, false, false, false, false, false, false, false, false, false, false, false] rfl rfl (by kernel_rfl) (fun _ _ _ h => h) (Or.inl ⟨by rfl, ?_⟩) ?_ ?_
            rotate_left
            · intro w'
              go_simp
              with_reducible rfl
            rotate_left
            · simp only [Act.put, List.setIfInBounds_toArray, List.set_cons_zero, List.set_cons_succ, i64_w, i32_w]
              rfl
            refine pure_ (i := 1) (N := some 54) (v := ?_) (a' := ?_) #[true, true, false, false, false, false, false, false, false, false, false, false, false, false, false, false, false] rfl rfl (by kernel_rfl) (fun _ _ _ h => h) (Or.inl ⟨by rfl, ?_⟩) ?_ ?_
            rotate_left
            · intro w'
              go_simp
              with_reducible rfl
            rotate_left
            · simp only [Act.put, List.setIfInBounds_toArray, List.set_cons_zero, List.set_cons_succ, i64_w, i32_w]
              rfl
            refine pure_ (i := 2) (N := some 55) (v := ?_) (a' := ?_) #[true, true, true, false, false, false, false, false, false, false, false, false, false, false, false, false, false] rfl rfl (by kernel_rfl) (fun _ _ _ h => h) (Or.inl ⟨by rfl, ?_⟩) ?_ ?_
            rotate_left
            · intro w'
              go_simp
              with_reducible rfl
            rotate_left
            · simp only [Act.put, List.setIfInBounds_toArray, List.set_cons_zero, List.set_cons_succ, i64_w, i32_w]
              rfl
            refine pure_ (i := 3) (N := some 56) (v := ?_) (a' := ?_) #[true, true, true, true, false, false, false, false, false, false, false, false, false, false, false, false, false] rfl rfl (by kernel_rfl) (fun _ _ _ h => h) (Or.inl ⟨by rfl, ?_⟩) ?_ ?_
            rotate_left
            · intro w'
              go_simp
              with_reducible rfl
            rotate_left
            · simp only [Act.put, List.setIfInBounds_toArray, List.set_cons_zero, List.set_cons_succ, i64_w, i32_w]
              rfl
            refine pure_ (i := 4) (N := some 57) (v := ?_) (a' := ?_) #[true, true, true, true, true, false, false, false, false, false, false, false, false, false, false, false, false] rfl rfl (by kernel_rfl) (fun _ _ _ h => h) (Or.inl ⟨by rfl, ?_⟩) ?_ ?_
            rotate_left
            · intro w'
              go_simp
              with_reducible rfl
            rotate_left
            · simp only [Act.put, List.setIfInBounds_toArray, List.set_cons_zero, List.set_cons_succ, i64_w, i32_w]
              rfl
            refine pure_ (i := 5) (N := some 58) (v := ?_) (a' := ?_) #[true, true, true, true, true, true, false, false, false, false, false, false, false, false, false, false, false] rfl rfl (by kernel_rfl) (fun _ _ _ h => h) (Or.inl ⟨by rfl, ?_⟩) ?_ ?_
            rotate_left
            · intro w'
              go_simp
              with_reducible rfl
            rotate_left
            · simp only [Act.put, List.setIfInBounds_toArray, List.set_cons_zero, List.set_cons_succ, i64_w, i32_w]
              rfl
            refine pure_ (i := 7) (N := some 60) (v := ?_) (a' := ?_) #[true, true, true, true, true, true, false, true, false, false, false, false, false, false, false, false, false] rfl rfl (by kernel_rfl) (fun _ _ _ h => h) (Or.inl ⟨by rfl, ?_⟩) ?_ ?_
            rotate_left
            · intro w'
              go_simp
              with_reducible rfl
            rotate_left
            · simp only [Act.put, List.setIfInBounds_toArray, List.set_cons_zero, List.set_cons_succ, i64_w, i32_w]
              rfl
            refine pure_ (i := 8) (N := some 61) (v := ?_) (a' := ?_) #[true, true, true, true, true, true, false, true, true, false, false, false, false, false, false, false, false] rfl rfl (by kernel_rfl) (fun _ _ _ h => h) (Or.inl ⟨by rfl, ?_⟩) ?_ ?_
            rotate_left
            · intro w'
              go_simp
              with_reducible rfl
            rotate_left
            · simp only [Act.put, List.setIfInBounds_toArray, List.set_cons_zero, List.set_cons_succ, i64_w, i32_w]
              rfl
            refine pure_ (i := 11) (N := some 64) (v := ?_) (a' := ?_) #[true, true, true, true, true, true, false, true, true, false, false, true, false, false, false, false, false] rfl rfl (by kernel_rfl) (fun _ _ _ h => h) (Or.inl ⟨by rfl, ?_⟩) ?_ ?_
            rotate_left
            · intro w'
              go_simp
              with_reducible rfl
            rotate_left
            · simp only [Act.put, List.setIfInBounds_toArray, List.set_cons_zero, List.set_cons_succ, i64_w, i32_w]
              rfl
            refine pure_ (i := 12) (N := some 65) (v := ?_) (a' := ?_) #[true, true, true, true, true, true, false, true, true, false, false, true, true, false, false, false, false] rfl rfl (by kernel_rfl) (fun _ _ _ h => h) (Or.inl ⟨by rfl, ?_⟩) ?_ ?_
            rotate_left
            · intro w'
              go_simp
              with_reducible rfl
            rotate_left
            · simp only [Act.put, List.setIfInBounds_toArray, List.set_cons_zero, List.set_cons_succ, i64_w, i32_w]
              rfl
            refine take_ (i := 6) (N := some 59) (v := ?_) (a' := ?_) #[true, true, true, true, true, true, true, true, true, false, false, true, true, false, false, false, false] rfl rfl (by kernel_rfl) (fun _ _ _ h => h) (Or.inl ⟨by rfl, ?_⟩) hHeld ?_ ?_
            rotate_left
            · rintro w' ⟨s0, s1⟩
              go_simp
              with_reducible rfl
            rotate_left
            · simp only [Act.put, List.setIfInBounds_toArray, List.set_cons_zero, List.set_cons_succ, i64_w, i32_w]
              rfl
            refine take_ (i := 9) (N := some 62) (v := ?_) (a' := ?_) #[true, true, true, true, true, true, true, true, true, true, false, true, true, false, false, false, false] rfl rfl (by kernel_rfl) (fun _ _ _ h => h) (Or.inl ⟨by rfl, ?_⟩) hHeld ?_ ?_
            rotate_left
            · rintro w' ⟨s0, s1⟩
              go_simp
              with_reducible rfl
            rotate_left
            · simp only [Act.put, List.setIfInBounds_toArray, List.set_cons_zero, List.set_cons_succ, i64_w, i32_w]
              rfl
            refine pure_ (i := 10) (N := some 63) (v := ?_) (a' := ?_) #[true, true, true, true, true, true, true, true, true, true, true, true, true, false, false, false, false] rfl rfl (by kernel_rfl) (fun _ _ _ h => h) (Or.inl ⟨by rfl, ?_⟩) ?_ ?_
            rotate_left
            · intro w'
              go_simp
              with_reducible rfl
            rotate_left
            · simp only [Act.put, List.setIfInBounds_toArray, List.set_cons_zero, List.set_cons_succ, i64_w, i32_w]
              rfl
            refine take_ (i := 13) (N := some 66) (v := ?_) (a' := ?_) #[true, true, true, true, true, true, true, true, true, true, true, true, true, true, false, false, false] rfl rfl (by kernel_rfl) (fun _ _ _ h => h) (Or.inl ⟨by rfl, ?_⟩) hHeld ?_ ?_
            rotate_left
            · rintro w' ⟨s0, s1⟩
              go_simp
              with_reducible rfl
            rotate_left
            · simp only [Act.put, List.setIfInBounds_toArray, List.set_cons_zero, List.set_cons_succ, i64_w, i32_w]
              rfl
            refine pure_ (i := 14) (N := some 67) (v := ?_) (a' := ?_) #[true, true, true, true, true, true, true, true, true, true, true, true, true, true, true, false, false] rfl rfl (by kernel_rfl) (fun _ _ _ h => h) (Or.inl ⟨by rfl, ?_⟩) ?_ ?_
            rotate_left
            · intro w'
              go_simp
              with_reducible rfl
            rotate_left
            · simp only [Act.put, List.setIfInBounds_toArray, List.set_cons_zero, List.set_cons_succ, i64_w, i32_w]
              rfl
            refine pure_ (i := 15) (N := some 68) (v := ?_) (a' := ?_) #[true, true, true, true, true, true, true, true, true, true, true, true, true, true, true, true, false] rfl rfl (by kernel_rfl) (fun _ _ _ h => h) (Or.inl ⟨by rfl, ?_⟩) ?_ ?_
            rotate_left
            · intro w'
              go_simp
              with_reducible rfl
            rotate_left
            · simp only [Act.put, List.setIfInBounds_toArray, List.set_cons_zero, List.set_cons_succ, i64_w, i32_w]
              rfl
            refine last_ (i := 16) (N := some 69) #[true, true, true, true, true, true, true, true, true, true, true, true, true, true, true, true, true] rfl rfl (by kernel_rfl) (by decide) (fun K hK => ?_)
            refine value_ (w1 := ?_) (v := ?_) (by rfl) rfl ?_ ?_
            rotate_left 2
            · go_simp
              constructor
              · rfl
              · rfl
            refine hK.out _ _ ?_
            clear hK K
            refine norm_ (a' := ?_) ?_ ?_
            rotate_left
            · show Act.put _ (some 69) _ = _
              simp only [Act.put, List.setIfInBounds_toArray, List.set_cons_zero, List.set_cons_succ, i64_w, i32_w]
              rfl
            refine done_ (by kernel_rfl) ?_
            clear hw1 hw2 hw3 hw4 hw5 hw6 hHeld hcp
            go_wp2_with fail
            go_roundw
            case rel => exact ⟨x + 1, by go_num, by omega, by have := HX.out; omega, ⟨by rw [HNX.out, EP.out]; exact S7.out⟩⟩
            case measure => have := HX.out; simp [intOf]; omega
          · have hlb : decide (M < N) = false := by simpa using hlt
            have EP := Aside0.mk (show bStep a1 (nn : Int) cur r = cur by unfold bStep; rw [EM.out, EN.out, if_neg hlt])
            clear hlt
            go_wp2_with fail
            go_roundw
            case rel => exact ⟨x + 1, by go_num, by omega, by have := HX.out; omega, ⟨by rw [HNX.out, EP.out]; exact S5.out⟩⟩
            case measure => have := HX.out; simp [intOf]; omega
        · have hxb : decide (x < (l0.length : Int)) = false := by simpa using hx
          obtain rfl : x = l0.length := by omega
          clear hx
          obtain ⟨hl9, hB9, hO9⟩ := HST.out
          obtain ⟨-, -, hC9⟩ := Kd.R_reads' hO9
          have hcv := Kd.C_string (P := Try.prog) (A := A8) (c := c8') Try.underlying41 Try.underlying5 Try.underlying9 hC9
          rw [hl9] at hcv
          have HB9 := Aside0.mk hB9
          have HV := Aside0.mk (show bFold (l0.take ((l0.length : Nat) : Int).toNat) a1 (nn : Int) = bFold l0 a1 (nn : Int) by rw [Int.toNat_natCast, List.take_length])
          clear hl9 hB9 hO9 hC9
          go_wp2_with fail
          go_ret2
          exact ⟨by rw [← HV.out]; rfl, HB9.out⟩

end Go.Proofs.Ytdobcojmfhdinaa.Pr
