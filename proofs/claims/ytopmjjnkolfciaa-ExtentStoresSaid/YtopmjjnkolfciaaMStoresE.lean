/- MStores: this session's texts for the one law, put together (part 5 of 5): what its program computes, function by function, and that this answers true; the row stands at the end of the last part. Conditions: those that each theorem names; the last theorem has none. -/
import Derived.Test.YtopmjjnkolfciaaRows
import Derived.WalkKit
import Derived.ProofKit
import Derived.OpenShut
import Derived.ShutString
import Derived.ChangeOld
import Derived.Below
import Derived.SizedLaws
import Derived.Carry
import Derived.Lib.SmallJoins
import Derived.Test.YtopmjjnkolfciaaMStoresD
section
namespace Go.Proofs.Ytopmjjnkolfciaa.Pr
open Go.RowKit Go.Proofs.YtopmjjnkolfciaaW.PrintWords Go.Proofs.YtopmjjnkolfciaaW.PrintMore Go.Proofs.Ytopmjjnkolfciaa.Od
open Go.Proofs.Ytopmjjnkolfciaa.Cr hiding Ev.succ
open Go.Maps (addKey)
set_option linter.unusedVariables false
set_option linter.unusedSimpArgs false
set_option maxRecDepth 20000
def idxT (bs : List Int) : List Int := bs.flatMap (fun b => bytesN 4 b.toNat)
theorem idxT_len (bs : List Int) : (idxT bs).length = 4 * bs.length := flat4_len bs
theorem idxT_snoc (l : List Int) (i : Nat) (h : i < l.length) : idxT (l.take (i + 1)) = idxT (l.take i) ++ bytesN 4 l[i].toNat := by
  unfold idxT
  rw [List.take_succ_eq_append_getElem h, List.flatMap_append]
  congr 1
theorem pindex_l0 (l : List Int) (hl : ∀ b ∈ l, 0 ≤ b ∧ b < 4294967296) (hn : l.length ≤ 14) : ∀ (d i : Nat), i + d = l.length →
    Ev (fun k => extent_index.l0 k (hdr l.length 1 ++ idxT (l.take i) ++ List.replicate (60 - (4 + 4 * i)) 0) l (l.length : Int) (i : Int)) (idxL l)
  | 0, i, hd => by
    refine Ev.succ ?_
    simp only [extent_index.l0, if_neg (show ¬ ((i : Int) < (l.length : Int)) by omega)]
    obtain rfl : i = l.length := by omega
    rw [List.take_length]
    have : idxL l = hdr l.length 1 ++ idxT l ++ List.replicate (60 - (4 + 4 * l.length)) 0 := by
      unfold idxL padN
      rw [List.length_append, hdr_len, flat4_len]
      rfl
    rw [this]
    exact Ev.now _
  | d + 1, i, hd => by
    have hi : i < l.length := by omega
    have hb := hl l[i] (List.getElem_mem hi)
    have hpl : (hdr l.length 1 ++ idxT (l.take i)).length = 4 + 4 * i := by rw [List.length_append, hdr_len, idxT_len, List.length_take]; omega
    refine Ev.succ ?_
    simp only [extent_index.l0, if_pos (show (i : Int) < (l.length : Int) by omega), if_pos (show (0 : Int) ≤ (i : Int) by omega), wp4 i (by omega), wps i (by omega), rd_get hi]
    refine Ev.bind (pput_ev _ _ (4 + 4 * i) 4 l[i].toNat _ _ _ rfl rfl (by omega) hpl (by decide) (by decide) (by omega) (by omega)) ?_
    have ih := pindex_l0 l hl hn d (i + 1) (by omega)
    rw [idxT_snoc l i hi, ← List.append_assoc, show 60 - (4 + 4 * (i + 1)) = 60 - (4 + 4 * i) - 4 by omega] at ih
    exact ih
theorem pindex_ev (l : List Int) (hl : ∀ b ∈ l, 0 ≤ b ∧ b < 4294967296) (hn : l.length ≤ 14) : Ev (fun k => extent_index.f k l) (idxL l) := by
  unfold extent_index.f
  simp only [if_pos (show (60 : Nat) ≤ 281474976710656 by decide)]
  refine Ev.bind (pput_ev [] 60 0 2 l.length 0 2 (l.length : Int) rfl rfl rfl rfl (by decide) (by decide) (by omega) (by omega)) ?_
  have e1 : [] ++ bytesN 2 l.length ++ List.replicate (60 - 2) (0 : Int) = bytesN 2 l.length ++ List.replicate 58 0 := rfl
  rw [e1]
  refine Ev.bind (pput_ev (bytesN 2 l.length) 58 2 2 1 2 2 1 rfl rfl rfl (bytesN_len _ _) (by decide) (by decide) (by omega) (by omega)) ?_
  have ih := pindex_l0 l hl hn l.length 0 (by omega)
  have h0 : l.length / 256 % 256 = 0 := by omega
  have e : hdr l.length 1 ++ idxT (l.take 0) ++ List.replicate (60 - (4 + 4 * 0)) (0 : Int) = bytesN 2 l.length ++ bytesN 2 1 ++ List.replicate (58 - 2) 0 := by
    simp [hdr, bytesN, idxT, h0]
  rw [e] at ih
  exact ih
theorem pget_ev (b : List Int) (hb : ∀ x ∈ b, isByte x) (a1 a2 : Int) (p n : Nat) (h1 : a1 = (p : Int)) (h2 : a2 = (n : Int)) (h : p + n ≤ b.length) (hn : n ≤ 4) (hl : b.length ≤ 256) : Ev (fun k => extent_page_get.f k b a1 a2) ((numN ((b.drop p).take n) : Nat) : Int) := by
  subst h1 h2
  unfold extent_page_get.f
  have hbb : ∀ x ∈ (b.take (p + n)).drop p, isByte x := fun x hx => hb x (List.mem_of_mem_take (List.mem_of_mem_drop hx))
  have hlen : ((b.take (p + n)).drop p).length = n := by rw [List.length_drop, List.length_take]; omega
  have e : (b.take (p + n)).drop p = (b.drop p).take n := by rw [List.drop_take]; congr 1; omega
  simp only [w64 (show -9223372036854775808 ≤ (p : Int) + (n : Int) by omega) (by omega), if_pos (show (0 : Int) ≤ (p : Int) by omega), if_pos (show (p : Int) ≤ (p : Int) + (n : Int) by omega), if_pos (show (p : Int) + (n : Int) ≤ (b.length : Int) by omega), show ((p : Int) + (n : Int)).toNat = p + n by omega, Int.toNat_natCast]
  refine Ev.bind (crc_number_ev _ (by omega) hbb) ?_
  have := numN_lt _ hbb
  rw [hlen] at this
  have h4 : 256 ^ n ≤ 256 ^ 4 := Nat.pow_le_pow_right (by decide) hn
  rw [show (256 : Nat) ^ 4 = 4294967296 from rfl] at h4
  simp only []
  rw [w64 (by omega) (by omega), e]
  exact Ev.now _
theorem decP_drop (b : List Int) (i : Nat) : decP ((b.drop 4).drop (12 * i)) = ⟨(numN ((b.drop (4 + 12 * i)).take 4) : Int), (numN ((b.drop (4 + 12 * i + 4)).take 4) : Int), (numN ((b.drop (4 + 12 * i + 8)).take 2) : Int), (((numN ((b.drop (4 + 12 * i + 10)).take 2) : Nat) : Int) == 1)⟩ := by
  unfold decP
  simp only [List.drop_drop]
theorem pext_l0 (b : List Int) (hb : ∀ x ∈ b, isByte x) (n : Nat) (h : 4 + 12 * n ≤ b.length) (hl : b.length ≤ 256) : ∀ (d i : Nat), i + d = n →
    Ev (fun k => extent_page_extents.l0 k b (decF decP (b.drop 4) i) (n : Int) (i : Int)) (decF decP (b.drop 4) n)
  | 0, i, hd => by
    refine Ev.succ ?_
    simp only [extent_page_extents.l0, if_neg (show ¬ ((i : Int) < (n : Int)) by omega)]
    obtain rfl : i = n := by omega
    exact Ev.now _
  | d + 1, i, hd => by
    refine Ev.succ ?_
    simp only [extent_page_extents.l0, if_pos (show (i : Int) < (n : Int) by omega), wp0 i (by omega), wpk4 i (by omega), wpk8 i (by omega), wpk10 i (by omega), wps i (by omega), decF_len, if_pos (show i < 4398046511104 by omega)]
    refine Ev.bind (pget_ev b hb _ _ (4 + 12 * i) 4 rfl rfl (by omega) (by decide) hl) ?_
    refine Ev.bind (pget_ev b hb _ _ (4 + 12 * i + 4) 4 rfl rfl (by omega) (by decide) hl) ?_
    refine Ev.bind (pget_ev b hb _ _ (4 + 12 * i + 8) 2 rfl rfl (by omega) (by decide) hl) ?_
    refine Ev.bind (pget_ev b hb _ _ (4 + 12 * i + 10) 2 rfl rfl (by omega) (by decide) hl) ?_
    have ih := pext_l0 b hb n h hl d (i + 1) (by omega)
    rw [decF_snoc, decP_drop] at ih
    exact ih
theorem pext_ev (b : List Int) (hb : ∀ x ∈ b, isByte x) (n : Nat) (a1 : Int) (h1 : a1 = (n : Int)) (h : 4 + 12 * n ≤ b.length) (hl : b.length ≤ 256) : Ev (fun k => extent_page_extents.f k b a1) (decF decP (b.drop 4) n) := by
  subst h1
  exact pext_l0 b hb n h hl n 0 (by omega)
def numsD (l : List Int) : Bool := l.all numOk && decide l.Nodup
theorem same_lit (a b : Int) : ((Lit.int .i64 a).sameKey (Lit.int .i64 b)) = decide (a = b) := by
  by_cases h : a = b
  · subst h; simp [Lit.sameKey]
  · rw [decide_eq_false h]
    exact Go.Maps.sameKey_ne (fun e => h (by injection e))
theorem foldKey (xs : List Int) : ∀ acc : List Int, acc.Nodup → ((xs.map (Lit.int .i64)).foldl addKey (acc.map (Lit.int .i64))).length ≤ acc.length + xs.length ∧
    (((xs.map (Lit.int .i64)).foldl addKey (acc.map (Lit.int .i64))).length = acc.length + xs.length ↔ (acc ++ xs).Nodup) := by
  induction xs with
  | nil => intro acc hacc; simp [hacc]
  | cons x xs ih =>
    intro acc hacc
    rw [List.map_cons, List.foldl_cons]
    have hany : (acc.map (Lit.int .i64)).any (fun y => y.sameKey (Lit.int .i64 x)) = acc.contains x := by
      rw [List.any_map, List.contains_eq_any_beq]
      congr 1
      funext y
      show (Lit.int .i64 y).sameKey (Lit.int .i64 x) = (x == y)
      rw [same_lit]
      by_cases h : y = x
      · subst h; simp
      · rw [decide_eq_false h]
        have : ¬ (x = y) := fun e => h e.symm
        simp [this]
    have hs : addKey (acc.map (Lit.int .i64)) (Lit.int .i64 x) = if acc.contains x = true then acc.map (Lit.int .i64) else acc.map (Lit.int .i64) ++ [Lit.int .i64 x] := by unfold addKey; rw [hany]
    rw [hs]
    by_cases hc : acc.contains x = true
    · rw [if_pos hc]
      obtain ⟨h1, h2⟩ := ih acc hacc
      have hm : x ∈ acc := List.contains_iff_mem.1 hc
      refine ⟨by rw [List.length_cons]; omega, ⟨fun h => ?_, fun h => ?_⟩⟩
      · rw [List.length_cons] at h; omega
      · have := (List.nodup_append.1 h).2.2 x hm x List.mem_cons_self
        exact absurd rfl this
    · rw [if_neg hc]
      have hm : x ∉ acc := fun h => hc (List.contains_iff_mem.2 h)
      have e : acc.map (Lit.int .i64) ++ [Lit.int .i64 x] = (acc ++ [x]).map (Lit.int .i64) := by rw [List.map_append]; rfl
      rw [e]
      have hnd : (acc ++ [x]).Nodup := List.nodup_append.2 ⟨hacc, List.nodup_cons.2 ⟨List.not_mem_nil, List.nodup_nil⟩, fun a ha b hb => by
        rw [List.mem_singleton.1 hb]; exact fun e => hm (e ▸ ha)⟩
      obtain ⟨h1, h2⟩ := ih (acc ++ [x]) hnd
      rw [List.length_append, List.length_singleton] at h1 h2
      rw [List.append_assoc, List.singleton_append] at h2
      rw [List.length_cons, show acc.length + (xs.length + 1) = acc.length + 1 + xs.length by omega]
      exact ⟨h1, h2⟩
theorem pnumbers_f (l : List Int) : extent_numbers.f l = some (numsD l) := by
  unfold extent_numbers.f numsD
  congr 2
  have h := (foldKey l [] List.nodup_nil).2
  rw [List.map_nil, List.length_nil, Nat.zero_add, List.nil_append] at h
  exact decide_eq_decide.2 h
theorem numsD_ok {l : List Int} (h : numsD l = true) : (∀ b ∈ l, 1 ≤ b ∧ b < 1024) ∧ l.Nodup := by
  unfold numsD at h
  rw [Bool.and_eq_true] at h
  refine ⟨fun b hb => ?_, of_decide_eq_true h.2⟩
  have := List.all_eq_true.1 h.1 b hb
  unfold numOk at this
  rw [Bool.and_eq_true] at this
  exact ⟨of_decide_eq_true this.1, of_decide_eq_true this.2⟩
theorem pnode_ev (l : List E24) (hl : ∀ e ∈ l, mayE e = true) (hn : l.length ≤ 20) : Ev (fun k => nodeF k l) (nodeL l) := by
  unfold nodeF
  refine Ev.bind (plist_ev 256 l hl (by omega) (by omega)) ?_
  have hX : (hdr l.length 0 ++ encL l).length = 4 + 12 * l.length := by rw [List.length_append, hdr_len, encL_len]
  have hP : padN (hdr l.length 0 ++ encL l) 256 = nodeC l ++ List.replicate 4 0 := by
    unfold nodeC padN
    rw [hX]
    obtain ⟨X, hXe⟩ : ∃ X, hdr l.length 0 ++ encL l = X := ⟨_, rfl⟩
    rw [hXe, List.append_assoc, List.replicate_append_replicate, show 252 - (4 + 12 * l.length) + 4 = 256 - (4 + 12 * l.length) by omega]
  have hc := nodeC_len l hn
  rw [hP]
  simp only [if_pos (show (nodeC l ++ List.replicate 4 (0 : Int)).length = 256 by rw [List.length_append, hc, List.length_replicate]), take_exact hc]
  refine Ev.bind (crc_sum_ev (nodeC l) (by omega)) ?_
  have hs := (sumB (nodeC l)).isLt
  rw [w64 (by omega) (by omega)]
  have h := pput_ev (nodeC l) 4 252 4 (sumB (nodeC l)).toNat 252 4 ((sumB (nodeC l)).toNat : Int) rfl rfl rfl hc (by decide) (by decide) (by decide) (by omega)
  rw [show List.replicate (4 - 4) (0 : Int) = [] from rfl, List.append_nil] at h
  exact h
def nodesX (l : List E24) : List (List Int) := (List.range (chunkN l.length)).map (fun x => nodeL (chunkOf l x))
theorem chunkOf_le (l : List E24) (x : Nat) : (chunkOf l x).length ≤ 20 := by
  unfold chunkOf
  rw [List.length_drop, List.length_take]
  omega
theorem chunkOf_mem {l : List E24} {x : Nat} {e : E24} (h : e ∈ chunkOf l x) : e ∈ l := List.mem_of_mem_take (List.mem_of_mem_drop h)
theorem pnodes_ev (l : List E24) (hl : ∀ e ∈ l, mayE e = true) : ∀ xs : List Nat, Ev (fun k => nodesF k l xs) (xs.map (fun x => nodeL (chunkOf l x)))
  | [] => Ev.now _
  | x :: xs => by
    unfold nodesF
    exact Ev.bind (pnode_ev _ (fun e he => hl e (chunkOf_mem he)) (chunkOf_le l x)) (Ev.bind (pnodes_ev l hl xs) (Ev.now _))
def needN (l : List E24) : Nat := if l.length ≤ 4 then 0 else (l.length + 19) / 20
theorem needX_good {l : List E24} (h : chkB l = true) : needX l = (needN l : Int) := by
  have h60 := (chk_ok h).1
  unfold needX needN
  rw [if_pos h]
  by_cases h4 : l.length ≤ 4
  · rw [if_pos (by omega), if_pos h4]; rfl
  · rw [if_neg (by omega), if_neg h4, w64 (n := (l.length : Int) + 20) (by omega) (by omega), w64 (n := (l.length : Int) + 20 - 1) (by omega) (by omega)]
    have e : ((l.length : Int) + 20 - 1) = ((l.length + 19 : Nat) : Int) := by omega
    rw [e, Int.tdiv_eq_ediv_of_nonneg (by omega)]
    have e2 : ((l.length + 19 : Nat) : Int) / 20 = (((l.length + 19) / 20 : Nat) : Int) := by omega
    rw [e2, w64 (by omega) (by omega)]
theorem needX_bad {l : List E24} (h : ¬ chkB l = true) : needX l = -1 := if_neg h
theorem mays {l : List E24} (h : chkB l = true) : ∀ e ∈ l, mayE e = true := pre_may (chk_ok h).2.1
def storeX (l : List E24) (b : List Int) : List Int × List (List Int) × Int :=
  if chkB l = true ∧ needN l = b.length ∧ numsD b = true then (if needN l = 0 then (rootL l, [], 0) else (idxL b, nodesX l, 0)) else ([], [], 1)
theorem pstore_ev (l : List E24) (b : List Int) : Ev (fun k => extent_Store.f k l b) (storeX l b) := by
  unfold extent_Store.f storeX
  refine Ev.bind (need_ev l) ?_
  by_cases h : chkB l = true
  · have h60 := (chk_ok h).1
    rw [needX_good h]
    simp only [if_neg (show ¬ ((needN l : Int) < 0) by omega), pnumbers_f]
    by_cases hb : needN l = b.length
    · simp only [if_pos (show (needN l : Int) = (b.length : Int) by omega)]
      by_cases hn : numsD b = true
      · rw [if_pos ⟨h, hb, hn⟩]
        by_cases hz : needN l = 0
        · have h4 : l.length ≤ 4 := by unfold needN at hz; split at hz <;> omega
          rw [if_pos hz]
          simp only [hn, Cr.bs, if_true, if_pos (show (needN l : Int) = 0 by omega)]
          exact Ev.bind (plist_ev 60 l (mays h) (by omega) (by omega)) (Ev.now _)
        · have h4 : ¬ l.length ≤ 4 := fun h4 => hz (if_pos h4)
          have hnl : needN l = (l.length + 19) / 20 := if_neg h4
          rw [if_neg hz]
          simp only [hn, Cr.bs, if_true, if_neg (show ¬ ((needN l : Int) = 0) by omega), if_pos (show 0 < l.length ∧ l.length ≤ 60 by omega)]
          exact Ev.bind (pnodes_ev l (mays h) _) (Ev.bind (pindex_ev b (fun x hx => by have := (numsD_ok hn).1 x hx; omega) (by omega)) (Ev.now _))
      · rw [if_neg (fun hh => hn hh.2.2)]
        have hnf : numsD b = false := by simpa using hn
        simp only [hnf, Cr.bs, if_neg (show ¬ (false = true) by decide)]
        exact Ev.now _
    · rw [if_neg (fun hh => hb hh.2.1)]
      simp only [if_neg (show ¬ ((needN l : Int) = (b.length : Int)) by omega)]
      exact Ev.now _
  · rw [needX_bad h, if_neg (fun hh => h hh.1)]
    simp only [if_pos (show (-1 : Int) < 0 by decide)]
    exact Ev.now _
end Go.Proofs.Ytopmjjnkolfciaa.Pr
end
section
namespace Go.Proofs.Ytopmjjnkolfciaa.Pr
open Go.RowKit Go.Proofs.YtopmjjnkolfciaaW.PrintWords Go.Proofs.YtopmjjnkolfciaaW.PrintMore Go.Proofs.Ytopmjjnkolfciaa.Od
open Go.Proofs.Ytopmjjnkolfciaa.Cr hiding Ev.succ
set_option linter.unusedVariables false
set_option linter.unusedSimpArgs false
set_option maxRecDepth 20000
theorem rb_ev (v n : Nat) (a : Int) (b : Int) (ha : a = (v : Int)) (hb : b = (n : Int)) (hv : v < 18446744073709551616) (hn : n ≤ 8) : Ev (fun k => r_01_Bytes.f k (IntKind.u64.wrap a) b) (bytesN n v) := by
  subst ha hb
  rw [u64_of v hv]
  exact rbytes_ev v n hn
theorem renc_ev (e : E24) (h : mayE e = true) : Ev (fun k => r_10_bytes.f k e.f0 e.f1 e.f2 e.f3) (encE e) := by
  have hm := mayE_facts h
  unfold r_10_bytes.f
  refine Ev.bind (rb_ev e.f0.toNat 4 _ _ (by omega) rfl (by omega) (by decide)) ?_
  refine Ev.bind (rb_ev e.f1.toNat 4 _ _ (by omega) rfl (by omega) (by decide)) ?_
  simp only [bytesN_len, Cr.bs, if_pos (show 4 + 4 < 140737488355328 by decide)]
  refine Ev.bind (rb_ev e.f2.toNat 2 _ _ (by omega) rfl (by omega) (by decide)) ?_
  simp only [bytesN_len, List.length_append, Cr.bs, if_pos (show 4 + 4 + 2 < 140737488355328 by decide), List.length_cons, List.length_nil, if_pos (show 4 + 4 + 2 + (0 + 1 + 1) < 140737488355328 by decide)]
  unfold encE flagB
  cases e.f3 with
  | true => simp only [if_true]; exact Ev.now _
  | false => simp only [if_neg (show ¬ (false = true) by decide)]; exact Ev.now _
theorem rlist_l0 (l : List E24) (hl : ∀ e ∈ l, mayE e = true) (hn : l.length ≤ 60) (f : Int) : ∀ (d i : Nat), i + d = l.length →
    Ev (fun k => r_10_list.l0 k l (hdr l.length f ++ encL (l.take i)) (i : Int)) (hdr l.length f ++ encL l)
  | 0, i, hd => by
    refine Ev.succ ?_
    simp only [r_10_list.l0, if_neg (show ¬ ((i : Int) < (l.length : Int)) by omega)]
    obtain rfl : i = l.length := by omega
    rw [List.take_length]
    exact Ev.now _
  | d + 1, i, hd => by
    have hi : i < l.length := by omega
    refine Ev.succ ?_
    have hpl : (hdr l.length f ++ encL (l.take i)).length = 4 + 12 * i := by rw [List.length_append, hdr_len, encL_len, List.length_take]; omega
    simp only [r_10_list.l0, if_pos (show (i : Int) < (l.length : Int) by omega), if_pos (show (0 : Int) ≤ (i : Int) by omega), rdT_get hi, wps i (by omega)]
    refine Ev.bind (renc_ev l[i] (hl _ (List.getElem_mem hi))) ?_
    simp only [hpl, encE_len, if_pos (show 4 + 12 * i + 12 < 140737488355328 by omega)]
    have ih := rlist_l0 l hl hn f d (i + 1) (by omega)
    rw [encL_snoc l i hi, ← List.append_assoc] at ih
    exact ih
theorem rlist_ev (l : List E24) (hl : ∀ e ∈ l, mayE e = true) (hn : l.length ≤ 60) (f : Int) : Ev (fun k => r_10_list.f k l f) (hdr l.length f ++ encL l) := by
  unfold r_10_list.f
  have h := rlist_l0 l hl hn f l.length 0 (by omega)
  have e : hdr l.length f ++ encL (l.take 0) = [((l.length : Int)) % 256, 0, f, 0] := by
    simp [hdr, encL]
  rw [e] at h
  exact h
theorem rfilled_ev (n : Nat) (hn : n ≤ 300) : ∀ (d : Nat) (b : List Int), b.length + d = n → Ev (fun k => r_10_filled.f k b (n : Int)) (padN b n)
  | 0, b, hd => by
    unfold r_10_filled.f
    refine Ev.succ ?_
    simp only [r_10_filled.l0, if_neg (show ¬ ((b.length : Int) < (n : Int)) by omega)]
    unfold padN
    rw [show n - b.length = 0 by omega]
    rw [List.replicate_zero, List.append_nil]
    exact Ev.now _
  | d + 1, b, hd => by
    unfold r_10_filled.f
    refine Ev.succ ?_
    simp only [r_10_filled.l0, if_pos (show (b.length : Int) < (n : Int) by omega), if_pos (show b.length < 140737488355328 by omega)]
    have ih := rfilled_ev n hn d (b ++ [0]) (by rw [List.length_append, List.length_singleton]; omega)
    have e : padN (b ++ [0]) n = padN b n := by
      unfold padN
      rw [List.length_append, List.length_singleton, List.append_assoc, show n - b.length = (n - (b.length + 1)) + 1 by omega, List.replicate_succ]
      rfl
    rw [e] at ih
    exact ih
theorem numsD_false_all {l : List Int} {i : Nat} (h : i < l.length) (hx : numOk l[i] = false) : numsD l = false := by
  unfold numsD
  have : l.all numOk = false := by
    rw [List.all_eq_false]
    exact ⟨l[i], List.getElem_mem h, by rw [hx]; decide⟩
  rw [this, Bool.false_and]
theorem numsD_false_dup {l : List Int} {i j : Nat} (hi : i < l.length) (hj : j < i) (h : l[j]'(by omega) = l[i]) : numsD l = false := by
  unfold numsD
  have : ¬ l.Nodup := fun hn => by
    exact List.pairwise_iff_getElem.1 hn j i (by omega) hi hj h
  rw [decide_eq_false this, Bool.and_false]
theorem rnumbers_l0 (l : List Int) (hl : l.length ≤ 60) : ∀ (d i : Nat), i + d = l.length → (∀ a (h : a < l.length), a < i → numOk l[a] = true) → (∀ a b (hb : b < l.length) (hab : a < b), b < i → l[a]'(by omega) ≠ l[b]) →
    Ev (fun k => r_10_numbers.l0 k l (i : Int)) (numsD l)
  | 0, i, hd, h1, h2 => by
    refine Ev.succ ?_
    simp only [r_10_numbers.l0, if_neg (show ¬ ((i : Int) < (l.length : Int)) by omega)]
    have e : numsD l = true := by
      unfold numsD
      rw [Bool.and_eq_true]
      refine ⟨List.all_eq_true.2 (fun x hx => ?_), decide_eq_true (List.pairwise_iff_getElem.2 (fun a b ha hb hab => h2 a b hb hab (by omega)))⟩
      · obtain ⟨a, ha, rfl⟩ := List.mem_iff_getElem.1 hx
        exact h1 a ha (by omega)
    rw [e]
    exact Ev.now _
  | d + 1, i, hd, h1, h2 => by
    have hi : i < l.length := by omega
    refine Ev.succ ?_
    simp only [r_10_numbers.l0, if_pos (show (i : Int) < (l.length : Int) by omega), if_pos (show (0 : Int) ≤ (i : Int) by omega), rd_get hi]
    by_cases hx : numOk l[i] = true
    · have hxx := hx
      unfold numOk at hxx
      rw [Bool.and_eq_true] at hxx
      have hx1 : 1 ≤ l[i] := of_decide_eq_true hxx.1
      have hx2 : l[i] < 1024 := of_decide_eq_true hxx.2
      simp only [if_neg (show ¬ (l[i] < 1) by omega), decide_eq_false (show ¬ (l[i] ≥ 1024) by omega)]
      refine Ev.succ ?_
      simp only [r_10_numbers.j1, if_neg (show ¬ (false = true) by decide)]
      have inner : ∀ (e j : Nat), j + e = i → (∀ a (ha : a < j) (hai : a < i), l[a]'(by omega) ≠ l[i]) → Ev (fun k => r_10_numbers.l1 k l (i : Int) (j : Int)) (numsD l) := by
        intro e
        induction e with
        | zero =>
          intro j hj hne
          obtain rfl : j = i := by omega
          refine Ev.succ ?_
          simp only [r_10_numbers.l1, if_neg (show ¬ ((j : Int) < (j : Int)) by omega), wps j (by omega)]
          refine rnumbers_l0 l hl d (j + 1) (by omega) (fun a ha hlt => ?_) (fun a b hb hab hlt => ?_)
          · by_cases he : a = j
            · subst he; exact hx
            · exact h1 a ha (by omega)
          · by_cases he : b = j
            · subst he; exact hne a hab hab
            · exact h2 a b hb hab (by omega)
        | succ e ih =>
          intro j hj hne
          have hji : j < i := by omega
          have hjl : j < l.length := by omega
          refine Ev.succ ?_
          simp only [r_10_numbers.l1, if_pos (show (j : Int) < (i : Int) by omega), if_pos (show (0 : Int) ≤ (j : Int) by omega), if_pos (show (j : Int) < (l.length : Int) by omega), if_pos (show (0 : Int) ≤ (i : Int) by omega), if_pos (show (i : Int) < (l.length : Int) by omega), rd_get hi, rd_get hjl, wps j (by omega)]
          by_cases he : l[j] = l[i]
          · simp only [if_pos he]
            rw [numsD_false_dup hi hji he]
            exact Ev.now _
          · simp only [if_neg he]
            refine ih (j + 1) (by omega) (fun a ha hlt => ?_)
            by_cases hea : a = j
            · subst hea; exact he
            · exact hne a (by omega) hlt
      exact inner i 0 (by omega) (fun a ha => by omega)
    · have hxf : numOk l[i] = false := by simpa using hx
      rw [numsD_false_all hi hxf]
      by_cases hx1 : l[i] < 1
      · simp only [if_pos hx1]
        refine Ev.succ ?_
        simp only [r_10_numbers.j1, if_true]
        exact Ev.now _
      · have hx2 : l[i] ≥ 1024 := by
          unfold numOk at hxf
          rw [decide_eq_true (show 1 ≤ l[i] by omega), Bool.true_and] at hxf
          have := of_decide_eq_false hxf
          omega
        simp only [if_neg hx1, decide_eq_true hx2]
        refine Ev.succ ?_
        simp only [r_10_numbers.j1, if_true]
        exact Ev.now _
theorem rnumbers_ev (l : List Int) (hl : l.length ≤ 60) : Ev (fun k => r_10_numbers.f k l) (numsD l) := by
  unfold r_10_numbers.f
  exact rnumbers_l0 l hl l.length 0 (by omega) (fun a _ h => by omega) (fun a b _ _ h => by omega)
end Go.Proofs.Ytopmjjnkolfciaa.Pr
end
section
namespace Go.Proofs.Ytopmjjnkolfciaa.Pr
open Go.RowKit Go.Proofs.YtopmjjnkolfciaaW.PrintWords Go.Proofs.YtopmjjnkolfciaaW.PrintMore Go.Proofs.Ytopmjjnkolfciaa.Od
open Go.Proofs.Ytopmjjnkolfciaa.Cr hiding Ev.succ
set_option linter.unusedVariables false
set_option linter.unusedSimpArgs false
set_option maxRecDepth 20000
theorem wm20 (i : Nat) (h : i ≤ 60) : wrap64 ((i : Int) * 20) = ((i * 20 : Nat) : Int) := by
  rw [w64 (by omega) (by omega)]; omega
theorem wm21 (i : Nat) (h : i ≤ 60) : wrap64 (((i + 1 : Nat) : Int) * 20) = (((i + 1) * 20 : Nat) : Int) := by
  rw [w64 (by omega) (by omega)]; omega
theorem mn_nat (a b : Nat) : mn (a : Int) (b : Int) = ((min a b : Nat) : Int) := by
  unfold mn; split <;> omega
theorem chunk_ref (l : List E24) (i : Nat) (h : i * 20 ≤ l.length) : (l.take (min l.length ((i + 1) * 20))).drop (i * 20) = chunkOf l i := by
  unfold chunkOf
  congr 2
  omega
theorem rstore_l0 (l : List E24) (b : List Int) (hl : ∀ e ∈ l, mayE e = true) (h60 : l.length ≤ 60) (hb : ∀ x ∈ b, 0 ≤ x ∧ x < 4294967296) (hn : chunkN l.length = b.length) : ∀ (d i : Nat), i + d = b.length →
    Ev (fun k => r_10_Store.l0 k l b (b.length : Int) (hdr b.length 1 ++ idxT (b.take i)) ((List.range i).map (fun x => nodeL (chunkOf l x))) (i : Int)) (idxL b, nodesX l, 0)
  | 0, i, hd => by
    refine Ev.succ ?_
    simp only [r_10_Store.l0, if_neg (show ¬ ((i : Int) < (b.length : Int)) by omega)]
    obtain rfl : i = b.length := by omega
    rw [List.take_length]
    have h3 : b.length ≤ 3 := by rw [← hn]; unfold chunkN; omega
    have hpl : (hdr b.length 1 ++ idxT b).length = 4 + 4 * b.length := by rw [List.length_append, hdr_len, idxT_len]
    have e : padN (hdr b.length 1 ++ idxT b) 60 = idxL b := rfl
    have e2 : (List.range b.length).map (fun x => nodeL (chunkOf l x)) = nodesX l := by unfold nodesX; rw [hn]
    rw [e2]
    have hf := rfilled_ev 60 (by omega) (60 - (4 + 4 * b.length)) (hdr b.length 1 ++ idxT b) (by rw [hpl]; omega)
    rw [e] at hf
    exact Ev.bind hf (Ev.now _)
  | d + 1, i, hd => by
    have hi : i < b.length := by omega
    have h3 : b.length ≤ 3 := by rw [← hn]; unfold chunkN; omega
    have hil : i * 20 ≤ l.length := by
      have h1 : i < chunkN l.length := by omega
      unfold chunkN at h1; omega
    have hx := hb b[i] (List.getElem_mem hi)
    have hpl : (hdr b.length 1 ++ idxT (b.take i)).length = 4 + 4 * i := by rw [List.length_append, hdr_len, idxT_len, List.length_take]; omega
    have hc20 := chunkOf_le l i
    have hcm : ∀ e ∈ chunkOf l i, mayE e = true := fun e he => hl e (chunkOf_mem he)
    have hnc := nodeC_len (chunkOf l i) hc20
    have hs := (sumB (nodeC (chunkOf l i))).isLt
    have hcl : (hdr (chunkOf l i).length 0 ++ encL (chunkOf l i)).length = 4 + 12 * (chunkOf l i).length := by rw [List.length_append, hdr_len, encL_len]
    have ih := rstore_l0 l b hl h60 hb hn d (i + 1) (by omega)
    rw [idxT_snoc b i hi, ← List.append_assoc, List.range_succ, List.map_append, List.map_cons, List.map_nil] at ih
    refine Ev.succ ?_
    simp only [r_10_Store.l0, if_pos (show (i : Int) < (b.length : Int) by omega), if_pos (show (0 : Int) ≤ (i : Int) by omega), rd_get hi, wps i (by omega), wm20 i (by omega), wm21 i (by omega), mn_nat, Int.toNat_natCast]
    refine Ev.bind (rb_ev b[i].toNat 4 _ _ (by omega) rfl (by omega) (by decide)) ?_
    simp only [hpl, bytesN_len, if_pos (show 4 + 4 * i + 4 < 140737488355328 by omega), if_pos (show (0 : Int) ≤ ((i * 20 : Nat) : Int) by omega), if_pos (show ((i * 20 : Nat) : Int) ≤ ((min l.length ((i + 1) * 20) : Nat) : Int) by omega), if_pos (show ((min l.length ((i + 1) * 20) : Nat) : Int) ≤ (l.length : Int) by omega), chunk_ref l i hil]
    refine Ev.bind (rlist_ev (chunkOf l i) hcm (by omega) 0) ?_
    refine Ev.bind (rfilled_ev 252 (by omega) (252 - (4 + 12 * (chunkOf l i).length)) _ (by rw [hcl]; omega)) ?_
    have e : padN (hdr (chunkOf l i).length 0 ++ encL (chunkOf l i)) 252 = nodeC (chunkOf l i) := rfl
    rw [e]
    refine Ev.bind (rsum_ev _ (by omega)) ?_
    refine Ev.bind (rb_ev (sumB (nodeC (chunkOf l i))).toNat 4 _ _ rfl rfl (by omega) (by decide)) ?_
    simp only [hnc, bytesN_len, List.length_map, List.length_range, if_pos (show 252 + 4 < 140737488355328 by decide), if_pos (show i < 5864062014805 by omega)]
    exact ih
theorem rstore_ev (l : List E24) (b : List Int) : Ev (fun k => r_10_Store.f k l b) (storeX l b) := by
  unfold r_10_Store.f storeX
  refine Ev.bind (rneed_ev l) ?_
  by_cases h : chkB l = true
  · have h60 := (chk_ok h).1
    rw [needX_good h]
    simp only [if_neg (show ¬ ((needN l : Int) < 0) by omega)]
    by_cases hb : needN l = b.length
    · have hnb : needN l ≤ 3 := by unfold needN; split <;> omega
      simp only [if_pos (show (b.length : Int) = (needN l : Int) by omega)]
      refine Ev.bind (rnumbers_ev b (by omega)) ?_
      by_cases hn : numsD b = true
      · rw [if_pos ⟨h, hb, hn⟩]
        simp only [hn, Bool.not_true]
        refine Ev.succ ?_
        simp only [r_10_Store.j0, if_neg (show ¬ (false = true) by decide)]
        by_cases hz : needN l = 0
        · have h4 : l.length ≤ 4 := by unfold needN at hz; split at hz <;> omega
          rw [if_pos hz]
          simp only [if_pos (show (needN l : Int) = 0 by omega)]
          refine Ev.bind (rlist_ev l (mays h) h60 0) ?_
          refine Ev.bind (rfilled_ev 60 (by omega) (60 - (4 + 12 * l.length)) _ (by rw [List.length_append, hdr_len, encL_len]; omega)) ?_
          exact Ev.now _
        · have h4 : ¬ l.length ≤ 4 := fun h4 => hz (if_pos h4)
          have hnl : needN l = (l.length + 19) / 20 := if_neg h4
          rw [if_neg hz]
          simp only [if_neg (show ¬ ((needN l : Int) = 0) by omega)]
          have hk := rstore_l0 l b (mays h) h60 (fun x hx => by have := (numsD_ok hn).1 x hx; omega) (by rw [← hb, hnl]; rfl) b.length 0 (by omega)
          have e : hdr b.length 1 ++ idxT (b.take 0) = [((needN l : Nat) : Int) % 256, 0, 1, 0] := by
            rw [hb]; simp [hdr, idxT]
          rw [e, List.range_zero, List.map_nil, ← hb] at hk
          exact hk
      · rw [if_neg (fun hh => hn hh.2.2)]
        have hnf : numsD b = false := by simpa using hn
        simp only [hnf, Bool.not_false]
        refine Ev.succ ?_
        simp only [r_10_Store.j0, if_true]
        exact Ev.now _
    · rw [if_neg (fun hh => hb hh.2.1)]
      simp only [if_neg (show ¬ ((b.length : Int) = (needN l : Int)) by omega)]
      refine Ev.succ ?_
      simp only [r_10_Store.j0, if_true]
      exact Ev.now _
  · rw [needX_bad h, if_neg (fun hh => h hh.1)]
    simp only [if_pos (show (-1 : Int) < 0 by decide)]
    refine Ev.succ ?_
    simp only [r_10_Store.j0, if_true]
    exact Ev.now _
end Go.Proofs.Ytopmjjnkolfciaa.Pr
end
section
namespace Go.Proofs.Ytopmjjnkolfciaa.Pr
open Go.RowKit Go.Proofs.YtopmjjnkolfciaaW.PrintWords Go.Proofs.YtopmjjnkolfciaaW.PrintMore Go.Proofs.Ytopmjjnkolfciaa.Od
open Go.Proofs.Ytopmjjnkolfciaa.Cr hiding Ev.succ
set_option linter.unusedVariables false
set_option linter.unusedSimpArgs false
set_option maxRecDepth 20000
abbrev RootR := List E24 × List Int × Int
def badR : RootR := ([], [], 13)
def finA (L : List E24) (b : List Int) : RootR := if (storeX L []).2.2 = 0 ∧ (storeX L []).1 = b then (L, [], 0) else badR
def finB (l : List Int) (b : List Int) : RootR := if numsD l = true ∧ idxL l = b then ([], l, 0) else badR
def rootP (b : List Int) : RootR :=
  if b.length = 60 then
    (if numN ((b.drop 2).take 2) = 0 ∧ numN (b.take 2) ≤ 4 then finA (decF decP (b.drop 4) (numN (b.take 2))) b
     else if numN ((b.drop 2).take 2) = 1 ∧ 1 ≤ numN (b.take 2) ∧ numN (b.take 2) ≤ 3 then finB (decN (b.drop 4) (numN (b.take 2))) b else badR)
  else badR
theorem str_eq {a b : List Int} (ha : ∀ x ∈ a, isByte x) (hb : ∀ x ∈ b, isByte x) : ((strOfNums a).toList = (strOfNums b).toList) ↔ a = b :=
  (toList_inj).trans (strOfNums_inj ha hb)
theorem storeX_byte (L : List E24) (bs : List Int) : ∀ x ∈ (storeX L bs).1, isByte x := by
  unfold storeX
  intro x hx
  split at hx
  · split at hx
    · exact rootL_byte L x hx
    · exact idxL_byte bs x hx
  · simp at hx
theorem beqE_ev (a b : List Int) (ha : ∀ x ∈ a, isByte x) (hb : ∀ x ∈ b, isByte x) : bytes_Equal.f a b = some (decide (a = b)) := by
  unfold bytes_Equal.f
  congr 1
  rw [Bool.eq_iff_iff, beq_iff_eq, decide_eq_true_iff]
  exact str_eq ha hb
theorem finA_ev (L : List E24) (b : List Int) (hb : ∀ x ∈ b, isByte x) : Ev (fun k => (extent_Store.f k L ([] : List Int)).bind fun bt => (if bt.2.2 = 0 then ((bytes_Equal.f bt.1 b).bind fun t => (if t = true then (some (L, ([] : List Int), 0)) else (some (([] : List E24), ([] : List Int), 13)))) else (some (([] : List E24), ([] : List Int), 13)))) (finA L b) := by
  refine Ev.bind (pstore_ev L []) ?_
  unfold finA
  by_cases h : (storeX L []).2.2 = 0
  · simp only [if_pos h, beqE_ev _ b (storeX_byte L []) hb, Cr.bs]
    by_cases he : (storeX L []).1 = b
    · simp only [decide_eq_true he, if_true]
      rw [if_pos ⟨h, he⟩]
      exact Ev.now _
    · simp only [decide_eq_false he, if_neg (show ¬ (false = true) by decide)]
      rw [if_neg (fun hh => he hh.2)]
      exact Ev.now _
  · simp only [if_neg h]
    rw [if_neg (fun hh => h hh.1)]
    exact Ev.now _
theorem decN_bound : ∀ (n : Nat) (c : List Int) (hc : ∀ x ∈ c, isByte x), ∀ x ∈ decN c n, 0 ≤ x ∧ x < 4294967296
  | 0, _, _, x, hx => by simp [decN] at hx
  | n + 1, c, hc, x, hx => by
    rw [decN] at hx
    rcases List.mem_cons.1 hx with rfl | hx
    · have h1 := numN_lt (c.take 4) (fun y hy => hc y (List.mem_of_mem_take hy))
      have h2 : 256 ^ (c.take 4).length ≤ 256 ^ 4 := Nat.pow_le_pow_right (by decide) (by rw [List.length_take]; omega)
      rw [show (256 : Nat) ^ 4 = 4294967296 from rfl] at h2
      omega
    · exact decN_bound n _ (fun y hy => hc y (List.mem_of_mem_drop hy)) x hx
theorem finB_ev (l b : List Int) (hl : ∀ x ∈ l, 0 ≤ x ∧ x < 4294967296) (hn : l.length ≤ 14) (hb : ∀ x ∈ b, isByte x) : Ev (fun k => (extent_numbers.f l).bind fun t => (if t = true then ((extent_index.f k l).bind fun t1 => ((bytes_Equal.f t1 b).bind fun t2 => (if t2 = true then (some (([] : List E24), l, (0 : Int))) else (some (([] : List E24), ([] : List Int), 13))))) else (some (([] : List E24), ([] : List Int), 13)))) (finB l b) := by
  unfold finB
  simp only [pnumbers_f, Cr.bs]
  by_cases h : numsD l = true
  · simp only [if_pos h]
    refine Ev.bind (pindex_ev l hl hn) ?_
    simp only [beqE_ev _ b (idxL_byte l) hb, Cr.bs]
    by_cases he : idxL l = b
    · simp only [decide_eq_true he, if_true]
      rw [if_pos ⟨h, he⟩]
      exact Ev.now _
    · simp only [decide_eq_false he, if_neg (show ¬ (false = true) by decide)]
      rw [if_neg (fun hh => he hh.2)]
      exact Ev.now _
  · simp only [if_neg h]
    rw [if_neg (fun hh => h hh.1)]
    exact Ev.now _
theorem proot_l0 (b : List Int) (hb : ∀ x ∈ b, isByte x) (hl : b.length = 60) (n : Nat) (hn : n ≤ 3) : ∀ (d i : Nat), i + d = n →
    Ev (fun k => extent_Root.l0 k b b (decN (b.drop 4) i) (n : Int) (i : Int)) (finB (decN (b.drop 4) n) b)
  | 0, i, hd => by
    refine Ev.succ ?_
    simp only [extent_Root.l0, if_neg (show ¬ ((i : Int) < (n : Int)) by omega)]
    obtain rfl : i = n := by omega
    exact finB_ev _ b (decN_bound i _ (fun y hy => hb y (List.mem_of_mem_drop hy))) (by rw [decN_len]; omega) hb
  | d + 1, i, hd => by
    refine Ev.succ ?_
    simp only [extent_Root.l0, if_pos (show (i : Int) < (n : Int) by omega), wp4 i (by omega), wps i (by omega), decN_len, if_pos (show i < 17592186044416 by omega)]
    refine Ev.bind (pget_ev b hb _ _ (4 + 4 * i) 4 rfl rfl (by omega) (by decide) (by omega)) ?_
    have ih := proot_l0 b hb hl n hn d (i + 1) (by omega)
    rw [decN_snoc, List.drop_drop] at ih
    exact ih
theorem proot_ev (b : List Int) (hb : ∀ x ∈ b, isByte x) : Ev (fun k => extent_Root.f k b) (rootP b) := by
  unfold extent_Root.f rootP
  by_cases hl : b.length = 60
  · rw [if_pos hl]
    simp only [if_pos (show (b.length : Int) = 60 by omega)]
    have h1 := pget_ev b hb 0 2 0 2 rfl rfl (by omega) (by decide) (by omega)
    rw [List.drop_zero] at h1
    refine Ev.bind h1 ?_
    refine Ev.bind (pget_ev b hb 2 2 2 2 rfl rfl (by omega) (by decide) (by omega)) ?_
    obtain ⟨n, hn⟩ : ∃ n, numN (b.take 2) = n := ⟨_, rfl⟩
    obtain ⟨m, hm⟩ : ∃ m, numN ((b.drop 2).take 2) = m := ⟨_, rfl⟩
    rw [hn, hm]
    by_cases hm0 : m = 0
    · simp only [if_pos (show (m : Int) = 0 by omega)]
      refine Ev.succ ?_
      by_cases hn4 : n ≤ 4
      · rw [if_pos ⟨hm0, hn4⟩]
        simp only [extent_Root.j0, decide_eq_true (show (n : Int) ≤ 4 by omega), if_true]
        exact Ev.bind (pext_ev b hb n _ rfl (by omega) (by omega)) (finA_ev _ b hb)
      · rw [if_neg (fun hh => hn4 hh.2), if_neg (fun hh => by omega)]
        simp only [extent_Root.j0, decide_eq_false (show ¬ ((n : Int) ≤ 4) by omega), if_neg (show ¬ (false = true) by decide), if_neg (show ¬ ((m : Int) = 1) by omega)]
        refine Ev.succ ?_
        simp only [extent_Root.j1, if_neg (show ¬ (false = true) by decide)]
        exact Ev.now _
    · rw [if_neg (fun hh => hm0 hh.1)]
      simp only [if_neg (show ¬ ((m : Int) = 0) by omega)]
      refine Ev.succ ?_
      simp only [extent_Root.j0, if_neg (show ¬ (false = true) by decide)]
      by_cases hm1 : m = 1
      · simp only [if_pos (show (m : Int) = 1 by omega)]
        by_cases hn1 : 1 ≤ n
        · simp only [if_pos (show (n : Int) ≥ 1 by omega)]
          refine Ev.succ ?_
          by_cases hn3 : n ≤ 3
          · rw [if_pos ⟨hm1, hn1, hn3⟩]
            simp only [extent_Root.j1, decide_eq_true (show (n : Int) ≤ 3 by omega), if_true]
            exact proot_l0 b hb hl n hn3 n 0 (by omega)
          · rw [if_neg (fun hh => hn3 hh.2.2)]
            simp only [extent_Root.j1, decide_eq_false (show ¬ ((n : Int) ≤ 3) by omega), if_neg (show ¬ (false = true) by decide)]
            exact Ev.now _
        · rw [if_neg (fun hh => hn1 hh.2.1)]
          simp only [if_neg (show ¬ ((n : Int) ≥ 1) by omega)]
          refine Ev.succ ?_
          simp only [extent_Root.j1, if_neg (show ¬ (false = true) by decide)]
          exact Ev.now _
      · rw [if_neg (fun hh => hm1 hh.1)]
        simp only [if_neg (show ¬ ((m : Int) = 1) by omega)]
        refine Ev.succ ?_
        simp only [extent_Root.j1, if_neg (show ¬ (false = true) by decide)]
        exact Ev.now _
  · rw [if_neg hl]
    simp only [if_neg (show ¬ ((b.length : Int) = 60) by omega)]
    exact Ev.now _
end Go.Proofs.Ytopmjjnkolfciaa.Pr
end
section
namespace Go.Proofs.Ytopmjjnkolfciaa.Pr
open Go.RowKit Go.Proofs.YtopmjjnkolfciaaW.PrintWords Go.Proofs.YtopmjjnkolfciaaW.PrintMore Go.Proofs.Ytopmjjnkolfciaa.Od
open Go.Proofs.Ytopmjjnkolfciaa.Cr hiding Ev.succ
set_option linter.unusedVariables false
set_option linter.unusedSimpArgs false
set_option maxRecDepth 20000
theorem hdr_take (n : Nat) (f : Int) (r : List Int) (hn : n < 256) (hf : f = 0 ∨ f = 1) : numN ((hdr n f ++ r).take 2) = n ∧ numN (((hdr n f ++ r).drop 2).take 2) = f.toNat ∧ rd (hdr n f ++ r) 0 = (n : Int) ∧ rd (hdr n f ++ r) 2 = f ∧ (hdr n f ++ r).drop 4 = r := by
  have h : n % 256 = n := Nat.mod_eq_of_lt hn
  have e : hdr n f = [(n : Int), 0, f, 0] := by unfold hdr; rw [h]
  rw [e]
  refine ⟨?_, ?_, rfl, rfl, rfl⟩
  · show numN [(n : Int), 0] = n
    simp [numN]
  · show numN [f, 0] = f.toNat
    simp [numN]
theorem rootL_form (L : List E24) : rootL L = hdr L.length 0 ++ (encL L ++ List.replicate (60 - (hdr L.length 0 ++ encL L).length) 0) := by
  unfold rootL padN; rw [List.append_assoc]
theorem idxL_form (l : List Int) : idxL l = hdr l.length 1 ++ (idxT l ++ List.replicate (60 - (hdr l.length 1 ++ idxT l).length) 0) := by
  show padN (hdr l.length 1 ++ idxT l) 60 = _
  unfold padN; rw [List.append_assoc]
theorem needN_zero {L : List E24} : needN L = 0 ↔ L.length ≤ 4 := by
  unfold needN
  constructor
  · intro h; split at h <;> omega
  · intro h; rw [if_pos h]
theorem storeX_root {L : List E24} (h : chkB L = true) (h4 : L.length ≤ 4) : storeX L [] = (rootL L, [], 0) := by
  unfold storeX
  have hz := needN_zero.2 h4
  rw [if_pos ⟨h, by rw [hz]; rfl, rfl⟩, if_pos hz]
theorem rootP_root {L : List E24} (h : chkB L = true) (h4 : L.length ≤ 4) : rootP (rootL L) = (L, [], 0) := by
  have hs := storeX_root h h4
  have hf : finA L (rootL L) = (L, [], 0) := by unfold finA; rw [hs, if_pos ⟨rfl, rfl⟩]
  have hlen := rootL_len L h4
  unfold rootP
  rw [if_pos hlen]
  have e := hdr_take L.length 0 (encL L ++ List.replicate (60 - (hdr L.length 0 ++ encL L).length) 0) (by omega) (.inl rfl)
  rw [← rootL_form] at e
  obtain ⟨p1, p2, p3, p4, p5⟩ := e
  rw [p1, p2, p5, if_pos ⟨rfl, h4⟩, decF_enc decP decP_enc L (mays h)]
  exact hf
theorem rootP_idx {l : List Int} (h : numsD l = true) (hn : 1 ≤ l.length ∧ l.length ≤ 3) : rootP (idxL l) = ([], l, 0) := by
  have hlen := idxL_len l (by omega)
  have hbd : ∀ x ∈ l, 0 ≤ x ∧ x < 4294967296 := fun x hx => by have := (numsD_ok h).1 x hx; omega
  have hf : finB l (idxL l) = ([], l, 0) := by unfold finB; rw [if_pos ⟨h, rfl⟩]
  unfold rootP
  rw [if_pos hlen]
  have e := hdr_take l.length 1 (idxT l ++ List.replicate (60 - (hdr l.length 1 ++ idxT l).length) 0) (by omega) (.inr rfl)
  rw [← idxL_form] at e
  obtain ⟨p1, p2, p3, p4, p5⟩ := e
  rw [p1, p2, p5, if_neg (fun hh => absurd hh.1 (by decide)), if_pos ⟨rfl, hn⟩]
  have hd : decN (idxT l ++ List.replicate (60 - (hdr l.length 1 ++ idxT l).length) 0) l.length = l := decN_enc l hbd _
  rw [hd]
  exact hf
end Go.Proofs.Ytopmjjnkolfciaa.Pr
end
section
namespace Go.Proofs.Ytopmjjnkolfciaa.Pr
open Go.RowKit Go.Proofs.YtopmjjnkolfciaaW.PrintWords Go.Proofs.YtopmjjnkolfciaaW.PrintMore Go.Proofs.Ytopmjjnkolfciaa.Od
open Go.Proofs.Ytopmjjnkolfciaa.Cr hiding Ev.succ
set_option linter.unusedVariables false
set_option linter.unusedSimpArgs false
set_option maxRecDepth 20000
abbrev JoinR := List E24 × Int
def badJ : JoinR := ([], 13)
def blk (k : Nat) : List Int := (List.range k).map (fun i => ((i + 1 : Nat) : Int))
theorem blk_len (k : Nat) : (blk k).length = k := by unfold blk; rw [List.length_map, List.length_range]
theorem blk_succ (k : Nat) : blk (k + 1) = blk k ++ [((k + 1 : Nat) : Int)] := by unfold blk; rw [List.range_succ, List.map_append]; rfl
def goodP (b : List Int) : Bool := decide (b.length = 256) && decide (numN (b.take 2) ≤ 20)
def goodR (b : List Int) : Bool := decide (b.length = 256) && decide ((rd b 0).toNat ≤ 20)
def decPn (b : List Int) : List E24 := decF decP (b.drop 4) (numN (b.take 2))
def decRn (b : List Int) : List E24 := decF decR (b.drop 4) (rd b 0).toNat
def finJ (L : List E24) (ns : List (List Int)) : JoinR := if (storeX L (blk ns.length)).2.2 = 0 ∧ (storeX L (blk ns.length)).2.1 = ns then (L, 0) else badJ
def joinP (ns : List (List Int)) : JoinR := if ns.length = 0 ∨ 3 < ns.length then badJ else if ns.all goodP = true then finJ (ns.flatMap decPn) ns else badJ
def joinR (ns : List (List Int)) : JoinR := if ns.length = 0 ∨ 3 < ns.length then badJ else if ns.all goodR = true then finJ (ns.flatMap decRn) ns else badJ
def bytesAll (ns : List (List Int)) : Prop := ∀ b ∈ ns, ∀ x ∈ b, isByte x
theorem rdL_get {l : List (List Int)} {i : Nat} (h : i < l.length) : rd_L5 l (i : Int) = l[i] := by
  unfold rd_L5; rw [Int.toNat_natCast, List.getD_eq_getElem?_getD, List.getElem?_eq_getElem h]; rfl
theorem storeX_bytes (L : List E24) (bs : List Int) : bytesAll (storeX L bs).2.1 := by
  unfold storeX
  intro b hb x hx
  split at hb
  · split at hb
    · simp at hb
    · obtain ⟨y, _, rfl⟩ := List.mem_map.1 hb
      exact nodeL_byte _ x hx
  · simp at hb
theorem storeX_nodes_len (L : List E24) (bs : List Int) : (storeX L bs).2.1.length ≤ 3 := by
  unfold storeX
  split
  · rename_i h
    split
    · exact Nat.zero_le _
    · have := (chk_ok h.1).1
      show (nodesX L).length ≤ 3
      unfold nodesX
      rw [List.length_map, List.length_range]
      unfold chunkN; omega
  · exact Nat.zero_le _
theorem equal_l0 (a b : List (List Int)) (ha : bytesAll a) (hb : bytesAll b) (hl : a.length = b.length) (h3 : a.length ≤ 60) : ∀ (d i : Nat), i + d = a.length → (∀ j (h1 : j < a.length) (h2 : j < b.length), j < i → a[j] = b[j]) →
    Ev (fun k => slices_EqualFunc_byte_byte_byte_byte.l0 k a b (i : Int)) (decide (a = b))
  | 0, i, hd, hp => by
    refine Ev.succ ?_
    unfold slices_EqualFunc_byte_byte_byte_byte.l0
    simp only [if_neg (show ¬ ((i : Int) < (a.length : Int)) by omega)]
    rw [decide_eq_true (List.ext_getElem hl (fun j h1 h2 => hp j h1 h2 (by omega)))]
    exact Ev.now _
  | d + 1, i, hd, hp => by
    have hi : i < a.length := by omega
    have hi2 : i < b.length := by omega
    refine Ev.succ ?_
    unfold slices_EqualFunc_byte_byte_byte_byte.l0
    simp only [if_pos (show (i : Int) < (a.length : Int) by omega), if_pos (show (0 : Int) ≤ (i : Int) by omega), if_pos (show (i : Int) < (b.length : Int) by omega), rdL_get hi, rdL_get hi2, beqE_ev a[i] b[i] (ha _ (List.getElem_mem hi)) (hb _ (List.getElem_mem hi2)), Cr.bs, wps i (by omega)]
    by_cases he : a[i] = b[i]
    · simp only [decide_eq_true he, if_true]
      refine equal_l0 a b ha hb hl h3 d (i + 1) (by omega) (fun j h1 h2 hj => ?_)
      by_cases hji : j = i
      · subst hji; exact he
      · exact hp j h1 h2 (by omega)
    · simp only [decide_eq_false he, if_neg (show ¬ (false = true) by decide)]
      rw [decide_eq_false (fun hh => he (by subst hh; rfl))]
      exact Ev.now _
theorem equal_ev (a b : List (List Int)) (ha : bytesAll a) (hb : bytesAll b) (h3 : a.length ≤ 60) : Ev (fun k => slices_EqualFunc_byte_byte_byte_byte.f k a b) (decide (a = b)) := by
  unfold slices_EqualFunc_byte_byte_byte_byte.f
  by_cases hl : a.length = b.length
  · simp only [if_pos (show (a.length : Int) = (b.length : Int) by omega)]
    exact equal_l0 a b ha hb hl h3 a.length 0 (by omega) (fun j _ _ h => by omega)
  · simp only [if_neg (show ¬ ((a.length : Int) = (b.length : Int)) by omega)]
    rw [decide_eq_false (fun hh => hl (congrArg List.length hh))]
    exact Ev.now _
theorem flat_take_succ {α : Type} (f : List Int → List α) (ns : List (List Int)) (i : Nat) (h : i < ns.length) : (ns.take (i + 1)).flatMap f = (ns.take i).flatMap f ++ f ns[i] := by
  rw [List.take_succ_eq_append_getElem h, List.flatMap_append]
  congr 1
  exact List.append_nil _
theorem flat_len (f : List Int → List E24) (ns : List (List Int)) (h : ∀ b ∈ ns, (f b).length ≤ 20) : (ns.flatMap f).length ≤ 20 * ns.length := by
  induction ns with
  | nil => simp
  | cons b ns ih =>
    have h1 := h b List.mem_cons_self
    have h2 := ih (fun x hx => h x (List.mem_cons_of_mem _ hx))
    rw [List.flatMap_cons, List.length_append, List.length_cons]
    omega
theorem pjoin_l0 (ns : List (List Int)) (hb : bytesAll ns) (h3 : ns.length ≤ 3) : ∀ (d i : Nat), i + d = ns.length → (∀ b ∈ ns.take i, goodP b = true) →
    Ev (fun k => extent_Join.l0 k ns ((ns.take i).flatMap decPn) (blk i) ns (ns.length : Int) (i : Int)) (if (ns.drop i).all goodP = true then finJ (ns.flatMap decPn) ns else badJ)
  | 0, i, hd, hg => by
    refine Ev.succ ?_
    simp only [extent_Join.l0, if_neg (show ¬ ((i : Int) < (ns.length : Int)) by omega)]
    obtain rfl : i = ns.length := by omega
    rw [List.take_length, List.drop_length]
    refine Ev.bind (pstore_ev _ _) ?_
    obtain ⟨L, hL⟩ : ∃ L, ns.flatMap decPn = L := ⟨_, rfl⟩
    rw [hL]
    have e : (if ([] : List (List Int)).all goodP = true then finJ L ns else badJ) = finJ L ns := rfl
    rw [e]
    unfold finJ
    by_cases h : (storeX L (blk ns.length)).2.2 = 0
    · simp only [if_pos h]
      refine Ev.bind (equal_ev _ ns (storeX_bytes _ _) hb (Nat.le_trans (storeX_nodes_len _ _) (by decide))) ?_
      by_cases he : (storeX L (blk ns.length)).2.1 = ns
      · simp only [decide_eq_true he, if_true]
        rw [if_pos ⟨h, he⟩]
        exact Ev.now _
      · simp only [decide_eq_false he, if_neg (show ¬ (false = true) by decide)]
        rw [if_neg (fun hh => he hh.2)]
        exact Ev.now _
    · simp only [if_neg h]
      rw [if_neg (fun hh => h hh.1)]
      exact Ev.now _
  | d + 1, i, hd, hg => by
    have hi : i < ns.length := by omega
    have hbi : ∀ x ∈ ns[i], isByte x := hb _ (List.getElem_mem hi)
    have hdrop : (ns.drop i).all goodP = (goodP ns[i] && (ns.drop (i + 1)).all goodP) := by
      rw [List.drop_eq_getElem_cons hi, List.all_cons]
    rw [hdrop]
    refine Ev.succ ?_
    simp only [extent_Join.l0, if_pos (show (i : Int) < (ns.length : Int) by omega), if_pos (show (0 : Int) ≤ (i : Int) by omega), rdL_get hi]
    by_cases hl : ns[i].length = 256
    · simp only [if_pos (show (ns[i].length : Int) = 256 by omega)]
      have hget := pget_ev ns[i] hbi 0 2 0 2 rfl rfl (by omega) (by decide) (by omega)
      rw [List.drop_zero] at hget
      refine Ev.bind hget ?_
      refine Ev.succ ?_
      by_cases hn : numN (ns[i].take 2) ≤ 20
      · have hgood : goodP ns[i] = true := by unfold goodP; rw [decide_eq_true hl, decide_eq_true hn]; rfl
        rw [hgood, Bool.true_and]
        simp only [extent_Join.j2, decide_eq_false (show ¬ (((numN (ns[i].take 2) : Nat) : Int) > 20) by omega), if_neg (show ¬ (false = true) by decide)]
        refine Ev.bind hget ?_
        refine Ev.bind (pext_ev ns[i] hbi _ _ rfl (by omega) (by omega)) ?_
        have hacc : ((ns.take i).flatMap decPn).length ≤ 20 * (ns.take i).length := flat_len _ _ (fun b hb' => by
          have := hg b hb'
          unfold goodP at this
          rw [Bool.and_eq_true] at this
          unfold decPn
          rw [decF_len]
          exact of_decide_eq_true this.2)
        rw [List.length_take] at hacc
        simp only [decF_len, blk_len, if_pos (show ((ns.take i).flatMap decPn).length + numN (ns[i].take 2) < 4398046511104 by omega), if_pos (show i < 17592186044416 by omega), wps i (by omega)]
        have ih := pjoin_l0 ns hb h3 d (i + 1) (by omega) (fun b hb' => by
          rw [List.take_succ_eq_append_getElem hi] at hb'
          rcases List.mem_append.1 hb' with h | h
          · exact hg b h
          · rw [List.mem_singleton.1 h]; exact hgood)
        rw [flat_take_succ decPn ns i hi, blk_succ] at ih
        exact ih
      · have hbad : goodP ns[i] = false := by unfold goodP; rw [decide_eq_false hn, Bool.and_false]
        rw [hbad, Bool.false_and]
        simp only [extent_Join.j2, decide_eq_true (show ((numN (ns[i].take 2) : Nat) : Int) > 20 by omega), if_true, if_neg (show ¬ (false = true) by decide)]
        exact Ev.now _
    · have hbad : goodP ns[i] = false := by unfold goodP; rw [decide_eq_false hl, Bool.false_and]
      rw [hbad, Bool.false_and]
      simp only [if_neg (show ¬ ((ns[i].length : Int) = 256) by omega)]
      refine Ev.succ ?_
      simp only [extent_Join.j2, if_true, if_neg (show ¬ (false = true) by decide)]
      exact Ev.now _
theorem pjoin_ev (ns : List (List Int)) (hb : bytesAll ns) : Ev (fun k => extent_Join.f k ns) (joinP ns) := by
  unfold extent_Join.f joinP
  by_cases h0 : ns.length = 0
  · simp only [if_pos (show (ns.length : Int) = 0 by omega)]
    rw [if_pos (.inl h0)]
    refine Ev.succ ?_
    simp only [extent_Join.j0, if_true]
    exact Ev.now _
  · simp only [if_neg (show ¬ ((ns.length : Int) = 0) by omega)]
    refine Ev.succ ?_
    by_cases h3 : 3 < ns.length
    · rw [if_pos (.inr h3)]
      simp only [extent_Join.j0, decide_eq_true (show (ns.length : Int) > 3 by omega), if_true]
      exact Ev.now _
    · rw [if_neg (fun hh => hh.elim h0 h3)]
      simp only [extent_Join.j0, decide_eq_false (show ¬ ((ns.length : Int) > 3) by omega), if_neg (show ¬ (false = true) by decide)]
      have h := pjoin_l0 ns hb (by omega) ns.length 0 (by omega) (fun b hb' => by simp at hb')
      exact h
end Go.Proofs.Ytopmjjnkolfciaa.Pr
end
section
namespace Go.Proofs.Ytopmjjnkolfciaa.Pr
open Go.RowKit Go.Proofs.YtopmjjnkolfciaaW.PrintWords Go.Proofs.YtopmjjnkolfciaaW.PrintMore Go.Proofs.Ytopmjjnkolfciaa.Od
open Go.Proofs.Ytopmjjnkolfciaa.Cr hiding Ev.succ
set_option linter.unusedVariables false
set_option linter.unusedSimpArgs false
set_option maxRecDepth 20000
theorem nodeL_form (C : List E24) : nodeL C = hdr C.length 0 ++ (encL C ++ (List.replicate (252 - (hdr C.length 0 ++ encL C).length) 0 ++ bytesN 4 (sumB (nodeC C)).toNat)) := by
  have e : nodeL C = nodeC C ++ bytesN 4 (sumB (nodeC C)).toNat := rfl
  rw [e]
  obtain ⟨t, ht⟩ : ∃ t, bytesN 4 (sumB (nodeC C)).toNat = t := ⟨_, rfl⟩
  rw [ht]
  unfold nodeC padN
  simp only [List.append_assoc]
theorem node_dec {C : List E24} (h : ∀ e ∈ C, mayE e = true) (hn : C.length ≤ 20) : goodP (nodeL C) = true ∧ goodR (nodeL C) = true ∧ decPn (nodeL C) = C ∧ decRn (nodeL C) = C := by
  have hlen := nodeL_len C hn
  have e := hdr_take C.length 0 (encL C ++ (List.replicate (252 - (hdr C.length 0 ++ encL C).length) 0 ++ bytesN 4 (sumB (nodeC C)).toNat)) (by omega) (.inl rfl)
  rw [← nodeL_form] at e
  obtain ⟨p1, p2, p3, p4, p5⟩ := e
  refine ⟨?_, ?_, ?_, ?_⟩
  · unfold goodP; rw [hlen, p1, decide_eq_true hn]; rfl
  · unfold goodR; rw [hlen, p3, Int.toNat_natCast, decide_eq_true hn]; rfl
  · unfold decPn; rw [p1, p5]; exact decF_enc decP decP_enc C h _
  · unfold decRn; rw [p3, Int.toNat_natCast, p5]; exact decF_enc decR decR_enc C h _
theorem chunks_take (l : List E24) : ∀ m : Nat, m ≤ chunkN l.length → (List.range m).flatMap (chunkOf l) = l.take (m * 20)
  | 0, _ => by simp
  | m + 1, h => by
    have hm : m * 20 ≤ l.length := by unfold chunkN at h; omega
    rw [List.range_succ, List.flatMap_append, chunks_take l m (by omega)]
    have e : List.flatMap (chunkOf l) [m] = chunkOf l m := List.append_nil _
    rw [e, ← chunk_ref l m hm]
    have e1 : l.take (m * 20) = (l.take (min l.length ((m + 1) * 20))).take (m * 20) := by
      rw [List.take_take]; congr 1; omega
    rw [e1, List.take_append_drop]
    rcases Nat.le_total l.length ((m + 1) * 20) with h1 | h1
    · rw [Nat.min_eq_left h1, List.take_length, List.take_of_length_le h1]
    · rw [Nat.min_eq_right h1]
theorem chunks_join (l : List E24) : (List.range (chunkN l.length)).flatMap (chunkOf l) = l := by
  rw [chunks_take l _ (Nat.le_refl _), List.take_of_length_le (by unfold chunkN; omega)]
theorem nodesX_len (l : List E24) : (nodesX l).length = chunkN l.length := by unfold nodesX; rw [List.length_map, List.length_range]
theorem nodesX_flat (l : List E24) (f : List Int → List E24) (h : ∀ x, f (nodeL (chunkOf l x)) = chunkOf l x) : (nodesX l).flatMap f = l := by
  unfold nodesX
  rw [List.flatMap_map]
  simp only [h]
  exact chunks_join l
theorem needN_chunk {l : List E24} (h : needN l ≠ 0) : needN l = chunkN l.length := by
  unfold needN chunkN at *
  split at h
  · exact absurd rfl h
  · rename_i h1; rw [if_neg h1]
theorem blk_nums (k : Nat) (h : k ≤ 3) : numsD (blk k) = true := by
  rcases (by omega : k = 0 ∨ k = 1 ∨ k = 2 ∨ k = 3) with rfl | rfl | rfl | rfl <;> decide
theorem finJ_nodes {L : List E24} (h : chkB L = true) (hn : needN L ≠ 0) : finJ L (nodesX L) = (L, 0) := by
  have h60 := (chk_ok h).1
  have hlen : (nodesX L).length = needN L := by rw [nodesX_len, needN_chunk hn]
  have h3 : needN L ≤ 3 := by rw [needN_chunk hn]; unfold chunkN; omega
  have hs : storeX L (blk (needN L)) = (idxL (blk (needN L)), nodesX L, 0) := by
    unfold storeX
    rw [if_pos ⟨h, (blk_len _).symm, blk_nums _ h3⟩, if_neg hn]
  unfold finJ
  rw [hlen, hs, if_pos ⟨rfl, rfl⟩]
theorem joinP_nodes {L : List E24} (h : chkB L = true) (hn : needN L ≠ 0) : joinP (nodesX L) = (L, 0) ∧ joinR (nodesX L) = (L, 0) := by
  have h60 := (chk_ok h).1
  have hlen : (nodesX L).length = needN L := by rw [nodesX_len, needN_chunk hn]
  have h3 : needN L ≤ 3 := by rw [needN_chunk hn]; unfold chunkN; omega
  have hd : ∀ x, goodP (nodeL (chunkOf L x)) = true ∧ goodR (nodeL (chunkOf L x)) = true ∧ decPn (nodeL (chunkOf L x)) = chunkOf L x ∧ decRn (nodeL (chunkOf L x)) = chunkOf L x := fun x => node_dec (fun e he => mays h e (chunkOf_mem he)) (chunkOf_le L x)
  have gP : (nodesX L).all goodP = true := List.all_eq_true.2 (fun b hb => by
    obtain ⟨x, _, rfl⟩ := List.mem_map.1 hb
    exact (hd x).1)
  have gR : (nodesX L).all goodR = true := List.all_eq_true.2 (fun b hb => by
    obtain ⟨x, _, rfl⟩ := List.mem_map.1 hb
    exact (hd x).2.1)
  unfold joinP joinR
  have hc : ¬ ((nodesX L).length = 0 ∨ 3 < (nodesX L).length) := by rw [hlen]; omega
  rw [if_neg hc, if_neg hc, if_pos gP, if_pos gR, nodesX_flat L decPn (fun x => (hd x).2.2.1), nodesX_flat L decRn (fun x => (hd x).2.2.2)]
  exact ⟨finJ_nodes h hn, finJ_nodes h hn⟩
end Go.Proofs.Ytopmjjnkolfciaa.Pr
end
section
namespace Go.Proofs.Ytopmjjnkolfciaa.Pr
open Go.RowKit Go.Proofs.YtopmjjnkolfciaaW.PrintWords Go.Proofs.YtopmjjnkolfciaaW.PrintLast Go.Proofs.YtopmjjnkolfciaaW.PrintMore
attribute [local go_sem] max2_int min2_int max_two min_two max_three min_three max_four min_four
attribute [local go_sem] Go.Proofs.Ytopmjjnkolfciaa.Hl.str_geq Go.Proofs.Ytopmjjnkolfciaa.Hl.str_gtr Go.Proofs.Ytopmjjnkolfciaa.Hl.str_leq
set_option linter.unusedVariables false
set_option linter.unusedSimpArgs false
attribute [local go_sem high] eqA24 eqA32
def l_10_alive.f (k:Nat)  : Option (Bool):=(extent_Put.f k (([(⟨2,52,3,false⟩:S24)]:List (S24))) 0 50 2 false).bind fun bt142=>((extent_Cut.f k bt142.1 1 3).bind fun bt146=>(if bt142.2=0 then (if (bt142.1.length:Int)=1 then (if 0 < (bt142.1.length:Int) then (if (((rd_T24 bt142.1 0).f0)==0&&(((rd_T24 bt142.1 0).f1)==50&&(((rd_T24 bt142.1 0).f2)==5&&(!((rd_T24 bt142.1 0).f3)))))=true then (if bt146.2.2=0 then (if (bt146.1.length:Int)=2 then (if 1 < (bt146.1.length:Int) then (if (((rd_T24 bt146.1 1).f0)==3&&(((rd_T24 bt146.1 1).f1)==53&&(((rd_T24 bt146.1 1).f2)==2&&(!((rd_T24 bt146.1 1).f3)))))=true then (if (bt146.2.1.length:Int)=1 then (if 0 < (bt146.2.1.length:Int) then (some (((rd_T32 bt146.2.1 0).f0)==51&&(((rd_T32 bt146.2.1 0).f1)==2))) else (none)) else (some false)) else (some false)) else (none)) else (some false)) else (some false)) else (some false)) else (none)) else (some false)) else (some false)))
set_option maxHeartbeats 8000000 in
set_option maxRecDepth 100000 in
theorem l_10_alive.calls (k:Nat)  (r:Bool) (w:World) (h:l_10_alive.f k  = some r) :
  Calls Try.prog 11 #[] w fun e w'=>e=.returned (.bool r)∧Below w.heap.size w w':=by
 have hu24:=Try.underlying24
 have hu32:=Try.underlying32
 have HB:=am (Below.refl w.heap.size w)
 have H:((extent_Put.f k (([(⟨2,52,3,false⟩:S24)]:List (S24))) 0 50 2 false).bind fun bt142=>((extent_Cut.f k bt142.1 1 3).bind fun bt146=>(if bt142.2=0 then (if (bt142.1.length:Int)=1 then (if 0 < (bt142.1.length:Int) then (if (((rd_T24 bt142.1 0).f0)==0&&(((rd_T24 bt142.1 0).f1)==50&&(((rd_T24 bt142.1 0).f2)==5&&(!((rd_T24 bt142.1 0).f3)))))=true then (if bt146.2.2=0 then (if (bt146.1.length:Int)=2 then (if 1 < (bt146.1.length:Int) then (if (((rd_T24 bt146.1 1).f0)==3&&(((rd_T24 bt146.1 1).f1)==53&&(((rd_T24 bt146.1 1).f2)==2&&(!((rd_T24 bt146.1 1).f3)))))=true then (if (bt146.2.1.length:Int)=1 then (if 0 < (bt146.2.1.length:Int) then (some (((rd_T32 bt146.2.1 0).f0)==51&&(((rd_T32 bt146.2.1 0).f1)==2))) else (none)) else (some false)) else (some false)) else (none)) else (some false)) else (some false)) else (some false)) else (none)) else (some false)) else (some false))))=some r:=h
 clear h
 obtain ⟨y139,hy139⟩:∃ y_:List (S24),y_=(([(⟨2,52,3,false⟩:S24)]:List (S24))):=⟨_,rfl⟩
 replace H:((extent_Put.f k y139 0 50 2 false).bind fun bt142=>((extent_Cut.f k bt142.1 1 3).bind fun bt146=>(if bt142.2=0 then (if (bt142.1.length:Int)=1 then (if 0 < (bt142.1.length:Int) then (if (((rd_T24 bt142.1 0).f0)==0&&(((rd_T24 bt142.1 0).f1)==50&&(((rd_T24 bt142.1 0).f2)==5&&(!((rd_T24 bt142.1 0).f3)))))=true then (if bt146.2.2=0 then (if (bt146.1.length:Int)=2 then (if 1 < (bt146.1.length:Int) then (if (((rd_T24 bt146.1 1).f0)==3&&(((rd_T24 bt146.1 1).f1)==53&&(((rd_T24 bt146.1 1).f2)==2&&(!((rd_T24 bt146.1 1).f3)))))=true then (if (bt146.2.1.length:Int)=1 then (if 0 < (bt146.2.1.length:Int) then (some (((rd_T32 bt146.2.1 0).f0)==51&&(((rd_T32 bt146.2.1 0).f1)==2))) else (none)) else (some false)) else (some false)) else (none)) else (some false)) else (some false)) else (some false)) else (none)) else (some false)) else (some false))))=some r:=by first|(rw [hy139];with_reducible exact H)|(have H2_:=(Option.bind_some _ _).symm.trans H;rw [hy139];with_reducible exact H2_)|(have H2_:=(Option.bind_some _ _).symm.trans H;with_reducible exact H2_)|with_reducible exact H|(rw [hy139];exact H)|exact H
 have Ny139:=am hy139
 clear hy139
 replace H:=Option.bind_eq_some_iff.mp H
 obtain ⟨⟨t142,t145⟩,A10,H⟩:=H
 replace H:((extent_Cut.f k t142 1 3).bind fun bt146=>(if t145=0 then (if (t142.length:Int)=1 then (if 0 < (t142.length:Int) then (if (((rd_T24 t142 0).f0)==0&&(((rd_T24 t142 0).f1)==50&&(((rd_T24 t142 0).f2)==5&&(!((rd_T24 t142 0).f3)))))=true then (if bt146.2.2=0 then (if (bt146.1.length:Int)=2 then (if 1 < (bt146.1.length:Int) then (if (((rd_T24 bt146.1 1).f0)==3&&(((rd_T24 bt146.1 1).f1)==53&&(((rd_T24 bt146.1 1).f2)==2&&(!((rd_T24 bt146.1 1).f3)))))=true then (if (bt146.2.1.length:Int)=1 then (if 0 < (bt146.2.1.length:Int) then (some (((rd_T32 bt146.2.1 0).f0)==51&&(((rd_T32 bt146.2.1 0).f1)==2))) else (none)) else (some false)) else (some false)) else (none)) else (some false)) else (some false)) else (some false)) else (none)) else (some false)) else (some false)))=some r:=H
 have A1:=am A10
 clear A10
 replace H:=Option.bind_eq_some_iff.mp H
 obtain ⟨⟨t146,t147,t148⟩,A20,H⟩:=H
 replace H:(if t145=0 then (if (t142.length:Int)=1 then (if 0 < (t142.length:Int) then (if (((rd_T24 t142 0).f0)==0&&(((rd_T24 t142 0).f1)==50&&(((rd_T24 t142 0).f2)==5&&(!((rd_T24 t142 0).f3)))))=true then (if t148=0 then (if (t146.length:Int)=2 then (if 1 < (t146.length:Int) then (if (((rd_T24 t146 1).f0)==3&&(((rd_T24 t146 1).f1)==53&&(((rd_T24 t146 1).f2)==2&&(!((rd_T24 t146 1).f3)))))=true then (if (t147.length:Int)=1 then (if 0 < (t147.length:Int) then (some (((rd_T32 t147 0).f0)==51&&(((rd_T32 t147 0).f1)==2))) else (none)) else (some false)) else (some false)) else (none)) else (some false)) else (some false)) else (some false)) else (none)) else (some false)) else (some false))=some r:=H
 have A2:=am A20
 clear A20
 by_cases c3:t145=0
 ·rw [if_pos c3] at H
  have c3b0:(t145==0)=true:=beq_iff_eq.mpr c3
  have c3b1:(t145 != 0)=false:=bne_eq_false_iff_eq.mpr c3
  clear c3
  by_cases c4:(t142.length:Int)=1
  ·rw [if_pos c4] at H
   have c4b0:((t142.length:Int)==1)=true:=beq_iff_eq.mpr c4
   have c4b1:((t142.length:Int) != 1)=false:=bne_eq_false_iff_eq.mpr c4
   clear c4
   by_cases c5:0 < (t142.length:Int)
   ·rw [if_pos c5] at H
    have c5b0:decide (0 < (t142.length:Int))=true:=decide_eq_true c5
    have c5b1:decide (0 < t142.length)=true:=decide_eq_true (by omega)
    clear c5
    by_cases c6:(((rd_T24 t142 0).f0)==0&&(((rd_T24 t142 0).f1)==50&&(((rd_T24 t142 0).f2)==5&&(!((rd_T24 t142 0).f3)))))=true
    ·rw [if_pos c6] at H
     have c6b0:(((rd_T24 t142 0).f0)==0&&(((rd_T24 t142 0).f1)==50&&(((rd_T24 t142 0).f2)==5&&(!((rd_T24 t142 0).f3)))))=true:=c6
     (try (have c6b1:decide (((rd_T24 t142 0).f0)=0&&(((rd_T24 t142 0).f1)==50&&(((rd_T24 t142 0).f2)==5&&(!((rd_T24 t142 0).f3)))))=true:=by simpa using c6))
     (try (have c6b2:(((rd_T24 t142 0).f0)==0&&(((rd_T24 t142 0).f1)==50&&(((rd_T24 t142 0).f2)==5&&(!((rd_T24 t142 0).f3)))))=true:=by simpa using c6))
     clear c6
     by_cases c7:t148=0
     ·rw [if_pos c7] at H
      have c7b0:(t148==0)=true:=beq_iff_eq.mpr c7
      have c7b1:(t148 != 0)=false:=bne_eq_false_iff_eq.mpr c7
      clear c7
      by_cases c8:(t146.length:Int)=2
      ·rw [if_pos c8] at H
       have c8b0:((t146.length:Int)==2)=true:=beq_iff_eq.mpr c8
       have c8b1:((t146.length:Int) != 2)=false:=bne_eq_false_iff_eq.mpr c8
       clear c8
       by_cases c9:1 < (t146.length:Int)
       ·rw [if_pos c9] at H
        have c9b0:decide (1 < (t146.length:Int))=true:=decide_eq_true c9
        have c9b1:decide (1 < t146.length)=true:=decide_eq_true (by omega)
        clear c9
        by_cases c10:(((rd_T24 t146 1).f0)==3&&(((rd_T24 t146 1).f1)==53&&(((rd_T24 t146 1).f2)==2&&(!((rd_T24 t146 1).f3)))))=true
        ·rw [if_pos c10] at H
         have c10b0:(((rd_T24 t146 1).f0)==3&&(((rd_T24 t146 1).f1)==53&&(((rd_T24 t146 1).f2)==2&&(!((rd_T24 t146 1).f3)))))=true:=c10
         (try (have c10b1:decide (((rd_T24 t146 1).f0)=3&&(((rd_T24 t146 1).f1)==53&&(((rd_T24 t146 1).f2)==2&&(!((rd_T24 t146 1).f3)))))=true:=by simpa using c10))
         (try (have c10b2:(((rd_T24 t146 1).f0)==3&&(((rd_T24 t146 1).f1)==53&&(((rd_T24 t146 1).f2)==2&&(!((rd_T24 t146 1).f3)))))=true:=by simpa using c10))
         clear c10
         by_cases c11:(t147.length:Int)=1
         ·rw [if_pos c11] at H
          have c11b0:((t147.length:Int)==1)=true:=beq_iff_eq.mpr c11
          have c11b1:((t147.length:Int) != 1)=false:=bne_eq_false_iff_eq.mpr c11
          clear c11
          by_cases c12:0 < (t147.length:Int)
          ·rw [if_pos c12] at H
           have c12b0:decide (0 < (t147.length:Int))=true:=decide_eq_true c12
           have c12b1:decide (0 < t147.length)=true:=decide_eq_true (by omega)
           clear c12;obtain rfl:=Option.some.inj H
           go_enter Try.func11,Try.ntmps11
           go_wp2_with (first|((with_reducible refine gate_dst (N:=8) rfl ?_);(try (refine gate_guard (by rfl) ?_;dsimp only));refine Kd.R_lit k24 _ 24 ?hg (N:=8) ?hd (xs:=([(⟨2,52,3,false⟩:S24)]:List (S24))) (inner:=[.int .i64 2,.int .i64 52,.int .i64 3,.bool false]) (ok:=fun _=>True) (okp:=fun _=>True) ?hr ?hp (fun _ hk=>hk) trivial (Below.refl _ _) (Nat.le_refl _) (by simp) ?_;(case hd=>rfl);(case hg=>rfl);(case hr=>first|(go_simp;done)|(go_simp;rfl));(case hp=>exact (Reps.c4 (show Kd.M k24 _ _ _ (⟨2,52,3,false⟩:S24) [.int .i64 2,.int .i64 52,.int .i64 3,.bool false] from (k24_mkM _ _ _ (⟨2,52,3,false⟩:S24) )) (Reps.none _ _)));intro v140 w13 ho14 hb hg_ hnew_;clear hg_ hnew_;(first|rw [← Ny139.out] at ho14|(simp only [Int.reduceToNat] at ho14;rw [← Ny139.out] at ho14));have n0_:=am (Kd.R_lower ho14 (bz HB));have n1_:=bst HB hb;clear HB;have HO141:=n0_;have HB:=n1_;clear n0_ n1_;clear hb ho14;obtain ⟨Ao15,co15,eo15⟩:=Kd.R_slice HO141.out;subst eo15)|((with_reducible refine gate_callee (f:=14) rfl ?_);refine goesL_ (some 10) rfl rfl Try.func14 (by kernel_rfl) rfl #[.slice Ao15 y139.length co15,.agg #[.int .i64 0,.int .i64 50,.int .i64 2,.bool false]] rfl (by (try simp only [List.map_toArray,List.map_cons,List.map_nil]);first|done|rfl|(simp only [List.length_drop,List.length_take];rfl)) ?_;(with_reducible refine (extent_Put.calls k _ _ y139 0 50 2 false t142 t145 _ ?side1 ?side2 A1.out).mono ?_);(case side1=>exact cc (Kd.R_reads' HO141.out).2.2);(case side2=>exact (Kd.R_reads' HO141.out).2.1);rintro e w16 ⟨v143,rfl,ho0,hb⟩;refine ⟨_,rfl,?_⟩;have n0_:=am (Kd.R_elder' (rR HO141) (Kd.R_base ho0) hb);have n1_:=am (Kd.R_lower (Kd.R_new' ho0 (Kd.R_lt (rR HO141))) (bz HB));have n2_:=bst HB hb;clear HO141;clear HB;have HO141:=n0_;have HO144:=n1_;have HB:=n2_;clear n0_ n1_ n2_;(try clear hb);(try clear hb2);(try clear hk);(try clear hi);(try clear ho0);obtain ⟨Ao17,co17,eo17⟩:=Kd.R_slice HO144.out;subst eo17)|((with_reducible refine gate_callee (f:=13) rfl ?_);refine goesL_ (some 15) rfl rfl Try.func13 (by kernel_rfl) rfl #[.slice Ao17 t142.length co17,.int .i64 1,.int .i64 3] rfl (by (try simp only [List.map_toArray,List.map_cons,List.map_nil]);first|done|rfl|(simp only [List.length_drop,List.length_take];rfl)) ?_;(with_reducible refine (extent_Cut.calls k _ _ t142 1 3 t146 t147 t148 _ ?side1 ?side2 A2.out).mono ?_);(case side1=>exact cc (Kd.R_reads' HO144.out).2.2);(case side2=>exact (Kd.R_reads' HO144.out).2.1);rintro e w18 ⟨v149,v151,rfl,ho0,ho1,hb⟩;refine ⟨_,rfl,?_⟩;have n0_:=am (Kd.R_elder' (rR HO141) (Kd.R_base ho0) hb);have n1_:=am (Kd.R_elder' (rR HO144) (Kd.R_base ho0) hb);have n2_:=am (Kd.R_lower (Kd.R_new' (Kd.R_new' ho0 (Kd.R_lt (rR HO141))) (Kd.R_lt (rR HO144))) (bz HB));have n3_:=am (Kd.R_lower ho1 (bz HB));have n4_:=bst HB hb;clear HO141;clear HO144;clear HB;have HO141:=n0_;have HO144:=n1_;have HO150:=n2_;have HO152:=n3_;have HB:=n4_;clear n0_ n1_ n2_ n3_ n4_;(try clear hb);(try clear hb2);(try clear hk);(try clear hi);(try clear ho0);(try clear ho1);have p153:0≤(0:Int):=(by omega);have q153:0 < (t142.length:Int):=od;obtain ⟨ad153,e153,hx153_0,hx153_1,hx153_2,hx153_3⟩:=at_T24 (Kd.R_reads' HO144.out).2.2 0 p153 q153;cases e153;have qi153:(0 < t142.length)=True:=eq_true (by omega);(try rw [show ((0:Int)).toNat=0 from rfl] at hx153_0);(try rw [show 0*4=0 from rfl] at hx153_0);(try rw [Addr.add_zero'] at hx153_0);(try rw [show ((0:Int)).toNat=0 from rfl] at hx153_1);(try rw [show 0*4=0 from rfl] at hx153_1);(try rw [Addr.add_zero'] at hx153_1);(try rw [show ((0:Int)).toNat=0 from rfl] at hx153_2);(try rw [show 0*4=0 from rfl] at hx153_2);(try rw [Addr.add_zero'] at hx153_2);(try rw [show ((0:Int)).toNat=0 from rfl] at hx153_3);(try rw [show 0*4=0 from rfl] at hx153_3);(try rw [Addr.add_zero'] at hx153_3);replace p153:=eq_true p153;replace q153:=eq_true q153;obtain ⟨Ao19,co19,eo19⟩:=Kd.R_slice HO150.out;subst eo19;have p154:0≤(1:Int):=(by omega);have q154:1 < (t146.length:Int):=od;obtain ⟨ad154,e154,hx154_0,hx154_1,hx154_2,hx154_3⟩:=at_T24 (Kd.R_reads' HO150.out).2.2 1 p154 q154;cases e154;(try simp only [show (1:Int).toNat=1 from rfl,Nat.reduceMul,Nat.reduceEqDiff,Go.Addr.add,↓reduceIte] at hx154_0);(try simp only [show (1:Int).toNat=1 from rfl,Nat.reduceMul,Nat.reduceEqDiff,Go.Addr.add,↓reduceIte] at hx154_1);(try simp only [show (1:Int).toNat=1 from rfl,Nat.reduceMul,Nat.reduceEqDiff,Go.Addr.add,↓reduceIte] at hx154_2);(try simp only [show (1:Int).toNat=1 from rfl,Nat.reduceMul,Nat.reduceEqDiff,Go.Addr.add,↓reduceIte] at hx154_3);have qi154:(1 < t146.length)=True:=eq_true (by omega);(try rw [show ((1:Int)).toNat=1 from rfl] at hx154_0);(try rw [show 1*4=4 from rfl] at hx154_0);(try rw [show ((1:Int)).toNat=1 from rfl] at hx154_1);(try rw [show 1*4=4 from rfl] at hx154_1);(try rw [show ((1:Int)).toNat=1 from rfl] at hx154_2);(try rw [show 1*4=4 from rfl] at hx154_2);(try rw [show ((1:Int)).toNat=1 from rfl] at hx154_3);(try rw [show 1*4=4 from rfl] at hx154_3);replace p154:=eq_true p154;replace q154:=eq_true q154;obtain ⟨Ao20,co20,eo20⟩:=Kd.R_slice HO152.out;subst eo20;have p155:0≤(0:Int):=(by omega);have q155:0 < (t147.length:Int):=od;obtain ⟨ad155,e155,hx155_0,hx155_1⟩:=at_T32 (Kd.R_reads' HO152.out).2.2 0 p155 q155;cases e155;have qi155:(0 < t147.length)=True:=eq_true (by omega);(try rw [show ((0:Int)).toNat=0 from rfl] at hx155_0);(try rw [show 0*2=0 from rfl] at hx155_0);(try rw [Addr.add_zero'] at hx155_0);(try rw [show ((0:Int)).toNat=0 from rfl] at hx155_1);(try rw [show 0*2=0 from rfl] at hx155_1);(try rw [Addr.add_zero'] at hx155_1);replace p155:=eq_true p155;replace q155:=eq_true q155))
           go_ret
           exact ⟨by first|rfl|(simp [errW_none,errW_some]<;>rfl)|(simp [*,errW_none,errW_some]<;>rfl),bb HB⟩
          ·rw [if_neg c12] at H
           exact absurd H (by simp)
         ·rw [if_neg c11] at H
          have c11b0:((t147.length:Int)==1)=false:=beq_eq_false_iff_ne.mpr c11
          have c11b1:((t147.length:Int) != 1)=true:=bne_iff_ne.mpr c11
          obtain rfl:=Option.some.inj H
          go_enter Try.func11,Try.ntmps11
          go_wp2_with (first|((with_reducible refine gate_dst (N:=8) rfl ?_);(try (refine gate_guard (by rfl) ?_;dsimp only));refine Kd.R_lit k24 _ 24 ?hg (N:=8) ?hd (xs:=([(⟨2,52,3,false⟩:S24)]:List (S24))) (inner:=[.int .i64 2,.int .i64 52,.int .i64 3,.bool false]) (ok:=fun _=>True) (okp:=fun _=>True) ?hr ?hp (fun _ hk=>hk) trivial (Below.refl _ _) (Nat.le_refl _) (by simp) ?_;(case hd=>rfl);(case hg=>rfl);(case hr=>first|(go_simp;done)|(go_simp;rfl));(case hp=>exact (Reps.c4 (show Kd.M k24 _ _ _ (⟨2,52,3,false⟩:S24) [.int .i64 2,.int .i64 52,.int .i64 3,.bool false] from (k24_mkM _ _ _ (⟨2,52,3,false⟩:S24) )) (Reps.none _ _)));intro v140 w21 ho22 hb hg_ hnew_;clear hg_ hnew_;(first|rw [← Ny139.out] at ho22|(simp only [Int.reduceToNat] at ho22;rw [← Ny139.out] at ho22));have n0_:=am (Kd.R_lower ho22 (bz HB));have n1_:=bst HB hb;clear HB;have HO141:=n0_;have HB:=n1_;clear n0_ n1_;clear hb ho22;obtain ⟨Ao23,co23,eo23⟩:=Kd.R_slice HO141.out;subst eo23)|((with_reducible refine gate_callee (f:=14) rfl ?_);refine goesL_ (some 10) rfl rfl Try.func14 (by kernel_rfl) rfl #[.slice Ao23 y139.length co23,.agg #[.int .i64 0,.int .i64 50,.int .i64 2,.bool false]] rfl (by (try simp only [List.map_toArray,List.map_cons,List.map_nil]);first|done|rfl|(simp only [List.length_drop,List.length_take];rfl)) ?_;(with_reducible refine (extent_Put.calls k _ _ y139 0 50 2 false t142 t145 _ ?side1 ?side2 A1.out).mono ?_);(case side1=>exact cc (Kd.R_reads' HO141.out).2.2);(case side2=>exact (Kd.R_reads' HO141.out).2.1);rintro e w24 ⟨v143,rfl,ho0,hb⟩;refine ⟨_,rfl,?_⟩;have n0_:=am (Kd.R_elder' (rR HO141) (Kd.R_base ho0) hb);have n1_:=am (Kd.R_lower (Kd.R_new' ho0 (Kd.R_lt (rR HO141))) (bz HB));have n2_:=bst HB hb;clear HO141;clear HB;have HO141:=n0_;have HO144:=n1_;have HB:=n2_;clear n0_ n1_ n2_;(try clear hb);(try clear hb2);(try clear hk);(try clear hi);(try clear ho0);obtain ⟨Ao25,co25,eo25⟩:=Kd.R_slice HO144.out;subst eo25)|((with_reducible refine gate_callee (f:=13) rfl ?_);refine goesL_ (some 15) rfl rfl Try.func13 (by kernel_rfl) rfl #[.slice Ao25 t142.length co25,.int .i64 1,.int .i64 3] rfl (by (try simp only [List.map_toArray,List.map_cons,List.map_nil]);first|done|rfl|(simp only [List.length_drop,List.length_take];rfl)) ?_;(with_reducible refine (extent_Cut.calls k _ _ t142 1 3 t146 t147 t148 _ ?side1 ?side2 A2.out).mono ?_);(case side1=>exact cc (Kd.R_reads' HO144.out).2.2);(case side2=>exact (Kd.R_reads' HO144.out).2.1);rintro e w26 ⟨v149,v151,rfl,ho0,ho1,hb⟩;refine ⟨_,rfl,?_⟩;have n0_:=am (Kd.R_elder' (rR HO141) (Kd.R_base ho0) hb);have n1_:=am (Kd.R_elder' (rR HO144) (Kd.R_base ho0) hb);have n2_:=am (Kd.R_lower (Kd.R_new' (Kd.R_new' ho0 (Kd.R_lt (rR HO141))) (Kd.R_lt (rR HO144))) (bz HB));have n3_:=am (Kd.R_lower ho1 (bz HB));have n4_:=bst HB hb;clear HO141;clear HO144;clear HB;have HO141:=n0_;have HO144:=n1_;have HO150:=n2_;have HO152:=n3_;have HB:=n4_;clear n0_ n1_ n2_ n3_ n4_;(try clear hb);(try clear hb2);(try clear hk);(try clear hi);(try clear ho0);(try clear ho1);have p153:0≤(0:Int):=(by omega);have q153:0 < (t142.length:Int):=od;obtain ⟨ad153,e153,hx153_0,hx153_1,hx153_2,hx153_3⟩:=at_T24 (Kd.R_reads' HO144.out).2.2 0 p153 q153;cases e153;have qi153:(0 < t142.length)=True:=eq_true (by omega);(try rw [show ((0:Int)).toNat=0 from rfl] at hx153_0);(try rw [show 0*4=0 from rfl] at hx153_0);(try rw [Addr.add_zero'] at hx153_0);(try rw [show ((0:Int)).toNat=0 from rfl] at hx153_1);(try rw [show 0*4=0 from rfl] at hx153_1);(try rw [Addr.add_zero'] at hx153_1);(try rw [show ((0:Int)).toNat=0 from rfl] at hx153_2);(try rw [show 0*4=0 from rfl] at hx153_2);(try rw [Addr.add_zero'] at hx153_2);(try rw [show ((0:Int)).toNat=0 from rfl] at hx153_3);(try rw [show 0*4=0 from rfl] at hx153_3);(try rw [Addr.add_zero'] at hx153_3);replace p153:=eq_true p153;replace q153:=eq_true q153;obtain ⟨Ao27,co27,eo27⟩:=Kd.R_slice HO150.out;subst eo27;have p154:0≤(1:Int):=(by omega);have q154:1 < (t146.length:Int):=od;obtain ⟨ad154,e154,hx154_0,hx154_1,hx154_2,hx154_3⟩:=at_T24 (Kd.R_reads' HO150.out).2.2 1 p154 q154;cases e154;(try simp only [show (1:Int).toNat=1 from rfl,Nat.reduceMul,Nat.reduceEqDiff,Go.Addr.add,↓reduceIte] at hx154_0);(try simp only [show (1:Int).toNat=1 from rfl,Nat.reduceMul,Nat.reduceEqDiff,Go.Addr.add,↓reduceIte] at hx154_1);(try simp only [show (1:Int).toNat=1 from rfl,Nat.reduceMul,Nat.reduceEqDiff,Go.Addr.add,↓reduceIte] at hx154_2);(try simp only [show (1:Int).toNat=1 from rfl,Nat.reduceMul,Nat.reduceEqDiff,Go.Addr.add,↓reduceIte] at hx154_3);have qi154:(1 < t146.length)=True:=eq_true (by omega);(try rw [show ((1:Int)).toNat=1 from rfl] at hx154_0);(try rw [show 1*4=4 from rfl] at hx154_0);(try rw [show ((1:Int)).toNat=1 from rfl] at hx154_1);(try rw [show 1*4=4 from rfl] at hx154_1);(try rw [show ((1:Int)).toNat=1 from rfl] at hx154_2);(try rw [show 1*4=4 from rfl] at hx154_2);(try rw [show ((1:Int)).toNat=1 from rfl] at hx154_3);(try rw [show 1*4=4 from rfl] at hx154_3);replace p154:=eq_true p154;replace q154:=eq_true q154;obtain ⟨Ao28,co28,eo28⟩:=Kd.R_slice HO152.out;subst eo28))
          go_ret
          exact ⟨by first|rfl|(simp [errW_none,errW_some]<;>rfl)|(simp [*,errW_none,errW_some]<;>rfl),bb HB⟩
        ·rw [if_neg c10] at H
         have c10b0:(((rd_T24 t146 1).f0)==3&&(((rd_T24 t146 1).f1)==53&&(((rd_T24 t146 1).f2)==2&&(!((rd_T24 t146 1).f3)))))=false:=by simpa using c10
         (try (have c10b1:decide (((rd_T24 t146 1).f0)=3&&(((rd_T24 t146 1).f1)==53&&(((rd_T24 t146 1).f2)==2&&(!((rd_T24 t146 1).f3)))))=false:=by simpa using c10))
         (try (have c10b2:(((rd_T24 t146 1).f0)==3&&(((rd_T24 t146 1).f1)==53&&(((rd_T24 t146 1).f2)==2&&(!((rd_T24 t146 1).f3)))))=false:=by simpa using c10))
         (try (have c10b3:¬ (((rd_T24 t146 1).f0)=3&&(((rd_T24 t146 1).f1)==53&&(((rd_T24 t146 1).f2)==2&&(!((rd_T24 t146 1).f3))))):=by simpa using c10))
         clear c10;obtain rfl:=Option.some.inj H
         go_enter Try.func11,Try.ntmps11
         go_wp2_with (first|((with_reducible refine gate_dst (N:=8) rfl ?_);(try (refine gate_guard (by rfl) ?_;dsimp only));refine Kd.R_lit k24 _ 24 ?hg (N:=8) ?hd (xs:=([(⟨2,52,3,false⟩:S24)]:List (S24))) (inner:=[.int .i64 2,.int .i64 52,.int .i64 3,.bool false]) (ok:=fun _=>True) (okp:=fun _=>True) ?hr ?hp (fun _ hk=>hk) trivial (Below.refl _ _) (Nat.le_refl _) (by simp) ?_;(case hd=>rfl);(case hg=>rfl);(case hr=>first|(go_simp;done)|(go_simp;rfl));(case hp=>exact (Reps.c4 (show Kd.M k24 _ _ _ (⟨2,52,3,false⟩:S24) [.int .i64 2,.int .i64 52,.int .i64 3,.bool false] from (k24_mkM _ _ _ (⟨2,52,3,false⟩:S24) )) (Reps.none _ _)));intro v140 w29 ho30 hb hg_ hnew_;clear hg_ hnew_;(first|rw [← Ny139.out] at ho30|(simp only [Int.reduceToNat] at ho30;rw [← Ny139.out] at ho30));have n0_:=am (Kd.R_lower ho30 (bz HB));have n1_:=bst HB hb;clear HB;have HO141:=n0_;have HB:=n1_;clear n0_ n1_;clear hb ho30;obtain ⟨Ao31,co31,eo31⟩:=Kd.R_slice HO141.out;subst eo31)|((with_reducible refine gate_callee (f:=14) rfl ?_);refine goesL_ (some 10) rfl rfl Try.func14 (by kernel_rfl) rfl #[.slice Ao31 y139.length co31,.agg #[.int .i64 0,.int .i64 50,.int .i64 2,.bool false]] rfl (by (try simp only [List.map_toArray,List.map_cons,List.map_nil]);first|done|rfl|(simp only [List.length_drop,List.length_take];rfl)) ?_;(with_reducible refine (extent_Put.calls k _ _ y139 0 50 2 false t142 t145 _ ?side1 ?side2 A1.out).mono ?_);(case side1=>exact cc (Kd.R_reads' HO141.out).2.2);(case side2=>exact (Kd.R_reads' HO141.out).2.1);rintro e w32 ⟨v143,rfl,ho0,hb⟩;refine ⟨_,rfl,?_⟩;have n0_:=am (Kd.R_elder' (rR HO141) (Kd.R_base ho0) hb);have n1_:=am (Kd.R_lower (Kd.R_new' ho0 (Kd.R_lt (rR HO141))) (bz HB));have n2_:=bst HB hb;clear HO141;clear HB;have HO141:=n0_;have HO144:=n1_;have HB:=n2_;clear n0_ n1_ n2_;(try clear hb);(try clear hb2);(try clear hk);(try clear hi);(try clear ho0);obtain ⟨Ao33,co33,eo33⟩:=Kd.R_slice HO144.out;subst eo33)|((with_reducible refine gate_callee (f:=13) rfl ?_);refine goesL_ (some 15) rfl rfl Try.func13 (by kernel_rfl) rfl #[.slice Ao33 t142.length co33,.int .i64 1,.int .i64 3] rfl (by (try simp only [List.map_toArray,List.map_cons,List.map_nil]);first|done|rfl|(simp only [List.length_drop,List.length_take];rfl)) ?_;(with_reducible refine (extent_Cut.calls k _ _ t142 1 3 t146 t147 t148 _ ?side1 ?side2 A2.out).mono ?_);(case side1=>exact cc (Kd.R_reads' HO144.out).2.2);(case side2=>exact (Kd.R_reads' HO144.out).2.1);rintro e w34 ⟨v149,v151,rfl,ho0,ho1,hb⟩;refine ⟨_,rfl,?_⟩;have n0_:=am (Kd.R_elder' (rR HO141) (Kd.R_base ho0) hb);have n1_:=am (Kd.R_elder' (rR HO144) (Kd.R_base ho0) hb);have n2_:=am (Kd.R_lower (Kd.R_new' (Kd.R_new' ho0 (Kd.R_lt (rR HO141))) (Kd.R_lt (rR HO144))) (bz HB));have n3_:=am (Kd.R_lower ho1 (bz HB));have n4_:=bst HB hb;clear HO141;clear HO144;clear HB;have HO141:=n0_;have HO144:=n1_;have HO150:=n2_;have HO152:=n3_;have HB:=n4_;clear n0_ n1_ n2_ n3_ n4_;(try clear hb);(try clear hb2);(try clear hk);(try clear hi);(try clear ho0);(try clear ho1);have p153:0≤(0:Int):=(by omega);have q153:0 < (t142.length:Int):=od;obtain ⟨ad153,e153,hx153_0,hx153_1,hx153_2,hx153_3⟩:=at_T24 (Kd.R_reads' HO144.out).2.2 0 p153 q153;cases e153;have qi153:(0 < t142.length)=True:=eq_true (by omega);(try rw [show ((0:Int)).toNat=0 from rfl] at hx153_0);(try rw [show 0*4=0 from rfl] at hx153_0);(try rw [Addr.add_zero'] at hx153_0);(try rw [show ((0:Int)).toNat=0 from rfl] at hx153_1);(try rw [show 0*4=0 from rfl] at hx153_1);(try rw [Addr.add_zero'] at hx153_1);(try rw [show ((0:Int)).toNat=0 from rfl] at hx153_2);(try rw [show 0*4=0 from rfl] at hx153_2);(try rw [Addr.add_zero'] at hx153_2);(try rw [show ((0:Int)).toNat=0 from rfl] at hx153_3);(try rw [show 0*4=0 from rfl] at hx153_3);(try rw [Addr.add_zero'] at hx153_3);replace p153:=eq_true p153;replace q153:=eq_true q153;obtain ⟨Ao35,co35,eo35⟩:=Kd.R_slice HO150.out;subst eo35;have p154:0≤(1:Int):=(by omega);have q154:1 < (t146.length:Int):=od;obtain ⟨ad154,e154,hx154_0,hx154_1,hx154_2,hx154_3⟩:=at_T24 (Kd.R_reads' HO150.out).2.2 1 p154 q154;cases e154;(try simp only [show (1:Int).toNat=1 from rfl,Nat.reduceMul,Nat.reduceEqDiff,Go.Addr.add,↓reduceIte] at hx154_0);(try simp only [show (1:Int).toNat=1 from rfl,Nat.reduceMul,Nat.reduceEqDiff,Go.Addr.add,↓reduceIte] at hx154_1);(try simp only [show (1:Int).toNat=1 from rfl,Nat.reduceMul,Nat.reduceEqDiff,Go.Addr.add,↓reduceIte] at hx154_2);(try simp only [show (1:Int).toNat=1 from rfl,Nat.reduceMul,Nat.reduceEqDiff,Go.Addr.add,↓reduceIte] at hx154_3);have qi154:(1 < t146.length)=True:=eq_true (by omega);(try rw [show ((1:Int)).toNat=1 from rfl] at hx154_0);(try rw [show 1*4=4 from rfl] at hx154_0);(try rw [show ((1:Int)).toNat=1 from rfl] at hx154_1);(try rw [show 1*4=4 from rfl] at hx154_1);(try rw [show ((1:Int)).toNat=1 from rfl] at hx154_2);(try rw [show 1*4=4 from rfl] at hx154_2);(try rw [show ((1:Int)).toNat=1 from rfl] at hx154_3);(try rw [show 1*4=4 from rfl] at hx154_3);replace p154:=eq_true p154;replace q154:=eq_true q154))
         go_ret
         exact ⟨by first|rfl|(simp [errW_none,errW_some]<;>rfl)|(simp [*,errW_none,errW_some]<;>rfl),bb HB⟩
       ·rw [if_neg c9] at H
        exact absurd H (by simp)
      ·rw [if_neg c8] at H
       have c8b0:((t146.length:Int)==2)=false:=beq_eq_false_iff_ne.mpr c8
       have c8b1:((t146.length:Int) != 2)=true:=bne_iff_ne.mpr c8
       obtain rfl:=Option.some.inj H
       go_enter Try.func11,Try.ntmps11
       go_wp2_with (first|((with_reducible refine gate_dst (N:=8) rfl ?_);(try (refine gate_guard (by rfl) ?_;dsimp only));refine Kd.R_lit k24 _ 24 ?hg (N:=8) ?hd (xs:=([(⟨2,52,3,false⟩:S24)]:List (S24))) (inner:=[.int .i64 2,.int .i64 52,.int .i64 3,.bool false]) (ok:=fun _=>True) (okp:=fun _=>True) ?hr ?hp (fun _ hk=>hk) trivial (Below.refl _ _) (Nat.le_refl _) (by simp) ?_;(case hd=>rfl);(case hg=>rfl);(case hr=>first|(go_simp;done)|(go_simp;rfl));(case hp=>exact (Reps.c4 (show Kd.M k24 _ _ _ (⟨2,52,3,false⟩:S24) [.int .i64 2,.int .i64 52,.int .i64 3,.bool false] from (k24_mkM _ _ _ (⟨2,52,3,false⟩:S24) )) (Reps.none _ _)));intro v140 w36 ho37 hb hg_ hnew_;clear hg_ hnew_;(first|rw [← Ny139.out] at ho37|(simp only [Int.reduceToNat] at ho37;rw [← Ny139.out] at ho37));have n0_:=am (Kd.R_lower ho37 (bz HB));have n1_:=bst HB hb;clear HB;have HO141:=n0_;have HB:=n1_;clear n0_ n1_;clear hb ho37;obtain ⟨Ao38,co38,eo38⟩:=Kd.R_slice HO141.out;subst eo38)|((with_reducible refine gate_callee (f:=14) rfl ?_);refine goesL_ (some 10) rfl rfl Try.func14 (by kernel_rfl) rfl #[.slice Ao38 y139.length co38,.agg #[.int .i64 0,.int .i64 50,.int .i64 2,.bool false]] rfl (by (try simp only [List.map_toArray,List.map_cons,List.map_nil]);first|done|rfl|(simp only [List.length_drop,List.length_take];rfl)) ?_;(with_reducible refine (extent_Put.calls k _ _ y139 0 50 2 false t142 t145 _ ?side1 ?side2 A1.out).mono ?_);(case side1=>exact cc (Kd.R_reads' HO141.out).2.2);(case side2=>exact (Kd.R_reads' HO141.out).2.1);rintro e w39 ⟨v143,rfl,ho0,hb⟩;refine ⟨_,rfl,?_⟩;have n0_:=am (Kd.R_elder' (rR HO141) (Kd.R_base ho0) hb);have n1_:=am (Kd.R_lower (Kd.R_new' ho0 (Kd.R_lt (rR HO141))) (bz HB));have n2_:=bst HB hb;clear HO141;clear HB;have HO141:=n0_;have HO144:=n1_;have HB:=n2_;clear n0_ n1_ n2_;(try clear hb);(try clear hb2);(try clear hk);(try clear hi);(try clear ho0);obtain ⟨Ao40,co40,eo40⟩:=Kd.R_slice HO144.out;subst eo40)|((with_reducible refine gate_callee (f:=13) rfl ?_);refine goesL_ (some 15) rfl rfl Try.func13 (by kernel_rfl) rfl #[.slice Ao40 t142.length co40,.int .i64 1,.int .i64 3] rfl (by (try simp only [List.map_toArray,List.map_cons,List.map_nil]);first|done|rfl|(simp only [List.length_drop,List.length_take];rfl)) ?_;(with_reducible refine (extent_Cut.calls k _ _ t142 1 3 t146 t147 t148 _ ?side1 ?side2 A2.out).mono ?_);(case side1=>exact cc (Kd.R_reads' HO144.out).2.2);(case side2=>exact (Kd.R_reads' HO144.out).2.1);rintro e w41 ⟨v149,v151,rfl,ho0,ho1,hb⟩;refine ⟨_,rfl,?_⟩;have n0_:=am (Kd.R_elder' (rR HO141) (Kd.R_base ho0) hb);have n1_:=am (Kd.R_elder' (rR HO144) (Kd.R_base ho0) hb);have n2_:=am (Kd.R_lower (Kd.R_new' (Kd.R_new' ho0 (Kd.R_lt (rR HO141))) (Kd.R_lt (rR HO144))) (bz HB));have n3_:=am (Kd.R_lower ho1 (bz HB));have n4_:=bst HB hb;clear HO141;clear HO144;clear HB;have HO141:=n0_;have HO144:=n1_;have HO150:=n2_;have HO152:=n3_;have HB:=n4_;clear n0_ n1_ n2_ n3_ n4_;(try clear hb);(try clear hb2);(try clear hk);(try clear hi);(try clear ho0);(try clear ho1);have p153:0≤(0:Int):=(by omega);have q153:0 < (t142.length:Int):=od;obtain ⟨ad153,e153,hx153_0,hx153_1,hx153_2,hx153_3⟩:=at_T24 (Kd.R_reads' HO144.out).2.2 0 p153 q153;cases e153;have qi153:(0 < t142.length)=True:=eq_true (by omega);(try rw [show ((0:Int)).toNat=0 from rfl] at hx153_0);(try rw [show 0*4=0 from rfl] at hx153_0);(try rw [Addr.add_zero'] at hx153_0);(try rw [show ((0:Int)).toNat=0 from rfl] at hx153_1);(try rw [show 0*4=0 from rfl] at hx153_1);(try rw [Addr.add_zero'] at hx153_1);(try rw [show ((0:Int)).toNat=0 from rfl] at hx153_2);(try rw [show 0*4=0 from rfl] at hx153_2);(try rw [Addr.add_zero'] at hx153_2);(try rw [show ((0:Int)).toNat=0 from rfl] at hx153_3);(try rw [show 0*4=0 from rfl] at hx153_3);(try rw [Addr.add_zero'] at hx153_3);replace p153:=eq_true p153;replace q153:=eq_true q153;obtain ⟨Ao42,co42,eo42⟩:=Kd.R_slice HO150.out;subst eo42))
       go_ret
       exact ⟨by first|rfl|(simp [errW_none,errW_some]<;>rfl)|(simp [*,errW_none,errW_some]<;>rfl),bb HB⟩
     ·rw [if_neg c7] at H
      have c7b0:(t148==0)=false:=beq_eq_false_iff_ne.mpr c7
      have c7b1:(t148 != 0)=true:=bne_iff_ne.mpr c7
      obtain rfl:=Option.some.inj H
      go_enter Try.func11,Try.ntmps11
      go_wp2_with (first|((with_reducible refine gate_dst (N:=8) rfl ?_);(try (refine gate_guard (by rfl) ?_;dsimp only));refine Kd.R_lit k24 _ 24 ?hg (N:=8) ?hd (xs:=([(⟨2,52,3,false⟩:S24)]:List (S24))) (inner:=[.int .i64 2,.int .i64 52,.int .i64 3,.bool false]) (ok:=fun _=>True) (okp:=fun _=>True) ?hr ?hp (fun _ hk=>hk) trivial (Below.refl _ _) (Nat.le_refl _) (by simp) ?_;(case hd=>rfl);(case hg=>rfl);(case hr=>first|(go_simp;done)|(go_simp;rfl));(case hp=>exact (Reps.c4 (show Kd.M k24 _ _ _ (⟨2,52,3,false⟩:S24) [.int .i64 2,.int .i64 52,.int .i64 3,.bool false] from (k24_mkM _ _ _ (⟨2,52,3,false⟩:S24) )) (Reps.none _ _)));intro v140 w43 ho44 hb hg_ hnew_;clear hg_ hnew_;(first|rw [← Ny139.out] at ho44|(simp only [Int.reduceToNat] at ho44;rw [← Ny139.out] at ho44));have n0_:=am (Kd.R_lower ho44 (bz HB));have n1_:=bst HB hb;clear HB;have HO141:=n0_;have HB:=n1_;clear n0_ n1_;clear hb ho44;obtain ⟨Ao45,co45,eo45⟩:=Kd.R_slice HO141.out;subst eo45)|((with_reducible refine gate_callee (f:=14) rfl ?_);refine goesL_ (some 10) rfl rfl Try.func14 (by kernel_rfl) rfl #[.slice Ao45 y139.length co45,.agg #[.int .i64 0,.int .i64 50,.int .i64 2,.bool false]] rfl (by (try simp only [List.map_toArray,List.map_cons,List.map_nil]);first|done|rfl|(simp only [List.length_drop,List.length_take];rfl)) ?_;(with_reducible refine (extent_Put.calls k _ _ y139 0 50 2 false t142 t145 _ ?side1 ?side2 A1.out).mono ?_);(case side1=>exact cc (Kd.R_reads' HO141.out).2.2);(case side2=>exact (Kd.R_reads' HO141.out).2.1);rintro e w46 ⟨v143,rfl,ho0,hb⟩;refine ⟨_,rfl,?_⟩;have n0_:=am (Kd.R_elder' (rR HO141) (Kd.R_base ho0) hb);have n1_:=am (Kd.R_lower (Kd.R_new' ho0 (Kd.R_lt (rR HO141))) (bz HB));have n2_:=bst HB hb;clear HO141;clear HB;have HO141:=n0_;have HO144:=n1_;have HB:=n2_;clear n0_ n1_ n2_;(try clear hb);(try clear hb2);(try clear hk);(try clear hi);(try clear ho0);obtain ⟨Ao47,co47,eo47⟩:=Kd.R_slice HO144.out;subst eo47)|((with_reducible refine gate_callee (f:=13) rfl ?_);refine goesL_ (some 15) rfl rfl Try.func13 (by kernel_rfl) rfl #[.slice Ao47 t142.length co47,.int .i64 1,.int .i64 3] rfl (by (try simp only [List.map_toArray,List.map_cons,List.map_nil]);first|done|rfl|(simp only [List.length_drop,List.length_take];rfl)) ?_;(with_reducible refine (extent_Cut.calls k _ _ t142 1 3 t146 t147 t148 _ ?side1 ?side2 A2.out).mono ?_);(case side1=>exact cc (Kd.R_reads' HO144.out).2.2);(case side2=>exact (Kd.R_reads' HO144.out).2.1);rintro e w48 ⟨v149,v151,rfl,ho0,ho1,hb⟩;refine ⟨_,rfl,?_⟩;have n0_:=am (Kd.R_elder' (rR HO141) (Kd.R_base ho0) hb);have n1_:=am (Kd.R_elder' (rR HO144) (Kd.R_base ho0) hb);have n2_:=am (Kd.R_lower (Kd.R_new' (Kd.R_new' ho0 (Kd.R_lt (rR HO141))) (Kd.R_lt (rR HO144))) (bz HB));have n3_:=am (Kd.R_lower ho1 (bz HB));have n4_:=bst HB hb;clear HO141;clear HO144;clear HB;have HO141:=n0_;have HO144:=n1_;have HO150:=n2_;have HO152:=n3_;have HB:=n4_;clear n0_ n1_ n2_ n3_ n4_;(try clear hb);(try clear hb2);(try clear hk);(try clear hi);(try clear ho0);(try clear ho1);have p153:0≤(0:Int):=(by omega);have q153:0 < (t142.length:Int):=od;obtain ⟨ad153,e153,hx153_0,hx153_1,hx153_2,hx153_3⟩:=at_T24 (Kd.R_reads' HO144.out).2.2 0 p153 q153;cases e153;have qi153:(0 < t142.length)=True:=eq_true (by omega);(try rw [show ((0:Int)).toNat=0 from rfl] at hx153_0);(try rw [show 0*4=0 from rfl] at hx153_0);(try rw [Addr.add_zero'] at hx153_0);(try rw [show ((0:Int)).toNat=0 from rfl] at hx153_1);(try rw [show 0*4=0 from rfl] at hx153_1);(try rw [Addr.add_zero'] at hx153_1);(try rw [show ((0:Int)).toNat=0 from rfl] at hx153_2);(try rw [show 0*4=0 from rfl] at hx153_2);(try rw [Addr.add_zero'] at hx153_2);(try rw [show ((0:Int)).toNat=0 from rfl] at hx153_3);(try rw [show 0*4=0 from rfl] at hx153_3);(try rw [Addr.add_zero'] at hx153_3);replace p153:=eq_true p153;replace q153:=eq_true q153))
      go_ret
      exact ⟨by first|rfl|(simp [errW_none,errW_some]<;>rfl)|(simp [*,errW_none,errW_some]<;>rfl),bb HB⟩
    ·rw [if_neg c6] at H
     have c6b0:(((rd_T24 t142 0).f0)==0&&(((rd_T24 t142 0).f1)==50&&(((rd_T24 t142 0).f2)==5&&(!((rd_T24 t142 0).f3)))))=false:=by simpa using c6
     (try (have c6b1:decide (((rd_T24 t142 0).f0)=0&&(((rd_T24 t142 0).f1)==50&&(((rd_T24 t142 0).f2)==5&&(!((rd_T24 t142 0).f3)))))=false:=by simpa using c6))
     (try (have c6b2:(((rd_T24 t142 0).f0)==0&&(((rd_T24 t142 0).f1)==50&&(((rd_T24 t142 0).f2)==5&&(!((rd_T24 t142 0).f3)))))=false:=by simpa using c6))
     (try (have c6b3:¬ (((rd_T24 t142 0).f0)=0&&(((rd_T24 t142 0).f1)==50&&(((rd_T24 t142 0).f2)==5&&(!((rd_T24 t142 0).f3))))):=by simpa using c6))
     clear c6;obtain rfl:=Option.some.inj H
     go_enter Try.func11,Try.ntmps11
     go_wp2_with (first|((with_reducible refine gate_dst (N:=8) rfl ?_);(try (refine gate_guard (by rfl) ?_;dsimp only));refine Kd.R_lit k24 _ 24 ?hg (N:=8) ?hd (xs:=([(⟨2,52,3,false⟩:S24)]:List (S24))) (inner:=[.int .i64 2,.int .i64 52,.int .i64 3,.bool false]) (ok:=fun _=>True) (okp:=fun _=>True) ?hr ?hp (fun _ hk=>hk) trivial (Below.refl _ _) (Nat.le_refl _) (by simp) ?_;(case hd=>rfl);(case hg=>rfl);(case hr=>first|(go_simp;done)|(go_simp;rfl));(case hp=>exact (Reps.c4 (show Kd.M k24 _ _ _ (⟨2,52,3,false⟩:S24) [.int .i64 2,.int .i64 52,.int .i64 3,.bool false] from (k24_mkM _ _ _ (⟨2,52,3,false⟩:S24) )) (Reps.none _ _)));intro v140 w49 ho50 hb hg_ hnew_;clear hg_ hnew_;(first|rw [← Ny139.out] at ho50|(simp only [Int.reduceToNat] at ho50;rw [← Ny139.out] at ho50));have n0_:=am (Kd.R_lower ho50 (bz HB));have n1_:=bst HB hb;clear HB;have HO141:=n0_;have HB:=n1_;clear n0_ n1_;clear hb ho50;obtain ⟨Ao51,co51,eo51⟩:=Kd.R_slice HO141.out;subst eo51)|((with_reducible refine gate_callee (f:=14) rfl ?_);refine goesL_ (some 10) rfl rfl Try.func14 (by kernel_rfl) rfl #[.slice Ao51 y139.length co51,.agg #[.int .i64 0,.int .i64 50,.int .i64 2,.bool false]] rfl (by (try simp only [List.map_toArray,List.map_cons,List.map_nil]);first|done|rfl|(simp only [List.length_drop,List.length_take];rfl)) ?_;(with_reducible refine (extent_Put.calls k _ _ y139 0 50 2 false t142 t145 _ ?side1 ?side2 A1.out).mono ?_);(case side1=>exact cc (Kd.R_reads' HO141.out).2.2);(case side2=>exact (Kd.R_reads' HO141.out).2.1);rintro e w52 ⟨v143,rfl,ho0,hb⟩;refine ⟨_,rfl,?_⟩;have n0_:=am (Kd.R_elder' (rR HO141) (Kd.R_base ho0) hb);have n1_:=am (Kd.R_lower (Kd.R_new' ho0 (Kd.R_lt (rR HO141))) (bz HB));have n2_:=bst HB hb;clear HO141;clear HB;have HO141:=n0_;have HO144:=n1_;have HB:=n2_;clear n0_ n1_ n2_;(try clear hb);(try clear hb2);(try clear hk);(try clear hi);(try clear ho0);obtain ⟨Ao53,co53,eo53⟩:=Kd.R_slice HO144.out;subst eo53)|((with_reducible refine gate_callee (f:=13) rfl ?_);refine goesL_ (some 15) rfl rfl Try.func13 (by kernel_rfl) rfl #[.slice Ao53 t142.length co53,.int .i64 1,.int .i64 3] rfl (by (try simp only [List.map_toArray,List.map_cons,List.map_nil]);first|done|rfl|(simp only [List.length_drop,List.length_take];rfl)) ?_;(with_reducible refine (extent_Cut.calls k _ _ t142 1 3 t146 t147 t148 _ ?side1 ?side2 A2.out).mono ?_);(case side1=>exact cc (Kd.R_reads' HO144.out).2.2);(case side2=>exact (Kd.R_reads' HO144.out).2.1);rintro e w54 ⟨v149,v151,rfl,ho0,ho1,hb⟩;refine ⟨_,rfl,?_⟩;have n0_:=am (Kd.R_elder' (rR HO141) (Kd.R_base ho0) hb);have n1_:=am (Kd.R_elder' (rR HO144) (Kd.R_base ho0) hb);have n2_:=am (Kd.R_lower (Kd.R_new' (Kd.R_new' ho0 (Kd.R_lt (rR HO141))) (Kd.R_lt (rR HO144))) (bz HB));have n3_:=am (Kd.R_lower ho1 (bz HB));have n4_:=bst HB hb;clear HO141;clear HO144;clear HB;have HO141:=n0_;have HO144:=n1_;have HO150:=n2_;have HO152:=n3_;have HB:=n4_;clear n0_ n1_ n2_ n3_ n4_;(try clear hb);(try clear hb2);(try clear hk);(try clear hi);(try clear ho0);(try clear ho1);have p153:0≤(0:Int):=(by omega);have q153:0 < (t142.length:Int):=od;obtain ⟨ad153,e153,hx153_0,hx153_1,hx153_2,hx153_3⟩:=at_T24 (Kd.R_reads' HO144.out).2.2 0 p153 q153;cases e153;have qi153:(0 < t142.length)=True:=eq_true (by omega);(try rw [show ((0:Int)).toNat=0 from rfl] at hx153_0);(try rw [show 0*4=0 from rfl] at hx153_0);(try rw [Addr.add_zero'] at hx153_0);(try rw [show ((0:Int)).toNat=0 from rfl] at hx153_1);(try rw [show 0*4=0 from rfl] at hx153_1);(try rw [Addr.add_zero'] at hx153_1);(try rw [show ((0:Int)).toNat=0 from rfl] at hx153_2);(try rw [show 0*4=0 from rfl] at hx153_2);(try rw [Addr.add_zero'] at hx153_2);(try rw [show ((0:Int)).toNat=0 from rfl] at hx153_3);(try rw [show 0*4=0 from rfl] at hx153_3);(try rw [Addr.add_zero'] at hx153_3);replace p153:=eq_true p153;replace q153:=eq_true q153))
     go_ret
     exact ⟨by first|rfl|(simp [errW_none,errW_some]<;>rfl)|(simp [*,errW_none,errW_some]<;>rfl),bb HB⟩
   ·rw [if_neg c5] at H
    exact absurd H (by simp)
  ·rw [if_neg c4] at H
   have c4b0:((t142.length:Int)==1)=false:=beq_eq_false_iff_ne.mpr c4
   have c4b1:((t142.length:Int) != 1)=true:=bne_iff_ne.mpr c4
   obtain rfl:=Option.some.inj H
   go_enter Try.func11,Try.ntmps11
   go_wp2_with (first|((with_reducible refine gate_dst (N:=8) rfl ?_);(try (refine gate_guard (by rfl) ?_;dsimp only));refine Kd.R_lit k24 _ 24 ?hg (N:=8) ?hd (xs:=([(⟨2,52,3,false⟩:S24)]:List (S24))) (inner:=[.int .i64 2,.int .i64 52,.int .i64 3,.bool false]) (ok:=fun _=>True) (okp:=fun _=>True) ?hr ?hp (fun _ hk=>hk) trivial (Below.refl _ _) (Nat.le_refl _) (by simp) ?_;(case hd=>rfl);(case hg=>rfl);(case hr=>first|(go_simp;done)|(go_simp;rfl));(case hp=>exact (Reps.c4 (show Kd.M k24 _ _ _ (⟨2,52,3,false⟩:S24) [.int .i64 2,.int .i64 52,.int .i64 3,.bool false] from (k24_mkM _ _ _ (⟨2,52,3,false⟩:S24) )) (Reps.none _ _)));intro v140 w55 ho56 hb hg_ hnew_;clear hg_ hnew_;(first|rw [← Ny139.out] at ho56|(simp only [Int.reduceToNat] at ho56;rw [← Ny139.out] at ho56));have n0_:=am (Kd.R_lower ho56 (bz HB));have n1_:=bst HB hb;clear HB;have HO141:=n0_;have HB:=n1_;clear n0_ n1_;clear hb ho56;obtain ⟨Ao57,co57,eo57⟩:=Kd.R_slice HO141.out;subst eo57)|((with_reducible refine gate_callee (f:=14) rfl ?_);refine goesL_ (some 10) rfl rfl Try.func14 (by kernel_rfl) rfl #[.slice Ao57 y139.length co57,.agg #[.int .i64 0,.int .i64 50,.int .i64 2,.bool false]] rfl (by (try simp only [List.map_toArray,List.map_cons,List.map_nil]);first|done|rfl|(simp only [List.length_drop,List.length_take];rfl)) ?_;(with_reducible refine (extent_Put.calls k _ _ y139 0 50 2 false t142 t145 _ ?side1 ?side2 A1.out).mono ?_);(case side1=>exact cc (Kd.R_reads' HO141.out).2.2);(case side2=>exact (Kd.R_reads' HO141.out).2.1);rintro e w58 ⟨v143,rfl,ho0,hb⟩;refine ⟨_,rfl,?_⟩;have n0_:=am (Kd.R_elder' (rR HO141) (Kd.R_base ho0) hb);have n1_:=am (Kd.R_lower (Kd.R_new' ho0 (Kd.R_lt (rR HO141))) (bz HB));have n2_:=bst HB hb;clear HO141;clear HB;have HO141:=n0_;have HO144:=n1_;have HB:=n2_;clear n0_ n1_ n2_;(try clear hb);(try clear hb2);(try clear hk);(try clear hi);(try clear ho0);obtain ⟨Ao59,co59,eo59⟩:=Kd.R_slice HO144.out;subst eo59)|((with_reducible refine gate_callee (f:=13) rfl ?_);refine goesL_ (some 15) rfl rfl Try.func13 (by kernel_rfl) rfl #[.slice Ao59 t142.length co59,.int .i64 1,.int .i64 3] rfl (by (try simp only [List.map_toArray,List.map_cons,List.map_nil]);first|done|rfl|(simp only [List.length_drop,List.length_take];rfl)) ?_;(with_reducible refine (extent_Cut.calls k _ _ t142 1 3 t146 t147 t148 _ ?side1 ?side2 A2.out).mono ?_);(case side1=>exact cc (Kd.R_reads' HO144.out).2.2);(case side2=>exact (Kd.R_reads' HO144.out).2.1);rintro e w60 ⟨v149,v151,rfl,ho0,ho1,hb⟩;refine ⟨_,rfl,?_⟩;have n0_:=am (Kd.R_elder' (rR HO141) (Kd.R_base ho0) hb);have n1_:=am (Kd.R_elder' (rR HO144) (Kd.R_base ho0) hb);have n2_:=am (Kd.R_lower (Kd.R_new' (Kd.R_new' ho0 (Kd.R_lt (rR HO141))) (Kd.R_lt (rR HO144))) (bz HB));have n3_:=am (Kd.R_lower ho1 (bz HB));have n4_:=bst HB hb;clear HO141;clear HO144;clear HB;have HO141:=n0_;have HO144:=n1_;have HO150:=n2_;have HO152:=n3_;have HB:=n4_;clear n0_ n1_ n2_ n3_ n4_;(try clear hb);(try clear hb2);(try clear hk);(try clear hi);(try clear ho0);(try clear ho1)))
   go_ret
   exact ⟨by first|rfl|(simp [errW_none,errW_some]<;>rfl)|(simp [*,errW_none,errW_some]<;>rfl),bb HB⟩
 ·rw [if_neg c3] at H
  have c3b0:(t145==0)=false:=beq_eq_false_iff_ne.mpr c3
  have c3b1:(t145 != 0)=true:=bne_iff_ne.mpr c3
  obtain rfl:=Option.some.inj H
  go_enter Try.func11,Try.ntmps11
  go_wp2_with (first|((with_reducible refine gate_dst (N:=8) rfl ?_);(try (refine gate_guard (by rfl) ?_;dsimp only));refine Kd.R_lit k24 _ 24 ?hg (N:=8) ?hd (xs:=([(⟨2,52,3,false⟩:S24)]:List (S24))) (inner:=[.int .i64 2,.int .i64 52,.int .i64 3,.bool false]) (ok:=fun _=>True) (okp:=fun _=>True) ?hr ?hp (fun _ hk=>hk) trivial (Below.refl _ _) (Nat.le_refl _) (by simp) ?_;(case hd=>rfl);(case hg=>rfl);(case hr=>first|(go_simp;done)|(go_simp;rfl));(case hp=>exact (Reps.c4 (show Kd.M k24 _ _ _ (⟨2,52,3,false⟩:S24) [.int .i64 2,.int .i64 52,.int .i64 3,.bool false] from (k24_mkM _ _ _ (⟨2,52,3,false⟩:S24) )) (Reps.none _ _)));intro v140 w61 ho62 hb hg_ hnew_;clear hg_ hnew_;(first|rw [← Ny139.out] at ho62|(simp only [Int.reduceToNat] at ho62;rw [← Ny139.out] at ho62));have n0_:=am (Kd.R_lower ho62 (bz HB));have n1_:=bst HB hb;clear HB;have HO141:=n0_;have HB:=n1_;clear n0_ n1_;clear hb ho62;obtain ⟨Ao63,co63,eo63⟩:=Kd.R_slice HO141.out;subst eo63)|((with_reducible refine gate_callee (f:=14) rfl ?_);refine goesL_ (some 10) rfl rfl Try.func14 (by kernel_rfl) rfl #[.slice Ao63 y139.length co63,.agg #[.int .i64 0,.int .i64 50,.int .i64 2,.bool false]] rfl (by (try simp only [List.map_toArray,List.map_cons,List.map_nil]);first|done|rfl|(simp only [List.length_drop,List.length_take];rfl)) ?_;(with_reducible refine (extent_Put.calls k _ _ y139 0 50 2 false t142 t145 _ ?side1 ?side2 A1.out).mono ?_);(case side1=>exact cc (Kd.R_reads' HO141.out).2.2);(case side2=>exact (Kd.R_reads' HO141.out).2.1);rintro e w64 ⟨v143,rfl,ho0,hb⟩;refine ⟨_,rfl,?_⟩;have n0_:=am (Kd.R_elder' (rR HO141) (Kd.R_base ho0) hb);have n1_:=am (Kd.R_lower (Kd.R_new' ho0 (Kd.R_lt (rR HO141))) (bz HB));have n2_:=bst HB hb;clear HO141;clear HB;have HO141:=n0_;have HO144:=n1_;have HB:=n2_;clear n0_ n1_ n2_;(try clear hb);(try clear hb2);(try clear hk);(try clear hi);(try clear ho0);obtain ⟨Ao65,co65,eo65⟩:=Kd.R_slice HO144.out;subst eo65)|((with_reducible refine gate_callee (f:=13) rfl ?_);refine goesL_ (some 15) rfl rfl Try.func13 (by kernel_rfl) rfl #[.slice Ao65 t142.length co65,.int .i64 1,.int .i64 3] rfl (by (try simp only [List.map_toArray,List.map_cons,List.map_nil]);first|done|rfl|(simp only [List.length_drop,List.length_take];rfl)) ?_;(with_reducible refine (extent_Cut.calls k _ _ t142 1 3 t146 t147 t148 _ ?side1 ?side2 A2.out).mono ?_);(case side1=>exact cc (Kd.R_reads' HO144.out).2.2);(case side2=>exact (Kd.R_reads' HO144.out).2.1);rintro e w66 ⟨v149,v151,rfl,ho0,ho1,hb⟩;refine ⟨_,rfl,?_⟩;have n0_:=am (Kd.R_elder' (rR HO141) (Kd.R_base ho0) hb);have n1_:=am (Kd.R_elder' (rR HO144) (Kd.R_base ho0) hb);have n2_:=am (Kd.R_lower (Kd.R_new' (Kd.R_new' ho0 (Kd.R_lt (rR HO141))) (Kd.R_lt (rR HO144))) (bz HB));have n3_:=am (Kd.R_lower ho1 (bz HB));have n4_:=bst HB hb;clear HO141;clear HO144;clear HB;have HO141:=n0_;have HO144:=n1_;have HO150:=n2_;have HO152:=n3_;have HB:=n4_;clear n0_ n1_ n2_ n3_ n4_;(try clear hb);(try clear hb2);(try clear hk);(try clear hi);(try clear ho0);(try clear ho1)))
  go_ret
  exact ⟨by first|rfl|(simp [errW_none,errW_some]<;>rfl)|(simp [*,errW_none,errW_some]<;>rfl),bb HB⟩
end Go.Proofs.Ytopmjjnkolfciaa.Pr
end
section
namespace Go.Proofs.Ytopmjjnkolfciaa.Pr
open Go.RowKit Go.Proofs.YtopmjjnkolfciaaW.PrintWords Go.Proofs.YtopmjjnkolfciaaW.PrintLast Go.Proofs.YtopmjjnkolfciaaW.PrintMore
set_option linter.unusedVariables false
set_option linter.unusedSimpArgs false
def Fits (l : List EX) : Prop := l.length ≤ 4398046510976
theorem o24 : Op.Opens Try.prog 22 (Kd.slice 24 k24) Fits :=
  Op.opens_imp (Op.opens_slice Try.underlying22 (by kernel_rfl) (B := 32) (by kernel_rfl)
    (Op.opens_iso (T := fun _ : EX => True) (fun x => ⟨x.1, x.2.1, x.2.2.1, x.2.2.2⟩) (fun _ => rfl) (fun _ _ => trivial)
      (Op.opens_struct Try.underlying24 (by kernel_rfl) (Op.opensAt_cons rfl (by kernel_rfl) (Op.opens_int Try.underlying3) (Op.opensAt_cons rfl (by kernel_rfl) (Op.opens_int Try.underlying3) (Op.opensAt_cons rfl (by kernel_rfl) (Op.opens_int Try.underlying3) (Op.opensAt_last rfl (by kernel_rfl) (Op.opens_bool Try.underlying4))))))))
    (fun l h => by unfold Fits; omega)
theorem alive_ev : Ev (fun k => l_10_alive.f k) true := by
  unfold l_10_alive.f
  have h1 : putX [(⟨2, 52, 3, false⟩ : EX)] ⟨0, 50, 2, false⟩ = ([⟨0, 50, 5, false⟩], 0) := by kernel_rfl
  have h2 : cutX [(⟨0, 50, 5, false⟩ : EX)] 1 3 = ([⟨0, 50, 1, false⟩, ⟨3, 53, 2, false⟩], [⟨51, 2⟩], 0) := by kernel_rfl
  have hp := put_ev [(⟨2, 52, 3, false⟩ : EX)] ⟨0, 50, 2, false⟩
  rw [h1] at hp
  have hc := cut_ev [(⟨0, 50, 5, false⟩ : EX)] 1 3
  rw [h2] at hc
  refine Ev.bind hp ?_
  refine Ev.bind hc ?_
  exact Ev.now _
theorem copied_f (l : List EX) (hl : Fits l) : l_10_copied.f l = some l := by
  unfold Fits at hl
  unfold l_10_copied.f
  rw [bs, List.nil_append, if_pos (by simp; omega)]
end Go.Proofs.Ytopmjjnkolfciaa.Pr
end
section
namespace Go.Proofs.Ytopmjjnkolfciaa.Pr
open Go.RowKit Go.Proofs.YtopmjjnkolfciaaW.PrintWords Go.Proofs.YtopmjjnkolfciaaW.PrintLast Go.Proofs.YtopmjjnkolfciaaW.PrintMore
attribute [local go_sem] max2_int min2_int max_two min_two max_three min_three max_four min_four
attribute [local go_sem] Go.Proofs.Ytopmjjnkolfciaa.Hl.str_geq Go.Proofs.Ytopmjjnkolfciaa.Hl.str_gtr Go.Proofs.Ytopmjjnkolfciaa.Hl.str_leq
set_option linter.unusedVariables false
set_option linter.unusedSimpArgs false
mutual
def l_10_ExtentStores.j0:Nat→List (S24)→List Int→List Int→List (List Int)→Int→List (List Int)→Bool→Option (Bool)
 | 0,_,_,_,_,_,_,_=>none
 | k+1,x0,x1,x6,x7,x8,x10,x60=>if x60=true then (some false) else (l_10_ExtentStores.l0 k x0 x1 x6 x7 x8 x10 0)
def l_10_ExtentStores.l0:Nat→List (S24)→List Int→List Int→List (List Int)→Int→List (List Int)→Int→Option (Bool)
 | 0,_,_,_,_,_,_,_=>none
 | k+1,x0,x1,x6,x7,x8,x10,x12=>if x12 < (x7.length:Int) then (if 0≤x12 then (if x12 < (x10.length:Int) then (if (strOfNums (rd_L5 x7 x12)).toList=(strOfNums (rd_L5 x10 x12)).toList then (l_10_ExtentStores.l0 k x0 x1 x6 x7 x8 x10 (wrap64 (x12+1))) else (some false)) else (none)) else (none)) else (if x8=0 then ((extent_Root.f k x6).bind fun bt538=>(if (x7.length:Int)=0 then (if bt538.2.2=0 then ((r_10_Same.f k bt538.1 x0).bind fun t545=>(if t545=true then (some ((bt538.2.1.length:Int)==0)) else (some false))) else (some false)) else ((extent_Join.f k x7).bind fun bt546=>(if bt538.2.2=0 then (if (bt538.1.length:Int)=0 then ((r_03_SameInts.f k bt538.2.1 x1).bind fun t550=>(if t550=true then (if bt546.2=0 then ((r_10_Same.f k bt546.1 x0).bind fun t551=>(if t551=true then ((extent_Need.f k x0).bind fun t552=>(some (t552==(x7.length:Int)))) else (some false))) else (some false)) else (some false))) else (some false)) else (some false))))) else (if (x6.length:Int)=0 then (some ((x7.length:Int)==0)) else (some false)))
end
def l_10_ExtentStores.f (k:Nat) (l0:List (S24)) (l1:List Int):Option (Bool):=(l_10_alive.f k).bind fun t511=>(if t511=true then ((some (([]:List Int):List Int)).bind fun y512=>(if y512.length+l1.length < 17592186044416 then ((some (y512++l1:List Int)).bind fun y515=>((l_10_copied.f l0).bind fun t518=>((extent_Store.f k t518 y515).bind fun bt521=>((r_10_Store.f k l0 l1).bind fun bt528=>(if bt521.2.2=bt528.2.2 then (if (strOfNums bt521.1).toList=(strOfNums bt528.1).toList then (if (bt521.2.1.length:Int)=(bt528.2.1.length:Int) then ((r_03_SameInts.f k y515 l1).bind fun t535=>(l_10_ExtentStores.j0 k l0 l1 bt521.1 bt521.2.1 bt521.2.2 bt528.2.1 (!t535))) else (l_10_ExtentStores.j0 k l0 l1 bt521.1 bt521.2.1 bt521.2.2 bt528.2.1 true)) else (l_10_ExtentStores.j0 k l0 l1 bt521.1 bt521.2.1 bt521.2.2 bt528.2.1 true)) else (l_10_ExtentStores.j0 k l0 l1 bt521.1 bt521.2.1 bt521.2.2 bt528.2.1 true)))))) else (none))) else (some false))
set_option maxHeartbeats 8000000 in
set_option maxRecDepth 100000 in
theorem l_10_ExtentStores.calls (k:Nat) (A0:Option Addr) (c0:Nat) (l0:List (S24)) (A1:Option Addr) (c1:Nat) (l1:List Int) (r:Bool) (w:World) (hr0:Kd.C k24 w A0 l0.length l0) (hc0:l0.length≤c0) (hr1:Kd.C (Kd.int .i64) w A1 l1.length l1) (hc1:l1.length≤c1) (h:l_10_ExtentStores.f k l0 l1=some r) :
  Calls Try.prog 9 #[.slice A0 l0.length c0,.slice A1 l1.length c1] w fun e w'=>e=.returned (.bool r)∧Below w.heap.size w w':=by
 have HR0:=am hr0
 have HC0:=am hc0
 clear hr0 hc0
 have HR1:=am hr1
 have HC1:=am hc1
 clear hr1 hc1
 have HB:=am (Below.refl w.heap.size w)
 have H:((l_10_alive.f k).bind fun t511=>(if t511=true then ((some (([]:List Int):List Int)).bind fun y512=>(if y512.length+l1.length < 17592186044416 then ((some (y512++l1:List Int)).bind fun y515=>((l_10_copied.f l0).bind fun t518=>((extent_Store.f k t518 y515).bind fun bt521=>((r_10_Store.f k l0 l1).bind fun bt528=>(if bt521.2.2=bt528.2.2 then (if (strOfNums bt521.1).toList=(strOfNums bt528.1).toList then (if (bt521.2.1.length:Int)=(bt528.2.1.length:Int) then ((r_03_SameInts.f k y515 l1).bind fun t535=>(l_10_ExtentStores.j0 k l0 l1 bt521.1 bt521.2.1 bt521.2.2 bt528.2.1 (!t535))) else (l_10_ExtentStores.j0 k l0 l1 bt521.1 bt521.2.1 bt521.2.2 bt528.2.1 true)) else (l_10_ExtentStores.j0 k l0 l1 bt521.1 bt521.2.1 bt521.2.2 bt528.2.1 true)) else (l_10_ExtentStores.j0 k l0 l1 bt521.1 bt521.2.1 bt521.2.2 bt528.2.1 true)))))) else (none))) else (some false)))=some r:=h
 clear h
 replace H:=Option.bind_eq_some_iff.mp H
 obtain ⟨t511,A30,H⟩:=H
 replace H:(if t511=true then ((some (([]:List Int):List Int)).bind fun y512=>(if y512.length+l1.length < 17592186044416 then ((some (y512++l1:List Int)).bind fun y515=>((l_10_copied.f l0).bind fun t518=>((extent_Store.f k t518 y515).bind fun bt521=>((r_10_Store.f k l0 l1).bind fun bt528=>(if bt521.2.2=bt528.2.2 then (if (strOfNums bt521.1).toList=(strOfNums bt528.1).toList then (if (bt521.2.1.length:Int)=(bt528.2.1.length:Int) then ((r_03_SameInts.f k y515 l1).bind fun t535=>(l_10_ExtentStores.j0 k l0 l1 bt521.1 bt521.2.1 bt521.2.2 bt528.2.1 (!t535))) else (l_10_ExtentStores.j0 k l0 l1 bt521.1 bt521.2.1 bt521.2.2 bt528.2.1 true)) else (l_10_ExtentStores.j0 k l0 l1 bt521.1 bt521.2.1 bt521.2.2 bt528.2.1 true)) else (l_10_ExtentStores.j0 k l0 l1 bt521.1 bt521.2.1 bt521.2.2 bt528.2.1 true)))))) else (none))) else (some false))=some r:=H
 have A3:=am A30
 clear A30
 by_cases c4:t511=true
 ·subst c4
  have H1:((some (([]:List Int):List Int)).bind fun y512=>(if y512.length+l1.length < 17592186044416 then ((some (y512++l1:List Int)).bind fun y515=>((l_10_copied.f l0).bind fun t518=>((extent_Store.f k t518 y515).bind fun bt521=>((r_10_Store.f k l0 l1).bind fun bt528=>(if bt521.2.2=bt528.2.2 then (if (strOfNums bt521.1).toList=(strOfNums bt528.1).toList then (if (bt521.2.1.length:Int)=(bt528.2.1.length:Int) then ((r_03_SameInts.f k y515 l1).bind fun t535=>(l_10_ExtentStores.j0 k l0 l1 bt521.1 bt521.2.1 bt521.2.2 bt528.2.1 (!t535))) else (l_10_ExtentStores.j0 k l0 l1 bt521.1 bt521.2.1 bt521.2.2 bt528.2.1 true)) else (l_10_ExtentStores.j0 k l0 l1 bt521.1 bt521.2.1 bt521.2.2 bt528.2.1 true)) else (l_10_ExtentStores.j0 k l0 l1 bt521.1 bt521.2.1 bt521.2.2 bt528.2.1 true)))))) else (none)))=some r:=by rw [if_pos rfl] at H;exact H
  clear H;have H:=H1;clear H1
  obtain ⟨y512,hy512⟩:∃ y_:List Int,y_=(([]:List Int)):=⟨_,rfl⟩
  replace H:(if y512.length+l1.length < 17592186044416 then ((some (y512++l1:List Int)).bind fun y515=>((l_10_copied.f l0).bind fun t518=>((extent_Store.f k t518 y515).bind fun bt521=>((r_10_Store.f k l0 l1).bind fun bt528=>(if bt521.2.2=bt528.2.2 then (if (strOfNums bt521.1).toList=(strOfNums bt528.1).toList then (if (bt521.2.1.length:Int)=(bt528.2.1.length:Int) then ((r_03_SameInts.f k y515 l1).bind fun t535=>(l_10_ExtentStores.j0 k l0 l1 bt521.1 bt521.2.1 bt521.2.2 bt528.2.1 (!t535))) else (l_10_ExtentStores.j0 k l0 l1 bt521.1 bt521.2.1 bt521.2.2 bt528.2.1 true)) else (l_10_ExtentStores.j0 k l0 l1 bt521.1 bt521.2.1 bt521.2.2 bt528.2.1 true)) else (l_10_ExtentStores.j0 k l0 l1 bt521.1 bt521.2.1 bt521.2.2 bt528.2.1 true)))))) else (none))=some r:=by first|(rw [hy512];with_reducible exact H)|(have H2_:=(Option.bind_some _ _).symm.trans H;rw [hy512];with_reducible exact H2_)|(have H2_:=(Option.bind_some _ _).symm.trans H;with_reducible exact H2_)|with_reducible exact H|(rw [hy512];exact H)|exact H
  have Ny512:=am hy512
  clear hy512
  by_cases c5:y512.length+l1.length < 17592186044416
  ·rw [if_pos c5] at H
   have LMc5:=am c5
   clear c5
   obtain ⟨y515,hy515⟩:∃ y_:List Int,y_=(y512++l1):=⟨_,rfl⟩
   replace H:((l_10_copied.f l0).bind fun t518=>((extent_Store.f k t518 y515).bind fun bt521=>((r_10_Store.f k l0 l1).bind fun bt528=>(if bt521.2.2=bt528.2.2 then (if (strOfNums bt521.1).toList=(strOfNums bt528.1).toList then (if (bt521.2.1.length:Int)=(bt528.2.1.length:Int) then ((r_03_SameInts.f k y515 l1).bind fun t535=>(l_10_ExtentStores.j0 k l0 l1 bt521.1 bt521.2.1 bt521.2.2 bt528.2.1 (!t535))) else (l_10_ExtentStores.j0 k l0 l1 bt521.1 bt521.2.1 bt521.2.2 bt528.2.1 true)) else (l_10_ExtentStores.j0 k l0 l1 bt521.1 bt521.2.1 bt521.2.2 bt528.2.1 true)) else (l_10_ExtentStores.j0 k l0 l1 bt521.1 bt521.2.1 bt521.2.2 bt528.2.1 true)))))=some r:=by first|(rw [hy515];with_reducible exact H)|(have H2_:=(Option.bind_some _ _).symm.trans H;rw [hy515];with_reducible exact H2_)|(have H2_:=(Option.bind_some _ _).symm.trans H;with_reducible exact H2_)|with_reducible exact H|(rw [hy515];exact H)|exact H
   have Ny515:=am hy515
   clear hy515
   replace H:=Option.bind_eq_some_iff.mp H
   obtain ⟨t518,A60,H⟩:=H
   replace H:((extent_Store.f k t518 y515).bind fun bt521=>((r_10_Store.f k l0 l1).bind fun bt528=>(if bt521.2.2=bt528.2.2 then (if (strOfNums bt521.1).toList=(strOfNums bt528.1).toList then (if (bt521.2.1.length:Int)=(bt528.2.1.length:Int) then ((r_03_SameInts.f k y515 l1).bind fun t535=>(l_10_ExtentStores.j0 k l0 l1 bt521.1 bt521.2.1 bt521.2.2 bt528.2.1 (!t535))) else (l_10_ExtentStores.j0 k l0 l1 bt521.1 bt521.2.1 bt521.2.2 bt528.2.1 true)) else (l_10_ExtentStores.j0 k l0 l1 bt521.1 bt521.2.1 bt521.2.2 bt528.2.1 true)) else (l_10_ExtentStores.j0 k l0 l1 bt521.1 bt521.2.1 bt521.2.2 bt528.2.1 true))))=some r:=H
   have A6:=am A60
   clear A60
   replace H:=Option.bind_eq_some_iff.mp H
   obtain ⟨⟨t521,t522,t523⟩,A70,H⟩:=H
   replace H:((r_10_Store.f k l0 l1).bind fun bt528=>(if t523=bt528.2.2 then (if (strOfNums t521).toList=(strOfNums bt528.1).toList then (if (t522.length:Int)=(bt528.2.1.length:Int) then ((r_03_SameInts.f k y515 l1).bind fun t535=>(l_10_ExtentStores.j0 k l0 l1 t521 t522 t523 bt528.2.1 (!t535))) else (l_10_ExtentStores.j0 k l0 l1 t521 t522 t523 bt528.2.1 true)) else (l_10_ExtentStores.j0 k l0 l1 t521 t522 t523 bt528.2.1 true)) else (l_10_ExtentStores.j0 k l0 l1 t521 t522 t523 bt528.2.1 true)))=some r:=H
   have A7:=am A70
   clear A70
   replace H:=Option.bind_eq_some_iff.mp H
   obtain ⟨⟨t528,t529,t530⟩,A80,H⟩:=H
   replace H:(if t523=t530 then (if (strOfNums t521).toList=(strOfNums t528).toList then (if (t522.length:Int)=(t529.length:Int) then ((r_03_SameInts.f k y515 l1).bind fun t535=>(l_10_ExtentStores.j0 k l0 l1 t521 t522 t523 t529 (!t535))) else (l_10_ExtentStores.j0 k l0 l1 t521 t522 t523 t529 true)) else (l_10_ExtentStores.j0 k l0 l1 t521 t522 t523 t529 true)) else (l_10_ExtentStores.j0 k l0 l1 t521 t522 t523 t529 true))=some r:=H
   have A8:=am A80
   clear A80
   have HC9:=am H
   clear H
   go_enter Try.func9,Try.ntmps9
   go_upto_region 6 with (first|(go_at_call 11;(with_reducible refine (l_10_alive.calls k  true _ A3.out).mono ?_);rintro e w10 ⟨rfl,hb⟩;have n0_:=bst HB hb;clear HB;have HB:=n0_;clear n0_;(try clear hb);(try clear hb2);(try clear hk);(try clear hi))|((with_reducible refine gate_dst (N:=20) rfl ?_);(try (refine gate_guard (by rfl) ?_;dsimp only));refine Kd.R_lit (Kd.int .i64) _ 3 ?hg (N:=20) ?hd (xs:=([]:List Int)) (inner:=[]) (ok:=fun _=>True) (okp:=fun _=>True) ?hr ?hp (fun _ hk=>hk) trivial (Below.refl _ _) (Nat.le_refl _) (by simp) ?_;(case hd=>rfl);(case hg=>rfl);(case hr=>first|(go_simp;done)|(go_simp;rfl));(case hp=>exact (Reps.none _ _));intro v513 w11 ho12 hb hg_ hnew_;clear hg_ hnew_;(first|rw [← Ny512.out] at ho12|(simp only [Int.reduceToNat] at ho12;rw [← Ny512.out] at ho12));have n0_:=am (Kd.R_lower ho12 (bz HB));have n1_:=bst HB hb;clear HB;have HO514:=n0_;have HB:=n1_;clear n0_ n1_;clear hb ho12)|((with_reducible refine gate_builtin (b:=.append) (xs:=#[.tmp 20,.tmp 21]) rfl ?_);(try (refine gate_guard (by rfl) ?_;dsimp only));at_builtin;refine Kd.R_append_rows (Kd.int .i64) (w0:=w) w.heap.size rfl (.tmp 20) (.tmp 21) 45 3 (.int .i64 0) 8 rfl Try.underlying45 info3 rfl (by decide) (by omega) v513 y512 l1 _ _ _ (fun _=>True) (fun _=>False) rfl rfl ?aO ?aR (fun _ _ h=>h) (fun _ h=>h.elim) ?aF ?aB ?aS ?aL ?_;(case aR=>exact cc (Kd.C_below HR1.out HB.out));(case aB=>exact (bb HB));(case aF=>exact (fun _ _=>trivial));(case aO=>exact (rR HO514));(case aS=>exact (bz HB));(case aL=>have:=LMc5.out;omega);intro v516 w13 ho hb hg hat;rw [← Ny515.out] at ho;have n0_:=am (hb);have n1_:=am (ho);clear HB;clear HO514;have HB:=n0_;have HO517:=n1_;clear n0_ n1_;clear ho hb hg hat)|(go_at_call 16;(with_reducible refine (l_10_copied.calls _ _ l0 t518 _ ?side1 ?side2 A6.out).mono ?_);(case side1=>exact cc (Kd.C_below HR0.out HB.out));(case side2=>exact HC0.out);rintro e w14 ⟨v519,rfl,ho0,hb⟩;have n0_:=am (Kd.R_below (rR HO517) hb);have n1_:=am (Kd.R_lower ho0 (bz HB));have n2_:=bst HB hb;clear HO517;clear HB;have HO517:=n0_;have HO520:=n1_;have HB:=n2_;clear n0_ n1_ n2_;(try clear hb);(try clear hb2);(try clear hk);(try clear hi);(try clear ho0);obtain ⟨Ao15,co15,eo15⟩:=Kd.R_slice HO520.out;subst eo15;obtain ⟨Ao16,co16,eo16⟩:=Kd.R_slice HO517.out;subst eo16)|(go_at_call 27;(with_reducible refine (extent_Store.calls k _ _ t518 _ _ y515 t521 t522 t523 _ ?side1 ?side2 ?side3 ?side4 A7.out).mono ?_);(case side1=>exact cc (Kd.R_reads' HO520.out).2.2);(case side2=>exact (Kd.R_reads' HO520.out).2.1);(case side3=>exact cc (Kd.R_reads' HO517.out).2.2);(case side4=>exact (Kd.R_reads' HO517.out).2.1);rintro e w17 ⟨v524,v526,rfl,ho0,ho1,hb⟩;have n0_:=am (Kd.R_below (rR HO517) hb);have n1_:=am (Kd.R_below (rR HO520) hb);have n2_:=am (Kd.R_lower ho0 (bz HB));have n3_:=am (Kd.S_lower ho1 (bz HB));have n4_:=bst HB hb;clear HO517;clear HO520;clear HB;have HO517:=n0_;have HO520:=n1_;have HO525:=n2_;have HO527:=n3_;have HB:=n4_;clear n0_ n1_ n2_ n3_ n4_;(try clear hb);(try clear hb2);(try clear hk);(try clear hi);(try clear ho0);(try clear ho1))|(go_at_call 28;(with_reducible refine (r_10_Store.calls k _ _ l0 _ _ l1 t528 t529 t530 _ ?side1 ?side2 ?side3 ?side4 A8.out).mono ?_);(case side1=>exact cc (Kd.C_below HR0.out HB.out));(case side2=>exact HC0.out);(case side3=>exact cc (Kd.C_below HR1.out HB.out));(case side4=>exact HC1.out);rintro e w18 ⟨v531,v533,rfl,ho0,ho1,hb⟩;have n0_:=am (Kd.R_below (rR HO517) hb);have n1_:=am (Kd.R_below (rR HO520) hb);have n2_:=am (Kd.R_elder' (rR HO525) (Kd.R_base ho0) hb);have n3_:=am (Kd.S_mono (Kd.S_told (Kd.S_told (Kd.S_old (rS HO527) hb) (Kd.R_base ho0)) (Kd.S_base ho1)) (fun _ h_=>h_.1));have n4_:=am (Kd.R_lower (Kd.R_new' ho0 (Kd.R_lt (rR HO525))) (bz HB));have n5_:=am (Kd.S_lower (Kd.S_new' (Kd.S_new' ho1 (Kd.R_lt (rR HO525))) (Kd.S_lt (rS HO527))) (bz HB));have n6_:=bst HB hb;clear HO517;clear HO520;clear HO525;clear HO527;clear HB;have HO517:=n0_;have HO520:=n1_;have HO525:=n2_;have HO527:=n3_;have HO532:=n4_;have HO534:=n5_;have HB:=n6_;clear n0_ n1_ n2_ n3_ n4_ n5_ n6_;(try clear hb);(try clear hb2);(try clear hk);(try clear hi);(try clear ho0);(try clear ho1)))
   repeat (go_quiet (first|(go_at_call 11;(with_reducible refine (l_10_alive.calls k  true _ A3.out).mono ?_);rintro e w10 ⟨rfl,hb⟩;have n0_:=bst HB hb;clear HB;have HB:=n0_;clear n0_;(try clear hb);(try clear hb2);(try clear hk);(try clear hi))|((with_reducible refine gate_dst (N:=20) rfl ?_);(try (refine gate_guard (by rfl) ?_;dsimp only));refine Kd.R_lit (Kd.int .i64) _ 3 ?hg (N:=20) ?hd (xs:=([]:List Int)) (inner:=[]) (ok:=fun _=>True) (okp:=fun _=>True) ?hr ?hp (fun _ hk=>hk) trivial (Below.refl _ _) (Nat.le_refl _) (by simp) ?_;(case hd=>rfl);(case hg=>rfl);(case hr=>first|(go_simp;done)|(go_simp;rfl));(case hp=>exact (Reps.none _ _));intro v513 w11 ho12 hb hg_ hnew_;clear hg_ hnew_;(first|rw [← Ny512.out] at ho12|(simp only [Int.reduceToNat] at ho12;rw [← Ny512.out] at ho12));have n0_:=am (Kd.R_lower ho12 (bz HB));have n1_:=bst HB hb;clear HB;have HO514:=n0_;have HB:=n1_;clear n0_ n1_;clear hb ho12)|((with_reducible refine gate_builtin (b:=.append) (xs:=#[.tmp 20,.tmp 21]) rfl ?_);(try (refine gate_guard (by rfl) ?_;dsimp only));at_builtin;refine Kd.R_append_rows (Kd.int .i64) (w0:=w) w.heap.size rfl (.tmp 20) (.tmp 21) 45 3 (.int .i64 0) 8 rfl Try.underlying45 info3 rfl (by decide) (by omega) v513 y512 l1 _ _ _ (fun _=>True) (fun _=>False) rfl rfl ?aO ?aR (fun _ _ h=>h) (fun _ h=>h.elim) ?aF ?aB ?aS ?aL ?_;(case aR=>exact cc (Kd.C_below HR1.out HB.out));(case aB=>exact (bb HB));(case aF=>exact (fun _ _=>trivial));(case aO=>exact (rR HO514));(case aS=>exact (bz HB));(case aL=>have:=LMc5.out;omega);intro v516 w13 ho hb hg hat;rw [← Ny515.out] at ho;have n0_:=am (hb);have n1_:=am (ho);clear HB;clear HO514;have HB:=n0_;have HO517:=n1_;clear n0_ n1_;clear ho hb hg hat)|(go_at_call 16;(with_reducible refine (l_10_copied.calls _ _ l0 t518 _ ?side1 ?side2 A6.out).mono ?_);(case side1=>exact cc (Kd.C_below HR0.out HB.out));(case side2=>exact HC0.out);rintro e w14 ⟨v519,rfl,ho0,hb⟩;have n0_:=am (Kd.R_below (rR HO517) hb);have n1_:=am (Kd.R_lower ho0 (bz HB));have n2_:=bst HB hb;clear HO517;clear HB;have HO517:=n0_;have HO520:=n1_;have HB:=n2_;clear n0_ n1_ n2_;(try clear hb);(try clear hb2);(try clear hk);(try clear hi);(try clear ho0);obtain ⟨Ao15,co15,eo15⟩:=Kd.R_slice HO520.out;subst eo15;obtain ⟨Ao16,co16,eo16⟩:=Kd.R_slice HO517.out;subst eo16)|(go_at_call 27;(with_reducible refine (extent_Store.calls k _ _ t518 _ _ y515 t521 t522 t523 _ ?side1 ?side2 ?side3 ?side4 A7.out).mono ?_);(case side1=>exact cc (Kd.R_reads' HO520.out).2.2);(case side2=>exact (Kd.R_reads' HO520.out).2.1);(case side3=>exact cc (Kd.R_reads' HO517.out).2.2);(case side4=>exact (Kd.R_reads' HO517.out).2.1);rintro e w17 ⟨v524,v526,rfl,ho0,ho1,hb⟩;have n0_:=am (Kd.R_below (rR HO517) hb);have n1_:=am (Kd.R_below (rR HO520) hb);have n2_:=am (Kd.R_lower ho0 (bz HB));have n3_:=am (Kd.S_lower ho1 (bz HB));have n4_:=bst HB hb;clear HO517;clear HO520;clear HB;have HO517:=n0_;have HO520:=n1_;have HO525:=n2_;have HO527:=n3_;have HB:=n4_;clear n0_ n1_ n2_ n3_ n4_;(try clear hb);(try clear hb2);(try clear hk);(try clear hi);(try clear ho0);(try clear ho1))|(go_at_call 28;(with_reducible refine (r_10_Store.calls k _ _ l0 _ _ l1 t528 t529 t530 _ ?side1 ?side2 ?side3 ?side4 A8.out).mono ?_);(case side1=>exact cc (Kd.C_below HR0.out HB.out));(case side2=>exact HC0.out);(case side3=>exact cc (Kd.C_below HR1.out HB.out));(case side4=>exact HC1.out);rintro e w18 ⟨v531,v533,rfl,ho0,ho1,hb⟩;have n0_:=am (Kd.R_below (rR HO517) hb);have n1_:=am (Kd.R_below (rR HO520) hb);have n2_:=am (Kd.R_elder' (rR HO525) (Kd.R_base ho0) hb);have n3_:=am (Kd.S_mono (Kd.S_told (Kd.S_told (Kd.S_old (rS HO527) hb) (Kd.R_base ho0)) (Kd.S_base ho1)) (fun _ h_=>h_.1));have n4_:=am (Kd.R_lower (Kd.R_new' ho0 (Kd.R_lt (rR HO525))) (bz HB));have n5_:=am (Kd.S_lower (Kd.S_new' (Kd.S_new' ho1 (Kd.R_lt (rR HO525))) (Kd.S_lt (rS HO527))) (bz HB));have n6_:=bst HB hb;clear HO517;clear HO520;clear HO525;clear HO527;clear HB;have HO517:=n0_;have HO520:=n1_;have HO525:=n2_;have HO527:=n3_;have HO532:=n4_;have HO534:=n5_;have HB:=n6_;clear n0_ n1_ n2_ n3_ n4_ n5_ n6_;(try clear hb);(try clear hb2);(try clear hk);(try clear hi);(try clear ho0);(try clear ho1)));go_upto_region 6 with (first|(go_at_call 11;(with_reducible refine (l_10_alive.calls k  true _ A3.out).mono ?_);rintro e w10 ⟨rfl,hb⟩;have n0_:=bst HB hb;clear HB;have HB:=n0_;clear n0_;(try clear hb);(try clear hb2);(try clear hk);(try clear hi))|((with_reducible refine gate_dst (N:=20) rfl ?_);(try (refine gate_guard (by rfl) ?_;dsimp only));refine Kd.R_lit (Kd.int .i64) _ 3 ?hg (N:=20) ?hd (xs:=([]:List Int)) (inner:=[]) (ok:=fun _=>True) (okp:=fun _=>True) ?hr ?hp (fun _ hk=>hk) trivial (Below.refl _ _) (Nat.le_refl _) (by simp) ?_;(case hd=>rfl);(case hg=>rfl);(case hr=>first|(go_simp;done)|(go_simp;rfl));(case hp=>exact (Reps.none _ _));intro v513 w11 ho12 hb hg_ hnew_;clear hg_ hnew_;(first|rw [← Ny512.out] at ho12|(simp only [Int.reduceToNat] at ho12;rw [← Ny512.out] at ho12));have n0_:=am (Kd.R_lower ho12 (bz HB));have n1_:=bst HB hb;clear HB;have HO514:=n0_;have HB:=n1_;clear n0_ n1_;clear hb ho12)|((with_reducible refine gate_builtin (b:=.append) (xs:=#[.tmp 20,.tmp 21]) rfl ?_);(try (refine gate_guard (by rfl) ?_;dsimp only));at_builtin;refine Kd.R_append_rows (Kd.int .i64) (w0:=w) w.heap.size rfl (.tmp 20) (.tmp 21) 45 3 (.int .i64 0) 8 rfl Try.underlying45 info3 rfl (by decide) (by omega) v513 y512 l1 _ _ _ (fun _=>True) (fun _=>False) rfl rfl ?aO ?aR (fun _ _ h=>h) (fun _ h=>h.elim) ?aF ?aB ?aS ?aL ?_;(case aR=>exact cc (Kd.C_below HR1.out HB.out));(case aB=>exact (bb HB));(case aF=>exact (fun _ _=>trivial));(case aO=>exact (rR HO514));(case aS=>exact (bz HB));(case aL=>have:=LMc5.out;omega);intro v516 w13 ho hb hg hat;rw [← Ny515.out] at ho;have n0_:=am (hb);have n1_:=am (ho);clear HB;clear HO514;have HB:=n0_;have HO517:=n1_;clear n0_ n1_;clear ho hb hg hat)|(go_at_call 16;(with_reducible refine (l_10_copied.calls _ _ l0 t518 _ ?side1 ?side2 A6.out).mono ?_);(case side1=>exact cc (Kd.C_below HR0.out HB.out));(case side2=>exact HC0.out);rintro e w14 ⟨v519,rfl,ho0,hb⟩;have n0_:=am (Kd.R_below (rR HO517) hb);have n1_:=am (Kd.R_lower ho0 (bz HB));have n2_:=bst HB hb;clear HO517;clear HB;have HO517:=n0_;have HO520:=n1_;have HB:=n2_;clear n0_ n1_ n2_;(try clear hb);(try clear hb2);(try clear hk);(try clear hi);(try clear ho0);obtain ⟨Ao15,co15,eo15⟩:=Kd.R_slice HO520.out;subst eo15;obtain ⟨Ao16,co16,eo16⟩:=Kd.R_slice HO517.out;subst eo16)|(go_at_call 27;(with_reducible refine (extent_Store.calls k _ _ t518 _ _ y515 t521 t522 t523 _ ?side1 ?side2 ?side3 ?side4 A7.out).mono ?_);(case side1=>exact cc (Kd.R_reads' HO520.out).2.2);(case side2=>exact (Kd.R_reads' HO520.out).2.1);(case side3=>exact cc (Kd.R_reads' HO517.out).2.2);(case side4=>exact (Kd.R_reads' HO517.out).2.1);rintro e w17 ⟨v524,v526,rfl,ho0,ho1,hb⟩;have n0_:=am (Kd.R_below (rR HO517) hb);have n1_:=am (Kd.R_below (rR HO520) hb);have n2_:=am (Kd.R_lower ho0 (bz HB));have n3_:=am (Kd.S_lower ho1 (bz HB));have n4_:=bst HB hb;clear HO517;clear HO520;clear HB;have HO517:=n0_;have HO520:=n1_;have HO525:=n2_;have HO527:=n3_;have HB:=n4_;clear n0_ n1_ n2_ n3_ n4_;(try clear hb);(try clear hb2);(try clear hk);(try clear hi);(try clear ho0);(try clear ho1))|(go_at_call 28;(with_reducible refine (r_10_Store.calls k _ _ l0 _ _ l1 t528 t529 t530 _ ?side1 ?side2 ?side3 ?side4 A8.out).mono ?_);(case side1=>exact cc (Kd.C_below HR0.out HB.out));(case side2=>exact HC0.out);(case side3=>exact cc (Kd.C_below HR1.out HB.out));(case side4=>exact HC1.out);rintro e w18 ⟨v531,v533,rfl,ho0,ho1,hb⟩;have n0_:=am (Kd.R_below (rR HO517) hb);have n1_:=am (Kd.R_below (rR HO520) hb);have n2_:=am (Kd.R_elder' (rR HO525) (Kd.R_base ho0) hb);have n3_:=am (Kd.S_mono (Kd.S_told (Kd.S_told (Kd.S_old (rS HO527) hb) (Kd.R_base ho0)) (Kd.S_base ho1)) (fun _ h_=>h_.1));have n4_:=am (Kd.R_lower (Kd.R_new' ho0 (Kd.R_lt (rR HO525))) (bz HB));have n5_:=am (Kd.S_lower (Kd.S_new' (Kd.S_new' ho1 (Kd.R_lt (rR HO525))) (Kd.S_lt (rS HO527))) (bz HB));have n6_:=bst HB hb;clear HO517;clear HO520;clear HO525;clear HO527;clear HB;have HO517:=n0_;have HO520:=n1_;have HO525:=n2_;have HO527:=n3_;have HO532:=n4_;have HO534:=n5_;have HB:=n6_;clear n0_ n1_ n2_ n3_ n4_ n5_ n6_;(try clear hb);(try clear hb2);(try clear hk);(try clear hi);(try clear ho0);(try clear ho1))))
   (try simp only [Act.put,List.setIfInBounds_toArray,List.set_cons_zero,List.set_cons_succ])
   go_cut [60] (fun v60 wc=>∃ (kq:Nat) (x60_8:Bool),v60=.bool x60_8∧Aside0 (l_10_ExtentStores.j0 kq l0 l1 t521 t522 t523 t529 x60_8=some r)∧Aside0 (kq≤k)∧Aside0 (Kd.R (Kd.int .u8) 5 wc w.heap.size (fun _=>True) v524 t521)∧Aside0 (Kd.S (Kd.slice 5 (Kd.int .u8)) 46 wc w.heap.size (fun k_=>some k_≠(v524:Value).ownBlock∧some k_≠(v533:Value).ownBlock) v526 t522)∧Aside0 (Kd.S (Kd.slice 5 (Kd.int .u8)) 46 wc w.heap.size (fun k_=>some k_≠(v524:Value).ownBlock∧some k_≠(v526:Value).ownBlock) v533 t529)∧Aside0 (Below w.heap.size w wc))
   case first =>
    have H:=HC9.out
    clear HC9
    by_cases c19:t523=t530
    ·rw [if_pos c19] at H
     have c19b0:(t523==t530)=true:=beq_iff_eq.mpr c19
     have c19b1:(t523 != t530)=false:=bne_eq_false_iff_eq.mpr c19
     clear c19
     (first|rw [c19b0]|(simp only [i64_w,i32_w];rw [c19b0])|skip)
     by_cases c20:(strOfNums t521).toList=(strOfNums t528).toList
     ·rw [if_pos c20] at H
      have c20b0:((strOfNums t521).toList==(strOfNums t528).toList)=true:=beq_iff_eq.mpr c20
      have c20b1:((strOfNums t521).toList != (strOfNums t528).toList)=false:=bne_eq_false_iff_eq.mpr c20
      clear c20
      by_cases c21:(t522.length:Int)=(t529.length:Int)
      ·rw [if_pos c21] at H
       have c21b0:((t522.length:Int)==(t529.length:Int))=true:=beq_iff_eq.mpr c21
       have c21b1:((t522.length:Int) != (t529.length:Int))=false:=bne_eq_false_iff_eq.mpr c21
       have c21b2:(t522.length==t529.length)=true:=by first|simpa using c21|(simp at c21 ⊢;omega)
       clear c21
       replace H:=Option.bind_eq_some_iff.mp H
       obtain ⟨t535,A220,H⟩:=H
       replace H:(l_10_ExtentStores.j0 k l0 l1 t521 t522 t523 t529 (!t535))=some r:=H
       have A22:=am A220
       clear A220
       have H':=am H
       clear H
       have hcv23:=own_string (P:=Try.prog) Try.underlying46 Try.underlying5 Try.underlying9 (Kd.own_of_R HO525.out)
       have hcv24:=own_string (P:=Try.prog) Try.underlying46 Try.underlying5 Try.underlying9 (Kd.own_of_R HO532.out)
       obtain ⟨Ao25,co25,eo25⟩:=Kd.S_slice HO527.out
       subst eo25
       obtain ⟨Ao26,co26,eo26⟩:=Kd.S_slice HO534.out
       subst eo26
       go_wp2_with (first|(go_at_call 29;(with_reducible refine (r_03_SameInts.calls k _ _ y515 _ _ l1 t535 _ ?side1 ?side2 ?side3 ?side4 A22.out).mono ?_);(case side1=>exact cc (Kd.R_reads' HO517.out).2.2);(case side2=>exact (Kd.R_reads' HO517.out).2.1);(case side3=>exact cc (Kd.C_below HR1.out HB.out));(case side4=>exact HC1.out);rintro e w' ⟨rfl,⟨nd,rfl⟩⟩;(try first|exact ⟨rfl,_,World.drewN_drewN _ _ _⟩|exact ⟨rfl,_,Eq.trans (World.drewN_drewN _ _ _) (congrArg (World.drewN _) (Nat.add_assoc _ _ _))⟩)))
       repeat (go_quiet (first|(go_at_call 29;(with_reducible refine (r_03_SameInts.calls k _ _ y515 _ _ l1 t535 _ ?side1 ?side2 ?side3 ?side4 A22.out).mono ?_);(case side1=>exact cc (Kd.R_reads' HO517.out).2.2);(case side2=>exact (Kd.R_reads' HO517.out).2.1);(case side3=>exact cc (Kd.C_below HR1.out HB.out));(case side4=>exact HC1.out);rintro e w' ⟨rfl,⟨nd,rfl⟩⟩;(try first|exact ⟨rfl,_,World.drewN_drewN _ _ _⟩|exact ⟨rfl,_,Eq.trans (World.drewN_drewN _ _ _) (congrArg (World.drewN _) (Nat.add_assoc _ _ _))⟩)));try go_wp2_with (first|(go_at_call 29;(with_reducible refine (r_03_SameInts.calls k _ _ y515 _ _ l1 t535 _ ?side1 ?side2 ?side3 ?side4 A22.out).mono ?_);(case side1=>exact cc (Kd.R_reads' HO517.out).2.2);(case side2=>exact (Kd.R_reads' HO517.out).2.1);(case side3=>exact cc (Kd.C_below HR1.out HB.out));(case side4=>exact HC1.out);rintro e w' ⟨rfl,⟨nd,rfl⟩⟩;(try first|exact ⟨rfl,_,World.drewN_drewN _ _ _⟩|exact ⟨rfl,_,Eq.trans (World.drewN_drewN _ _ _) (congrArg (World.drewN _) (Nat.add_assoc _ _ _))⟩))))
       go_meet
       case rel=>exact ⟨_,(!t535),(by first|rfl|(simp;done)|(simp [*];done)),H',⟨by first|omega|exact Nat.le_refl _⟩,⟨by (with_reducible repeat (first|apply Kd.R_alloc|apply Kd.R_drewN|apply Kd.R_drew));exact Kd.R_mono HO525.out (fun _ hk=>trivial)⟩,⟨by (with_reducible repeat (first|apply Kd.S_alloc|apply Kd.S_drewN|apply Kd.S_drew));exact Kd.S_mono HO527.out (fun _ hk=>⟨hk.1.1,hk.2⟩)⟩,⟨by (with_reducible repeat (first|apply Kd.S_alloc|apply Kd.S_drewN|apply Kd.S_drew));exact Kd.S_mono HO534.out (fun _ hk=>⟨hk.1.2,hk.2⟩)⟩,⟨bb HB⟩⟩
      ·rw [if_neg c21] at H
       have c21b0:((t522.length:Int)==(t529.length:Int))=false:=beq_eq_false_iff_ne.mpr c21
       have c21b1:((t522.length:Int) != (t529.length:Int))=true:=bne_iff_ne.mpr c21
       have c21b2:(t522.length==t529.length)=false:=by first|simpa using c21|(simp at c21 ⊢;omega)
       have H':=am H
       clear H
       have hcv27:=own_string (P:=Try.prog) Try.underlying46 Try.underlying5 Try.underlying9 (Kd.own_of_R HO525.out)
       have hcv28:=own_string (P:=Try.prog) Try.underlying46 Try.underlying5 Try.underlying9 (Kd.own_of_R HO532.out)
       obtain ⟨Ao29,co29,eo29⟩:=Kd.S_slice HO527.out
       subst eo29
       obtain ⟨Ao30,co30,eo30⟩:=Kd.S_slice HO534.out
       subst eo30
       go_wp2
       repeat (go_quiet (fail);try go_wp2)
       go_meet
       case rel=>exact ⟨_,(true),(by first|rfl|(simp;done)|(simp [*];done)),H',⟨by first|omega|exact Nat.le_refl _⟩,⟨by (with_reducible repeat (first|apply Kd.R_alloc|apply Kd.R_drewN|apply Kd.R_drew));exact Kd.R_mono HO525.out (fun _ hk=>trivial)⟩,⟨by (with_reducible repeat (first|apply Kd.S_alloc|apply Kd.S_drewN|apply Kd.S_drew));exact Kd.S_mono HO527.out (fun _ hk=>⟨hk.1.1,hk.2⟩)⟩,⟨by (with_reducible repeat (first|apply Kd.S_alloc|apply Kd.S_drewN|apply Kd.S_drew));exact Kd.S_mono HO534.out (fun _ hk=>⟨hk.1.2,hk.2⟩)⟩,⟨bb HB⟩⟩
     ·rw [if_neg c20] at H
      have c20b0:((strOfNums t521).toList==(strOfNums t528).toList)=false:=beq_eq_false_iff_ne.mpr c20
      have c20b1:((strOfNums t521).toList != (strOfNums t528).toList)=true:=bne_iff_ne.mpr c20
      have H':=am H
      clear H
      have hcv31:=own_string (P:=Try.prog) Try.underlying46 Try.underlying5 Try.underlying9 (Kd.own_of_R HO525.out)
      have hcv32:=own_string (P:=Try.prog) Try.underlying46 Try.underlying5 Try.underlying9 (Kd.own_of_R HO532.out)
      go_wp2
      repeat (go_quiet (fail);try go_wp2)
      go_meet
      case rel=>exact ⟨_,(true),(by first|rfl|(simp;done)|(simp [*];done)),H',⟨by first|omega|exact Nat.le_refl _⟩,⟨by (with_reducible repeat (first|apply Kd.R_alloc|apply Kd.R_drewN|apply Kd.R_drew));exact Kd.R_mono HO525.out (fun _ hk=>trivial)⟩,⟨by (with_reducible repeat (first|apply Kd.S_alloc|apply Kd.S_drewN|apply Kd.S_drew));exact Kd.S_mono HO527.out (fun _ hk=>⟨hk.1.1,hk.2⟩)⟩,⟨by (with_reducible repeat (first|apply Kd.S_alloc|apply Kd.S_drewN|apply Kd.S_drew));exact Kd.S_mono HO534.out (fun _ hk=>⟨hk.1.2,hk.2⟩)⟩,⟨bb HB⟩⟩
    ·rw [if_neg c19] at H
     have c19b0:(t523==t530)=false:=beq_eq_false_iff_ne.mpr c19
     have c19b1:(t523 != t530)=true:=bne_iff_ne.mpr c19
     (first|rw [c19b0]|(simp only [i64_w,i32_w];rw [c19b0])|skip)
     have H':=am H
     clear H;go_wp2
     repeat (go_quiet (fail);try go_wp2)
     go_meet
     case rel=>exact ⟨_,(true),(by first|rfl|(simp;done)|(simp [*];done)),H',⟨by first|omega|exact Nat.le_refl _⟩,⟨by (with_reducible repeat (first|apply Kd.R_alloc|apply Kd.R_drewN|apply Kd.R_drew));exact Kd.R_mono HO525.out (fun _ hk=>trivial)⟩,⟨by (with_reducible repeat (first|apply Kd.S_alloc|apply Kd.S_drewN|apply Kd.S_drew));exact Kd.S_mono HO527.out (fun _ hk=>⟨hk.1.1,hk.2⟩)⟩,⟨by (with_reducible repeat (first|apply Kd.S_alloc|apply Kd.S_drewN|apply Kd.S_drew));exact Kd.S_mono HO534.out (fun _ hk=>⟨hk.1.2,hk.2⟩)⟩,⟨bb HB⟩⟩
   case rest =>
    clear HC9
    try clear c1
    try clear c2
    try clear p2
    try clear hcv2
    try clear hcv3
    try clear c4
    try clear c5
    try clear c9
    try clear c19
    try clear c19b0
    try clear c19b1
    try clear c20
    try clear c20b0
    try clear c20b1
    try clear c21
    try clear c21b0
    try clear c21b1
    try clear c21b2
    try clear hcv23
    try clear hcv24
    try clear hcv27
    try clear hcv28
    try clear hcv31
    try clear hcv32
    obtain ⟨kq,x60_8,rfl,HA,HJ8,HO_6,HO_7,HO_10,HB⟩:=hcut
    cases kq with
    | zero=>exact absurd HA.out (by intro h_;cases h_)
    | succ kj8 =>
     have H:=HA.out
     clear HA
     simp only [l_10_ExtentStores.j0] at H
     by_cases c33:x60_8=true
     ·subst c33
      have H1:(some false)=some r:=by rw [if_pos rfl] at H;exact H
      clear H;have H:=H1;clear H1;obtain rfl:=Option.some.inj H;go_wp2
      repeat (go_quiet (fail);try go_wp2)
      go_ret
      exact ⟨by first|rfl|(simp [errW_none,errW_some]<;>rfl)|(simp [*,errW_none,errW_some]<;>rfl),bb HB⟩
     ·replace c33:=Bool.eq_false_iff.mpr c33
      subst c33
      have H1:(l_10_ExtentStores.l0 kj8 l0 l1 t521 t522 t523 t529 0)=some r:=by rw [if_neg (show ¬ (false=true) by decide)] at H;exact H
      clear H;have H:=H1;clear H1
      have H':=am H
      clear H;go_wp2
      repeat (go_quiet (fail);try go_wp2)
      go_loopg [12] kj8 (fun kq v12 w'=>∃ (x12_2:Int),v12=.int .i64 x12_2∧Aside0 (l_10_ExtentStores.l0 kq l0 l1 t521 t522 t523 t529 x12_2=some r)∧Aside0 (kq≤kj8)∧Aside0 (Kd.R (Kd.int .u8) 5 w' w.heap.size (fun _=>True) v524 t521)∧Aside0 (Kd.S (Kd.slice 5 (Kd.int .u8)) 46 w' w.heap.size (fun k_=>some k_≠(v524:Value).ownBlock∧some k_≠(v533:Value).ownBlock) v526 t522)∧Aside0 (Kd.S (Kd.slice 5 (Kd.int .u8)) 46 w' w.heap.size (fun k_=>some k_≠(v524:Value).ownBlock∧some k_≠(v526:Value).ownBlock) v533 t529)∧Aside0 (Below w.heap.size w w'))
      case atStart=>exact ⟨(0),(by first|rfl|(simp;done)|(simp [*];done)),H',⟨Nat.le_refl _⟩,⟨by (with_reducible repeat (first|apply Kd.R_alloc|apply Kd.R_drewN|apply Kd.R_drew));exact HO_6.out⟩,⟨by (with_reducible repeat (first|apply Kd.S_alloc|apply Kd.S_drewN|apply Kd.S_drew));exact HO_7.out⟩,⟨by (with_reducible repeat (first|apply Kd.S_alloc|apply Kd.S_drewN|apply Kd.S_drew));exact HO_10.out⟩,⟨bb HB⟩⟩
      case round =>
       clear H'
       try clear c1
       try clear c2
       try clear p2
       try clear hcv2
       try clear c3
       try clear hcv3
       try clear c4
       try clear c5
       try clear c9
       try clear c19
       try clear c19b0
       try clear c19b1
       try clear c20
       try clear c20b0
       try clear c20b1
       try clear c21
       try clear c21b0
       try clear c21b1
       try clear c21b2
       try clear hcv23
       try clear hcv24
       try clear hcv27
       try clear hcv28
       try clear hcv31
       try clear hcv32
       try clear c33
       try clear p2
       obtain ⟨x12_2,rfl,HA,HK2,HO_6,HO_7,HO_10,HB⟩:=hrel
       cases gk with
       | zero=>exact absurd HA.out (by intro h_;cases h_)
       | succ k2 =>
        have H:=HA.out
        clear HA
        simp only [l_10_ExtentStores.l0] at H
        by_cases c34:x12_2 < (t522.length:Int)
        ·rw [if_pos c34] at H
         have c34b0:decide (x12_2 < (t522.length:Int))=true:=decide_eq_true c34
         clear c34
         by_cases c35:0≤x12_2
         ·rw [if_pos c35] at H
          have c35b0:decide (0≤x12_2)=true:=decide_eq_true c35
          clear c35
          by_cases c36:x12_2 < (t529.length:Int)
          ·rw [if_pos c36] at H
           have c36b0:decide (x12_2 < (t529.length:Int))=true:=decide_eq_true c36
           clear c36
           by_cases c37:(strOfNums (rd_L5 t522 x12_2)).toList=(strOfNums (rd_L5 t529 x12_2)).toList
           ·rw [if_pos c37] at H
            have c37b0:((strOfNums (rd_L5 t522 x12_2)).toList==(strOfNums (rd_L5 t529 x12_2)).toList)=true:=beq_iff_eq.mpr c37
            have c37b1:((strOfNums (rd_L5 t522 x12_2)).toList != (strOfNums (rd_L5 t529 x12_2)).toList)=false:=bne_eq_false_iff_eq.mpr c37
            clear c37
            have H':=am H
            clear H
            obtain ⟨Ao38,co38,eo38⟩:=Kd.S_slice HO_7.out
            subst eo38
            have p536:0≤(x12_2:Int):=od
            have q536:x12_2 < (t522.length:Int):=od
            obtain ⟨ad536,A536_0,c536_0,e536,hx536_0,hl536_0,hi536_0⟩:=at_L5 (Kd.S_reads' HO_7.out).2.2 x12_2 p536 q536
            cases e536
            obtain ⟨ce536,hce536,hMe536,hcc536⟩:=Kd.S_get HO_7.out [] x12_2 p536 (by first|exact q536|exact od|(have e_:=(Kd.S_reads' HO_7.out).1;omega))
            obtain ⟨ve536_0,rfl,ge536_0⟩:=hMe536
            have hv536_0:=hcc536 0 _ rfl
            rw [Nat.add_zero,show ((Kd.slice 5 (Kd.int .u8))).sz=1 from rfl,Nat.mul_one] at hv536_0
            replace hv536_0:=Option.some.inj (hv536_0.symm.trans hx536_0)
            rw [hv536_0] at ge536_0
            have HL536_0:=am (show Kd.R (Kd.int .u8) 5 _ _ _ _ (rd_L5 t522 x12_2) from ge536_0)
            clear hv536_0 ge536_0;clear hcc536 hce536
            have HR536_0:=am hi536_0
            have HC536_0:=am hl536_0
            clear hi536_0 hl536_0;replace p536:=eq_true p536;replace q536:=eq_true q536
            have hcv39:=Kd.C_string (P:=Try.prog) (A:=A536_0) (c:=c536_0) Try.underlying46 Try.underlying5 Try.underlying9 (by repeat (first|(with_reducible exact HR536_0.out)|(with_reducible refine Kd.C_alloc ?_ _)|(with_reducible refine Kd.C_drewN ?_ _)|(with_reducible refine Kd.C_drew ?_)|exact HR536_0.out))
            have hcvq39:=fun n_:Nat=>Kd.C_string (P:=Try.prog) (A:=A536_0) (c:=c536_0) Try.underlying46 Try.underlying5 Try.underlying9 (Kd.C_drewN (by repeat (first|(with_reducible exact HR536_0.out)|(with_reducible refine Kd.C_alloc ?_ _)|(with_reducible refine Kd.C_drewN ?_ _)|(with_reducible refine Kd.C_drew ?_)|exact HR536_0.out)) n_)
            obtain ⟨Ao40,co40,eo40⟩:=Kd.S_slice HO_10.out
            subst eo40
            have p537:0≤(x12_2:Int):=od
            have q537:x12_2 < (t529.length:Int):=od
            obtain ⟨ad537,A537_0,c537_0,e537,hx537_0,hl537_0,hi537_0⟩:=at_L5 (Kd.S_reads' HO_10.out).2.2 x12_2 p537 q537
            cases e537
            obtain ⟨ce537,hce537,hMe537,hcc537⟩:=Kd.S_get HO_10.out [] x12_2 p537 (by first|exact q537|exact od|(have e_:=(Kd.S_reads' HO_10.out).1;omega))
            obtain ⟨ve537_0,rfl,ge537_0⟩:=hMe537
            have hv537_0:=hcc537 0 _ rfl
            rw [Nat.add_zero,show ((Kd.slice 5 (Kd.int .u8))).sz=1 from rfl,Nat.mul_one] at hv537_0
            replace hv537_0:=Option.some.inj (hv537_0.symm.trans hx537_0)
            rw [hv537_0] at ge537_0
            have HL537_0:=am (show Kd.R (Kd.int .u8) 5 _ _ _ _ (rd_L5 t529 x12_2) from ge537_0)
            clear hv537_0 ge537_0;clear hcc537 hce537
            have HR537_0:=am hi537_0
            have HC537_0:=am hl537_0
            clear hi537_0 hl537_0;replace p537:=eq_true p537;replace q537:=eq_true q537
            have hcv41:=Kd.C_string (P:=Try.prog) (A:=A537_0) (c:=c537_0) Try.underlying46 Try.underlying5 Try.underlying9 (by repeat (first|(with_reducible exact HR537_0.out)|(with_reducible refine Kd.C_alloc ?_ _)|(with_reducible refine Kd.C_drewN ?_ _)|(with_reducible refine Kd.C_drew ?_)|exact HR537_0.out))
            have hcvq41:=fun n_:Nat=>Kd.C_string (P:=Try.prog) (A:=A537_0) (c:=c537_0) Try.underlying46 Try.underlying5 Try.underlying9 (Kd.C_drewN (by repeat (first|(with_reducible exact HR537_0.out)|(with_reducible refine Kd.C_alloc ?_ _)|(with_reducible refine Kd.C_drewN ?_ _)|(with_reducible refine Kd.C_drew ?_)|exact HR537_0.out)) n_)
            go_wp2
            repeat (go_quiet (fail);try go_wp2)
            go_roundg k2
            case measure=>have:=HJ8.out;have:=HK2.out;omega
            case rel=>exact ⟨(wrap64 (x12_2+1)),(by first|rfl|(simp;done)|(simp [*];done)),H',⟨by have:=HJ8.out;have:=HK2.out;omega⟩,⟨by (with_reducible repeat (first|apply Kd.R_alloc|apply Kd.R_drewN|apply Kd.R_drew));exact HO_6.out⟩,⟨by (with_reducible repeat (first|apply Kd.S_alloc|apply Kd.S_drewN|apply Kd.S_drew));exact HO_7.out⟩,⟨by (with_reducible repeat (first|apply Kd.S_alloc|apply Kd.S_drewN|apply Kd.S_drew));exact HO_10.out⟩,⟨bb HB⟩⟩
           ·rw [if_neg c37] at H
            have c37b0:((strOfNums (rd_L5 t522 x12_2)).toList==(strOfNums (rd_L5 t529 x12_2)).toList)=false:=beq_eq_false_iff_ne.mpr c37
            have c37b1:((strOfNums (rd_L5 t522 x12_2)).toList != (strOfNums (rd_L5 t529 x12_2)).toList)=true:=bne_iff_ne.mpr c37
            obtain rfl:=Option.some.inj H
            obtain ⟨Ao42,co42,eo42⟩:=Kd.S_slice HO_7.out
            subst eo42
            have p536:0≤(x12_2:Int):=od
            have q536:x12_2 < (t522.length:Int):=od
            obtain ⟨ad536,A536_0,c536_0,e536,hx536_0,hl536_0,hi536_0⟩:=at_L5 (Kd.S_reads' HO_7.out).2.2 x12_2 p536 q536
            cases e536
            obtain ⟨ce536,hce536,hMe536,hcc536⟩:=Kd.S_get HO_7.out [] x12_2 p536 (by first|exact q536|exact od|(have e_:=(Kd.S_reads' HO_7.out).1;omega))
            obtain ⟨ve536_0,rfl,ge536_0⟩:=hMe536
            have hv536_0:=hcc536 0 _ rfl
            rw [Nat.add_zero,show ((Kd.slice 5 (Kd.int .u8))).sz=1 from rfl,Nat.mul_one] at hv536_0
            replace hv536_0:=Option.some.inj (hv536_0.symm.trans hx536_0)
            rw [hv536_0] at ge536_0
            have HL536_0:=am (show Kd.R (Kd.int .u8) 5 _ _ _ _ (rd_L5 t522 x12_2) from ge536_0)
            clear hv536_0 ge536_0;clear hcc536 hce536
            have HR536_0:=am hi536_0
            have HC536_0:=am hl536_0
            clear hi536_0 hl536_0;replace p536:=eq_true p536;replace q536:=eq_true q536
            have hcv43:=Kd.C_string (P:=Try.prog) (A:=A536_0) (c:=c536_0) Try.underlying46 Try.underlying5 Try.underlying9 (by repeat (first|(with_reducible exact HR536_0.out)|(with_reducible refine Kd.C_alloc ?_ _)|(with_reducible refine Kd.C_drewN ?_ _)|(with_reducible refine Kd.C_drew ?_)|exact HR536_0.out))
            have hcvq43:=fun n_:Nat=>Kd.C_string (P:=Try.prog) (A:=A536_0) (c:=c536_0) Try.underlying46 Try.underlying5 Try.underlying9 (Kd.C_drewN (by repeat (first|(with_reducible exact HR536_0.out)|(with_reducible refine Kd.C_alloc ?_ _)|(with_reducible refine Kd.C_drewN ?_ _)|(with_reducible refine Kd.C_drew ?_)|exact HR536_0.out)) n_)
            obtain ⟨Ao44,co44,eo44⟩:=Kd.S_slice HO_10.out
            subst eo44
            have p537:0≤(x12_2:Int):=od
            have q537:x12_2 < (t529.length:Int):=od
            obtain ⟨ad537,A537_0,c537_0,e537,hx537_0,hl537_0,hi537_0⟩:=at_L5 (Kd.S_reads' HO_10.out).2.2 x12_2 p537 q537
            cases e537
            obtain ⟨ce537,hce537,hMe537,hcc537⟩:=Kd.S_get HO_10.out [] x12_2 p537 (by first|exact q537|exact od|(have e_:=(Kd.S_reads' HO_10.out).1;omega))
            obtain ⟨ve537_0,rfl,ge537_0⟩:=hMe537
            have hv537_0:=hcc537 0 _ rfl
            rw [Nat.add_zero,show ((Kd.slice 5 (Kd.int .u8))).sz=1 from rfl,Nat.mul_one] at hv537_0
            replace hv537_0:=Option.some.inj (hv537_0.symm.trans hx537_0)
            rw [hv537_0] at ge537_0
            have HL537_0:=am (show Kd.R (Kd.int .u8) 5 _ _ _ _ (rd_L5 t529 x12_2) from ge537_0)
            clear hv537_0 ge537_0;clear hcc537 hce537
            have HR537_0:=am hi537_0
            have HC537_0:=am hl537_0
            clear hi537_0 hl537_0;replace p537:=eq_true p537;replace q537:=eq_true q537
            have hcv45:=Kd.C_string (P:=Try.prog) (A:=A537_0) (c:=c537_0) Try.underlying46 Try.underlying5 Try.underlying9 (by repeat (first|(with_reducible exact HR537_0.out)|(with_reducible refine Kd.C_alloc ?_ _)|(with_reducible refine Kd.C_drewN ?_ _)|(with_reducible refine Kd.C_drew ?_)|exact HR537_0.out))
            have hcvq45:=fun n_:Nat=>Kd.C_string (P:=Try.prog) (A:=A537_0) (c:=c537_0) Try.underlying46 Try.underlying5 Try.underlying9 (Kd.C_drewN (by repeat (first|(with_reducible exact HR537_0.out)|(with_reducible refine Kd.C_alloc ?_ _)|(with_reducible refine Kd.C_drewN ?_ _)|(with_reducible refine Kd.C_drew ?_)|exact HR537_0.out)) n_)
            go_wp2
            repeat (go_quiet (fail);try go_wp2)
            go_ret
            exact ⟨by first|rfl|(simp [errW_none,errW_some]<;>rfl)|(simp [*,errW_none,errW_some]<;>rfl),bb HB⟩
          ·rw [if_neg c36] at H
           exact absurd H (by simp)
         ·rw [if_neg c35] at H
          exact absurd H (by simp)
        ·rw [if_neg c34] at H
         have c34b0:decide (x12_2 < (t522.length:Int))=false:=decide_eq_false c34
         clear c34
         by_cases c46:t523=0
         ·rw [if_pos c46] at H
          have c46b0:(t523==0)=true:=beq_iff_eq.mpr c46
          have c46b1:(t523 != 0)=false:=bne_eq_false_iff_eq.mpr c46
          clear c46
          replace H:=Option.bind_eq_some_iff.mp H
          obtain ⟨⟨t538,t539,t540⟩,A470,H⟩:=H
          replace H:(if (t522.length:Int)=0 then (if t540=0 then ((r_10_Same.f k2 t538 l0).bind fun t545=>(if t545=true then (some ((t539.length:Int)==0)) else (some false))) else (some false)) else ((extent_Join.f k2 t522).bind fun bt546=>(if t540=0 then (if (t538.length:Int)=0 then ((r_03_SameInts.f k2 t539 l1).bind fun t550=>(if t550=true then (if bt546.2=0 then ((r_10_Same.f k2 bt546.1 l0).bind fun t551=>(if t551=true then ((extent_Need.f k2 l0).bind fun t552=>(some (t552==(t522.length:Int)))) else (some false))) else (some false)) else (some false))) else (some false)) else (some false))))=some r:=H
          have A47:=am A470
          clear A470
          by_cases c48:(t522.length:Int)=0
          ·rw [if_pos c48] at H
           have c48b0:((t522.length:Int)==0)=true:=beq_iff_eq.mpr c48
           have c48b1:((t522.length:Int) != 0)=false:=bne_eq_false_iff_eq.mpr c48
           clear c48
           by_cases c49:t540=0
           ·rw [if_pos c49] at H
            have c49b0:(t540==0)=true:=beq_iff_eq.mpr c49
            have c49b1:(t540 != 0)=false:=bne_eq_false_iff_eq.mpr c49
            clear c49
            replace H:=Option.bind_eq_some_iff.mp H
            obtain ⟨t545,A500,H⟩:=H
            replace H:(if t545=true then (some ((t539.length:Int)==0)) else (some false))=some r:=H
            have A50:=am A500
            clear A500
            by_cases c51:t545=true
            ·subst c51
             have H1:(some ((t539.length:Int)==0))=some r:=by rw [if_pos rfl] at H;exact H
             clear H;have H:=H1;clear H1;obtain rfl:=Option.some.inj H
             obtain ⟨Ao52,co52,eo52⟩:=Kd.S_slice HO_7.out
             subst eo52
             obtain ⟨Ao53,co53,eo53⟩:=Kd.R_slice HO_6.out
             subst eo53
             go_wp2_with (first|(go_at_call 30;(with_reducible refine (extent_Root.calls k2 _ _ t521 t538 t539 t540 _ ?side1 ?side2 A47.out).mono ?_);(case side1=>exact cc (Kd.R_reads' HO_6.out).2.2);(case side2=>exact (Kd.R_reads' HO_6.out).2.1);rintro e w54 ⟨v541,v543,rfl,ho0,ho1,hb⟩;have n0_:=am (Kd.R_below (rR HO_6) hb);have n1_:=am (Kd.S_below (rS HO_7) hb);have n2_:=am (Kd.S_below (rS HO_10) hb);have n3_:=am (Kd.R_lower ho0 (bz HB));have n4_:=am (Kd.R_lower ho1 (bz HB));have n5_:=bst HB hb;clear HO_6;clear HO_7;clear HO_10;clear HB;have HO_6:=n0_;have HO_7:=n1_;have HO_10:=n2_;have HO542:=n3_;have HO544:=n4_;have HB:=n5_;clear n0_ n1_ n2_ n3_ n4_ n5_;(try clear hb);(try clear hb2);(try clear hk);(try clear hi);(try clear ho0);(try clear ho1);obtain ⟨Ao55,co55,eo55⟩:=Kd.R_slice HO542.out;subst eo55)|(go_at_call 15;(with_reducible refine (r_10_Same.calls k2 _ _ t538 _ _ l0 true _ ?side1 ?side2 ?side3 ?side4 A50.out).mono ?_);(case side1=>exact cc (Kd.R_reads' HO542.out).2.2);(case side2=>exact (Kd.R_reads' HO542.out).2.1);(case side3=>exact cc (Kd.C_below HR0.out HB.out));(case side4=>exact HC0.out);rintro e w' ⟨rfl,⟨nd,rfl⟩⟩;(try first|exact ⟨rfl,_,World.drewN_drewN _ _ _⟩|exact ⟨rfl,_,Eq.trans (World.drewN_drewN _ _ _) (congrArg (World.drewN _) (Nat.add_assoc _ _ _))⟩);obtain ⟨Ao56,co56,eo56⟩:=Kd.R_slice HO544.out;subst eo56))
             repeat (go_quiet (first|(go_at_call 30;(with_reducible refine (extent_Root.calls k2 _ _ t521 t538 t539 t540 _ ?side1 ?side2 A47.out).mono ?_);(case side1=>exact cc (Kd.R_reads' HO_6.out).2.2);(case side2=>exact (Kd.R_reads' HO_6.out).2.1);rintro e w54 ⟨v541,v543,rfl,ho0,ho1,hb⟩;have n0_:=am (Kd.R_below (rR HO_6) hb);have n1_:=am (Kd.S_below (rS HO_7) hb);have n2_:=am (Kd.S_below (rS HO_10) hb);have n3_:=am (Kd.R_lower ho0 (bz HB));have n4_:=am (Kd.R_lower ho1 (bz HB));have n5_:=bst HB hb;clear HO_6;clear HO_7;clear HO_10;clear HB;have HO_6:=n0_;have HO_7:=n1_;have HO_10:=n2_;have HO542:=n3_;have HO544:=n4_;have HB:=n5_;clear n0_ n1_ n2_ n3_ n4_ n5_;(try clear hb);(try clear hb2);(try clear hk);(try clear hi);(try clear ho0);(try clear ho1);obtain ⟨Ao55,co55,eo55⟩:=Kd.R_slice HO542.out;subst eo55)|(go_at_call 15;(with_reducible refine (r_10_Same.calls k2 _ _ t538 _ _ l0 true _ ?side1 ?side2 ?side3 ?side4 A50.out).mono ?_);(case side1=>exact cc (Kd.R_reads' HO542.out).2.2);(case side2=>exact (Kd.R_reads' HO542.out).2.1);(case side3=>exact cc (Kd.C_below HR0.out HB.out));(case side4=>exact HC0.out);rintro e w' ⟨rfl,⟨nd,rfl⟩⟩;(try first|exact ⟨rfl,_,World.drewN_drewN _ _ _⟩|exact ⟨rfl,_,Eq.trans (World.drewN_drewN _ _ _) (congrArg (World.drewN _) (Nat.add_assoc _ _ _))⟩);obtain ⟨Ao56,co56,eo56⟩:=Kd.R_slice HO544.out;subst eo56));try go_wp2_with (first|(go_at_call 30;(with_reducible refine (extent_Root.calls k2 _ _ t521 t538 t539 t540 _ ?side1 ?side2 A47.out).mono ?_);(case side1=>exact cc (Kd.R_reads' HO_6.out).2.2);(case side2=>exact (Kd.R_reads' HO_6.out).2.1);rintro e w54 ⟨v541,v543,rfl,ho0,ho1,hb⟩;have n0_:=am (Kd.R_below (rR HO_6) hb);have n1_:=am (Kd.S_below (rS HO_7) hb);have n2_:=am (Kd.S_below (rS HO_10) hb);have n3_:=am (Kd.R_lower ho0 (bz HB));have n4_:=am (Kd.R_lower ho1 (bz HB));have n5_:=bst HB hb;clear HO_6;clear HO_7;clear HO_10;clear HB;have HO_6:=n0_;have HO_7:=n1_;have HO_10:=n2_;have HO542:=n3_;have HO544:=n4_;have HB:=n5_;clear n0_ n1_ n2_ n3_ n4_ n5_;(try clear hb);(try clear hb2);(try clear hk);(try clear hi);(try clear ho0);(try clear ho1);obtain ⟨Ao55,co55,eo55⟩:=Kd.R_slice HO542.out;subst eo55)|(go_at_call 15;(with_reducible refine (r_10_Same.calls k2 _ _ t538 _ _ l0 true _ ?side1 ?side2 ?side3 ?side4 A50.out).mono ?_);(case side1=>exact cc (Kd.R_reads' HO542.out).2.2);(case side2=>exact (Kd.R_reads' HO542.out).2.1);(case side3=>exact cc (Kd.C_below HR0.out HB.out));(case side4=>exact HC0.out);rintro e w' ⟨rfl,⟨nd,rfl⟩⟩;(try first|exact ⟨rfl,_,World.drewN_drewN _ _ _⟩|exact ⟨rfl,_,Eq.trans (World.drewN_drewN _ _ _) (congrArg (World.drewN _) (Nat.add_assoc _ _ _))⟩);obtain ⟨Ao56,co56,eo56⟩:=Kd.R_slice HO544.out;subst eo56)))
             go_ret
             exact ⟨by first|rfl|(simp [errW_none,errW_some]<;>rfl)|(simp [*,errW_none,errW_some]<;>rfl),bb HB⟩
            ·replace c51:=Bool.eq_false_iff.mpr c51
             subst c51
             have H1:(some false)=some r:=by rw [if_neg (show ¬ (false=true) by decide)] at H;exact H
             clear H;have H:=H1;clear H1;obtain rfl:=Option.some.inj H
             obtain ⟨Ao57,co57,eo57⟩:=Kd.S_slice HO_7.out
             subst eo57
             obtain ⟨Ao58,co58,eo58⟩:=Kd.R_slice HO_6.out
             subst eo58
             go_wp2_with (first|(go_at_call 30;(with_reducible refine (extent_Root.calls k2 _ _ t521 t538 t539 t540 _ ?side1 ?side2 A47.out).mono ?_);(case side1=>exact cc (Kd.R_reads' HO_6.out).2.2);(case side2=>exact (Kd.R_reads' HO_6.out).2.1);rintro e w59 ⟨v541,v543,rfl,ho0,ho1,hb⟩;have n0_:=am (Kd.R_below (rR HO_6) hb);have n1_:=am (Kd.S_below (rS HO_7) hb);have n2_:=am (Kd.S_below (rS HO_10) hb);have n3_:=am (Kd.R_lower ho0 (bz HB));have n4_:=am (Kd.R_lower ho1 (bz HB));have n5_:=bst HB hb;clear HO_6;clear HO_7;clear HO_10;clear HB;have HO_6:=n0_;have HO_7:=n1_;have HO_10:=n2_;have HO542:=n3_;have HO544:=n4_;have HB:=n5_;clear n0_ n1_ n2_ n3_ n4_ n5_;(try clear hb);(try clear hb2);(try clear hk);(try clear hi);(try clear ho0);(try clear ho1);obtain ⟨Ao60,co60,eo60⟩:=Kd.R_slice HO542.out;subst eo60)|(go_at_call 15;(with_reducible refine (r_10_Same.calls k2 _ _ t538 _ _ l0 false _ ?side1 ?side2 ?side3 ?side4 A50.out).mono ?_);(case side1=>exact cc (Kd.R_reads' HO542.out).2.2);(case side2=>exact (Kd.R_reads' HO542.out).2.1);(case side3=>exact cc (Kd.C_below HR0.out HB.out));(case side4=>exact HC0.out);rintro e w' ⟨rfl,⟨nd,rfl⟩⟩;(try first|exact ⟨rfl,_,World.drewN_drewN _ _ _⟩|exact ⟨rfl,_,Eq.trans (World.drewN_drewN _ _ _) (congrArg (World.drewN _) (Nat.add_assoc _ _ _))⟩)))
             repeat (go_quiet (first|(go_at_call 30;(with_reducible refine (extent_Root.calls k2 _ _ t521 t538 t539 t540 _ ?side1 ?side2 A47.out).mono ?_);(case side1=>exact cc (Kd.R_reads' HO_6.out).2.2);(case side2=>exact (Kd.R_reads' HO_6.out).2.1);rintro e w59 ⟨v541,v543,rfl,ho0,ho1,hb⟩;have n0_:=am (Kd.R_below (rR HO_6) hb);have n1_:=am (Kd.S_below (rS HO_7) hb);have n2_:=am (Kd.S_below (rS HO_10) hb);have n3_:=am (Kd.R_lower ho0 (bz HB));have n4_:=am (Kd.R_lower ho1 (bz HB));have n5_:=bst HB hb;clear HO_6;clear HO_7;clear HO_10;clear HB;have HO_6:=n0_;have HO_7:=n1_;have HO_10:=n2_;have HO542:=n3_;have HO544:=n4_;have HB:=n5_;clear n0_ n1_ n2_ n3_ n4_ n5_;(try clear hb);(try clear hb2);(try clear hk);(try clear hi);(try clear ho0);(try clear ho1);obtain ⟨Ao60,co60,eo60⟩:=Kd.R_slice HO542.out;subst eo60)|(go_at_call 15;(with_reducible refine (r_10_Same.calls k2 _ _ t538 _ _ l0 false _ ?side1 ?side2 ?side3 ?side4 A50.out).mono ?_);(case side1=>exact cc (Kd.R_reads' HO542.out).2.2);(case side2=>exact (Kd.R_reads' HO542.out).2.1);(case side3=>exact cc (Kd.C_below HR0.out HB.out));(case side4=>exact HC0.out);rintro e w' ⟨rfl,⟨nd,rfl⟩⟩;(try first|exact ⟨rfl,_,World.drewN_drewN _ _ _⟩|exact ⟨rfl,_,Eq.trans (World.drewN_drewN _ _ _) (congrArg (World.drewN _) (Nat.add_assoc _ _ _))⟩)));try go_wp2_with (first|(go_at_call 30;(with_reducible refine (extent_Root.calls k2 _ _ t521 t538 t539 t540 _ ?side1 ?side2 A47.out).mono ?_);(case side1=>exact cc (Kd.R_reads' HO_6.out).2.2);(case side2=>exact (Kd.R_reads' HO_6.out).2.1);rintro e w59 ⟨v541,v543,rfl,ho0,ho1,hb⟩;have n0_:=am (Kd.R_below (rR HO_6) hb);have n1_:=am (Kd.S_below (rS HO_7) hb);have n2_:=am (Kd.S_below (rS HO_10) hb);have n3_:=am (Kd.R_lower ho0 (bz HB));have n4_:=am (Kd.R_lower ho1 (bz HB));have n5_:=bst HB hb;clear HO_6;clear HO_7;clear HO_10;clear HB;have HO_6:=n0_;have HO_7:=n1_;have HO_10:=n2_;have HO542:=n3_;have HO544:=n4_;have HB:=n5_;clear n0_ n1_ n2_ n3_ n4_ n5_;(try clear hb);(try clear hb2);(try clear hk);(try clear hi);(try clear ho0);(try clear ho1);obtain ⟨Ao60,co60,eo60⟩:=Kd.R_slice HO542.out;subst eo60)|(go_at_call 15;(with_reducible refine (r_10_Same.calls k2 _ _ t538 _ _ l0 false _ ?side1 ?side2 ?side3 ?side4 A50.out).mono ?_);(case side1=>exact cc (Kd.R_reads' HO542.out).2.2);(case side2=>exact (Kd.R_reads' HO542.out).2.1);(case side3=>exact cc (Kd.C_below HR0.out HB.out));(case side4=>exact HC0.out);rintro e w' ⟨rfl,⟨nd,rfl⟩⟩;(try first|exact ⟨rfl,_,World.drewN_drewN _ _ _⟩|exact ⟨rfl,_,Eq.trans (World.drewN_drewN _ _ _) (congrArg (World.drewN _) (Nat.add_assoc _ _ _))⟩))))
             go_ret
             exact ⟨by first|rfl|(simp [errW_none,errW_some]<;>rfl)|(simp [*,errW_none,errW_some]<;>rfl),bb HB⟩
           ·rw [if_neg c49] at H
            have c49b0:(t540==0)=false:=beq_eq_false_iff_ne.mpr c49
            have c49b1:(t540 != 0)=true:=bne_iff_ne.mpr c49
            obtain rfl:=Option.some.inj H
            obtain ⟨Ao61,co61,eo61⟩:=Kd.S_slice HO_7.out
            subst eo61
            obtain ⟨Ao62,co62,eo62⟩:=Kd.R_slice HO_6.out
            subst eo62
            go_wp2_with (first|(go_at_call 30;(with_reducible refine (extent_Root.calls k2 _ _ t521 t538 t539 t540 _ ?side1 ?side2 A47.out).mono ?_);(case side1=>exact cc (Kd.R_reads' HO_6.out).2.2);(case side2=>exact (Kd.R_reads' HO_6.out).2.1);rintro e w63 ⟨v541,v543,rfl,ho0,ho1,hb⟩;have n0_:=am (Kd.R_below (rR HO_6) hb);have n1_:=am (Kd.S_below (rS HO_7) hb);have n2_:=am (Kd.S_below (rS HO_10) hb);have n3_:=am (Kd.R_lower ho0 (bz HB));have n4_:=am (Kd.R_lower ho1 (bz HB));have n5_:=bst HB hb;clear HO_6;clear HO_7;clear HO_10;clear HB;have HO_6:=n0_;have HO_7:=n1_;have HO_10:=n2_;have HO542:=n3_;have HO544:=n4_;have HB:=n5_;clear n0_ n1_ n2_ n3_ n4_ n5_;(try clear hb);(try clear hb2);(try clear hk);(try clear hi);(try clear ho0);(try clear ho1)))
            repeat (go_quiet (first|(go_at_call 30;(with_reducible refine (extent_Root.calls k2 _ _ t521 t538 t539 t540 _ ?side1 ?side2 A47.out).mono ?_);(case side1=>exact cc (Kd.R_reads' HO_6.out).2.2);(case side2=>exact (Kd.R_reads' HO_6.out).2.1);rintro e w63 ⟨v541,v543,rfl,ho0,ho1,hb⟩;have n0_:=am (Kd.R_below (rR HO_6) hb);have n1_:=am (Kd.S_below (rS HO_7) hb);have n2_:=am (Kd.S_below (rS HO_10) hb);have n3_:=am (Kd.R_lower ho0 (bz HB));have n4_:=am (Kd.R_lower ho1 (bz HB));have n5_:=bst HB hb;clear HO_6;clear HO_7;clear HO_10;clear HB;have HO_6:=n0_;have HO_7:=n1_;have HO_10:=n2_;have HO542:=n3_;have HO544:=n4_;have HB:=n5_;clear n0_ n1_ n2_ n3_ n4_ n5_;(try clear hb);(try clear hb2);(try clear hk);(try clear hi);(try clear ho0);(try clear ho1)));try go_wp2_with (first|(go_at_call 30;(with_reducible refine (extent_Root.calls k2 _ _ t521 t538 t539 t540 _ ?side1 ?side2 A47.out).mono ?_);(case side1=>exact cc (Kd.R_reads' HO_6.out).2.2);(case side2=>exact (Kd.R_reads' HO_6.out).2.1);rintro e w63 ⟨v541,v543,rfl,ho0,ho1,hb⟩;have n0_:=am (Kd.R_below (rR HO_6) hb);have n1_:=am (Kd.S_below (rS HO_7) hb);have n2_:=am (Kd.S_below (rS HO_10) hb);have n3_:=am (Kd.R_lower ho0 (bz HB));have n4_:=am (Kd.R_lower ho1 (bz HB));have n5_:=bst HB hb;clear HO_6;clear HO_7;clear HO_10;clear HB;have HO_6:=n0_;have HO_7:=n1_;have HO_10:=n2_;have HO542:=n3_;have HO544:=n4_;have HB:=n5_;clear n0_ n1_ n2_ n3_ n4_ n5_;(try clear hb);(try clear hb2);(try clear hk);(try clear hi);(try clear ho0);(try clear ho1))))
            go_ret
            exact ⟨by first|rfl|(simp [errW_none,errW_some]<;>rfl)|(simp [*,errW_none,errW_some]<;>rfl),bb HB⟩
          ·rw [if_neg c48] at H
           have c48b0:((t522.length:Int)==0)=false:=beq_eq_false_iff_ne.mpr c48
           have c48b1:((t522.length:Int) != 0)=true:=bne_iff_ne.mpr c48
           have c48b2:¬ (t522=[]):=fun h_=>c48 (by rw [h_];rfl)
           replace H:=Option.bind_eq_some_iff.mp H
           obtain ⟨⟨t546,t547⟩,A640,H⟩:=H
           replace H:(if t540=0 then (if (t538.length:Int)=0 then ((r_03_SameInts.f k2 t539 l1).bind fun t550=>(if t550=true then (if t547=0 then ((r_10_Same.f k2 t546 l0).bind fun t551=>(if t551=true then ((extent_Need.f k2 l0).bind fun t552=>(some (t552==(t522.length:Int)))) else (some false))) else (some false)) else (some false))) else (some false)) else (some false))=some r:=H
           have A64:=am A640
           clear A640
           by_cases c65:t540=0
           ·rw [if_pos c65] at H
            have c65b0:(t540==0)=true:=beq_iff_eq.mpr c65
            have c65b1:(t540 != 0)=false:=bne_eq_false_iff_eq.mpr c65
            clear c65
            by_cases c66:(t538.length:Int)=0
            ·rw [if_pos c66] at H
             have c66b0:((t538.length:Int)==0)=true:=beq_iff_eq.mpr c66
             have c66b1:((t538.length:Int) != 0)=false:=bne_eq_false_iff_eq.mpr c66
             clear c66
             replace H:=Option.bind_eq_some_iff.mp H
             obtain ⟨t550,A670,H⟩:=H
             replace H:(if t550=true then (if t547=0 then ((r_10_Same.f k2 t546 l0).bind fun t551=>(if t551=true then ((extent_Need.f k2 l0).bind fun t552=>(some (t552==(t522.length:Int)))) else (some false))) else (some false)) else (some false))=some r:=H
             have A67:=am A670
             clear A670
             by_cases c68:t550=true
             ·subst c68
              have H1:(if t547=0 then ((r_10_Same.f k2 t546 l0).bind fun t551=>(if t551=true then ((extent_Need.f k2 l0).bind fun t552=>(some (t552==(t522.length:Int)))) else (some false))) else (some false))=some r:=by rw [if_pos rfl] at H;exact H
              clear H;have H:=H1;clear H1
              by_cases c69:t547=0
              ·rw [if_pos c69] at H
               have c69b0:(t547==0)=true:=beq_iff_eq.mpr c69
               have c69b1:(t547 != 0)=false:=bne_eq_false_iff_eq.mpr c69
               clear c69
               replace H:=Option.bind_eq_some_iff.mp H
               obtain ⟨t551,A700,H⟩:=H
               replace H:(if t551=true then ((extent_Need.f k2 l0).bind fun t552=>(some (t552==(t522.length:Int)))) else (some false))=some r:=H
               have A70:=am A700
               clear A700
               by_cases c71:t551=true
               ·subst c71
                have H1:((extent_Need.f k2 l0).bind fun t552=>(some (t552==(t522.length:Int))))=some r:=by rw [if_pos rfl] at H;exact H
                clear H;have H:=H1;clear H1
                replace H:=Option.bind_eq_some_iff.mp H
                obtain ⟨t552,A720,H⟩:=H
                replace H:(some (t552==(t522.length:Int)))=some r:=H
                have A72:=am A720
                clear A720;obtain rfl:=Option.some.inj H
                obtain ⟨Ao73,co73,eo73⟩:=Kd.S_slice HO_7.out
                subst eo73
                obtain ⟨Ao74,co74,eo74⟩:=Kd.R_slice HO_6.out
                subst eo74
                go_wp2_with (first|(go_at_call 30;(with_reducible refine (extent_Root.calls k2 _ _ t521 t538 t539 t540 _ ?side1 ?side2 A47.out).mono ?_);(case side1=>exact cc (Kd.R_reads' HO_6.out).2.2);(case side2=>exact (Kd.R_reads' HO_6.out).2.1);rintro e w75 ⟨v541,v543,rfl,ho0,ho1,hb⟩;have n0_:=am (Kd.R_below (rR HO_6) hb);have n1_:=am (Kd.S_below (rS HO_7) hb);have n2_:=am (Kd.S_below (rS HO_10) hb);have n3_:=am (Kd.R_lower ho0 (bz HB));have n4_:=am (Kd.R_lower ho1 (bz HB));have n5_:=bst HB hb;clear HO_6;clear HO_7;clear HO_10;clear HB;have HO_6:=n0_;have HO_7:=n1_;have HO_10:=n2_;have HO542:=n3_;have HO544:=n4_;have HB:=n5_;clear n0_ n1_ n2_ n3_ n4_ n5_;(try clear hb);(try clear hb2);(try clear hk);(try clear hi);(try clear ho0);(try clear ho1))|(go_at_call 31;(with_reducible refine (extent_Join.calls k2 _ _ t522 t546 t547 _ ?side1 ?side2 A64.out).mono ?_);(case side1=>exact cc (Kd.S_reads' HO_7.out).2.2);(case side2=>exact (Kd.S_reads' HO_7.out).2.1);rintro e w76 ⟨v548,rfl,ho0,hb⟩;have n0_:=am (Kd.R_below (rR HO_6) hb);have n1_:=am (Kd.S_below (rS HO_7) hb);have n2_:=am (Kd.S_below (rS HO_10) hb);have n3_:=am (Kd.R_elder' (rR HO542) (Kd.R_base ho0) hb);have n4_:=am (Kd.R_below (rR HO544) hb);have n5_:=am (Kd.R_lower (Kd.R_new' ho0 (Kd.R_lt (rR HO542))) (bz HB));have n6_:=bst HB hb;clear HO_6;clear HO_7;clear HO_10;clear HO542;clear HO544;clear HB;have HO_6:=n0_;have HO_7:=n1_;have HO_10:=n2_;have HO542:=n3_;have HO544:=n4_;have HO549:=n5_;have HB:=n6_;clear n0_ n1_ n2_ n3_ n4_ n5_ n6_;(try clear hb);(try clear hb2);(try clear hk);(try clear hi);(try clear ho0);obtain ⟨Ao77,co77,eo77⟩:=Kd.R_slice HO542.out;subst eo77;obtain ⟨Ao78,co78,eo78⟩:=Kd.R_slice HO544.out;subst eo78)|(go_at_call 29;(with_reducible refine (r_03_SameInts.calls k2 _ _ t539 _ _ l1 true _ ?side1 ?side2 ?side3 ?side4 A67.out).mono ?_);(case side1=>exact cc (Kd.R_reads' HO544.out).2.2);(case side2=>exact (Kd.R_reads' HO544.out).2.1);(case side3=>exact cc (Kd.C_below HR1.out HB.out));(case side4=>exact HC1.out);rintro e w' ⟨rfl,⟨nd,rfl⟩⟩;(try first|exact ⟨rfl,_,World.drewN_drewN _ _ _⟩|exact ⟨rfl,_,Eq.trans (World.drewN_drewN _ _ _) (congrArg (World.drewN _) (Nat.add_assoc _ _ _))⟩);obtain ⟨Ao79,co79,eo79⟩:=Kd.R_slice HO549.out;subst eo79)|(go_at_call 15;(with_reducible refine (r_10_Same.calls k2 _ _ t546 _ _ l0 true _ ?side1 ?side2 ?side3 ?side4 A70.out).mono ?_);(case side1=>exact cc (Kd.R_reads' HO549.out).2.2);(case side2=>exact (Kd.R_reads' HO549.out).2.1);(case side3=>repeat (first|exact (Kd.C_below HR0.out (bb HB))|(with_reducible refine Kd.C_alloc ?_ _)|(with_reducible refine Kd.C_drewN ?_ _)|(with_reducible refine Kd.C_drew ?_)));(case side4=>exact HC0.out);rintro e w' ⟨rfl,⟨nd,rfl⟩⟩;(try first|exact ⟨rfl,_,World.drewN_drewN _ _ _⟩|exact ⟨rfl,_,Eq.trans (World.drewN_drewN _ _ _) (congrArg (World.drewN _) (Nat.add_assoc _ _ _))⟩))|(go_at_call 19;(with_reducible refine (extent_Need.calls k2 _ _ l0 t552 _ ?side1 ?side2 A72.out).mono ?_);(case side1=>repeat (first|exact (Kd.C_below HR0.out (bb HB))|(with_reducible refine Kd.C_alloc ?_ _)|(with_reducible refine Kd.C_drewN ?_ _)|(with_reducible refine Kd.C_drew ?_)));(case side2=>exact HC0.out);rintro e w80 ⟨rfl,hb⟩;have n0_:=am (Kd.R_below (rR HO_6) hb);have n1_:=am (Kd.S_below (rS HO_7) hb);have n2_:=am (Kd.S_below (rS HO_10) hb);have n3_:=am (Kd.R_below (rR HO542) hb);have n4_:=am (Kd.R_below (rR HO544) hb);have n5_:=am (Kd.R_below (rR HO549) hb);have n6_:=bst HB hb;clear HO_6;clear HO_7;clear HO_10;clear HO542;clear HO544;clear HO549;clear HB;have HO_6:=n0_;have HO_7:=n1_;have HO_10:=n2_;have HO542:=n3_;have HO544:=n4_;have HO549:=n5_;have HB:=n6_;clear n0_ n1_ n2_ n3_ n4_ n5_ n6_;(try clear hb);(try clear hb2);(try clear hk);(try clear hi)))
                repeat (go_quiet (first|(go_at_call 30;(with_reducible refine (extent_Root.calls k2 _ _ t521 t538 t539 t540 _ ?side1 ?side2 A47.out).mono ?_);(case side1=>exact cc (Kd.R_reads' HO_6.out).2.2);(case side2=>exact (Kd.R_reads' HO_6.out).2.1);rintro e w75 ⟨v541,v543,rfl,ho0,ho1,hb⟩;have n0_:=am (Kd.R_below (rR HO_6) hb);have n1_:=am (Kd.S_below (rS HO_7) hb);have n2_:=am (Kd.S_below (rS HO_10) hb);have n3_:=am (Kd.R_lower ho0 (bz HB));have n4_:=am (Kd.R_lower ho1 (bz HB));have n5_:=bst HB hb;clear HO_6;clear HO_7;clear HO_10;clear HB;have HO_6:=n0_;have HO_7:=n1_;have HO_10:=n2_;have HO542:=n3_;have HO544:=n4_;have HB:=n5_;clear n0_ n1_ n2_ n3_ n4_ n5_;(try clear hb);(try clear hb2);(try clear hk);(try clear hi);(try clear ho0);(try clear ho1))|(go_at_call 31;(with_reducible refine (extent_Join.calls k2 _ _ t522 t546 t547 _ ?side1 ?side2 A64.out).mono ?_);(case side1=>exact cc (Kd.S_reads' HO_7.out).2.2);(case side2=>exact (Kd.S_reads' HO_7.out).2.1);rintro e w76 ⟨v548,rfl,ho0,hb⟩;have n0_:=am (Kd.R_below (rR HO_6) hb);have n1_:=am (Kd.S_below (rS HO_7) hb);have n2_:=am (Kd.S_below (rS HO_10) hb);have n3_:=am (Kd.R_elder' (rR HO542) (Kd.R_base ho0) hb);have n4_:=am (Kd.R_below (rR HO544) hb);have n5_:=am (Kd.R_lower (Kd.R_new' ho0 (Kd.R_lt (rR HO542))) (bz HB));have n6_:=bst HB hb;clear HO_6;clear HO_7;clear HO_10;clear HO542;clear HO544;clear HB;have HO_6:=n0_;have HO_7:=n1_;have HO_10:=n2_;have HO542:=n3_;have HO544:=n4_;have HO549:=n5_;have HB:=n6_;clear n0_ n1_ n2_ n3_ n4_ n5_ n6_;(try clear hb);(try clear hb2);(try clear hk);(try clear hi);(try clear ho0);obtain ⟨Ao77,co77,eo77⟩:=Kd.R_slice HO542.out;subst eo77;obtain ⟨Ao78,co78,eo78⟩:=Kd.R_slice HO544.out;subst eo78)|(go_at_call 29;(with_reducible refine (r_03_SameInts.calls k2 _ _ t539 _ _ l1 true _ ?side1 ?side2 ?side3 ?side4 A67.out).mono ?_);(case side1=>exact cc (Kd.R_reads' HO544.out).2.2);(case side2=>exact (Kd.R_reads' HO544.out).2.1);(case side3=>exact cc (Kd.C_below HR1.out HB.out));(case side4=>exact HC1.out);rintro e w' ⟨rfl,⟨nd,rfl⟩⟩;(try first|exact ⟨rfl,_,World.drewN_drewN _ _ _⟩|exact ⟨rfl,_,Eq.trans (World.drewN_drewN _ _ _) (congrArg (World.drewN _) (Nat.add_assoc _ _ _))⟩);obtain ⟨Ao79,co79,eo79⟩:=Kd.R_slice HO549.out;subst eo79)|(go_at_call 15;(with_reducible refine (r_10_Same.calls k2 _ _ t546 _ _ l0 true _ ?side1 ?side2 ?side3 ?side4 A70.out).mono ?_);(case side1=>exact cc (Kd.R_reads' HO549.out).2.2);(case side2=>exact (Kd.R_reads' HO549.out).2.1);(case side3=>repeat (first|exact (Kd.C_below HR0.out (bb HB))|(with_reducible refine Kd.C_alloc ?_ _)|(with_reducible refine Kd.C_drewN ?_ _)|(with_reducible refine Kd.C_drew ?_)));(case side4=>exact HC0.out);rintro e w' ⟨rfl,⟨nd,rfl⟩⟩;(try first|exact ⟨rfl,_,World.drewN_drewN _ _ _⟩|exact ⟨rfl,_,Eq.trans (World.drewN_drewN _ _ _) (congrArg (World.drewN _) (Nat.add_assoc _ _ _))⟩))|(go_at_call 19;(with_reducible refine (extent_Need.calls k2 _ _ l0 t552 _ ?side1 ?side2 A72.out).mono ?_);(case side1=>repeat (first|exact (Kd.C_below HR0.out (bb HB))|(with_reducible refine Kd.C_alloc ?_ _)|(with_reducible refine Kd.C_drewN ?_ _)|(with_reducible refine Kd.C_drew ?_)));(case side2=>exact HC0.out);rintro e w80 ⟨rfl,hb⟩;have n0_:=am (Kd.R_below (rR HO_6) hb);have n1_:=am (Kd.S_below (rS HO_7) hb);have n2_:=am (Kd.S_below (rS HO_10) hb);have n3_:=am (Kd.R_below (rR HO542) hb);have n4_:=am (Kd.R_below (rR HO544) hb);have n5_:=am (Kd.R_below (rR HO549) hb);have n6_:=bst HB hb;clear HO_6;clear HO_7;clear HO_10;clear HO542;clear HO544;clear HO549;clear HB;have HO_6:=n0_;have HO_7:=n1_;have HO_10:=n2_;have HO542:=n3_;have HO544:=n4_;have HO549:=n5_;have HB:=n6_;clear n0_ n1_ n2_ n3_ n4_ n5_ n6_;(try clear hb);(try clear hb2);(try clear hk);(try clear hi)));try go_wp2_with (first|(go_at_call 30;(with_reducible refine (extent_Root.calls k2 _ _ t521 t538 t539 t540 _ ?side1 ?side2 A47.out).mono ?_);(case side1=>exact cc (Kd.R_reads' HO_6.out).2.2);(case side2=>exact (Kd.R_reads' HO_6.out).2.1);rintro e w75 ⟨v541,v543,rfl,ho0,ho1,hb⟩;have n0_:=am (Kd.R_below (rR HO_6) hb);have n1_:=am (Kd.S_below (rS HO_7) hb);have n2_:=am (Kd.S_below (rS HO_10) hb);have n3_:=am (Kd.R_lower ho0 (bz HB));have n4_:=am (Kd.R_lower ho1 (bz HB));have n5_:=bst HB hb;clear HO_6;clear HO_7;clear HO_10;clear HB;have HO_6:=n0_;have HO_7:=n1_;have HO_10:=n2_;have HO542:=n3_;have HO544:=n4_;have HB:=n5_;clear n0_ n1_ n2_ n3_ n4_ n5_;(try clear hb);(try clear hb2);(try clear hk);(try clear hi);(try clear ho0);(try clear ho1))|(go_at_call 31;(with_reducible refine (extent_Join.calls k2 _ _ t522 t546 t547 _ ?side1 ?side2 A64.out).mono ?_);(case side1=>exact cc (Kd.S_reads' HO_7.out).2.2);(case side2=>exact (Kd.S_reads' HO_7.out).2.1);rintro e w76 ⟨v548,rfl,ho0,hb⟩;have n0_:=am (Kd.R_below (rR HO_6) hb);have n1_:=am (Kd.S_below (rS HO_7) hb);have n2_:=am (Kd.S_below (rS HO_10) hb);have n3_:=am (Kd.R_elder' (rR HO542) (Kd.R_base ho0) hb);have n4_:=am (Kd.R_below (rR HO544) hb);have n5_:=am (Kd.R_lower (Kd.R_new' ho0 (Kd.R_lt (rR HO542))) (bz HB));have n6_:=bst HB hb;clear HO_6;clear HO_7;clear HO_10;clear HO542;clear HO544;clear HB;have HO_6:=n0_;have HO_7:=n1_;have HO_10:=n2_;have HO542:=n3_;have HO544:=n4_;have HO549:=n5_;have HB:=n6_;clear n0_ n1_ n2_ n3_ n4_ n5_ n6_;(try clear hb);(try clear hb2);(try clear hk);(try clear hi);(try clear ho0);obtain ⟨Ao77,co77,eo77⟩:=Kd.R_slice HO542.out;subst eo77;obtain ⟨Ao78,co78,eo78⟩:=Kd.R_slice HO544.out;subst eo78)|(go_at_call 29;(with_reducible refine (r_03_SameInts.calls k2 _ _ t539 _ _ l1 true _ ?side1 ?side2 ?side3 ?side4 A67.out).mono ?_);(case side1=>exact cc (Kd.R_reads' HO544.out).2.2);(case side2=>exact (Kd.R_reads' HO544.out).2.1);(case side3=>exact cc (Kd.C_below HR1.out HB.out));(case side4=>exact HC1.out);rintro e w' ⟨rfl,⟨nd,rfl⟩⟩;(try first|exact ⟨rfl,_,World.drewN_drewN _ _ _⟩|exact ⟨rfl,_,Eq.trans (World.drewN_drewN _ _ _) (congrArg (World.drewN _) (Nat.add_assoc _ _ _))⟩);obtain ⟨Ao79,co79,eo79⟩:=Kd.R_slice HO549.out;subst eo79)|(go_at_call 15;(with_reducible refine (r_10_Same.calls k2 _ _ t546 _ _ l0 true _ ?side1 ?side2 ?side3 ?side4 A70.out).mono ?_);(case side1=>exact cc (Kd.R_reads' HO549.out).2.2);(case side2=>exact (Kd.R_reads' HO549.out).2.1);(case side3=>repeat (first|exact (Kd.C_below HR0.out (bb HB))|(with_reducible refine Kd.C_alloc ?_ _)|(with_reducible refine Kd.C_drewN ?_ _)|(with_reducible refine Kd.C_drew ?_)));(case side4=>exact HC0.out);rintro e w' ⟨rfl,⟨nd,rfl⟩⟩;(try first|exact ⟨rfl,_,World.drewN_drewN _ _ _⟩|exact ⟨rfl,_,Eq.trans (World.drewN_drewN _ _ _) (congrArg (World.drewN _) (Nat.add_assoc _ _ _))⟩))|(go_at_call 19;(with_reducible refine (extent_Need.calls k2 _ _ l0 t552 _ ?side1 ?side2 A72.out).mono ?_);(case side1=>repeat (first|exact (Kd.C_below HR0.out (bb HB))|(with_reducible refine Kd.C_alloc ?_ _)|(with_reducible refine Kd.C_drewN ?_ _)|(with_reducible refine Kd.C_drew ?_)));(case side2=>exact HC0.out);rintro e w80 ⟨rfl,hb⟩;have n0_:=am (Kd.R_below (rR HO_6) hb);have n1_:=am (Kd.S_below (rS HO_7) hb);have n2_:=am (Kd.S_below (rS HO_10) hb);have n3_:=am (Kd.R_below (rR HO542) hb);have n4_:=am (Kd.R_below (rR HO544) hb);have n5_:=am (Kd.R_below (rR HO549) hb);have n6_:=bst HB hb;clear HO_6;clear HO_7;clear HO_10;clear HO542;clear HO544;clear HO549;clear HB;have HO_6:=n0_;have HO_7:=n1_;have HO_10:=n2_;have HO542:=n3_;have HO544:=n4_;have HO549:=n5_;have HB:=n6_;clear n0_ n1_ n2_ n3_ n4_ n5_ n6_;(try clear hb);(try clear hb2);(try clear hk);(try clear hi))))
                go_ret
                exact ⟨by first|rfl|(simp [errW_none,errW_some]<;>rfl)|(simp [*,errW_none,errW_some]<;>rfl),bb HB⟩
               ·replace c71:=Bool.eq_false_iff.mpr c71
                subst c71
                have H1:(some false)=some r:=by rw [if_neg (show ¬ (false=true) by decide)] at H;exact H
                clear H;have H:=H1;clear H1;obtain rfl:=Option.some.inj H
                obtain ⟨Ao81,co81,eo81⟩:=Kd.S_slice HO_7.out
                subst eo81
                obtain ⟨Ao82,co82,eo82⟩:=Kd.R_slice HO_6.out
                subst eo82
                go_wp2_with (first|(go_at_call 30;(with_reducible refine (extent_Root.calls k2 _ _ t521 t538 t539 t540 _ ?side1 ?side2 A47.out).mono ?_);(case side1=>exact cc (Kd.R_reads' HO_6.out).2.2);(case side2=>exact (Kd.R_reads' HO_6.out).2.1);rintro e w83 ⟨v541,v543,rfl,ho0,ho1,hb⟩;have n0_:=am (Kd.R_below (rR HO_6) hb);have n1_:=am (Kd.S_below (rS HO_7) hb);have n2_:=am (Kd.S_below (rS HO_10) hb);have n3_:=am (Kd.R_lower ho0 (bz HB));have n4_:=am (Kd.R_lower ho1 (bz HB));have n5_:=bst HB hb;clear HO_6;clear HO_7;clear HO_10;clear HB;have HO_6:=n0_;have HO_7:=n1_;have HO_10:=n2_;have HO542:=n3_;have HO544:=n4_;have HB:=n5_;clear n0_ n1_ n2_ n3_ n4_ n5_;(try clear hb);(try clear hb2);(try clear hk);(try clear hi);(try clear ho0);(try clear ho1))|(go_at_call 31;(with_reducible refine (extent_Join.calls k2 _ _ t522 t546 t547 _ ?side1 ?side2 A64.out).mono ?_);(case side1=>exact cc (Kd.S_reads' HO_7.out).2.2);(case side2=>exact (Kd.S_reads' HO_7.out).2.1);rintro e w84 ⟨v548,rfl,ho0,hb⟩;have n0_:=am (Kd.R_below (rR HO_6) hb);have n1_:=am (Kd.S_below (rS HO_7) hb);have n2_:=am (Kd.S_below (rS HO_10) hb);have n3_:=am (Kd.R_elder' (rR HO542) (Kd.R_base ho0) hb);have n4_:=am (Kd.R_below (rR HO544) hb);have n5_:=am (Kd.R_lower (Kd.R_new' ho0 (Kd.R_lt (rR HO542))) (bz HB));have n6_:=bst HB hb;clear HO_6;clear HO_7;clear HO_10;clear HO542;clear HO544;clear HB;have HO_6:=n0_;have HO_7:=n1_;have HO_10:=n2_;have HO542:=n3_;have HO544:=n4_;have HO549:=n5_;have HB:=n6_;clear n0_ n1_ n2_ n3_ n4_ n5_ n6_;(try clear hb);(try clear hb2);(try clear hk);(try clear hi);(try clear ho0);obtain ⟨Ao85,co85,eo85⟩:=Kd.R_slice HO542.out;subst eo85;obtain ⟨Ao86,co86,eo86⟩:=Kd.R_slice HO544.out;subst eo86)|(go_at_call 29;(with_reducible refine (r_03_SameInts.calls k2 _ _ t539 _ _ l1 true _ ?side1 ?side2 ?side3 ?side4 A67.out).mono ?_);(case side1=>exact cc (Kd.R_reads' HO544.out).2.2);(case side2=>exact (Kd.R_reads' HO544.out).2.1);(case side3=>exact cc (Kd.C_below HR1.out HB.out));(case side4=>exact HC1.out);rintro e w' ⟨rfl,⟨nd,rfl⟩⟩;(try first|exact ⟨rfl,_,World.drewN_drewN _ _ _⟩|exact ⟨rfl,_,Eq.trans (World.drewN_drewN _ _ _) (congrArg (World.drewN _) (Nat.add_assoc _ _ _))⟩);obtain ⟨Ao87,co87,eo87⟩:=Kd.R_slice HO549.out;subst eo87)|(go_at_call 15;(with_reducible refine (r_10_Same.calls k2 _ _ t546 _ _ l0 false _ ?side1 ?side2 ?side3 ?side4 A70.out).mono ?_);(case side1=>exact cc (Kd.R_reads' HO549.out).2.2);(case side2=>exact (Kd.R_reads' HO549.out).2.1);(case side3=>repeat (first|exact (Kd.C_below HR0.out (bb HB))|(with_reducible refine Kd.C_alloc ?_ _)|(with_reducible refine Kd.C_drewN ?_ _)|(with_reducible refine Kd.C_drew ?_)));(case side4=>exact HC0.out);rintro e w' ⟨rfl,⟨nd,rfl⟩⟩;(try first|exact ⟨rfl,_,World.drewN_drewN _ _ _⟩|exact ⟨rfl,_,Eq.trans (World.drewN_drewN _ _ _) (congrArg (World.drewN _) (Nat.add_assoc _ _ _))⟩)))
                repeat (go_quiet (first|(go_at_call 30;(with_reducible refine (extent_Root.calls k2 _ _ t521 t538 t539 t540 _ ?side1 ?side2 A47.out).mono ?_);(case side1=>exact cc (Kd.R_reads' HO_6.out).2.2);(case side2=>exact (Kd.R_reads' HO_6.out).2.1);rintro e w83 ⟨v541,v543,rfl,ho0,ho1,hb⟩;have n0_:=am (Kd.R_below (rR HO_6) hb);have n1_:=am (Kd.S_below (rS HO_7) hb);have n2_:=am (Kd.S_below (rS HO_10) hb);have n3_:=am (Kd.R_lower ho0 (bz HB));have n4_:=am (Kd.R_lower ho1 (bz HB));have n5_:=bst HB hb;clear HO_6;clear HO_7;clear HO_10;clear HB;have HO_6:=n0_;have HO_7:=n1_;have HO_10:=n2_;have HO542:=n3_;have HO544:=n4_;have HB:=n5_;clear n0_ n1_ n2_ n3_ n4_ n5_;(try clear hb);(try clear hb2);(try clear hk);(try clear hi);(try clear ho0);(try clear ho1))|(go_at_call 31;(with_reducible refine (extent_Join.calls k2 _ _ t522 t546 t547 _ ?side1 ?side2 A64.out).mono ?_);(case side1=>exact cc (Kd.S_reads' HO_7.out).2.2);(case side2=>exact (Kd.S_reads' HO_7.out).2.1);rintro e w84 ⟨v548,rfl,ho0,hb⟩;have n0_:=am (Kd.R_below (rR HO_6) hb);have n1_:=am (Kd.S_below (rS HO_7) hb);have n2_:=am (Kd.S_below (rS HO_10) hb);have n3_:=am (Kd.R_elder' (rR HO542) (Kd.R_base ho0) hb);have n4_:=am (Kd.R_below (rR HO544) hb);have n5_:=am (Kd.R_lower (Kd.R_new' ho0 (Kd.R_lt (rR HO542))) (bz HB));have n6_:=bst HB hb;clear HO_6;clear HO_7;clear HO_10;clear HO542;clear HO544;clear HB;have HO_6:=n0_;have HO_7:=n1_;have HO_10:=n2_;have HO542:=n3_;have HO544:=n4_;have HO549:=n5_;have HB:=n6_;clear n0_ n1_ n2_ n3_ n4_ n5_ n6_;(try clear hb);(try clear hb2);(try clear hk);(try clear hi);(try clear ho0);obtain ⟨Ao85,co85,eo85⟩:=Kd.R_slice HO542.out;subst eo85;obtain ⟨Ao86,co86,eo86⟩:=Kd.R_slice HO544.out;subst eo86)|(go_at_call 29;(with_reducible refine (r_03_SameInts.calls k2 _ _ t539 _ _ l1 true _ ?side1 ?side2 ?side3 ?side4 A67.out).mono ?_);(case side1=>exact cc (Kd.R_reads' HO544.out).2.2);(case side2=>exact (Kd.R_reads' HO544.out).2.1);(case side3=>exact cc (Kd.C_below HR1.out HB.out));(case side4=>exact HC1.out);rintro e w' ⟨rfl,⟨nd,rfl⟩⟩;(try first|exact ⟨rfl,_,World.drewN_drewN _ _ _⟩|exact ⟨rfl,_,Eq.trans (World.drewN_drewN _ _ _) (congrArg (World.drewN _) (Nat.add_assoc _ _ _))⟩);obtain ⟨Ao87,co87,eo87⟩:=Kd.R_slice HO549.out;subst eo87)|(go_at_call 15;(with_reducible refine (r_10_Same.calls k2 _ _ t546 _ _ l0 false _ ?side1 ?side2 ?side3 ?side4 A70.out).mono ?_);(case side1=>exact cc (Kd.R_reads' HO549.out).2.2);(case side2=>exact (Kd.R_reads' HO549.out).2.1);(case side3=>repeat (first|exact (Kd.C_below HR0.out (bb HB))|(with_reducible refine Kd.C_alloc ?_ _)|(with_reducible refine Kd.C_drewN ?_ _)|(with_reducible refine Kd.C_drew ?_)));(case side4=>exact HC0.out);rintro e w' ⟨rfl,⟨nd,rfl⟩⟩;(try first|exact ⟨rfl,_,World.drewN_drewN _ _ _⟩|exact ⟨rfl,_,Eq.trans (World.drewN_drewN _ _ _) (congrArg (World.drewN _) (Nat.add_assoc _ _ _))⟩)));try go_wp2_with (first|(go_at_call 30;(with_reducible refine (extent_Root.calls k2 _ _ t521 t538 t539 t540 _ ?side1 ?side2 A47.out).mono ?_);(case side1=>exact cc (Kd.R_reads' HO_6.out).2.2);(case side2=>exact (Kd.R_reads' HO_6.out).2.1);rintro e w83 ⟨v541,v543,rfl,ho0,ho1,hb⟩;have n0_:=am (Kd.R_below (rR HO_6) hb);have n1_:=am (Kd.S_below (rS HO_7) hb);have n2_:=am (Kd.S_below (rS HO_10) hb);have n3_:=am (Kd.R_lower ho0 (bz HB));have n4_:=am (Kd.R_lower ho1 (bz HB));have n5_:=bst HB hb;clear HO_6;clear HO_7;clear HO_10;clear HB;have HO_6:=n0_;have HO_7:=n1_;have HO_10:=n2_;have HO542:=n3_;have HO544:=n4_;have HB:=n5_;clear n0_ n1_ n2_ n3_ n4_ n5_;(try clear hb);(try clear hb2);(try clear hk);(try clear hi);(try clear ho0);(try clear ho1))|(go_at_call 31;(with_reducible refine (extent_Join.calls k2 _ _ t522 t546 t547 _ ?side1 ?side2 A64.out).mono ?_);(case side1=>exact cc (Kd.S_reads' HO_7.out).2.2);(case side2=>exact (Kd.S_reads' HO_7.out).2.1);rintro e w84 ⟨v548,rfl,ho0,hb⟩;have n0_:=am (Kd.R_below (rR HO_6) hb);have n1_:=am (Kd.S_below (rS HO_7) hb);have n2_:=am (Kd.S_below (rS HO_10) hb);have n3_:=am (Kd.R_elder' (rR HO542) (Kd.R_base ho0) hb);have n4_:=am (Kd.R_below (rR HO544) hb);have n5_:=am (Kd.R_lower (Kd.R_new' ho0 (Kd.R_lt (rR HO542))) (bz HB));have n6_:=bst HB hb;clear HO_6;clear HO_7;clear HO_10;clear HO542;clear HO544;clear HB;have HO_6:=n0_;have HO_7:=n1_;have HO_10:=n2_;have HO542:=n3_;have HO544:=n4_;have HO549:=n5_;have HB:=n6_;clear n0_ n1_ n2_ n3_ n4_ n5_ n6_;(try clear hb);(try clear hb2);(try clear hk);(try clear hi);(try clear ho0);obtain ⟨Ao85,co85,eo85⟩:=Kd.R_slice HO542.out;subst eo85;obtain ⟨Ao86,co86,eo86⟩:=Kd.R_slice HO544.out;subst eo86)|(go_at_call 29;(with_reducible refine (r_03_SameInts.calls k2 _ _ t539 _ _ l1 true _ ?side1 ?side2 ?side3 ?side4 A67.out).mono ?_);(case side1=>exact cc (Kd.R_reads' HO544.out).2.2);(case side2=>exact (Kd.R_reads' HO544.out).2.1);(case side3=>exact cc (Kd.C_below HR1.out HB.out));(case side4=>exact HC1.out);rintro e w' ⟨rfl,⟨nd,rfl⟩⟩;(try first|exact ⟨rfl,_,World.drewN_drewN _ _ _⟩|exact ⟨rfl,_,Eq.trans (World.drewN_drewN _ _ _) (congrArg (World.drewN _) (Nat.add_assoc _ _ _))⟩);obtain ⟨Ao87,co87,eo87⟩:=Kd.R_slice HO549.out;subst eo87)|(go_at_call 15;(with_reducible refine (r_10_Same.calls k2 _ _ t546 _ _ l0 false _ ?side1 ?side2 ?side3 ?side4 A70.out).mono ?_);(case side1=>exact cc (Kd.R_reads' HO549.out).2.2);(case side2=>exact (Kd.R_reads' HO549.out).2.1);(case side3=>repeat (first|exact (Kd.C_below HR0.out (bb HB))|(with_reducible refine Kd.C_alloc ?_ _)|(with_reducible refine Kd.C_drewN ?_ _)|(with_reducible refine Kd.C_drew ?_)));(case side4=>exact HC0.out);rintro e w' ⟨rfl,⟨nd,rfl⟩⟩;(try first|exact ⟨rfl,_,World.drewN_drewN _ _ _⟩|exact ⟨rfl,_,Eq.trans (World.drewN_drewN _ _ _) (congrArg (World.drewN _) (Nat.add_assoc _ _ _))⟩))))
                go_ret
                exact ⟨by first|rfl|(simp [errW_none,errW_some]<;>rfl)|(simp [*,errW_none,errW_some]<;>rfl),bb HB⟩
              ·rw [if_neg c69] at H
               have c69b0:(t547==0)=false:=beq_eq_false_iff_ne.mpr c69
               have c69b1:(t547 != 0)=true:=bne_iff_ne.mpr c69
               obtain rfl:=Option.some.inj H
               obtain ⟨Ao88,co88,eo88⟩:=Kd.S_slice HO_7.out
               subst eo88
               obtain ⟨Ao89,co89,eo89⟩:=Kd.R_slice HO_6.out
               subst eo89
               go_wp2_with (first|(go_at_call 30;(with_reducible refine (extent_Root.calls k2 _ _ t521 t538 t539 t540 _ ?side1 ?side2 A47.out).mono ?_);(case side1=>exact cc (Kd.R_reads' HO_6.out).2.2);(case side2=>exact (Kd.R_reads' HO_6.out).2.1);rintro e w90 ⟨v541,v543,rfl,ho0,ho1,hb⟩;have n0_:=am (Kd.R_below (rR HO_6) hb);have n1_:=am (Kd.S_below (rS HO_7) hb);have n2_:=am (Kd.S_below (rS HO_10) hb);have n3_:=am (Kd.R_lower ho0 (bz HB));have n4_:=am (Kd.R_lower ho1 (bz HB));have n5_:=bst HB hb;clear HO_6;clear HO_7;clear HO_10;clear HB;have HO_6:=n0_;have HO_7:=n1_;have HO_10:=n2_;have HO542:=n3_;have HO544:=n4_;have HB:=n5_;clear n0_ n1_ n2_ n3_ n4_ n5_;(try clear hb);(try clear hb2);(try clear hk);(try clear hi);(try clear ho0);(try clear ho1))|(go_at_call 31;(with_reducible refine (extent_Join.calls k2 _ _ t522 t546 t547 _ ?side1 ?side2 A64.out).mono ?_);(case side1=>exact cc (Kd.S_reads' HO_7.out).2.2);(case side2=>exact (Kd.S_reads' HO_7.out).2.1);rintro e w91 ⟨v548,rfl,ho0,hb⟩;have n0_:=am (Kd.R_below (rR HO_6) hb);have n1_:=am (Kd.S_below (rS HO_7) hb);have n2_:=am (Kd.S_below (rS HO_10) hb);have n3_:=am (Kd.R_elder' (rR HO542) (Kd.R_base ho0) hb);have n4_:=am (Kd.R_below (rR HO544) hb);have n5_:=am (Kd.R_lower (Kd.R_new' ho0 (Kd.R_lt (rR HO542))) (bz HB));have n6_:=bst HB hb;clear HO_6;clear HO_7;clear HO_10;clear HO542;clear HO544;clear HB;have HO_6:=n0_;have HO_7:=n1_;have HO_10:=n2_;have HO542:=n3_;have HO544:=n4_;have HO549:=n5_;have HB:=n6_;clear n0_ n1_ n2_ n3_ n4_ n5_ n6_;(try clear hb);(try clear hb2);(try clear hk);(try clear hi);(try clear ho0);obtain ⟨Ao92,co92,eo92⟩:=Kd.R_slice HO542.out;subst eo92;obtain ⟨Ao93,co93,eo93⟩:=Kd.R_slice HO544.out;subst eo93)|(go_at_call 29;(with_reducible refine (r_03_SameInts.calls k2 _ _ t539 _ _ l1 true _ ?side1 ?side2 ?side3 ?side4 A67.out).mono ?_);(case side1=>exact cc (Kd.R_reads' HO544.out).2.2);(case side2=>exact (Kd.R_reads' HO544.out).2.1);(case side3=>exact cc (Kd.C_below HR1.out HB.out));(case side4=>exact HC1.out);rintro e w' ⟨rfl,⟨nd,rfl⟩⟩;(try first|exact ⟨rfl,_,World.drewN_drewN _ _ _⟩|exact ⟨rfl,_,Eq.trans (World.drewN_drewN _ _ _) (congrArg (World.drewN _) (Nat.add_assoc _ _ _))⟩)))
               repeat (go_quiet (first|(go_at_call 30;(with_reducible refine (extent_Root.calls k2 _ _ t521 t538 t539 t540 _ ?side1 ?side2 A47.out).mono ?_);(case side1=>exact cc (Kd.R_reads' HO_6.out).2.2);(case side2=>exact (Kd.R_reads' HO_6.out).2.1);rintro e w90 ⟨v541,v543,rfl,ho0,ho1,hb⟩;have n0_:=am (Kd.R_below (rR HO_6) hb);have n1_:=am (Kd.S_below (rS HO_7) hb);have n2_:=am (Kd.S_below (rS HO_10) hb);have n3_:=am (Kd.R_lower ho0 (bz HB));have n4_:=am (Kd.R_lower ho1 (bz HB));have n5_:=bst HB hb;clear HO_6;clear HO_7;clear HO_10;clear HB;have HO_6:=n0_;have HO_7:=n1_;have HO_10:=n2_;have HO542:=n3_;have HO544:=n4_;have HB:=n5_;clear n0_ n1_ n2_ n3_ n4_ n5_;(try clear hb);(try clear hb2);(try clear hk);(try clear hi);(try clear ho0);(try clear ho1))|(go_at_call 31;(with_reducible refine (extent_Join.calls k2 _ _ t522 t546 t547 _ ?side1 ?side2 A64.out).mono ?_);(case side1=>exact cc (Kd.S_reads' HO_7.out).2.2);(case side2=>exact (Kd.S_reads' HO_7.out).2.1);rintro e w91 ⟨v548,rfl,ho0,hb⟩;have n0_:=am (Kd.R_below (rR HO_6) hb);have n1_:=am (Kd.S_below (rS HO_7) hb);have n2_:=am (Kd.S_below (rS HO_10) hb);have n3_:=am (Kd.R_elder' (rR HO542) (Kd.R_base ho0) hb);have n4_:=am (Kd.R_below (rR HO544) hb);have n5_:=am (Kd.R_lower (Kd.R_new' ho0 (Kd.R_lt (rR HO542))) (bz HB));have n6_:=bst HB hb;clear HO_6;clear HO_7;clear HO_10;clear HO542;clear HO544;clear HB;have HO_6:=n0_;have HO_7:=n1_;have HO_10:=n2_;have HO542:=n3_;have HO544:=n4_;have HO549:=n5_;have HB:=n6_;clear n0_ n1_ n2_ n3_ n4_ n5_ n6_;(try clear hb);(try clear hb2);(try clear hk);(try clear hi);(try clear ho0);obtain ⟨Ao92,co92,eo92⟩:=Kd.R_slice HO542.out;subst eo92;obtain ⟨Ao93,co93,eo93⟩:=Kd.R_slice HO544.out;subst eo93)|(go_at_call 29;(with_reducible refine (r_03_SameInts.calls k2 _ _ t539 _ _ l1 true _ ?side1 ?side2 ?side3 ?side4 A67.out).mono ?_);(case side1=>exact cc (Kd.R_reads' HO544.out).2.2);(case side2=>exact (Kd.R_reads' HO544.out).2.1);(case side3=>exact cc (Kd.C_below HR1.out HB.out));(case side4=>exact HC1.out);rintro e w' ⟨rfl,⟨nd,rfl⟩⟩;(try first|exact ⟨rfl,_,World.drewN_drewN _ _ _⟩|exact ⟨rfl,_,Eq.trans (World.drewN_drewN _ _ _) (congrArg (World.drewN _) (Nat.add_assoc _ _ _))⟩)));try go_wp2_with (first|(go_at_call 30;(with_reducible refine (extent_Root.calls k2 _ _ t521 t538 t539 t540 _ ?side1 ?side2 A47.out).mono ?_);(case side1=>exact cc (Kd.R_reads' HO_6.out).2.2);(case side2=>exact (Kd.R_reads' HO_6.out).2.1);rintro e w90 ⟨v541,v543,rfl,ho0,ho1,hb⟩;have n0_:=am (Kd.R_below (rR HO_6) hb);have n1_:=am (Kd.S_below (rS HO_7) hb);have n2_:=am (Kd.S_below (rS HO_10) hb);have n3_:=am (Kd.R_lower ho0 (bz HB));have n4_:=am (Kd.R_lower ho1 (bz HB));have n5_:=bst HB hb;clear HO_6;clear HO_7;clear HO_10;clear HB;have HO_6:=n0_;have HO_7:=n1_;have HO_10:=n2_;have HO542:=n3_;have HO544:=n4_;have HB:=n5_;clear n0_ n1_ n2_ n3_ n4_ n5_;(try clear hb);(try clear hb2);(try clear hk);(try clear hi);(try clear ho0);(try clear ho1))|(go_at_call 31;(with_reducible refine (extent_Join.calls k2 _ _ t522 t546 t547 _ ?side1 ?side2 A64.out).mono ?_);(case side1=>exact cc (Kd.S_reads' HO_7.out).2.2);(case side2=>exact (Kd.S_reads' HO_7.out).2.1);rintro e w91 ⟨v548,rfl,ho0,hb⟩;have n0_:=am (Kd.R_below (rR HO_6) hb);have n1_:=am (Kd.S_below (rS HO_7) hb);have n2_:=am (Kd.S_below (rS HO_10) hb);have n3_:=am (Kd.R_elder' (rR HO542) (Kd.R_base ho0) hb);have n4_:=am (Kd.R_below (rR HO544) hb);have n5_:=am (Kd.R_lower (Kd.R_new' ho0 (Kd.R_lt (rR HO542))) (bz HB));have n6_:=bst HB hb;clear HO_6;clear HO_7;clear HO_10;clear HO542;clear HO544;clear HB;have HO_6:=n0_;have HO_7:=n1_;have HO_10:=n2_;have HO542:=n3_;have HO544:=n4_;have HO549:=n5_;have HB:=n6_;clear n0_ n1_ n2_ n3_ n4_ n5_ n6_;(try clear hb);(try clear hb2);(try clear hk);(try clear hi);(try clear ho0);obtain ⟨Ao92,co92,eo92⟩:=Kd.R_slice HO542.out;subst eo92;obtain ⟨Ao93,co93,eo93⟩:=Kd.R_slice HO544.out;subst eo93)|(go_at_call 29;(with_reducible refine (r_03_SameInts.calls k2 _ _ t539 _ _ l1 true _ ?side1 ?side2 ?side3 ?side4 A67.out).mono ?_);(case side1=>exact cc (Kd.R_reads' HO544.out).2.2);(case side2=>exact (Kd.R_reads' HO544.out).2.1);(case side3=>exact cc (Kd.C_below HR1.out HB.out));(case side4=>exact HC1.out);rintro e w' ⟨rfl,⟨nd,rfl⟩⟩;(try first|exact ⟨rfl,_,World.drewN_drewN _ _ _⟩|exact ⟨rfl,_,Eq.trans (World.drewN_drewN _ _ _) (congrArg (World.drewN _) (Nat.add_assoc _ _ _))⟩))))
               go_ret
               exact ⟨by first|rfl|(simp [errW_none,errW_some]<;>rfl)|(simp [*,errW_none,errW_some]<;>rfl),bb HB⟩
             ·replace c68:=Bool.eq_false_iff.mpr c68
              subst c68
              have H1:(some false)=some r:=by rw [if_neg (show ¬ (false=true) by decide)] at H;exact H
              clear H;have H:=H1;clear H1;obtain rfl:=Option.some.inj H
              obtain ⟨Ao94,co94,eo94⟩:=Kd.S_slice HO_7.out
              subst eo94
              obtain ⟨Ao95,co95,eo95⟩:=Kd.R_slice HO_6.out
              subst eo95
              go_wp2_with (first|(go_at_call 30;(with_reducible refine (extent_Root.calls k2 _ _ t521 t538 t539 t540 _ ?side1 ?side2 A47.out).mono ?_);(case side1=>exact cc (Kd.R_reads' HO_6.out).2.2);(case side2=>exact (Kd.R_reads' HO_6.out).2.1);rintro e w96 ⟨v541,v543,rfl,ho0,ho1,hb⟩;have n0_:=am (Kd.R_below (rR HO_6) hb);have n1_:=am (Kd.S_below (rS HO_7) hb);have n2_:=am (Kd.S_below (rS HO_10) hb);have n3_:=am (Kd.R_lower ho0 (bz HB));have n4_:=am (Kd.R_lower ho1 (bz HB));have n5_:=bst HB hb;clear HO_6;clear HO_7;clear HO_10;clear HB;have HO_6:=n0_;have HO_7:=n1_;have HO_10:=n2_;have HO542:=n3_;have HO544:=n4_;have HB:=n5_;clear n0_ n1_ n2_ n3_ n4_ n5_;(try clear hb);(try clear hb2);(try clear hk);(try clear hi);(try clear ho0);(try clear ho1))|(go_at_call 31;(with_reducible refine (extent_Join.calls k2 _ _ t522 t546 t547 _ ?side1 ?side2 A64.out).mono ?_);(case side1=>exact cc (Kd.S_reads' HO_7.out).2.2);(case side2=>exact (Kd.S_reads' HO_7.out).2.1);rintro e w97 ⟨v548,rfl,ho0,hb⟩;have n0_:=am (Kd.R_below (rR HO_6) hb);have n1_:=am (Kd.S_below (rS HO_7) hb);have n2_:=am (Kd.S_below (rS HO_10) hb);have n3_:=am (Kd.R_elder' (rR HO542) (Kd.R_base ho0) hb);have n4_:=am (Kd.R_below (rR HO544) hb);have n5_:=am (Kd.R_lower (Kd.R_new' ho0 (Kd.R_lt (rR HO542))) (bz HB));have n6_:=bst HB hb;clear HO_6;clear HO_7;clear HO_10;clear HO542;clear HO544;clear HB;have HO_6:=n0_;have HO_7:=n1_;have HO_10:=n2_;have HO542:=n3_;have HO544:=n4_;have HO549:=n5_;have HB:=n6_;clear n0_ n1_ n2_ n3_ n4_ n5_ n6_;(try clear hb);(try clear hb2);(try clear hk);(try clear hi);(try clear ho0);obtain ⟨Ao98,co98,eo98⟩:=Kd.R_slice HO542.out;subst eo98;obtain ⟨Ao99,co99,eo99⟩:=Kd.R_slice HO544.out;subst eo99)|(go_at_call 29;(with_reducible refine (r_03_SameInts.calls k2 _ _ t539 _ _ l1 false _ ?side1 ?side2 ?side3 ?side4 A67.out).mono ?_);(case side1=>exact cc (Kd.R_reads' HO544.out).2.2);(case side2=>exact (Kd.R_reads' HO544.out).2.1);(case side3=>exact cc (Kd.C_below HR1.out HB.out));(case side4=>exact HC1.out);rintro e w' ⟨rfl,⟨nd,rfl⟩⟩;(try first|exact ⟨rfl,_,World.drewN_drewN _ _ _⟩|exact ⟨rfl,_,Eq.trans (World.drewN_drewN _ _ _) (congrArg (World.drewN _) (Nat.add_assoc _ _ _))⟩)))
              repeat (go_quiet (first|(go_at_call 30;(with_reducible refine (extent_Root.calls k2 _ _ t521 t538 t539 t540 _ ?side1 ?side2 A47.out).mono ?_);(case side1=>exact cc (Kd.R_reads' HO_6.out).2.2);(case side2=>exact (Kd.R_reads' HO_6.out).2.1);rintro e w96 ⟨v541,v543,rfl,ho0,ho1,hb⟩;have n0_:=am (Kd.R_below (rR HO_6) hb);have n1_:=am (Kd.S_below (rS HO_7) hb);have n2_:=am (Kd.S_below (rS HO_10) hb);have n3_:=am (Kd.R_lower ho0 (bz HB));have n4_:=am (Kd.R_lower ho1 (bz HB));have n5_:=bst HB hb;clear HO_6;clear HO_7;clear HO_10;clear HB;have HO_6:=n0_;have HO_7:=n1_;have HO_10:=n2_;have HO542:=n3_;have HO544:=n4_;have HB:=n5_;clear n0_ n1_ n2_ n3_ n4_ n5_;(try clear hb);(try clear hb2);(try clear hk);(try clear hi);(try clear ho0);(try clear ho1))|(go_at_call 31;(with_reducible refine (extent_Join.calls k2 _ _ t522 t546 t547 _ ?side1 ?side2 A64.out).mono ?_);(case side1=>exact cc (Kd.S_reads' HO_7.out).2.2);(case side2=>exact (Kd.S_reads' HO_7.out).2.1);rintro e w97 ⟨v548,rfl,ho0,hb⟩;have n0_:=am (Kd.R_below (rR HO_6) hb);have n1_:=am (Kd.S_below (rS HO_7) hb);have n2_:=am (Kd.S_below (rS HO_10) hb);have n3_:=am (Kd.R_elder' (rR HO542) (Kd.R_base ho0) hb);have n4_:=am (Kd.R_below (rR HO544) hb);have n5_:=am (Kd.R_lower (Kd.R_new' ho0 (Kd.R_lt (rR HO542))) (bz HB));have n6_:=bst HB hb;clear HO_6;clear HO_7;clear HO_10;clear HO542;clear HO544;clear HB;have HO_6:=n0_;have HO_7:=n1_;have HO_10:=n2_;have HO542:=n3_;have HO544:=n4_;have HO549:=n5_;have HB:=n6_;clear n0_ n1_ n2_ n3_ n4_ n5_ n6_;(try clear hb);(try clear hb2);(try clear hk);(try clear hi);(try clear ho0);obtain ⟨Ao98,co98,eo98⟩:=Kd.R_slice HO542.out;subst eo98;obtain ⟨Ao99,co99,eo99⟩:=Kd.R_slice HO544.out;subst eo99)|(go_at_call 29;(with_reducible refine (r_03_SameInts.calls k2 _ _ t539 _ _ l1 false _ ?side1 ?side2 ?side3 ?side4 A67.out).mono ?_);(case side1=>exact cc (Kd.R_reads' HO544.out).2.2);(case side2=>exact (Kd.R_reads' HO544.out).2.1);(case side3=>exact cc (Kd.C_below HR1.out HB.out));(case side4=>exact HC1.out);rintro e w' ⟨rfl,⟨nd,rfl⟩⟩;(try first|exact ⟨rfl,_,World.drewN_drewN _ _ _⟩|exact ⟨rfl,_,Eq.trans (World.drewN_drewN _ _ _) (congrArg (World.drewN _) (Nat.add_assoc _ _ _))⟩)));try go_wp2_with (first|(go_at_call 30;(with_reducible refine (extent_Root.calls k2 _ _ t521 t538 t539 t540 _ ?side1 ?side2 A47.out).mono ?_);(case side1=>exact cc (Kd.R_reads' HO_6.out).2.2);(case side2=>exact (Kd.R_reads' HO_6.out).2.1);rintro e w96 ⟨v541,v543,rfl,ho0,ho1,hb⟩;have n0_:=am (Kd.R_below (rR HO_6) hb);have n1_:=am (Kd.S_below (rS HO_7) hb);have n2_:=am (Kd.S_below (rS HO_10) hb);have n3_:=am (Kd.R_lower ho0 (bz HB));have n4_:=am (Kd.R_lower ho1 (bz HB));have n5_:=bst HB hb;clear HO_6;clear HO_7;clear HO_10;clear HB;have HO_6:=n0_;have HO_7:=n1_;have HO_10:=n2_;have HO542:=n3_;have HO544:=n4_;have HB:=n5_;clear n0_ n1_ n2_ n3_ n4_ n5_;(try clear hb);(try clear hb2);(try clear hk);(try clear hi);(try clear ho0);(try clear ho1))|(go_at_call 31;(with_reducible refine (extent_Join.calls k2 _ _ t522 t546 t547 _ ?side1 ?side2 A64.out).mono ?_);(case side1=>exact cc (Kd.S_reads' HO_7.out).2.2);(case side2=>exact (Kd.S_reads' HO_7.out).2.1);rintro e w97 ⟨v548,rfl,ho0,hb⟩;have n0_:=am (Kd.R_below (rR HO_6) hb);have n1_:=am (Kd.S_below (rS HO_7) hb);have n2_:=am (Kd.S_below (rS HO_10) hb);have n3_:=am (Kd.R_elder' (rR HO542) (Kd.R_base ho0) hb);have n4_:=am (Kd.R_below (rR HO544) hb);have n5_:=am (Kd.R_lower (Kd.R_new' ho0 (Kd.R_lt (rR HO542))) (bz HB));have n6_:=bst HB hb;clear HO_6;clear HO_7;clear HO_10;clear HO542;clear HO544;clear HB;have HO_6:=n0_;have HO_7:=n1_;have HO_10:=n2_;have HO542:=n3_;have HO544:=n4_;have HO549:=n5_;have HB:=n6_;clear n0_ n1_ n2_ n3_ n4_ n5_ n6_;(try clear hb);(try clear hb2);(try clear hk);(try clear hi);(try clear ho0);obtain ⟨Ao98,co98,eo98⟩:=Kd.R_slice HO542.out;subst eo98;obtain ⟨Ao99,co99,eo99⟩:=Kd.R_slice HO544.out;subst eo99)|(go_at_call 29;(with_reducible refine (r_03_SameInts.calls k2 _ _ t539 _ _ l1 false _ ?side1 ?side2 ?side3 ?side4 A67.out).mono ?_);(case side1=>exact cc (Kd.R_reads' HO544.out).2.2);(case side2=>exact (Kd.R_reads' HO544.out).2.1);(case side3=>exact cc (Kd.C_below HR1.out HB.out));(case side4=>exact HC1.out);rintro e w' ⟨rfl,⟨nd,rfl⟩⟩;(try first|exact ⟨rfl,_,World.drewN_drewN _ _ _⟩|exact ⟨rfl,_,Eq.trans (World.drewN_drewN _ _ _) (congrArg (World.drewN _) (Nat.add_assoc _ _ _))⟩))))
              go_ret
              exact ⟨by first|rfl|(simp [errW_none,errW_some]<;>rfl)|(simp [*,errW_none,errW_some]<;>rfl),bb HB⟩
            ·rw [if_neg c66] at H
             have c66b0:((t538.length:Int)==0)=false:=beq_eq_false_iff_ne.mpr c66
             have c66b1:((t538.length:Int) != 0)=true:=bne_iff_ne.mpr c66
             have c66b2:¬ (t538=[]):=fun h_=>c66 (by rw [h_];rfl)
             obtain rfl:=Option.some.inj H
             obtain ⟨Ao100,co100,eo100⟩:=Kd.S_slice HO_7.out
             subst eo100
             obtain ⟨Ao101,co101,eo101⟩:=Kd.R_slice HO_6.out
             subst eo101
             go_wp2_with (first|(go_at_call 30;(with_reducible refine (extent_Root.calls k2 _ _ t521 t538 t539 t540 _ ?side1 ?side2 A47.out).mono ?_);(case side1=>exact cc (Kd.R_reads' HO_6.out).2.2);(case side2=>exact (Kd.R_reads' HO_6.out).2.1);rintro e w102 ⟨v541,v543,rfl,ho0,ho1,hb⟩;have n0_:=am (Kd.R_below (rR HO_6) hb);have n1_:=am (Kd.S_below (rS HO_7) hb);have n2_:=am (Kd.S_below (rS HO_10) hb);have n3_:=am (Kd.R_lower ho0 (bz HB));have n4_:=am (Kd.R_lower ho1 (bz HB));have n5_:=bst HB hb;clear HO_6;clear HO_7;clear HO_10;clear HB;have HO_6:=n0_;have HO_7:=n1_;have HO_10:=n2_;have HO542:=n3_;have HO544:=n4_;have HB:=n5_;clear n0_ n1_ n2_ n3_ n4_ n5_;(try clear hb);(try clear hb2);(try clear hk);(try clear hi);(try clear ho0);(try clear ho1))|(go_at_call 31;(with_reducible refine (extent_Join.calls k2 _ _ t522 t546 t547 _ ?side1 ?side2 A64.out).mono ?_);(case side1=>exact cc (Kd.S_reads' HO_7.out).2.2);(case side2=>exact (Kd.S_reads' HO_7.out).2.1);rintro e w103 ⟨v548,rfl,ho0,hb⟩;have n0_:=am (Kd.R_below (rR HO_6) hb);have n1_:=am (Kd.S_below (rS HO_7) hb);have n2_:=am (Kd.S_below (rS HO_10) hb);have n3_:=am (Kd.R_elder' (rR HO542) (Kd.R_base ho0) hb);have n4_:=am (Kd.R_below (rR HO544) hb);have n5_:=am (Kd.R_lower (Kd.R_new' ho0 (Kd.R_lt (rR HO542))) (bz HB));have n6_:=bst HB hb;clear HO_6;clear HO_7;clear HO_10;clear HO542;clear HO544;clear HB;have HO_6:=n0_;have HO_7:=n1_;have HO_10:=n2_;have HO542:=n3_;have HO544:=n4_;have HO549:=n5_;have HB:=n6_;clear n0_ n1_ n2_ n3_ n4_ n5_ n6_;(try clear hb);(try clear hb2);(try clear hk);(try clear hi);(try clear ho0);obtain ⟨Ao104,co104,eo104⟩:=Kd.R_slice HO542.out;subst eo104))
             repeat (go_quiet (first|(go_at_call 30;(with_reducible refine (extent_Root.calls k2 _ _ t521 t538 t539 t540 _ ?side1 ?side2 A47.out).mono ?_);(case side1=>exact cc (Kd.R_reads' HO_6.out).2.2);(case side2=>exact (Kd.R_reads' HO_6.out).2.1);rintro e w102 ⟨v541,v543,rfl,ho0,ho1,hb⟩;have n0_:=am (Kd.R_below (rR HO_6) hb);have n1_:=am (Kd.S_below (rS HO_7) hb);have n2_:=am (Kd.S_below (rS HO_10) hb);have n3_:=am (Kd.R_lower ho0 (bz HB));have n4_:=am (Kd.R_lower ho1 (bz HB));have n5_:=bst HB hb;clear HO_6;clear HO_7;clear HO_10;clear HB;have HO_6:=n0_;have HO_7:=n1_;have HO_10:=n2_;have HO542:=n3_;have HO544:=n4_;have HB:=n5_;clear n0_ n1_ n2_ n3_ n4_ n5_;(try clear hb);(try clear hb2);(try clear hk);(try clear hi);(try clear ho0);(try clear ho1))|(go_at_call 31;(with_reducible refine (extent_Join.calls k2 _ _ t522 t546 t547 _ ?side1 ?side2 A64.out).mono ?_);(case side1=>exact cc (Kd.S_reads' HO_7.out).2.2);(case side2=>exact (Kd.S_reads' HO_7.out).2.1);rintro e w103 ⟨v548,rfl,ho0,hb⟩;have n0_:=am (Kd.R_below (rR HO_6) hb);have n1_:=am (Kd.S_below (rS HO_7) hb);have n2_:=am (Kd.S_below (rS HO_10) hb);have n3_:=am (Kd.R_elder' (rR HO542) (Kd.R_base ho0) hb);have n4_:=am (Kd.R_below (rR HO544) hb);have n5_:=am (Kd.R_lower (Kd.R_new' ho0 (Kd.R_lt (rR HO542))) (bz HB));have n6_:=bst HB hb;clear HO_6;clear HO_7;clear HO_10;clear HO542;clear HO544;clear HB;have HO_6:=n0_;have HO_7:=n1_;have HO_10:=n2_;have HO542:=n3_;have HO544:=n4_;have HO549:=n5_;have HB:=n6_;clear n0_ n1_ n2_ n3_ n4_ n5_ n6_;(try clear hb);(try clear hb2);(try clear hk);(try clear hi);(try clear ho0);obtain ⟨Ao104,co104,eo104⟩:=Kd.R_slice HO542.out;subst eo104));try go_wp2_with (first|(go_at_call 30;(with_reducible refine (extent_Root.calls k2 _ _ t521 t538 t539 t540 _ ?side1 ?side2 A47.out).mono ?_);(case side1=>exact cc (Kd.R_reads' HO_6.out).2.2);(case side2=>exact (Kd.R_reads' HO_6.out).2.1);rintro e w102 ⟨v541,v543,rfl,ho0,ho1,hb⟩;have n0_:=am (Kd.R_below (rR HO_6) hb);have n1_:=am (Kd.S_below (rS HO_7) hb);have n2_:=am (Kd.S_below (rS HO_10) hb);have n3_:=am (Kd.R_lower ho0 (bz HB));have n4_:=am (Kd.R_lower ho1 (bz HB));have n5_:=bst HB hb;clear HO_6;clear HO_7;clear HO_10;clear HB;have HO_6:=n0_;have HO_7:=n1_;have HO_10:=n2_;have HO542:=n3_;have HO544:=n4_;have HB:=n5_;clear n0_ n1_ n2_ n3_ n4_ n5_;(try clear hb);(try clear hb2);(try clear hk);(try clear hi);(try clear ho0);(try clear ho1))|(go_at_call 31;(with_reducible refine (extent_Join.calls k2 _ _ t522 t546 t547 _ ?side1 ?side2 A64.out).mono ?_);(case side1=>exact cc (Kd.S_reads' HO_7.out).2.2);(case side2=>exact (Kd.S_reads' HO_7.out).2.1);rintro e w103 ⟨v548,rfl,ho0,hb⟩;have n0_:=am (Kd.R_below (rR HO_6) hb);have n1_:=am (Kd.S_below (rS HO_7) hb);have n2_:=am (Kd.S_below (rS HO_10) hb);have n3_:=am (Kd.R_elder' (rR HO542) (Kd.R_base ho0) hb);have n4_:=am (Kd.R_below (rR HO544) hb);have n5_:=am (Kd.R_lower (Kd.R_new' ho0 (Kd.R_lt (rR HO542))) (bz HB));have n6_:=bst HB hb;clear HO_6;clear HO_7;clear HO_10;clear HO542;clear HO544;clear HB;have HO_6:=n0_;have HO_7:=n1_;have HO_10:=n2_;have HO542:=n3_;have HO544:=n4_;have HO549:=n5_;have HB:=n6_;clear n0_ n1_ n2_ n3_ n4_ n5_ n6_;(try clear hb);(try clear hb2);(try clear hk);(try clear hi);(try clear ho0);obtain ⟨Ao104,co104,eo104⟩:=Kd.R_slice HO542.out;subst eo104)))
             go_ret
             exact ⟨by first|rfl|(simp [errW_none,errW_some]<;>rfl)|(simp [*,errW_none,errW_some]<;>rfl),bb HB⟩
           ·rw [if_neg c65] at H
            have c65b0:(t540==0)=false:=beq_eq_false_iff_ne.mpr c65
            have c65b1:(t540 != 0)=true:=bne_iff_ne.mpr c65
            obtain rfl:=Option.some.inj H
            obtain ⟨Ao105,co105,eo105⟩:=Kd.S_slice HO_7.out
            subst eo105
            obtain ⟨Ao106,co106,eo106⟩:=Kd.R_slice HO_6.out
            subst eo106
            go_wp2_with (first|(go_at_call 30;(with_reducible refine (extent_Root.calls k2 _ _ t521 t538 t539 t540 _ ?side1 ?side2 A47.out).mono ?_);(case side1=>exact cc (Kd.R_reads' HO_6.out).2.2);(case side2=>exact (Kd.R_reads' HO_6.out).2.1);rintro e w107 ⟨v541,v543,rfl,ho0,ho1,hb⟩;have n0_:=am (Kd.R_below (rR HO_6) hb);have n1_:=am (Kd.S_below (rS HO_7) hb);have n2_:=am (Kd.S_below (rS HO_10) hb);have n3_:=am (Kd.R_lower ho0 (bz HB));have n4_:=am (Kd.R_lower ho1 (bz HB));have n5_:=bst HB hb;clear HO_6;clear HO_7;clear HO_10;clear HB;have HO_6:=n0_;have HO_7:=n1_;have HO_10:=n2_;have HO542:=n3_;have HO544:=n4_;have HB:=n5_;clear n0_ n1_ n2_ n3_ n4_ n5_;(try clear hb);(try clear hb2);(try clear hk);(try clear hi);(try clear ho0);(try clear ho1))|(go_at_call 31;(with_reducible refine (extent_Join.calls k2 _ _ t522 t546 t547 _ ?side1 ?side2 A64.out).mono ?_);(case side1=>exact cc (Kd.S_reads' HO_7.out).2.2);(case side2=>exact (Kd.S_reads' HO_7.out).2.1);rintro e w108 ⟨v548,rfl,ho0,hb⟩;have n0_:=am (Kd.R_below (rR HO_6) hb);have n1_:=am (Kd.S_below (rS HO_7) hb);have n2_:=am (Kd.S_below (rS HO_10) hb);have n3_:=am (Kd.R_elder' (rR HO542) (Kd.R_base ho0) hb);have n4_:=am (Kd.R_below (rR HO544) hb);have n5_:=am (Kd.R_lower (Kd.R_new' ho0 (Kd.R_lt (rR HO542))) (bz HB));have n6_:=bst HB hb;clear HO_6;clear HO_7;clear HO_10;clear HO542;clear HO544;clear HB;have HO_6:=n0_;have HO_7:=n1_;have HO_10:=n2_;have HO542:=n3_;have HO544:=n4_;have HO549:=n5_;have HB:=n6_;clear n0_ n1_ n2_ n3_ n4_ n5_ n6_;(try clear hb);(try clear hb2);(try clear hk);(try clear hi);(try clear ho0)))
            repeat (go_quiet (first|(go_at_call 30;(with_reducible refine (extent_Root.calls k2 _ _ t521 t538 t539 t540 _ ?side1 ?side2 A47.out).mono ?_);(case side1=>exact cc (Kd.R_reads' HO_6.out).2.2);(case side2=>exact (Kd.R_reads' HO_6.out).2.1);rintro e w107 ⟨v541,v543,rfl,ho0,ho1,hb⟩;have n0_:=am (Kd.R_below (rR HO_6) hb);have n1_:=am (Kd.S_below (rS HO_7) hb);have n2_:=am (Kd.S_below (rS HO_10) hb);have n3_:=am (Kd.R_lower ho0 (bz HB));have n4_:=am (Kd.R_lower ho1 (bz HB));have n5_:=bst HB hb;clear HO_6;clear HO_7;clear HO_10;clear HB;have HO_6:=n0_;have HO_7:=n1_;have HO_10:=n2_;have HO542:=n3_;have HO544:=n4_;have HB:=n5_;clear n0_ n1_ n2_ n3_ n4_ n5_;(try clear hb);(try clear hb2);(try clear hk);(try clear hi);(try clear ho0);(try clear ho1))|(go_at_call 31;(with_reducible refine (extent_Join.calls k2 _ _ t522 t546 t547 _ ?side1 ?side2 A64.out).mono ?_);(case side1=>exact cc (Kd.S_reads' HO_7.out).2.2);(case side2=>exact (Kd.S_reads' HO_7.out).2.1);rintro e w108 ⟨v548,rfl,ho0,hb⟩;have n0_:=am (Kd.R_below (rR HO_6) hb);have n1_:=am (Kd.S_below (rS HO_7) hb);have n2_:=am (Kd.S_below (rS HO_10) hb);have n3_:=am (Kd.R_elder' (rR HO542) (Kd.R_base ho0) hb);have n4_:=am (Kd.R_below (rR HO544) hb);have n5_:=am (Kd.R_lower (Kd.R_new' ho0 (Kd.R_lt (rR HO542))) (bz HB));have n6_:=bst HB hb;clear HO_6;clear HO_7;clear HO_10;clear HO542;clear HO544;clear HB;have HO_6:=n0_;have HO_7:=n1_;have HO_10:=n2_;have HO542:=n3_;have HO544:=n4_;have HO549:=n5_;have HB:=n6_;clear n0_ n1_ n2_ n3_ n4_ n5_ n6_;(try clear hb);(try clear hb2);(try clear hk);(try clear hi);(try clear ho0)));try go_wp2_with (first|(go_at_call 30;(with_reducible refine (extent_Root.calls k2 _ _ t521 t538 t539 t540 _ ?side1 ?side2 A47.out).mono ?_);(case side1=>exact cc (Kd.R_reads' HO_6.out).2.2);(case side2=>exact (Kd.R_reads' HO_6.out).2.1);rintro e w107 ⟨v541,v543,rfl,ho0,ho1,hb⟩;have n0_:=am (Kd.R_below (rR HO_6) hb);have n1_:=am (Kd.S_below (rS HO_7) hb);have n2_:=am (Kd.S_below (rS HO_10) hb);have n3_:=am (Kd.R_lower ho0 (bz HB));have n4_:=am (Kd.R_lower ho1 (bz HB));have n5_:=bst HB hb;clear HO_6;clear HO_7;clear HO_10;clear HB;have HO_6:=n0_;have HO_7:=n1_;have HO_10:=n2_;have HO542:=n3_;have HO544:=n4_;have HB:=n5_;clear n0_ n1_ n2_ n3_ n4_ n5_;(try clear hb);(try clear hb2);(try clear hk);(try clear hi);(try clear ho0);(try clear ho1))|(go_at_call 31;(with_reducible refine (extent_Join.calls k2 _ _ t522 t546 t547 _ ?side1 ?side2 A64.out).mono ?_);(case side1=>exact cc (Kd.S_reads' HO_7.out).2.2);(case side2=>exact (Kd.S_reads' HO_7.out).2.1);rintro e w108 ⟨v548,rfl,ho0,hb⟩;have n0_:=am (Kd.R_below (rR HO_6) hb);have n1_:=am (Kd.S_below (rS HO_7) hb);have n2_:=am (Kd.S_below (rS HO_10) hb);have n3_:=am (Kd.R_elder' (rR HO542) (Kd.R_base ho0) hb);have n4_:=am (Kd.R_below (rR HO544) hb);have n5_:=am (Kd.R_lower (Kd.R_new' ho0 (Kd.R_lt (rR HO542))) (bz HB));have n6_:=bst HB hb;clear HO_6;clear HO_7;clear HO_10;clear HO542;clear HO544;clear HB;have HO_6:=n0_;have HO_7:=n1_;have HO_10:=n2_;have HO542:=n3_;have HO544:=n4_;have HO549:=n5_;have HB:=n6_;clear n0_ n1_ n2_ n3_ n4_ n5_ n6_;(try clear hb);(try clear hb2);(try clear hk);(try clear hi);(try clear ho0))))
            go_ret
            exact ⟨by first|rfl|(simp [errW_none,errW_some]<;>rfl)|(simp [*,errW_none,errW_some]<;>rfl),bb HB⟩
         ·rw [if_neg c46] at H
          have c46b0:(t523==0)=false:=beq_eq_false_iff_ne.mpr c46
          have c46b1:(t523 != 0)=true:=bne_iff_ne.mpr c46
          by_cases c109:(t521.length:Int)=0
          ·rw [if_pos c109] at H
           have c109b0:((t521.length:Int)==0)=true:=beq_iff_eq.mpr c109
           have c109b1:((t521.length:Int) != 0)=false:=bne_eq_false_iff_eq.mpr c109
           clear c109;obtain rfl:=Option.some.inj H
           obtain ⟨Ao110,co110,eo110⟩:=Kd.S_slice HO_7.out
           subst eo110
           obtain ⟨Ao111,co111,eo111⟩:=Kd.R_slice HO_6.out
           subst eo111
           go_wp2
           repeat (go_quiet (fail);try go_wp2)
           go_ret
           exact ⟨by first|rfl|(simp [errW_none,errW_some]<;>rfl)|(simp [*,errW_none,errW_some]<;>rfl),bb HB⟩
          ·rw [if_neg c109] at H
           have c109b0:((t521.length:Int)==0)=false:=beq_eq_false_iff_ne.mpr c109
           have c109b1:((t521.length:Int) != 0)=true:=bne_iff_ne.mpr c109
           have c109b2:¬ (t521=[]):=fun h_=>c109 (by rw [h_];rfl)
           obtain rfl:=Option.some.inj H
           obtain ⟨Ao112,co112,eo112⟩:=Kd.S_slice HO_7.out
           subst eo112
           obtain ⟨Ao113,co113,eo113⟩:=Kd.R_slice HO_6.out
           subst eo113
           go_wp2
           repeat (go_quiet (fail);try go_wp2)
           go_ret
           exact ⟨by first|rfl|(simp [errW_none,errW_some]<;>rfl)|(simp [*,errW_none,errW_some]<;>rfl),bb HB⟩
  ·rw [if_neg c5] at H
   exact absurd H (by simp)
 ·replace c4:=Bool.eq_false_iff.mpr c4
  subst c4
  have H1:(some false)=some r:=by rw [if_neg (show ¬ (false=true) by decide)] at H;exact H
  clear H;have H:=H1;clear H1;obtain rfl:=Option.some.inj H
  go_enter Try.func9,Try.ntmps9
  go_wp2_with (first|(go_at_call 11;(with_reducible refine (l_10_alive.calls k  false _ A3.out).mono ?_);rintro e w114 ⟨rfl,hb⟩;have n0_:=bst HB hb;clear HB;have HB:=n0_;clear n0_;(try clear hb);(try clear hb2);(try clear hk);(try clear hi)))
  repeat (go_quiet (first|(go_at_call 11;(with_reducible refine (l_10_alive.calls k  false _ A3.out).mono ?_);rintro e w114 ⟨rfl,hb⟩;have n0_:=bst HB hb;clear HB;have HB:=n0_;clear n0_;(try clear hb);(try clear hb2);(try clear hk);(try clear hi)));try go_wp2_with (first|(go_at_call 11;(with_reducible refine (l_10_alive.calls k  false _ A3.out).mono ?_);rintro e w114 ⟨rfl,hb⟩;have n0_:=bst HB hb;clear HB;have HB:=n0_;clear n0_;(try clear hb);(try clear hb2);(try clear hk);(try clear hi))))
  go_ret
  exact ⟨by first|rfl|(simp [errW_none,errW_some]<;>rfl)|(simp [*,errW_none,errW_some]<;>rfl),bb HB⟩
end Go.Proofs.Ytopmjjnkolfciaa.Pr
end
section
namespace Go.Proofs.Ytopmjjnkolfciaa.Pr
open Go.RowKit Go.Proofs.YtopmjjnkolfciaaW.PrintWords Go.Proofs.YtopmjjnkolfciaaW.PrintMore Go.Proofs.Ytopmjjnkolfciaa.Od
open Go.Proofs.Ytopmjjnkolfciaa.Cr hiding Ev.succ bs
set_option linter.unusedVariables false
set_option linter.unusedSimpArgs false
set_option maxRecDepth 20000
theorem sameInts_l0 (l : List Int) (hl : l.length < 9223372036854775807) : ∀ (d i : Nat), i + d = l.length → Ev (fun k => r_03_SameInts.l0 k l l (i : Int)) true
  | 0, i, hd => by
    refine Ev.succ ?_
    simp only [r_03_SameInts.l0, if_neg (show ¬ ((i : Int) < (l.length : Int)) by omega)]
    exact Ev.now _
  | d + 1, i, hd => by
    have hw : wrap64 ((i : Int) + 1) = ((i + 1 : Nat) : Int) := by rw [w64 (by omega) (by omega)]; omega
    refine Ev.succ ?_
    simp only [r_03_SameInts.l0, if_pos (show (i : Int) < (l.length : Int) by omega), if_pos (show (0 : Int) ≤ (i : Int) by omega), if_true, hw]
    exact sameInts_l0 l hl d (i + 1) (by omega)
theorem sameInts_ev (l : List Int) (hl : l.length < 9223372036854775807) : Ev (fun k => r_03_SameInts.f k l l) true := by
  unfold r_03_SameInts.f
  simp only [if_true]
  exact sameInts_l0 l hl l.length 0 (by omega)
theorem storeX_cases (l : List E24) (b : List Int) : storeX l b = ([], [], 1) ∨ (chkB l = true ∧ l.length ≤ 4 ∧ b = [] ∧ storeX l b = (rootL l, [], 0)) ∨ (chkB l = true ∧ needN l ≠ 0 ∧ needN l = b.length ∧ numsD b = true ∧ storeX l b = (idxL b, nodesX l, 0)) := by
  unfold storeX
  by_cases h : chkB l = true ∧ needN l = b.length ∧ numsD b = true
  · rw [if_pos h]
    by_cases hz : needN l = 0
    · rw [if_pos hz]
      exact .inr (.inl ⟨h.1, needN_zero.1 hz, List.eq_nil_of_length_eq_zero (h.2.1.symm.trans hz), rfl⟩)
    · rw [if_neg hz]
      exact .inr (.inr ⟨h.1, hz, h.2.1, h.2.2, rfl⟩)
  · rw [if_neg h]; exact .inl rfl
theorem stores_end (l : List E24) (b : List Int) (hb : b.length < 17592186044416) (i : Int) (hi : ¬ (i < ((storeX l b).2.1.length : Int))) : Ev (fun k => l_10_ExtentStores.l0 k l b (storeX l b).1 (storeX l b).2.1 (storeX l b).2.2 (storeX l b).2.1 i) true := by
  refine Ev.succ ?_
  simp only [l_10_ExtentStores.l0, if_neg hi]
  rcases storeX_cases l b with hs | ⟨h, h4, rfl, hs⟩ | ⟨h, hz, hn, hd, hs⟩
  · rw [hs]
    simp only [if_neg (show ¬ ((1 : Int) = 0) by decide), List.length_nil, if_pos (show ((0 : Nat) : Int) = 0 from rfl)]
    exact Ev.now _
  · rw [hs]
    simp only [if_true]
    refine Ev.bind (proot_ev _ (rootL_byte l)) ?_
    rw [rootP_root h h4]
    simp only [List.length_nil, if_pos (show ((0 : Nat) : Int) = 0 from rfl), if_true]
    refine Ev.bind (same_ev l (by omega)) ?_
    simp only [if_true]
    exact Ev.now _
  · have h60 := (chk_ok h).1
    have h3 : needN l ≤ 3 := by rw [needN_chunk hz]; unfold chunkN; omega
    have hlen : (nodesX l).length = needN l := by rw [nodesX_len, needN_chunk hz]
    rw [hs]
    simp only [if_true]
    refine Ev.bind (proot_ev _ (idxL_byte b)) ?_
    rw [rootP_idx hd (by omega)]
    simp only [if_neg (show ¬ (((nodesX l).length : Int) = 0) by omega)]
    refine Ev.bind (pjoin_ev _ (fun c hc x hx => by
      obtain ⟨y, _, rfl⟩ := List.mem_map.1 hc
      exact nodeL_byte _ x hx)) ?_
    rw [(joinP_nodes h hz).1]
    simp only [if_true, List.length_nil, if_pos (show ((0 : Nat) : Int) = 0 from rfl)]
    refine Ev.bind (sameInts_ev b (by omega)) ?_
    simp only [if_true]
    refine Ev.bind (same_ev l (by omega)) ?_
    simp only [if_true]
    refine Ev.bind (need_ev l) ?_
    rw [needX_good h, hlen]
    simp only [beq_self_eq_true]
    exact Ev.now _
theorem stores_l0 (l : List E24) (b : List Int) (hb : b.length < 17592186044416) : ∀ (d i : Nat), i + d = (storeX l b).2.1.length →
    Ev (fun k => l_10_ExtentStores.l0 k l b (storeX l b).1 (storeX l b).2.1 (storeX l b).2.2 (storeX l b).2.1 (i : Int)) true
  | 0, i, hd => stores_end l b hb _ (by omega)
  | d + 1, i, hd => by
    have h3 := storeX_nodes_len l b
    refine Ev.succ ?_
    simp only [l_10_ExtentStores.l0, if_pos (show (i : Int) < ((storeX l b).2.1.length : Int) by omega), if_pos (show (0 : Int) ≤ (i : Int) by omega), if_true, wps i (by omega)]
    exact stores_l0 l b hb d (i + 1) (by omega)
theorem ExtentStores (l : List EX) (b : List Int) (hl : Fits l) (hb : b.length < 17592186044416) : ∃ k, l_10_ExtentStores.f k l b = some true := by
  refine Ev.rounds ?_
  unfold l_10_ExtentStores.f
  refine Ev.bind alive_ev ?_
  simp only [if_true, Cr.bs, List.length_nil, Nat.zero_add, if_pos hb, List.nil_append, copied_f l hl]
  refine Ev.bind (pstore_ev l b) ?_
  refine Ev.bind (rstore_ev l b) ?_
  simp only [if_true]
  refine Ev.bind (sameInts_ev b (by omega)) ?_
  simp only [Bool.not_true]
  refine Ev.succ ?_
  simp only [l_10_ExtentStores.j0, if_neg (show ¬ (false = true) by decide)]
  exact stores_l0 l b hb _ 0 (Nat.zero_add _)
theorem oInts : Op.Opens Try.prog 45 (Kd.slice 3 (Kd.int .i64)) (fun b => b.length < 17592186044416) := by
  intro H enc W fuel cs x h hw
  obtain ⟨v, hk, hs⟩ := Op.opens_slice (B := 8) Try.underlying45 (by kernel_rfl) (by kernel_rfl) (Op.opens_int Try.underlying3) h hw
  exact ⟨v, hk, by have := hs.1; omega⟩
end Go.Proofs.Ytopmjjnkolfciaa.Pr
end
section
namespace Go.Proofs.Ytopmjjnkolfciaa.extentStores
open Go.ChangeShapes Go.WideShapes Go.ChangeAt Go.RowKit Go.Proofs.YtopmjjnkolfciaaW.PrintWords Go.Proofs.Ytopmjjnkolfciaa.Pr Go.Proofs.Ytopmjjnkolfciaa.Op Go.Joins
open Go.ChangeMaps (open_string shut_string)
set_option linter.unusedVariables false
theorem own : ownKnob Try.prog.godebug = none := by kernel_rfl
theorem laidOut : laidOutB Try.prog = true := by kernel_rfl
set_option maxRecDepth 100000 in
theorem contract (H : Type) (enc : TypeId × Value → H) (W : World) (base : Nat) (args : Array Value) (ds gs : List (DataW H)) (before : List MemPlace)
    (hval : ∀ (j : Nat) t v, Try.f9.params[j]? = some t → args[j]? = some v → Value.okWide Try.prog W .any base t v)
    (hW : DataW.Whole enc Try.prog Try.f9.params.toList Rows.extentStoresSpec.vars false W args.toList ds gs before)
    (hsz : (DataW.weightsEach Try.prog (Try.f9.params.toList ++ Rows.extentStoresSpec.plain.varTypes Try.prog) (ds ++ gs)).all (· ≤ reachBytes) = true) :
    Calls Try.prog 9 args W fun e W' => ∃ v, e = .returned v ∧ Rows.extentStoresSpec.post enc Try.prog Try.f9 false true false false W args v W' := by
  have hW' := hW
  obtain ⟨p, q, hA0, hV, rfl, hfz, hnd⟩ := hW
  have hA : DataW.TrodAll enc Try.prog W 0 (fun _ => true) true Try.f9.params.toList args.toList ds p := hA0
  rw [Try.params9] at hA hval hsz
  obtain ⟨v0, vs0, d0, ds0, p0, q0, hargs, rfl, rfl, h0, r0⟩ := trodAll_cons hA
  obtain ⟨v1, vs1, d1, ds1, p1, q1, rfl, rfl, rfl, h1, r1⟩ := trodAll_cons r0
  obtain ⟨rfl, rfl, rfl⟩ := trodAll_nil r1
  obtain rfl : args = #[v0, v1] := by cases args; simp_all
  obtain ⟨rfl, rfl⟩ := trodVars_none hV
  have lt0 : ∀ x ∈ p0, x.block < W.heap.size := by obtain ⟨m, hm⟩ := h0; exact DataW.trod_lt m _ _ _ hm
  have k0 := h0
  obtain ⟨A0, l0, c0, rfl, hc0, hr0, hs0⟩ := arg_slice Try.underlying22 Pr.o24 (hval 0 22 v0 rfl rfl) h0 hsz (j := 0) (t := 22) rfl rfl
  have lt1 : ∀ x ∈ p1, x.block < W.heap.size := by obtain ⟨m, hm⟩ := h1; exact DataW.trod_lt m _ _ _ hm
  have k1 := h1
  obtain ⟨A1, l1, c1, rfl, hc1, hr1, hs1⟩ := arg_slice Try.underlying45 Pr.oInts (hval 1 45 v1 rfl rfl) h1 hsz (j := 1) (t := 45) rfl rfl
  clear hA0
  obtain ⟨k, hk⟩ := Pr.ExtentStores l0 l1 hs0 hs1
  refine (l_10_ExtentStores.calls k A0 c0 l0 A1 c1 l1 true W hr0 hc0 hr1 hc1 hk).mono fun e W' ⟨he, bel⟩ => ?_
  subst he
  exact ⟨_, rfl, _, _, _, [], _, [], hW', trodAll_mk1 (shut_bool Try.underlying4 _), (trodAll_cons_mk (Below.trod laidOut (by kernel_rfl) (of_decide_eq_true (by kernel_rfl)) k0 bel lt0) (trodAll_cons_mk (Below.trod laidOut (by kernel_rfl) (of_decide_eq_true (by kernel_rfl)) k1 bel lt1) trodAll_mk0)), rfl, bel.frame _, fun h => by cases h⟩
set_option maxRecDepth 100000 in
theorem lifted (os : Os) (started : os.Started) (H : Type) (enc : TypeId × Value → H) :
    ReturnsInHanded {} Try.checked os 9 .any (Rows.extentStoresSpec.pre6 enc Try.prog Try.f9 Rows.extentStoresRow.domain false) (Rows.extentStoresSpec.post enc Try.prog Try.f9 false true false false) := by
  refine returnsInHanded_of_change_sized (C := Try.checked) own started (by kernel_rfl) Try.func9
    (ChangeSpec.witness6 (enc := enc) (C := Try.checked) false ⟨#[], #[.slice none 0 0, .slice none 0 0], []⟩ 8 (by kernel_rfl) (by kernel_rfl) (by kernel_rfl) (by kernel_rfl)) ?_
  intro W base args ds gs before hval hW _ hsz _
  exact contract H enc W base args ds gs before hval hW hsz
theorem over : Rows.extentStoresRow.holds Try.pinned (OpenSpec.ofChange Rows.extentStoresSpec) :=
  OpenClaim.holds_of_wide 9 Try.f9 rfl rfl rfl rfl rfl rfl rfl ⟨rfl, rfl, rfl, rfl, rfl⟩ rfl rfl rfl rfl rfl (by kernel_rfl) Try.func9 (by kernel_rfl)
    (of_decide_eq_true (by kernel_rfl)) (by unfold Func.isWrapper; first | (rw [if_pos (by decide +kernel)]; kernel_rfl) | (rw [if_neg (by decide +kernel)]; exact ⟨rfl, rfl⟩))
    (fun os started H enc _ => lifted os started H enc)
theorem proved : Rows.ExtentStoresSaid := over
end Go.Proofs.Ytopmjjnkolfciaa.extentStores
namespace Go.Proofs.Ytopmjjnkolfciaa
theorem extentStores_holds : Rows.ExtentStoresSaid := extentStores.proved
end Go.Proofs.Ytopmjjnkolfciaa
end
