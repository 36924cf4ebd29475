/- MReads: this session's texts for the one law, put together (part 6 of 6): what its program computes, function by function, and that this answers true; the row stands at the end of the last part. Conditions: those that each theorem names; the last theorem has none. -/
import Derived.Test.YtopmjjnkolfciaaRows
import Derived.WalkKit
import Derived.ProofKit
import Derived.OpenShut
import Derived.ShutString
import Derived.ChangeOld
import Derived.Below
import Derived.SizedLaws
import Derived.Carry
import Derived.Lib.SmallJoins
import Derived.Test.YtopmjjnkolfciaaMReadsE
section
namespace Go.Proofs.Ytopmjjnkolfciaa.Pr
open Go.RowKit Go.Proofs.YtopmjjnkolfciaaW.PrintWords Go.Proofs.YtopmjjnkolfciaaW.PrintMore Go.Proofs.Ytopmjjnkolfciaa.Od
open Go.Proofs.Ytopmjjnkolfciaa.Cr hiding Ev.succ
open Go.Maps (addKey)
set_option linter.unusedVariables false
set_option linter.unusedSimpArgs false
set_option maxRecDepth 20000
def idxT (bs : List Int) : List Int := bs.flatMap (fun b => bytesN 4 b.toNat)
theorem idxT_len (bs : List Int) : (idxT bs).length = 4 * bs.length := flat4_len bs
theorem idxT_snoc (l : List Int) (i : Nat) (h : i < l.length) : idxT (l.take (i + 1)) = idxT (l.take i) ++ bytesN 4 l[i].toNat := by
  unfold idxT
  rw [List.take_succ_eq_append_getElem h, List.flatMap_append]
  congr 1
theorem pindex_l0 (l : List Int) (hl : ∀ b ∈ l, 0 ≤ b ∧ b < 4294967296) (hn : l.length ≤ 14) : ∀ (d i : Nat), i + d = l.length →
    Ev (fun k => extent_index.l0 k (hdr l.length 1 ++ idxT (l.take i) ++ List.replicate (60 - (4 + 4 * i)) 0) l (l.length : Int) (i : Int)) (idxL l)
  | 0, i, hd => by
    refine Ev.succ ?_
    simp only [extent_index.l0, if_neg (show ¬ ((i : Int) < (l.length : Int)) by omega)]
    obtain rfl : i = l.length := by omega
    rw [List.take_length]
    have : idxL l = hdr l.length 1 ++ idxT l ++ List.replicate (60 - (4 + 4 * l.length)) 0 := by
      unfold idxL padN
      rw [List.length_append, hdr_len, flat4_len]
      rfl
    rw [this]
    exact Ev.now _
  | d + 1, i, hd => by
    have hi : i < l.length := by omega
    have hb := hl l[i] (List.getElem_mem hi)
    have hpl : (hdr l.length 1 ++ idxT (l.take i)).length = 4 + 4 * i := by rw [List.length_append, hdr_len, idxT_len, List.length_take]; omega
    refine Ev.succ ?_
    simp only [extent_index.l0, if_pos (show (i : Int) < (l.length : Int) by omega), if_pos (show (0 : Int) ≤ (i : Int) by omega), wp4 i (by omega), wps i (by omega), rd_get hi]
    refine Ev.bind (pput_ev _ _ (4 + 4 * i) 4 l[i].toNat _ _ _ rfl rfl (by omega) hpl (by decide) (by decide) (by omega) (by omega)) ?_
    have ih := pindex_l0 l hl hn d (i + 1) (by omega)
    rw [idxT_snoc l i hi, ← List.append_assoc, show 60 - (4 + 4 * (i + 1)) = 60 - (4 + 4 * i) - 4 by omega] at ih
    exact ih
theorem pindex_ev (l : List Int) (hl : ∀ b ∈ l, 0 ≤ b ∧ b < 4294967296) (hn : l.length ≤ 14) : Ev (fun k => extent_index.f k l) (idxL l) := by
  unfold extent_index.f
  simp only [if_pos (show (60 : Nat) ≤ 281474976710656 by decide)]
  refine Ev.bind (pput_ev [] 60 0 2 l.length 0 2 (l.length : Int) rfl rfl rfl rfl (by decide) (by decide) (by omega) (by omega)) ?_
  have e1 : [] ++ bytesN 2 l.length ++ List.replicate (60 - 2) (0 : Int) = bytesN 2 l.length ++ List.replicate 58 0 := rfl
  rw [e1]
  refine Ev.bind (pput_ev (bytesN 2 l.length) 58 2 2 1 2 2 1 rfl rfl rfl (bytesN_len _ _) (by decide) (by decide) (by omega) (by omega)) ?_
  have ih := pindex_l0 l hl hn l.length 0 (by omega)
  have h0 : l.length / 256 % 256 = 0 := by omega
  have e : hdr l.length 1 ++ idxT (l.take 0) ++ List.replicate (60 - (4 + 4 * 0)) (0 : Int) = bytesN 2 l.length ++ bytesN 2 1 ++ List.replicate (58 - 2) 0 := by
    simp [hdr, bytesN, idxT, h0]
  rw [e] at ih
  exact ih
theorem pget_ev (b : List Int) (hb : ∀ x ∈ b, isByte x) (a1 a2 : Int) (p n : Nat) (h1 : a1 = (p : Int)) (h2 : a2 = (n : Int)) (h : p + n ≤ b.length) (hn : n ≤ 4) (hl : b.length ≤ 256) : Ev (fun k => extent_page_get.f k b a1 a2) ((numN ((b.drop p).take n) : Nat) : Int) := by
  subst h1 h2
  unfold extent_page_get.f
  have hbb : ∀ x ∈ (b.take (p + n)).drop p, isByte x := fun x hx => hb x (List.mem_of_mem_take (List.mem_of_mem_drop hx))
  have hlen : ((b.take (p + n)).drop p).length = n := by rw [List.length_drop, List.length_take]; omega
  have e : (b.take (p + n)).drop p = (b.drop p).take n := by rw [List.drop_take]; congr 1; omega
  simp only [w64 (show -9223372036854775808 ≤ (p : Int) + (n : Int) by omega) (by omega), if_pos (show (0 : Int) ≤ (p : Int) by omega), if_pos (show (p : Int) ≤ (p : Int) + (n : Int) by omega), if_pos (show (p : Int) + (n : Int) ≤ (b.length : Int) by omega), show ((p : Int) + (n : Int)).toNat = p + n by omega, Int.toNat_natCast]
  refine Ev.bind (crc_number_ev _ (by omega) hbb) ?_
  have := numN_lt _ hbb
  rw [hlen] at this
  have h4 : 256 ^ n ≤ 256 ^ 4 := Nat.pow_le_pow_right (by decide) hn
  rw [show (256 : Nat) ^ 4 = 4294967296 from rfl] at h4
  simp only []
  rw [w64 (by omega) (by omega), e]
  exact Ev.now _
theorem decP_drop (b : List Int) (i : Nat) : decP ((b.drop 4).drop (12 * i)) = ⟨(numN ((b.drop (4 + 12 * i)).take 4) : Int), (numN ((b.drop (4 + 12 * i + 4)).take 4) : Int), (numN ((b.drop (4 + 12 * i + 8)).take 2) : Int), (((numN ((b.drop (4 + 12 * i + 10)).take 2) : Nat) : Int) == 1)⟩ := by
  unfold decP
  simp only [List.drop_drop]
theorem pext_l0 (b : List Int) (hb : ∀ x ∈ b, isByte x) (n : Nat) (h : 4 + 12 * n ≤ b.length) (hl : b.length ≤ 256) : ∀ (d i : Nat), i + d = n →
    Ev (fun k => extent_page_extents.l0 k b (decF decP (b.drop 4) i) (n : Int) (i : Int)) (decF decP (b.drop 4) n)
  | 0, i, hd => by
    refine Ev.succ ?_
    simp only [extent_page_extents.l0, if_neg (show ¬ ((i : Int) < (n : Int)) by omega)]
    obtain rfl : i = n := by omega
    exact Ev.now _
  | d + 1, i, hd => by
    refine Ev.succ ?_
    simp only [extent_page_extents.l0, if_pos (show (i : Int) < (n : Int) by omega), wp0 i (by omega), wpk4 i (by omega), wpk8 i (by omega), wpk10 i (by omega), wps i (by omega), decF_len, if_pos (show i < 4398046511104 by omega)]
    refine Ev.bind (pget_ev b hb _ _ (4 + 12 * i) 4 rfl rfl (by omega) (by decide) hl) ?_
    refine Ev.bind (pget_ev b hb _ _ (4 + 12 * i + 4) 4 rfl rfl (by omega) (by decide) hl) ?_
    refine Ev.bind (pget_ev b hb _ _ (4 + 12 * i + 8) 2 rfl rfl (by omega) (by decide) hl) ?_
    refine Ev.bind (pget_ev b hb _ _ (4 + 12 * i + 10) 2 rfl rfl (by omega) (by decide) hl) ?_
    have ih := pext_l0 b hb n h hl d (i + 1) (by omega)
    rw [decF_snoc, decP_drop] at ih
    exact ih
theorem pext_ev (b : List Int) (hb : ∀ x ∈ b, isByte x) (n : Nat) (a1 : Int) (h1 : a1 = (n : Int)) (h : 4 + 12 * n ≤ b.length) (hl : b.length ≤ 256) : Ev (fun k => extent_page_extents.f k b a1) (decF decP (b.drop 4) n) := by
  subst h1
  exact pext_l0 b hb n h hl n 0 (by omega)
def numsD (l : List Int) : Bool := l.all numOk && decide l.Nodup
theorem same_lit (a b : Int) : ((Lit.int .i64 a).sameKey (Lit.int .i64 b)) = decide (a = b) := by
  by_cases h : a = b
  · subst h; simp [Lit.sameKey]
  · rw [decide_eq_false h]
    exact Go.Maps.sameKey_ne (fun e => h (by injection e))
theorem foldKey (xs : List Int) : ∀ acc : List Int, acc.Nodup → ((xs.map (Lit.int .i64)).foldl addKey (acc.map (Lit.int .i64))).length ≤ acc.length + xs.length ∧
    (((xs.map (Lit.int .i64)).foldl addKey (acc.map (Lit.int .i64))).length = acc.length + xs.length ↔ (acc ++ xs).Nodup) := by
  induction xs with
  | nil => intro acc hacc; simp [hacc]
  | cons x xs ih =>
    intro acc hacc
    rw [List.map_cons, List.foldl_cons]
    have hany : (acc.map (Lit.int .i64)).any (fun y => y.sameKey (Lit.int .i64 x)) = acc.contains x := by
      rw [List.any_map, List.contains_eq_any_beq]
      congr 1
      funext y
      show (Lit.int .i64 y).sameKey (Lit.int .i64 x) = (x == y)
      rw [same_lit]
      by_cases h : y = x
      · subst h; simp
      · rw [decide_eq_false h]
        have : ¬ (x = y) := fun e => h e.symm
        simp [this]
    have hs : addKey (acc.map (Lit.int .i64)) (Lit.int .i64 x) = if acc.contains x = true then acc.map (Lit.int .i64) else acc.map (Lit.int .i64) ++ [Lit.int .i64 x] := by unfold addKey; rw [hany]
    rw [hs]
    by_cases hc : acc.contains x = true
    · rw [if_pos hc]
      obtain ⟨h1, h2⟩ := ih acc hacc
      have hm : x ∈ acc := List.contains_iff_mem.1 hc
      refine ⟨by rw [List.length_cons]; omega, ⟨fun h => ?_, fun h => ?_⟩⟩
      · rw [List.length_cons] at h; omega
      · have := (List.nodup_append.1 h).2.2 x hm x List.mem_cons_self
        exact absurd rfl this
    · rw [if_neg hc]
      have hm : x ∉ acc := fun h => hc (List.contains_iff_mem.2 h)
      have e : acc.map (Lit.int .i64) ++ [Lit.int .i64 x] = (acc ++ [x]).map (Lit.int .i64) := by rw [List.map_append]; rfl
      rw [e]
      have hnd : (acc ++ [x]).Nodup := List.nodup_append.2 ⟨hacc, List.nodup_cons.2 ⟨List.not_mem_nil, List.nodup_nil⟩, fun a ha b hb => by
        rw [List.mem_singleton.1 hb]; exact fun e => hm (e ▸ ha)⟩
      obtain ⟨h1, h2⟩ := ih (acc ++ [x]) hnd
      rw [List.length_append, List.length_singleton] at h1 h2
      rw [List.append_assoc, List.singleton_append] at h2
      rw [List.length_cons, show acc.length + (xs.length + 1) = acc.length + 1 + xs.length by omega]
      exact ⟨h1, h2⟩
theorem pnumbers_f (l : List Int) : extent_numbers.f l = some (numsD l) := by
  unfold extent_numbers.f numsD
  congr 2
  have h := (foldKey l [] List.nodup_nil).2
  rw [List.map_nil, List.length_nil, Nat.zero_add, List.nil_append] at h
  exact decide_eq_decide.2 h
theorem numsD_ok {l : List Int} (h : numsD l = true) : (∀ b ∈ l, 1 ≤ b ∧ b < 1024) ∧ l.Nodup := by
  unfold numsD at h
  rw [Bool.and_eq_true] at h
  refine ⟨fun b hb => ?_, of_decide_eq_true h.2⟩
  have := List.all_eq_true.1 h.1 b hb
  unfold numOk at this
  rw [Bool.and_eq_true] at this
  exact ⟨of_decide_eq_true this.1, of_decide_eq_true this.2⟩
theorem pnode_ev (l : List E24) (hl : ∀ e ∈ l, mayE e = true) (hn : l.length ≤ 20) : Ev (fun k => nodeF k l) (nodeL l) := by
  unfold nodeF
  refine Ev.bind (plist_ev 256 l hl (by omega) (by omega)) ?_
  have hX : (hdr l.length 0 ++ encL l).length = 4 + 12 * l.length := by rw [List.length_append, hdr_len, encL_len]
  have hP : padN (hdr l.length 0 ++ encL l) 256 = nodeC l ++ List.replicate 4 0 := by
    unfold nodeC padN
    rw [hX]
    obtain ⟨X, hXe⟩ : ∃ X, hdr l.length 0 ++ encL l = X := ⟨_, rfl⟩
    rw [hXe, List.append_assoc, List.replicate_append_replicate, show 252 - (4 + 12 * l.length) + 4 = 256 - (4 + 12 * l.length) by omega]
  have hc := nodeC_len l hn
  rw [hP]
  simp only [if_pos (show (nodeC l ++ List.replicate 4 (0 : Int)).length = 256 by rw [List.length_append, hc, List.length_replicate]), take_exact hc]
  refine Ev.bind (crc_sum_ev (nodeC l) (by omega)) ?_
  have hs := (sumB (nodeC l)).isLt
  rw [w64 (by omega) (by omega)]
  have h := pput_ev (nodeC l) 4 252 4 (sumB (nodeC l)).toNat 252 4 ((sumB (nodeC l)).toNat : Int) rfl rfl rfl hc (by decide) (by decide) (by decide) (by omega)
  rw [show List.replicate (4 - 4) (0 : Int) = [] from rfl, List.append_nil] at h
  exact h
def nodesX (l : List E24) : List (List Int) := (List.range (chunkN l.length)).map (fun x => nodeL (chunkOf l x))
theorem chunkOf_le (l : List E24) (x : Nat) : (chunkOf l x).length ≤ 20 := by
  unfold chunkOf
  rw [List.length_drop, List.length_take]
  omega
theorem chunkOf_mem {l : List E24} {x : Nat} {e : E24} (h : e ∈ chunkOf l x) : e ∈ l := List.mem_of_mem_take (List.mem_of_mem_drop h)
theorem pnodes_ev (l : List E24) (hl : ∀ e ∈ l, mayE e = true) : ∀ xs : List Nat, Ev (fun k => nodesF k l xs) (xs.map (fun x => nodeL (chunkOf l x)))
  | [] => Ev.now _
  | x :: xs => by
    unfold nodesF
    exact Ev.bind (pnode_ev _ (fun e he => hl e (chunkOf_mem he)) (chunkOf_le l x)) (Ev.bind (pnodes_ev l hl xs) (Ev.now _))
def needN (l : List E24) : Nat := if l.length ≤ 4 then 0 else (l.length + 19) / 20
theorem needX_good {l : List E24} (h : chkB l = true) : needX l = (needN l : Int) := by
  have h60 := (chk_ok h).1
  unfold needX needN
  rw [if_pos h]
  by_cases h4 : l.length ≤ 4
  · rw [if_pos (by omega), if_pos h4]; rfl
  · rw [if_neg (by omega), if_neg h4, w64 (n := (l.length : Int) + 20) (by omega) (by omega), w64 (n := (l.length : Int) + 20 - 1) (by omega) (by omega)]
    have e : ((l.length : Int) + 20 - 1) = ((l.length + 19 : Nat) : Int) := by omega
    rw [e, Int.tdiv_eq_ediv_of_nonneg (by omega)]
    have e2 : ((l.length + 19 : Nat) : Int) / 20 = (((l.length + 19) / 20 : Nat) : Int) := by omega
    rw [e2, w64 (by omega) (by omega)]
theorem needX_bad {l : List E24} (h : ¬ chkB l = true) : needX l = -1 := if_neg h
theorem mays {l : List E24} (h : chkB l = true) : ∀ e ∈ l, mayE e = true := pre_may (chk_ok h).2.1
def storeX (l : List E24) (b : List Int) : List Int × List (List Int) × Int :=
  if chkB l = true ∧ needN l = b.length ∧ numsD b = true then (if needN l = 0 then (rootL l, [], 0) else (idxL b, nodesX l, 0)) else ([], [], 1)
theorem pstore_ev (l : List E24) (b : List Int) : Ev (fun k => extent_Store.f k l b) (storeX l b) := by
  unfold extent_Store.f storeX
  refine Ev.bind (need_ev l) ?_
  by_cases h : chkB l = true
  · have h60 := (chk_ok h).1
    rw [needX_good h]
    simp only [if_neg (show ¬ ((needN l : Int) < 0) by omega), pnumbers_f]
    by_cases hb : needN l = b.length
    · simp only [if_pos (show (needN l : Int) = (b.length : Int) by omega)]
      by_cases hn : numsD b = true
      · rw [if_pos ⟨h, hb, hn⟩]
        by_cases hz : needN l = 0
        · have h4 : l.length ≤ 4 := by unfold needN at hz; split at hz <;> omega
          rw [if_pos hz]
          simp only [hn, Cr.bs, if_true, if_pos (show (needN l : Int) = 0 by omega)]
          exact Ev.bind (plist_ev 60 l (mays h) (by omega) (by omega)) (Ev.now _)
        · have h4 : ¬ l.length ≤ 4 := fun h4 => hz (if_pos h4)
          have hnl : needN l = (l.length + 19) / 20 := if_neg h4
          rw [if_neg hz]
          simp only [hn, Cr.bs, if_true, if_neg (show ¬ ((needN l : Int) = 0) by omega), if_pos (show 0 < l.length ∧ l.length ≤ 60 by omega)]
          exact Ev.bind (pnodes_ev l (mays h) _) (Ev.bind (pindex_ev b (fun x hx => by have := (numsD_ok hn).1 x hx; omega) (by omega)) (Ev.now _))
      · rw [if_neg (fun hh => hn hh.2.2)]
        have hnf : numsD b = false := by simpa using hn
        simp only [hnf, Cr.bs, if_neg (show ¬ (false = true) by decide)]
        exact Ev.now _
    · rw [if_neg (fun hh => hb hh.2.1)]
      simp only [if_neg (show ¬ ((needN l : Int) = (b.length : Int)) by omega)]
      exact Ev.now _
  · rw [needX_bad h, if_neg (fun hh => h hh.1)]
    simp only [if_pos (show (-1 : Int) < 0 by decide)]
    exact Ev.now _
end Go.Proofs.Ytopmjjnkolfciaa.Pr
end
section
namespace Go.Proofs.Ytopmjjnkolfciaa.Pr
open Go.RowKit Go.Proofs.YtopmjjnkolfciaaW.PrintWords Go.Proofs.YtopmjjnkolfciaaW.PrintMore Go.Proofs.Ytopmjjnkolfciaa.Od
open Go.Proofs.Ytopmjjnkolfciaa.Cr hiding Ev.succ
set_option linter.unusedVariables false
set_option linter.unusedSimpArgs false
set_option maxRecDepth 20000
theorem rb_ev (v n : Nat) (a : Int) (b : Int) (ha : a = (v : Int)) (hb : b = (n : Int)) (hv : v < 18446744073709551616) (hn : n ≤ 8) : Ev (fun k => r_01_Bytes.f k (IntKind.u64.wrap a) b) (bytesN n v) := by
  subst ha hb
  rw [u64_of v hv]
  exact rbytes_ev v n hn
theorem renc_ev (e : E24) (h : mayE e = true) : Ev (fun k => r_10_bytes.f k e.f0 e.f1 e.f2 e.f3) (encE e) := by
  have hm := mayE_facts h
  unfold r_10_bytes.f
  refine Ev.bind (rb_ev e.f0.toNat 4 _ _ (by omega) rfl (by omega) (by decide)) ?_
  refine Ev.bind (rb_ev e.f1.toNat 4 _ _ (by omega) rfl (by omega) (by decide)) ?_
  simp only [bytesN_len, Cr.bs, if_pos (show 4 + 4 < 140737488355328 by decide)]
  refine Ev.bind (rb_ev e.f2.toNat 2 _ _ (by omega) rfl (by omega) (by decide)) ?_
  simp only [bytesN_len, List.length_append, Cr.bs, if_pos (show 4 + 4 + 2 < 140737488355328 by decide), List.length_cons, List.length_nil, if_pos (show 4 + 4 + 2 + (0 + 1 + 1) < 140737488355328 by decide)]
  unfold encE flagB
  cases e.f3 with
  | true => simp only [if_true]; exact Ev.now _
  | false => simp only [if_neg (show ¬ (false = true) by decide)]; exact Ev.now _
theorem rlist_l0 (l : List E24) (hl : ∀ e ∈ l, mayE e = true) (hn : l.length ≤ 60) (f : Int) : ∀ (d i : Nat), i + d = l.length →
    Ev (fun k => r_10_list.l0 k l (hdr l.length f ++ encL (l.take i)) (i : Int)) (hdr l.length f ++ encL l)
  | 0, i, hd => by
    refine Ev.succ ?_
    simp only [r_10_list.l0, if_neg (show ¬ ((i : Int) < (l.length : Int)) by omega)]
    obtain rfl : i = l.length := by omega
    rw [List.take_length]
    exact Ev.now _
  | d + 1, i, hd => by
    have hi : i < l.length := by omega
    refine Ev.succ ?_
    have hpl : (hdr l.length f ++ encL (l.take i)).length = 4 + 12 * i := by rw [List.length_append, hdr_len, encL_len, List.length_take]; omega
    simp only [r_10_list.l0, if_pos (show (i : Int) < (l.length : Int) by omega), if_pos (show (0 : Int) ≤ (i : Int) by omega), rdT_get hi, wps i (by omega)]
    refine Ev.bind (renc_ev l[i] (hl _ (List.getElem_mem hi))) ?_
    simp only [hpl, encE_len, if_pos (show 4 + 12 * i + 12 < 140737488355328 by omega)]
    have ih := rlist_l0 l hl hn f d (i + 1) (by omega)
    rw [encL_snoc l i hi, ← List.append_assoc] at ih
    exact ih
theorem rlist_ev (l : List E24) (hl : ∀ e ∈ l, mayE e = true) (hn : l.length ≤ 60) (f : Int) : Ev (fun k => r_10_list.f k l f) (hdr l.length f ++ encL l) := by
  unfold r_10_list.f
  have h := rlist_l0 l hl hn f l.length 0 (by omega)
  have e : hdr l.length f ++ encL (l.take 0) = [((l.length : Int)) % 256, 0, f, 0] := by
    simp [hdr, encL]
  rw [e] at h
  exact h
theorem rfilled_ev (n : Nat) (hn : n ≤ 300) : ∀ (d : Nat) (b : List Int), b.length + d = n → Ev (fun k => r_10_filled.f k b (n : Int)) (padN b n)
  | 0, b, hd => by
    unfold r_10_filled.f
    refine Ev.succ ?_
    simp only [r_10_filled.l0, if_neg (show ¬ ((b.length : Int) < (n : Int)) by omega)]
    unfold padN
    rw [show n - b.length = 0 by omega]
    rw [List.replicate_zero, List.append_nil]
    exact Ev.now _
  | d + 1, b, hd => by
    unfold r_10_filled.f
    refine Ev.succ ?_
    simp only [r_10_filled.l0, if_pos (show (b.length : Int) < (n : Int) by omega), if_pos (show b.length < 140737488355328 by omega)]
    have ih := rfilled_ev n hn d (b ++ [0]) (by rw [List.length_append, List.length_singleton]; omega)
    have e : padN (b ++ [0]) n = padN b n := by
      unfold padN
      rw [List.length_append, List.length_singleton, List.append_assoc, show n - b.length = (n - (b.length + 1)) + 1 by omega, List.replicate_succ]
      rfl
    rw [e] at ih
    exact ih
theorem numsD_false_all {l : List Int} {i : Nat} (h : i < l.length) (hx : numOk l[i] = false) : numsD l = false := by
  unfold numsD
  have : l.all numOk = false := by
    rw [List.all_eq_false]
    exact ⟨l[i], List.getElem_mem h, by rw [hx]; decide⟩
  rw [this, Bool.false_and]
theorem numsD_false_dup {l : List Int} {i j : Nat} (hi : i < l.length) (hj : j < i) (h : l[j]'(by omega) = l[i]) : numsD l = false := by
  unfold numsD
  have : ¬ l.Nodup := fun hn => by
    exact List.pairwise_iff_getElem.1 hn j i (by omega) hi hj h
  rw [decide_eq_false this, Bool.and_false]
theorem rnumbers_l0 (l : List Int) (hl : l.length ≤ 60) : ∀ (d i : Nat), i + d = l.length → (∀ a (h : a < l.length), a < i → numOk l[a] = true) → (∀ a b (hb : b < l.length) (hab : a < b), b < i → l[a]'(by omega) ≠ l[b]) →
    Ev (fun k => r_10_numbers.l0 k l (i : Int)) (numsD l)
  | 0, i, hd, h1, h2 => by
    refine Ev.succ ?_
    simp only [r_10_numbers.l0, if_neg (show ¬ ((i : Int) < (l.length : Int)) by omega)]
    have e : numsD l = true := by
      unfold numsD
      rw [Bool.and_eq_true]
      refine ⟨List.all_eq_true.2 (fun x hx => ?_), decide_eq_true (List.pairwise_iff_getElem.2 (fun a b ha hb hab => h2 a b hb hab (by omega)))⟩
      · obtain ⟨a, ha, rfl⟩ := List.mem_iff_getElem.1 hx
        exact h1 a ha (by omega)
    rw [e]
    exact Ev.now _
  | d + 1, i, hd, h1, h2 => by
    have hi : i < l.length := by omega
    refine Ev.succ ?_
    simp only [r_10_numbers.l0, if_pos (show (i : Int) < (l.length : Int) by omega), if_pos (show (0 : Int) ≤ (i : Int) by omega), rd_get hi]
    by_cases hx : numOk l[i] = true
    · have hxx := hx
      unfold numOk at hxx
      rw [Bool.and_eq_true] at hxx
      have hx1 : 1 ≤ l[i] := of_decide_eq_true hxx.1
      have hx2 : l[i] < 1024 := of_decide_eq_true hxx.2
      simp only [if_neg (show ¬ (l[i] < 1) by omega), decide_eq_false (show ¬ (l[i] ≥ 1024) by omega)]
      refine Ev.succ ?_
      simp only [r_10_numbers.j1, if_neg (show ¬ (false = true) by decide)]
      have inner : ∀ (e j : Nat), j + e = i → (∀ a (ha : a < j) (hai : a < i), l[a]'(by omega) ≠ l[i]) → Ev (fun k => r_10_numbers.l1 k l (i : Int) (j : Int)) (numsD l) := by
        intro e
        induction e with
        | zero =>
          intro j hj hne
          obtain rfl : j = i := by omega
          refine Ev.succ ?_
          simp only [r_10_numbers.l1, if_neg (show ¬ ((j : Int) < (j : Int)) by omega), wps j (by omega)]
          refine rnumbers_l0 l hl d (j + 1) (by omega) (fun a ha hlt => ?_) (fun a b hb hab hlt => ?_)
          · by_cases he : a = j
            · subst he; exact hx
            · exact h1 a ha (by omega)
          · by_cases he : b = j
            · subst he; exact hne a hab hab
            · exact h2 a b hb hab (by omega)
        | succ e ih =>
          intro j hj hne
          have hji : j < i := by omega
          have hjl : j < l.length := by omega
          refine Ev.succ ?_
          simp only [r_10_numbers.l1, if_pos (show (j : Int) < (i : Int) by omega), if_pos (show (0 : Int) ≤ (j : Int) by omega), if_pos (show (j : Int) < (l.length : Int) by omega), if_pos (show (0 : Int) ≤ (i : Int) by omega), if_pos (show (i : Int) < (l.length : Int) by omega), rd_get hi, rd_get hjl, wps j (by omega)]
          by_cases he : l[j] = l[i]
          · simp only [if_pos he]
            rw [numsD_false_dup hi hji he]
            exact Ev.now _
          · simp only [if_neg he]
            refine ih (j + 1) (by omega) (fun a ha hlt => ?_)
            by_cases hea : a = j
            · subst hea; exact he
            · exact hne a (by omega) hlt
      exact inner i 0 (by omega) (fun a ha => by omega)
    · have hxf : numOk l[i] = false := by simpa using hx
      rw [numsD_false_all hi hxf]
      by_cases hx1 : l[i] < 1
      · simp only [if_pos hx1]
        refine Ev.succ ?_
        simp only [r_10_numbers.j1, if_true]
        exact Ev.now _
      · have hx2 : l[i] ≥ 1024 := by
          unfold numOk at hxf
          rw [decide_eq_true (show 1 ≤ l[i] by omega), Bool.true_and] at hxf
          have := of_decide_eq_false hxf
          omega
        simp only [if_neg hx1, decide_eq_true hx2]
        refine Ev.succ ?_
        simp only [r_10_numbers.j1, if_true]
        exact Ev.now _
theorem rnumbers_ev (l : List Int) (hl : l.length ≤ 60) : Ev (fun k => r_10_numbers.f k l) (numsD l) := by
  unfold r_10_numbers.f
  exact rnumbers_l0 l hl l.length 0 (by omega) (fun a _ h => by omega) (fun a b _ _ h => by omega)
end Go.Proofs.Ytopmjjnkolfciaa.Pr
end
section
namespace Go.Proofs.Ytopmjjnkolfciaa.Pr
open Go.RowKit Go.Proofs.YtopmjjnkolfciaaW.PrintWords Go.Proofs.YtopmjjnkolfciaaW.PrintMore Go.Proofs.Ytopmjjnkolfciaa.Od
open Go.Proofs.Ytopmjjnkolfciaa.Cr hiding Ev.succ
set_option linter.unusedVariables false
set_option linter.unusedSimpArgs false
set_option maxRecDepth 20000
theorem wm20 (i : Nat) (h : i ≤ 60) : wrap64 ((i : Int) * 20) = ((i * 20 : Nat) : Int) := by
  rw [w64 (by omega) (by omega)]; omega
theorem wm21 (i : Nat) (h : i ≤ 60) : wrap64 (((i + 1 : Nat) : Int) * 20) = (((i + 1) * 20 : Nat) : Int) := by
  rw [w64 (by omega) (by omega)]; omega
theorem mn_nat (a b : Nat) : mn (a : Int) (b : Int) = ((min a b : Nat) : Int) := by
  unfold mn; split <;> omega
theorem chunk_ref (l : List E24) (i : Nat) (h : i * 20 ≤ l.length) : (l.take (min l.length ((i + 1) * 20))).drop (i * 20) = chunkOf l i := by
  unfold chunkOf
  congr 2
  omega
theorem rstore_l0 (l : List E24) (b : List Int) (hl : ∀ e ∈ l, mayE e = true) (h60 : l.length ≤ 60) (hb : ∀ x ∈ b, 0 ≤ x ∧ x < 4294967296) (hn : chunkN l.length = b.length) : ∀ (d i : Nat), i + d = b.length →
    Ev (fun k => r_10_Store.l0 k l b (b.length : Int) (hdr b.length 1 ++ idxT (b.take i)) ((List.range i).map (fun x => nodeL (chunkOf l x))) (i : Int)) (idxL b, nodesX l, 0)
  | 0, i, hd => by
    refine Ev.succ ?_
    simp only [r_10_Store.l0, if_neg (show ¬ ((i : Int) < (b.length : Int)) by omega)]
    obtain rfl : i = b.length := by omega
    rw [List.take_length]
    have h3 : b.length ≤ 3 := by rw [← hn]; unfold chunkN; omega
    have hpl : (hdr b.length 1 ++ idxT b).length = 4 + 4 * b.length := by rw [List.length_append, hdr_len, idxT_len]
    have e : padN (hdr b.length 1 ++ idxT b) 60 = idxL b := rfl
    have e2 : (List.range b.length).map (fun x => nodeL (chunkOf l x)) = nodesX l := by unfold nodesX; rw [hn]
    rw [e2]
    have hf := rfilled_ev 60 (by omega) (60 - (4 + 4 * b.length)) (hdr b.length 1 ++ idxT b) (by rw [hpl]; omega)
    rw [e] at hf
    exact Ev.bind hf (Ev.now _)
  | d + 1, i, hd => by
    have hi : i < b.length := by omega
    have h3 : b.length ≤ 3 := by rw [← hn]; unfold chunkN; omega
    have hil : i * 20 ≤ l.length := by
      have h1 : i < chunkN l.length := by omega
      unfold chunkN at h1; omega
    have hx := hb b[i] (List.getElem_mem hi)
    have hpl : (hdr b.length 1 ++ idxT (b.take i)).length = 4 + 4 * i := by rw [List.length_append, hdr_len, idxT_len, List.length_take]; omega
    have hc20 := chunkOf_le l i
    have hcm : ∀ e ∈ chunkOf l i, mayE e = true := fun e he => hl e (chunkOf_mem he)
    have hnc := nodeC_len (chunkOf l i) hc20
    have hs := (sumB (nodeC (chunkOf l i))).isLt
    have hcl : (hdr (chunkOf l i).length 0 ++ encL (chunkOf l i)).length = 4 + 12 * (chunkOf l i).length := by rw [List.length_append, hdr_len, encL_len]
    have ih := rstore_l0 l b hl h60 hb hn d (i + 1) (by omega)
    rw [idxT_snoc b i hi, ← List.append_assoc, List.range_succ, List.map_append, List.map_cons, List.map_nil] at ih
    refine Ev.succ ?_
    simp only [r_10_Store.l0, if_pos (show (i : Int) < (b.length : Int) by omega), if_pos (show (0 : Int) ≤ (i : Int) by omega), rd_get hi, wps i (by omega), wm20 i (by omega), wm21 i (by omega), mn_nat, Int.toNat_natCast]
    refine Ev.bind (rb_ev b[i].toNat 4 _ _ (by omega) rfl (by omega) (by decide)) ?_
    simp only [hpl, bytesN_len, if_pos (show 4 + 4 * i + 4 < 140737488355328 by omega), if_pos (show (0 : Int) ≤ ((i * 20 : Nat) : Int) by omega), if_pos (show ((i * 20 : Nat) : Int) ≤ ((min l.length ((i + 1) * 20) : Nat) : Int) by omega), if_pos (show ((min l.length ((i + 1) * 20) : Nat) : Int) ≤ (l.length : Int) by omega), chunk_ref l i hil]
    refine Ev.bind (rlist_ev (chunkOf l i) hcm (by omega) 0) ?_
    refine Ev.bind (rfilled_ev 252 (by omega) (252 - (4 + 12 * (chunkOf l i).length)) _ (by rw [hcl]; omega)) ?_
    have e : padN (hdr (chunkOf l i).length 0 ++ encL (chunkOf l i)) 252 = nodeC (chunkOf l i) := rfl
    rw [e]
    refine Ev.bind (rsum_ev _ (by omega)) ?_
    refine Ev.bind (rb_ev (sumB (nodeC (chunkOf l i))).toNat 4 _ _ rfl rfl (by omega) (by decide)) ?_
    simp only [hnc, bytesN_len, List.length_map, List.length_range, if_pos (show 252 + 4 < 140737488355328 by decide), if_pos (show i < 5864062014805 by omega)]
    exact ih
theorem rstore_ev (l : List E24) (b : List Int) : Ev (fun k => r_10_Store.f k l b) (storeX l b) := by
  unfold r_10_Store.f storeX
  refine Ev.bind (rneed_ev l) ?_
  by_cases h : chkB l = true
  · have h60 := (chk_ok h).1
    rw [needX_good h]
    simp only [if_neg (show ¬ ((needN l : Int) < 0) by omega)]
    by_cases hb : needN l = b.length
    · have hnb : needN l ≤ 3 := by unfold needN; split <;> omega
      simp only [if_pos (show (b.length : Int) = (needN l : Int) by omega)]
      refine Ev.bind (rnumbers_ev b (by omega)) ?_
      by_cases hn : numsD b = true
      · rw [if_pos ⟨h, hb, hn⟩]
        simp only [hn, Bool.not_true]
        refine Ev.succ ?_
        simp only [r_10_Store.j0, if_neg (show ¬ (false = true) by decide)]
        by_cases hz : needN l = 0
        · have h4 : l.length ≤ 4 := by unfold needN at hz; split at hz <;> omega
          rw [if_pos hz]
          simp only [if_pos (show (needN l : Int) = 0 by omega)]
          refine Ev.bind (rlist_ev l (mays h) h60 0) ?_
          refine Ev.bind (rfilled_ev 60 (by omega) (60 - (4 + 12 * l.length)) _ (by rw [List.length_append, hdr_len, encL_len]; omega)) ?_
          exact Ev.now _
        · have h4 : ¬ l.length ≤ 4 := fun h4 => hz (if_pos h4)
          have hnl : needN l = (l.length + 19) / 20 := if_neg h4
          rw [if_neg hz]
          simp only [if_neg (show ¬ ((needN l : Int) = 0) by omega)]
          have hk := rstore_l0 l b (mays h) h60 (fun x hx => by have := (numsD_ok hn).1 x hx; omega) (by rw [← hb, hnl]; rfl) b.length 0 (by omega)
          have e : hdr b.length 1 ++ idxT (b.take 0) = [((needN l : Nat) : Int) % 256, 0, 1, 0] := by
            rw [hb]; simp [hdr, idxT]
          rw [e, List.range_zero, List.map_nil, ← hb] at hk
          exact hk
      · rw [if_neg (fun hh => hn hh.2.2)]
        have hnf : numsD b = false := by simpa using hn
        simp only [hnf, Bool.not_false]
        refine Ev.succ ?_
        simp only [r_10_Store.j0, if_true]
        exact Ev.now _
    · rw [if_neg (fun hh => hb hh.2.1)]
      simp only [if_neg (show ¬ ((b.length : Int) = (needN l : Int)) by omega)]
      refine Ev.succ ?_
      simp only [r_10_Store.j0, if_true]
      exact Ev.now _
  · rw [needX_bad h, if_neg (fun hh => h hh.1)]
    simp only [if_pos (show (-1 : Int) < 0 by decide)]
    refine Ev.succ ?_
    simp only [r_10_Store.j0, if_true]
    exact Ev.now _
theorem rnum_ev (b : List Int) (hb : ∀ x ∈ b, isByte x) (a1 a2 : Int) (p n : Nat) (h1 : a1 = (p : Int)) (h2 : a2 = (n : Int)) (h : p + n ≤ b.length) (hn : n ≤ 4) (hl : b.length ≤ 256) : Ev (fun k => r_01_At.f k b a1 a2) ((numN ((b.drop p).take n) : Nat) : Int) := by
  subst h1 h2
  have e : (b.take (p + n)).drop p = (b.drop p).take n := by rw [List.drop_take]; congr 1; omega
  have := rat_ev b hb p n h hn (by omega)
  rw [e] at this
  exact this
theorem decR_drop (b : List Int) (i : Nat) : decR ((b.drop 4).drop (12 * i)) = ⟨(numN ((b.drop (4 + 12 * i)).take 4) : Int), (numN ((b.drop (4 + 12 * i + 4)).take 4) : Int), (numN ((b.drop (4 + 12 * i + 8)).take 2) : Int), (rd b ((4 + 12 * i + 10 : Nat) : Int) == 1)⟩ := by
  unfold decR rd
  simp only [List.drop_drop, List.getD_eq_getElem?_getD, List.getElem?_drop, Int.toNat_natCast]
theorem rext_l0 (b : List Int) (hb : ∀ x ∈ b, isByte x) (n : Nat) (h : 4 + 12 * n ≤ b.length) (hl : b.length ≤ 256) : ∀ (d i : Nat), i + d = n →
    Ev (fun k => r_10_extents.l0 k b 4 (n : Int) (decF decR (b.drop 4) i) (i : Int)) (decF decR (b.drop 4) n)
  | 0, i, hd => by
    refine Ev.succ ?_
    simp only [r_10_extents.l0, if_neg (show ¬ ((i : Int) < (n : Int)) by omega)]
    obtain rfl : i = n := by omega
    exact Ev.now _
  | d + 1, i, hd => by
    refine Ev.succ ?_
    simp only [r_10_extents.l0, if_pos (show (i : Int) < (n : Int) by omega), wp0 i (by omega), wpk4 i (by omega), wpk8 i (by omega), wpk10 i (by omega), wps i (by omega), decF_len, if_pos (show i < 4398046511104 by omega), if_pos (show (0 : Int) ≤ ((4 + 12 * i + 10 : Nat) : Int) by omega), if_pos (show ((4 + 12 * i + 10 : Nat) : Int) < (b.length : Int) by omega)]
    refine Ev.bind (rnum_ev b hb _ _ (4 + 12 * i) 4 rfl rfl (by omega) (by decide) hl) ?_
    refine Ev.bind (rnum_ev b hb _ _ (4 + 12 * i + 4) 4 rfl rfl (by omega) (by decide) hl) ?_
    refine Ev.bind (rnum_ev b hb _ _ (4 + 12 * i + 8) 2 rfl rfl (by omega) (by decide) hl) ?_
    have ih := rext_l0 b hb n h hl d (i + 1) (by omega)
    rw [decF_snoc, decR_drop] at ih
    exact ih
theorem rext_ev (b : List Int) (hb : ∀ x ∈ b, isByte x) (n : Nat) (a1 : Int) (h1 : a1 = (n : Int)) (h : 4 + 12 * n ≤ b.length) (hl : b.length ≤ 256) : Ev (fun k => r_10_extents.f k b 4 a1) (decF decR (b.drop 4) n) := by
  subst h1
  exact rext_l0 b hb n h hl n 0 (by omega)
end Go.Proofs.Ytopmjjnkolfciaa.Pr
end
section
namespace Go.Proofs.Ytopmjjnkolfciaa.Pr
open Go.RowKit Go.Proofs.YtopmjjnkolfciaaW.PrintWords Go.Proofs.YtopmjjnkolfciaaW.PrintMore Go.Proofs.Ytopmjjnkolfciaa.Od
open Go.Proofs.Ytopmjjnkolfciaa.Cr hiding Ev.succ
set_option linter.unusedVariables false
set_option linter.unusedSimpArgs false
set_option maxRecDepth 20000
abbrev RootR := List E24 × List Int × Int
def badR : RootR := ([], [], 13)
def finA (L : List E24) (b : List Int) : RootR := if (storeX L []).2.2 = 0 ∧ (storeX L []).1 = b then (L, [], 0) else badR
def finB (l : List Int) (b : List Int) : RootR := if numsD l = true ∧ idxL l = b then ([], l, 0) else badR
def rootP (b : List Int) : RootR :=
  if b.length = 60 then
    (if numN ((b.drop 2).take 2) = 0 ∧ numN (b.take 2) ≤ 4 then finA (decF decP (b.drop 4) (numN (b.take 2))) b
     else if numN ((b.drop 2).take 2) = 1 ∧ 1 ≤ numN (b.take 2) ∧ numN (b.take 2) ≤ 3 then finB (decN (b.drop 4) (numN (b.take 2))) b else badR)
  else badR
def rootR (b : List Int) : RootR :=
  if b.length = 60 then
    (if rd b 2 = 0 ∧ (rd b 0).toNat ≤ 4 then finA (decF decR (b.drop 4) (rd b 0).toNat) b
     else if 1 ≤ (rd b 0).toNat ∧ (rd b 0).toNat ≤ 3 then finB (decN (b.drop 4) (rd b 0).toNat) b else badR)
  else badR
theorem str_eq {a b : List Int} (ha : ∀ x ∈ a, isByte x) (hb : ∀ x ∈ b, isByte x) : ((strOfNums a).toList = (strOfNums b).toList) ↔ a = b :=
  (toList_inj).trans (strOfNums_inj ha hb)
theorem storeX_byte (L : List E24) (bs : List Int) : ∀ x ∈ (storeX L bs).1, isByte x := by
  unfold storeX
  intro x hx
  split at hx
  · split at hx
    · exact rootL_byte L x hx
    · exact idxL_byte bs x hx
  · simp at hx
theorem beqE_ev (a b : List Int) (ha : ∀ x ∈ a, isByte x) (hb : ∀ x ∈ b, isByte x) : bytes_Equal.f a b = some (decide (a = b)) := by
  unfold bytes_Equal.f
  congr 1
  rw [Bool.eq_iff_iff, beq_iff_eq, decide_eq_true_iff]
  exact str_eq ha hb
theorem finA_ev (L : List E24) (b : List Int) (hb : ∀ x ∈ b, isByte x) : Ev (fun k => (extent_Store.f k L ([] : List Int)).bind fun bt => (if bt.2.2 = 0 then ((bytes_Equal.f bt.1 b).bind fun t => (if t = true then (some (L, ([] : List Int), 0)) else (some (([] : List E24), ([] : List Int), 13)))) else (some (([] : List E24), ([] : List Int), 13)))) (finA L b) := by
  refine Ev.bind (pstore_ev L []) ?_
  unfold finA
  by_cases h : (storeX L []).2.2 = 0
  · simp only [if_pos h, beqE_ev _ b (storeX_byte L []) hb, Cr.bs]
    by_cases he : (storeX L []).1 = b
    · simp only [decide_eq_true he, if_true]
      rw [if_pos ⟨h, he⟩]
      exact Ev.now _
    · simp only [decide_eq_false he, if_neg (show ¬ (false = true) by decide)]
      rw [if_neg (fun hh => he hh.2)]
      exact Ev.now _
  · simp only [if_neg h]
    rw [if_neg (fun hh => h hh.1)]
    exact Ev.now _
theorem finAr_ev (L : List E24) (b : List Int) (hb : ∀ x ∈ b, isByte x) : Ev (fun k => (r_10_Store.f k L ([] : List Int)).bind fun bt => (if bt.2.2 = 0 then (if (strOfNums bt.1).toList = (strOfNums b).toList then (some (L, ([] : List Int), 0)) else (some (([] : List E24), ([] : List Int), 13))) else (some (([] : List E24), ([] : List Int), 13)))) (finA L b) := by
  refine Ev.bind (rstore_ev L []) ?_
  unfold finA
  by_cases h : (storeX L []).2.2 = 0
  · simp only [if_pos h]
    by_cases he : (storeX L []).1 = b
    · simp only [if_pos ((str_eq (storeX_byte L []) hb).2 he)]
      rw [if_pos ⟨h, he⟩]
      exact Ev.now _
    · simp only [if_neg (fun hh => he ((str_eq (storeX_byte L []) hb).1 hh))]
      rw [if_neg (fun hh => he hh.2)]
      exact Ev.now _
  · simp only [if_neg h]
    rw [if_neg (fun hh => h hh.1)]
    exact Ev.now _
theorem decN_bound : ∀ (n : Nat) (c : List Int) (hc : ∀ x ∈ c, isByte x), ∀ x ∈ decN c n, 0 ≤ x ∧ x < 4294967296
  | 0, _, _, x, hx => by simp [decN] at hx
  | n + 1, c, hc, x, hx => by
    rw [decN] at hx
    rcases List.mem_cons.1 hx with rfl | hx
    · have h1 := numN_lt (c.take 4) (fun y hy => hc y (List.mem_of_mem_take hy))
      have h2 : 256 ^ (c.take 4).length ≤ 256 ^ 4 := Nat.pow_le_pow_right (by decide) (by rw [List.length_take]; omega)
      rw [show (256 : Nat) ^ 4 = 4294967296 from rfl] at h2
      omega
    · exact decN_bound n _ (fun y hy => hc y (List.mem_of_mem_drop hy)) x hx
theorem finB_ev (l b : List Int) (hl : ∀ x ∈ l, 0 ≤ x ∧ x < 4294967296) (hn : l.length ≤ 14) (hb : ∀ x ∈ b, isByte x) : Ev (fun k => (extent_numbers.f l).bind fun t => (if t = true then ((extent_index.f k l).bind fun t1 => ((bytes_Equal.f t1 b).bind fun t2 => (if t2 = true then (some (([] : List E24), l, (0 : Int))) else (some (([] : List E24), ([] : List Int), 13))))) else (some (([] : List E24), ([] : List Int), 13)))) (finB l b) := by
  unfold finB
  simp only [pnumbers_f, Cr.bs]
  by_cases h : numsD l = true
  · simp only [if_pos h]
    refine Ev.bind (pindex_ev l hl hn) ?_
    simp only [beqE_ev _ b (idxL_byte l) hb, Cr.bs]
    by_cases he : idxL l = b
    · simp only [decide_eq_true he, if_true]
      rw [if_pos ⟨h, he⟩]
      exact Ev.now _
    · simp only [decide_eq_false he, if_neg (show ¬ (false = true) by decide)]
      rw [if_neg (fun hh => he hh.2)]
      exact Ev.now _
  · simp only [if_neg h]
    rw [if_neg (fun hh => h hh.1)]
    exact Ev.now _
theorem proot_l0 (b : List Int) (hb : ∀ x ∈ b, isByte x) (hl : b.length = 60) (n : Nat) (hn : n ≤ 3) : ∀ (d i : Nat), i + d = n →
    Ev (fun k => extent_Root.l0 k b b (decN (b.drop 4) i) (n : Int) (i : Int)) (finB (decN (b.drop 4) n) b)
  | 0, i, hd => by
    refine Ev.succ ?_
    simp only [extent_Root.l0, if_neg (show ¬ ((i : Int) < (n : Int)) by omega)]
    obtain rfl : i = n := by omega
    exact finB_ev _ b (decN_bound i _ (fun y hy => hb y (List.mem_of_mem_drop hy))) (by rw [decN_len]; omega) hb
  | d + 1, i, hd => by
    refine Ev.succ ?_
    simp only [extent_Root.l0, if_pos (show (i : Int) < (n : Int) by omega), wp4 i (by omega), wps i (by omega), decN_len, if_pos (show i < 17592186044416 by omega)]
    refine Ev.bind (pget_ev b hb _ _ (4 + 4 * i) 4 rfl rfl (by omega) (by decide) (by omega)) ?_
    have ih := proot_l0 b hb hl n hn d (i + 1) (by omega)
    rw [decN_snoc, List.drop_drop] at ih
    exact ih
theorem proot_ev (b : List Int) (hb : ∀ x ∈ b, isByte x) : Ev (fun k => extent_Root.f k b) (rootP b) := by
  unfold extent_Root.f rootP
  by_cases hl : b.length = 60
  · rw [if_pos hl]
    simp only [if_pos (show (b.length : Int) = 60 by omega)]
    have h1 := pget_ev b hb 0 2 0 2 rfl rfl (by omega) (by decide) (by omega)
    rw [List.drop_zero] at h1
    refine Ev.bind h1 ?_
    refine Ev.bind (pget_ev b hb 2 2 2 2 rfl rfl (by omega) (by decide) (by omega)) ?_
    obtain ⟨n, hn⟩ : ∃ n, numN (b.take 2) = n := ⟨_, rfl⟩
    obtain ⟨m, hm⟩ : ∃ m, numN ((b.drop 2).take 2) = m := ⟨_, rfl⟩
    rw [hn, hm]
    by_cases hm0 : m = 0
    · simp only [if_pos (show (m : Int) = 0 by omega)]
      refine Ev.succ ?_
      by_cases hn4 : n ≤ 4
      · rw [if_pos ⟨hm0, hn4⟩]
        simp only [extent_Root.j0, decide_eq_true (show (n : Int) ≤ 4 by omega), if_true]
        exact Ev.bind (pext_ev b hb n _ rfl (by omega) (by omega)) (finA_ev _ b hb)
      · rw [if_neg (fun hh => hn4 hh.2), if_neg (fun hh => by omega)]
        simp only [extent_Root.j0, decide_eq_false (show ¬ ((n : Int) ≤ 4) by omega), if_neg (show ¬ (false = true) by decide), if_neg (show ¬ ((m : Int) = 1) by omega)]
        refine Ev.succ ?_
        simp only [extent_Root.j1, if_neg (show ¬ (false = true) by decide)]
        exact Ev.now _
    · rw [if_neg (fun hh => hm0 hh.1)]
      simp only [if_neg (show ¬ ((m : Int) = 0) by omega)]
      refine Ev.succ ?_
      simp only [extent_Root.j0, if_neg (show ¬ (false = true) by decide)]
      by_cases hm1 : m = 1
      · simp only [if_pos (show (m : Int) = 1 by omega)]
        by_cases hn1 : 1 ≤ n
        · simp only [if_pos (show (n : Int) ≥ 1 by omega)]
          refine Ev.succ ?_
          by_cases hn3 : n ≤ 3
          · rw [if_pos ⟨hm1, hn1, hn3⟩]
            simp only [extent_Root.j1, decide_eq_true (show (n : Int) ≤ 3 by omega), if_true]
            exact proot_l0 b hb hl n hn3 n 0 (by omega)
          · rw [if_neg (fun hh => hn3 hh.2.2)]
            simp only [extent_Root.j1, decide_eq_false (show ¬ ((n : Int) ≤ 3) by omega), if_neg (show ¬ (false = true) by decide)]
            exact Ev.now _
        · rw [if_neg (fun hh => hn1 hh.2.1)]
          simp only [if_neg (show ¬ ((n : Int) ≥ 1) by omega)]
          refine Ev.succ ?_
          simp only [extent_Root.j1, if_neg (show ¬ (false = true) by decide)]
          exact Ev.now _
      · rw [if_neg (fun hh => hm1 hh.1)]
        simp only [if_neg (show ¬ ((m : Int) = 1) by omega)]
        refine Ev.succ ?_
        simp only [extent_Root.j1, if_neg (show ¬ (false = true) by decide)]
        exact Ev.now _
  · rw [if_neg hl]
    simp only [if_neg (show ¬ ((b.length : Int) = 60) by omega)]
    exact Ev.now _
end Go.Proofs.Ytopmjjnkolfciaa.Pr
end
section
namespace Go.Proofs.Ytopmjjnkolfciaa.Pr
open Go.RowKit Go.Proofs.YtopmjjnkolfciaaW.PrintWords Go.Proofs.YtopmjjnkolfciaaW.PrintMore Go.Proofs.Ytopmjjnkolfciaa.Od
open Go.Proofs.Ytopmjjnkolfciaa.Cr hiding Ev.succ
set_option linter.unusedVariables false
set_option linter.unusedSimpArgs false
set_option maxRecDepth 20000
theorem rd_byte {b : List Int} (hb : ∀ x ∈ b, isByte x) {i : Nat} (h : i < b.length) : isByte (rd b (i : Int)) := by
  rw [rd_get h]; exact hb _ (List.getElem_mem h)
theorem idxT_app (a : List Int) (x : Int) : idxT (a ++ [x]) = idxT a ++ bytesN 4 x.toNat := by
  unfold idxT
  rw [List.flatMap_append]
  congr 1
theorem rroot_l0 (b : List Int) (hb : ∀ x ∈ b, isByte x) (hl : b.length = 60) (n : Nat) (hn : n ≤ 3) : ∀ (d i : Nat), i + d = n →
    Ev (fun k => r_10_Root.l0 k b (n : Int) (decN (b.drop 4) i) (hdr n 1 ++ idxT (decN (b.drop 4) i)) (i : Int)) (finB (decN (b.drop 4) n) b)
  | 0, i, hd => by
    refine Ev.succ ?_
    simp only [r_10_Root.l0, if_neg (show ¬ ((i : Int) < (n : Int)) by omega)]
    obtain rfl : i = n := by omega
    obtain ⟨l, hle⟩ : ∃ l, decN (b.drop 4) i = l := ⟨_, rfl⟩
    have hll : l.length = i := by rw [← hle, decN_len]
    rw [hle]
    refine Ev.bind (rnumbers_ev l (by omega)) ?_
    by_cases h : numsD l = true
    · simp only [if_pos h]
      have e : padN (hdr i 1 ++ idxT l) 60 = idxL l := by unfold idxL; rw [hll]; rfl
      have hf := rfilled_ev 60 (by omega) (60 - (4 + 4 * i)) (hdr i 1 ++ idxT l) (by rw [List.length_append, hdr_len, idxT_len, hll]; omega)
      rw [e] at hf
      refine Ev.bind hf ?_
      by_cases he : idxL l = b
      · simp only [if_pos ((str_eq (idxL_byte l) hb).2 he)]
        unfold finB
        rw [if_pos ⟨h, he⟩]
        exact Ev.now _
      · simp only [if_neg (fun hh => he ((str_eq (idxL_byte l) hb).1 hh))]
        unfold finB
        rw [if_neg (fun hh => he hh.2)]
        exact Ev.now _
    · simp only [if_neg h]
      unfold finB
      rw [if_neg (fun hh => h hh.1)]
      exact Ev.now _
  | d + 1, i, hd => by
    have hlt := numN_lt ((b.drop (4 + 4 * i)).take 4) (fun y hy => hb y (List.mem_of_mem_drop (List.mem_of_mem_take hy)))
    have h2 : 256 ^ ((b.drop (4 + 4 * i)).take 4).length ≤ 256 ^ 4 := Nat.pow_le_pow_right (by decide) (by rw [List.length_take]; omega)
    rw [show (256 : Nat) ^ 4 = 4294967296 from rfl] at h2
    have ih := rroot_l0 b hb hl n hn d (i + 1) (by omega)
    rw [decN_snoc, List.drop_drop, idxT_app, ← List.append_assoc, Int.toNat_natCast] at ih
    refine Ev.succ ?_
    simp only [r_10_Root.l0, if_pos (show (i : Int) < (n : Int) by omega), wp4 i (by omega), wps i (by omega), decN_len, if_pos (show i < 17592186044416 by omega)]
    refine Ev.bind (rnum_ev b hb _ _ (4 + 4 * i) 4 rfl rfl (by omega) (by decide) (by omega)) ?_
    obtain ⟨q, hq⟩ : ∃ q, numN ((b.drop (4 + 4 * i)).take 4) = q := ⟨_, rfl⟩
    rw [hq] at ih hlt ⊢
    have hr : rd (decN (b.drop 4) i ++ [(q : Int)]) (i : Int) = (q : Int) := by
      rw [rd_get (by rw [List.length_append, decN_len, List.length_singleton]; omega), List.getElem_append_right (by rw [decN_len]; omega)]
      simp [decN_len]
    have hpl : (hdr n 1 ++ idxT (decN (b.drop 4) i)).length = 4 + 4 * i := by rw [List.length_append, hdr_len, idxT_len, decN_len]
    simp only [Cr.bs, if_pos (show (0 : Int) ≤ (i : Int) by omega), if_pos (show (i : Int) < ((decN (b.drop 4) i ++ [(q : Int)]).length : Int) by rw [List.length_append, decN_len, List.length_singleton]; omega), hr]
    refine Ev.bind (rb_ev q 4 _ _ rfl rfl (by omega) (by decide)) ?_
    simp only [hpl, bytesN_len, if_pos (show 4 + 4 * i + 4 < 140737488355328 by omega)]
    exact ih
theorem rroot_ev (b : List Int) (hb : ∀ x ∈ b, isByte x) : Ev (fun k => r_10_Root.f k b) (rootR b) := by
  unfold r_10_Root.f rootR
  by_cases hl : b.length = 60
  · rw [if_pos hl]
    have h0 := rd_byte hb (i := 0) (by omega)
    simp only [if_pos (show (b.length : Int) = 60 by omega), if_pos (show (0 : Int) < (b.length : Int) by omega), if_pos (show (2 : Int) < (b.length : Int) by omega)]
    obtain ⟨n, hn⟩ : ∃ n : Nat, rd b 0 = (n : Int) := ⟨(rd b 0).toNat, by have := h0.1; exact (Int.toNat_of_nonneg this).symm⟩
    have hn256 : n < 256 := by have := h0.2; rw [show ((0 : Nat) : Int) = 0 from rfl, hn] at this; omega
    rw [hn, w64 (by omega) (by omega), Int.toNat_natCast]
    have tail : Ev (fun k => r_10_Root.j0 k b (n : Int) false) (if 1 ≤ n ∧ n ≤ 3 then finB (decN (b.drop 4) n) b else badR) := by
      refine Ev.succ ?_
      simp only [r_10_Root.j0, if_neg (show ¬ (false = true) by decide)]
      by_cases hn1 : 1 ≤ n
      · simp only [if_neg (show ¬ ((n : Int) < 1) by omega)]
        refine Ev.succ ?_
        by_cases hn3 : n ≤ 3
        · simp only [r_10_Root.j1, decide_eq_false (show ¬ ((n : Int) > 3) by omega), if_neg (show ¬ (false = true) by decide)]
          rw [if_pos ⟨hn1, hn3⟩]
          have h := rroot_l0 b hb hl n hn3 n 0 (by omega)
          have e : hdr n 1 ++ idxT (decN (b.drop 4) 0) = [((n : Nat) : Int) % 256, 0, 1, 0] := by simp [hdr, idxT, decN]
          rw [e] at h
          exact h
        · simp only [r_10_Root.j1, decide_eq_true (show (n : Int) > 3 by omega), if_true]
          rw [if_neg (fun hh => hn3 hh.2)]
          exact Ev.now _
      · simp only [if_pos (show (n : Int) < 1 by omega)]
        refine Ev.succ ?_
        simp only [r_10_Root.j1, if_true]
        rw [if_neg (fun hh => hn1 hh.1)]
        exact Ev.now _
    by_cases h2 : rd b 2 = 0
    · simp only [if_pos h2]
      by_cases hn4 : n ≤ 4
      · simp only [decide_eq_true (show (n : Int) ≤ 4 by omega)]
        rw [if_pos ⟨h2, hn4⟩]
        refine Ev.succ ?_
        simp only [r_10_Root.j0, if_true]
        exact Ev.bind (rext_ev b hb n _ rfl (by omega) (by omega)) (finAr_ev _ b hb)
      · simp only [decide_eq_false (show ¬ ((n : Int) ≤ 4) by omega)]
        rw [if_neg (fun hh => hn4 hh.2)]
        exact tail
    · simp only [if_neg h2]
      rw [if_neg (fun hh => h2 hh.1)]
      exact tail
  · rw [if_neg hl]
    simp only [if_neg (show ¬ ((b.length : Int) = 60) by omega)]
    exact Ev.now _
theorem hdr_take (n : Nat) (f : Int) (r : List Int) (hn : n < 256) (hf : f = 0 ∨ f = 1) : numN ((hdr n f ++ r).take 2) = n ∧ numN (((hdr n f ++ r).drop 2).take 2) = f.toNat ∧ rd (hdr n f ++ r) 0 = (n : Int) ∧ rd (hdr n f ++ r) 2 = f ∧ (hdr n f ++ r).drop 4 = r := by
  have h : n % 256 = n := Nat.mod_eq_of_lt hn
  have e : hdr n f = [(n : Int), 0, f, 0] := by unfold hdr; rw [h]
  rw [e]
  refine ⟨?_, ?_, rfl, rfl, rfl⟩
  · show numN [(n : Int), 0] = n
    simp [numN]
  · show numN [f, 0] = f.toNat
    simp [numN]
theorem rootL_form (L : List E24) : rootL L = hdr L.length 0 ++ (encL L ++ List.replicate (60 - (hdr L.length 0 ++ encL L).length) 0) := by
  unfold rootL padN; rw [List.append_assoc]
theorem idxL_form (l : List Int) : idxL l = hdr l.length 1 ++ (idxT l ++ List.replicate (60 - (hdr l.length 1 ++ idxT l).length) 0) := by
  show padN (hdr l.length 1 ++ idxT l) 60 = _
  unfold padN; rw [List.append_assoc]
theorem needN_zero {L : List E24} : needN L = 0 ↔ L.length ≤ 4 := by
  unfold needN
  constructor
  · intro h; split at h <;> omega
  · intro h; rw [if_pos h]
theorem storeX_root {L : List E24} (h : chkB L = true) (h4 : L.length ≤ 4) : storeX L [] = (rootL L, [], 0) := by
  unfold storeX
  have hz := needN_zero.2 h4
  rw [if_pos ⟨h, by rw [hz]; rfl, rfl⟩, if_pos hz]
theorem storeX_root_inv {L : List E24} (h : (storeX L []).2.2 = 0) : chkB L = true ∧ L.length ≤ 4 ∧ (storeX L []).1 = rootL L := by
  unfold storeX at h ⊢
  by_cases hc : chkB L = true ∧ needN L = ([] : List Int).length ∧ numsD ([] : List Int) = true
  · have hz : needN L = 0 := hc.2.1
    rw [if_pos hc, if_pos hz]
    exact ⟨hc.1, needN_zero.1 hz, rfl⟩
  · rw [if_neg hc] at h
    exact absurd h (by decide)
theorem root_eq (b : List Int) : rootP b = rootR b := by
  by_cases hA : ∃ L, chkB L = true ∧ L.length ≤ 4 ∧ rootL L = b
  · obtain ⟨L, h, h4, rfl⟩ := hA
    have hs := storeX_root h h4
    have hf : finA L (rootL L) = (L, [], 0) := by unfold finA; rw [hs, if_pos ⟨rfl, rfl⟩]
    have hlen := rootL_len L h4
    unfold rootP rootR
    rw [if_pos hlen, if_pos hlen]
    rw [rootL_form]
    obtain ⟨p1, p2, p3, p4, p5⟩ := hdr_take L.length 0 (encL L ++ List.replicate (60 - (hdr L.length 0 ++ encL L).length) 0) (by omega) (.inl rfl)
    rw [p1, p2, p3, p4, p5, Int.toNat_natCast, if_pos ⟨rfl, h4⟩, if_pos ⟨rfl, h4⟩, decF_enc decP decP_enc L (mays h), decF_enc decR decR_enc L (mays h)]
  · by_cases hB : ∃ l, numsD l = true ∧ (1 ≤ l.length ∧ l.length ≤ 3) ∧ idxL l = b
    · obtain ⟨l, h, hn, rfl⟩ := hB
      have hlen := idxL_len l (by omega)
      have hbd : ∀ x ∈ l, 0 ≤ x ∧ x < 4294967296 := fun x hx => by have := (numsD_ok h).1 x hx; omega
      unfold rootP rootR
      rw [if_pos hlen, if_pos hlen]
      rw [idxL_form]
      obtain ⟨p1, p2, p3, p4, p5⟩ := hdr_take l.length 1 (idxT l ++ List.replicate (60 - (hdr l.length 1 ++ idxT l).length) 0) (by omega) (.inr rfl)
      rw [p1, p2, p3, p4, p5, Int.toNat_natCast, if_neg (fun hh => absurd hh.1 (by decide)), if_pos ⟨rfl, hn⟩, if_neg (fun hh => absurd hh.1 (by decide)), if_pos hn]
    · have fA : ∀ L, finA L b = badR := fun L => by
        unfold finA
        by_cases h : (storeX L []).2.2 = 0 ∧ (storeX L []).1 = b
        · obtain ⟨h1, h2, h3⟩ := storeX_root_inv h.1
          exact absurd ⟨L, h1, h2, h3 ▸ h.2⟩ hA
        · rw [if_neg h]
      have fB : ∀ l : List Int, (1 ≤ l.length ∧ l.length ≤ 3) → finB l b = badR := fun l hn => by
        unfold finB
        by_cases h : numsD l = true ∧ idxL l = b
        · exact absurd ⟨l, h.1, hn, h.2⟩ hB
        · rw [if_neg h]
      unfold rootP rootR
      have e1 : (if numN ((b.drop 2).take 2) = 0 ∧ numN (b.take 2) ≤ 4 then finA (decF decP (b.drop 4) (numN (b.take 2))) b
     else if numN ((b.drop 2).take 2) = 1 ∧ 1 ≤ numN (b.take 2) ∧ numN (b.take 2) ≤ 3 then finB (decN (b.drop 4) (numN (b.take 2))) b else badR) = badR := by
        split
        · exact fA _
        · split
          · rename_i h; exact fB _ (by rw [decN_len]; exact h.2)
          · rfl
      have e2 : (if rd b 2 = 0 ∧ (rd b 0).toNat ≤ 4 then finA (decF decR (b.drop 4) (rd b 0).toNat) b
     else if 1 ≤ (rd b 0).toNat ∧ (rd b 0).toNat ≤ 3 then finB (decN (b.drop 4) (rd b 0).toNat) b else badR) = badR := by
        split
        · exact fA _
        · split
          · rename_i h; exact fB _ (by rw [decN_len]; exact h)
          · rfl
      rw [e1, e2]
theorem rootP_len (b : List Int) : (rootP b).1.length ≤ 4 ∧ (rootP b).2.1.length ≤ 3 := by
  have hA : ∀ L, L.length ≤ 4 → (finA L b).1.length ≤ 4 ∧ (finA L b).2.1.length ≤ 3 := fun L hL => by
    unfold finA badR; split <;> simp [hL]
  have hB : ∀ l, l.length ≤ 3 → (finB l b).1.length ≤ 4 ∧ (finB l b).2.1.length ≤ 3 := fun l hl => by
    unfold finB badR; split <;> simp [hl]
  unfold rootP
  split
  · split
    · rename_i h; exact hA _ (by rw [decF_len]; exact h.2)
    · split
      · rename_i h; exact hB _ (by rw [decN_len]; exact h.2.2)
      · simp [badR]
  · simp [badR]
end Go.Proofs.Ytopmjjnkolfciaa.Pr
end
section
namespace Go.Proofs.Ytopmjjnkolfciaa.Pr
open Go.RowKit Go.Proofs.YtopmjjnkolfciaaW.PrintWords Go.Proofs.YtopmjjnkolfciaaW.PrintMore Go.Proofs.Ytopmjjnkolfciaa.Od
open Go.Proofs.Ytopmjjnkolfciaa.Cr hiding Ev.succ
set_option linter.unusedVariables false
set_option linter.unusedSimpArgs false
set_option maxRecDepth 20000
abbrev JoinR := List E24 × Int
def badJ : JoinR := ([], 13)
def blk (k : Nat) : List Int := (List.range k).map (fun i => ((i + 1 : Nat) : Int))
theorem blk_len (k : Nat) : (blk k).length = k := by unfold blk; rw [List.length_map, List.length_range]
theorem blk_succ (k : Nat) : blk (k + 1) = blk k ++ [((k + 1 : Nat) : Int)] := by unfold blk; rw [List.range_succ, List.map_append]; rfl
def goodP (b : List Int) : Bool := decide (b.length = 256) && decide (numN (b.take 2) ≤ 20)
def goodR (b : List Int) : Bool := decide (b.length = 256) && decide ((rd b 0).toNat ≤ 20)
def decPn (b : List Int) : List E24 := decF decP (b.drop 4) (numN (b.take 2))
def decRn (b : List Int) : List E24 := decF decR (b.drop 4) (rd b 0).toNat
def finJ (L : List E24) (ns : List (List Int)) : JoinR := if (storeX L (blk ns.length)).2.2 = 0 ∧ (storeX L (blk ns.length)).2.1 = ns then (L, 0) else badJ
def joinP (ns : List (List Int)) : JoinR := if ns.length = 0 ∨ 3 < ns.length then badJ else if ns.all goodP = true then finJ (ns.flatMap decPn) ns else badJ
def joinR (ns : List (List Int)) : JoinR := if ns.length = 0 ∨ 3 < ns.length then badJ else if ns.all goodR = true then finJ (ns.flatMap decRn) ns else badJ
def bytesAll (ns : List (List Int)) : Prop := ∀ b ∈ ns, ∀ x ∈ b, isByte x
theorem rdL_get {l : List (List Int)} {i : Nat} (h : i < l.length) : rd_L5 l (i : Int) = l[i] := by
  unfold rd_L5; rw [Int.toNat_natCast, List.getD_eq_getElem?_getD, List.getElem?_eq_getElem h]; rfl
theorem storeX_bytes (L : List E24) (bs : List Int) : bytesAll (storeX L bs).2.1 := by
  unfold storeX
  intro b hb x hx
  split at hb
  · split at hb
    · simp at hb
    · obtain ⟨y, _, rfl⟩ := List.mem_map.1 hb
      exact nodeL_byte _ x hx
  · simp at hb
theorem storeX_nodes_len (L : List E24) (bs : List Int) : (storeX L bs).2.1.length ≤ 3 := by
  unfold storeX
  split
  · rename_i h
    split
    · exact Nat.zero_le _
    · have := (chk_ok h.1).1
      show (nodesX L).length ≤ 3
      unfold nodesX
      rw [List.length_map, List.length_range]
      unfold chunkN; omega
  · exact Nat.zero_le _
theorem equal_l0 (a b : List (List Int)) (ha : bytesAll a) (hb : bytesAll b) (hl : a.length = b.length) (h3 : a.length ≤ 60) : ∀ (d i : Nat), i + d = a.length → (∀ j (h1 : j < a.length) (h2 : j < b.length), j < i → a[j] = b[j]) →
    Ev (fun k => slices_EqualFunc_byte_byte_byte_byte.l0 k a b (i : Int)) (decide (a = b))
  | 0, i, hd, hp => by
    refine Ev.succ ?_
    unfold slices_EqualFunc_byte_byte_byte_byte.l0
    simp only [if_neg (show ¬ ((i : Int) < (a.length : Int)) by omega)]
    rw [decide_eq_true (List.ext_getElem hl (fun j h1 h2 => hp j h1 h2 (by omega)))]
    exact Ev.now _
  | d + 1, i, hd, hp => by
    have hi : i < a.length := by omega
    have hi2 : i < b.length := by omega
    refine Ev.succ ?_
    unfold slices_EqualFunc_byte_byte_byte_byte.l0
    simp only [if_pos (show (i : Int) < (a.length : Int) by omega), if_pos (show (0 : Int) ≤ (i : Int) by omega), if_pos (show (i : Int) < (b.length : Int) by omega), rdL_get hi, rdL_get hi2, beqE_ev a[i] b[i] (ha _ (List.getElem_mem hi)) (hb _ (List.getElem_mem hi2)), Cr.bs, wps i (by omega)]
    by_cases he : a[i] = b[i]
    · simp only [decide_eq_true he, if_true]
      refine equal_l0 a b ha hb hl h3 d (i + 1) (by omega) (fun j h1 h2 hj => ?_)
      by_cases hji : j = i
      · subst hji; exact he
      · exact hp j h1 h2 (by omega)
    · simp only [decide_eq_false he, if_neg (show ¬ (false = true) by decide)]
      rw [decide_eq_false (fun hh => he (by subst hh; rfl))]
      exact Ev.now _
theorem equal_ev (a b : List (List Int)) (ha : bytesAll a) (hb : bytesAll b) (h3 : a.length ≤ 60) : Ev (fun k => slices_EqualFunc_byte_byte_byte_byte.f k a b) (decide (a = b)) := by
  unfold slices_EqualFunc_byte_byte_byte_byte.f
  by_cases hl : a.length = b.length
  · simp only [if_pos (show (a.length : Int) = (b.length : Int) by omega)]
    exact equal_l0 a b ha hb hl h3 a.length 0 (by omega) (fun j _ _ h => by omega)
  · simp only [if_neg (show ¬ ((a.length : Int) = (b.length : Int)) by omega)]
    rw [decide_eq_false (fun hh => hl (congrArg List.length hh))]
    exact Ev.now _
theorem flat_take_succ {α : Type} (f : List Int → List α) (ns : List (List Int)) (i : Nat) (h : i < ns.length) : (ns.take (i + 1)).flatMap f = (ns.take i).flatMap f ++ f ns[i] := by
  rw [List.take_succ_eq_append_getElem h, List.flatMap_append]
  congr 1
  exact List.append_nil _
theorem flat_len (f : List Int → List E24) (ns : List (List Int)) (h : ∀ b ∈ ns, (f b).length ≤ 20) : (ns.flatMap f).length ≤ 20 * ns.length := by
  induction ns with
  | nil => simp
  | cons b ns ih =>
    have h1 := h b List.mem_cons_self
    have h2 := ih (fun x hx => h x (List.mem_cons_of_mem _ hx))
    rw [List.flatMap_cons, List.length_append, List.length_cons]
    omega
theorem pjoin_l0 (ns : List (List Int)) (hb : bytesAll ns) (h3 : ns.length ≤ 3) : ∀ (d i : Nat), i + d = ns.length → (∀ b ∈ ns.take i, goodP b = true) →
    Ev (fun k => extent_Join.l0 k ns ((ns.take i).flatMap decPn) (blk i) ns (ns.length : Int) (i : Int)) (if (ns.drop i).all goodP = true then finJ (ns.flatMap decPn) ns else badJ)
  | 0, i, hd, hg => by
    refine Ev.succ ?_
    simp only [extent_Join.l0, if_neg (show ¬ ((i : Int) < (ns.length : Int)) by omega)]
    obtain rfl : i = ns.length := by omega
    rw [List.take_length, List.drop_length]
    refine Ev.bind (pstore_ev _ _) ?_
    obtain ⟨L, hL⟩ : ∃ L, ns.flatMap decPn = L := ⟨_, rfl⟩
    rw [hL]
    have e : (if ([] : List (List Int)).all goodP = true then finJ L ns else badJ) = finJ L ns := rfl
    rw [e]
    unfold finJ
    by_cases h : (storeX L (blk ns.length)).2.2 = 0
    · simp only [if_pos h]
      refine Ev.bind (equal_ev _ ns (storeX_bytes _ _) hb (Nat.le_trans (storeX_nodes_len _ _) (by decide))) ?_
      by_cases he : (storeX L (blk ns.length)).2.1 = ns
      · simp only [decide_eq_true he, if_true]
        rw [if_pos ⟨h, he⟩]
        exact Ev.now _
      · simp only [decide_eq_false he, if_neg (show ¬ (false = true) by decide)]
        rw [if_neg (fun hh => he hh.2)]
        exact Ev.now _
    · simp only [if_neg h]
      rw [if_neg (fun hh => h hh.1)]
      exact Ev.now _
  | d + 1, i, hd, hg => by
    have hi : i < ns.length := by omega
    have hbi : ∀ x ∈ ns[i], isByte x := hb _ (List.getElem_mem hi)
    have hdrop : (ns.drop i).all goodP = (goodP ns[i] && (ns.drop (i + 1)).all goodP) := by
      rw [List.drop_eq_getElem_cons hi, List.all_cons]
    rw [hdrop]
    refine Ev.succ ?_
    simp only [extent_Join.l0, if_pos (show (i : Int) < (ns.length : Int) by omega), if_pos (show (0 : Int) ≤ (i : Int) by omega), rdL_get hi]
    by_cases hl : ns[i].length = 256
    · simp only [if_pos (show (ns[i].length : Int) = 256 by omega)]
      have hget := pget_ev ns[i] hbi 0 2 0 2 rfl rfl (by omega) (by decide) (by omega)
      rw [List.drop_zero] at hget
      refine Ev.bind hget ?_
      refine Ev.succ ?_
      by_cases hn : numN (ns[i].take 2) ≤ 20
      · have hgood : goodP ns[i] = true := by unfold goodP; rw [decide_eq_true hl, decide_eq_true hn]; rfl
        rw [hgood, Bool.true_and]
        simp only [extent_Join.j2, decide_eq_false (show ¬ (((numN (ns[i].take 2) : Nat) : Int) > 20) by omega), if_neg (show ¬ (false = true) by decide)]
        refine Ev.bind hget ?_
        refine Ev.bind (pext_ev ns[i] hbi _ _ rfl (by omega) (by omega)) ?_
        have hacc : ((ns.take i).flatMap decPn).length ≤ 20 * (ns.take i).length := flat_len _ _ (fun b hb' => by
          have := hg b hb'
          unfold goodP at this
          rw [Bool.and_eq_true] at this
          unfold decPn
          rw [decF_len]
          exact of_decide_eq_true this.2)
        rw [List.length_take] at hacc
        simp only [decF_len, blk_len, if_pos (show ((ns.take i).flatMap decPn).length + numN (ns[i].take 2) < 4398046511104 by omega), if_pos (show i < 17592186044416 by omega), wps i (by omega)]
        have ih := pjoin_l0 ns hb h3 d (i + 1) (by omega) (fun b hb' => by
          rw [List.take_succ_eq_append_getElem hi] at hb'
          rcases List.mem_append.1 hb' with h | h
          · exact hg b h
          · rw [List.mem_singleton.1 h]; exact hgood)
        rw [flat_take_succ decPn ns i hi, blk_succ] at ih
        exact ih
      · have hbad : goodP ns[i] = false := by unfold goodP; rw [decide_eq_false hn, Bool.and_false]
        rw [hbad, Bool.false_and]
        simp only [extent_Join.j2, decide_eq_true (show ((numN (ns[i].take 2) : Nat) : Int) > 20 by omega), if_true, if_neg (show ¬ (false = true) by decide)]
        exact Ev.now _
    · have hbad : goodP ns[i] = false := by unfold goodP; rw [decide_eq_false hl, Bool.false_and]
      rw [hbad, Bool.false_and]
      simp only [if_neg (show ¬ ((ns[i].length : Int) = 256) by omega)]
      refine Ev.succ ?_
      simp only [extent_Join.j2, if_true, if_neg (show ¬ (false = true) by decide)]
      exact Ev.now _
theorem pjoin_ev (ns : List (List Int)) (hb : bytesAll ns) : Ev (fun k => extent_Join.f k ns) (joinP ns) := by
  unfold extent_Join.f joinP
  by_cases h0 : ns.length = 0
  · simp only [if_pos (show (ns.length : Int) = 0 by omega)]
    rw [if_pos (.inl h0)]
    refine Ev.succ ?_
    simp only [extent_Join.j0, if_true]
    exact Ev.now _
  · simp only [if_neg (show ¬ ((ns.length : Int) = 0) by omega)]
    refine Ev.succ ?_
    by_cases h3 : 3 < ns.length
    · rw [if_pos (.inr h3)]
      simp only [extent_Join.j0, decide_eq_true (show (ns.length : Int) > 3 by omega), if_true]
      exact Ev.now _
    · rw [if_neg (fun hh => hh.elim h0 h3)]
      simp only [extent_Join.j0, decide_eq_false (show ¬ ((ns.length : Int) > 3) by omega), if_neg (show ¬ (false = true) by decide)]
      have h := pjoin_l0 ns hb (by omega) ns.length 0 (by omega) (fun b hb' => by simp at hb')
      exact h
end Go.Proofs.Ytopmjjnkolfciaa.Pr
end
section
namespace Go.Proofs.Ytopmjjnkolfciaa.Pr
open Go.RowKit Go.Proofs.YtopmjjnkolfciaaW.PrintWords Go.Proofs.YtopmjjnkolfciaaW.PrintMore Go.Proofs.Ytopmjjnkolfciaa.Od
open Go.Proofs.Ytopmjjnkolfciaa.Cr hiding Ev.succ
set_option linter.unusedVariables false
set_option linter.unusedSimpArgs false
set_option maxRecDepth 20000
theorem rjoin_l1 (ns a : List (List Int)) (L : List E24) (hb : bytesAll ns) (ha : bytesAll a) (hl : a.length = ns.length) (h3 : ns.length ≤ 60) : ∀ (d i : Nat), i + d = ns.length → (∀ j (h1 : j < a.length) (h2 : j < ns.length), j < i → a[j] = ns[j]) →
    Ev (fun k => r_10_Join.l1 k ns L a (i : Int)) (if a = ns then (L, 0) else badJ)
  | 0, i, hd, hp => by
    refine Ev.succ ?_
    simp only [r_10_Join.l1, if_neg (show ¬ ((i : Int) < (ns.length : Int)) by omega)]
    rw [if_pos (List.ext_getElem hl (fun j h1 h2 => hp j h1 h2 (by omega)))]
    exact Ev.now _
  | d + 1, i, hd, hp => by
    have hi : i < ns.length := by omega
    have hi2 : i < a.length := by omega
    refine Ev.succ ?_
    simp only [r_10_Join.l1, if_pos (show (i : Int) < (ns.length : Int) by omega), if_pos (show (0 : Int) ≤ (i : Int) by omega), if_pos (show (i : Int) < (a.length : Int) by omega), rdL_get hi, rdL_get hi2, wps i (by omega)]
    by_cases he : a[i] = ns[i]
    · simp only [if_pos ((str_eq (ha _ (List.getElem_mem hi2)) (hb _ (List.getElem_mem hi))).2 he)]
      refine rjoin_l1 ns a L hb ha hl h3 d (i + 1) (by omega) (fun j h1 h2 hj => ?_)
      by_cases hji : j = i
      · subst hji; exact he
      · exact hp j h1 h2 (by omega)
    · simp only [if_neg (fun hh => he ((str_eq (ha _ (List.getElem_mem hi2)) (hb _ (List.getElem_mem hi))).1 hh))]
      rw [if_neg (fun hh => he (by subst hh; rfl))]
      exact Ev.now _
theorem rjoin_end (ns : List (List Int)) (L : List E24) (hb : bytesAll ns) (h3 : ns.length ≤ 60) : Ev (fun k => (r_10_Store.f k L (blk ns.length)).bind fun bt => (if bt.2.2 = 0 then (if (ns.length : Int) = 0 then (r_10_Join.j1 k ns L bt.2.1 true) else (r_10_Join.j1 k ns L bt.2.1 ((bt.2.1.length : Int) != (ns.length : Int)))) else (r_10_Join.j1 k ns L bt.2.1 true)))
    (if ns.length = 0 then badJ else finJ L ns) := by
  have bad : ∀ a, Ev (fun k => r_10_Join.j1 k ns L a true) badJ := fun a => by
    refine Ev.succ ?_
    simp only [r_10_Join.j1, if_true]
    exact Ev.now _
  refine Ev.bind (rstore_ev L _) ?_
  by_cases h : (storeX L (blk ns.length)).2.2 = 0
  · simp only [if_pos h]
    by_cases h0 : ns.length = 0
    · simp only [if_pos (show (ns.length : Int) = 0 by omega)]
      rw [if_pos h0]
      exact bad _
    · simp only [if_neg (show ¬ ((ns.length : Int) = 0) by omega)]
      rw [if_neg h0]
      unfold finJ
      by_cases hl : (storeX L (blk ns.length)).2.1.length = ns.length
      · have hbq : (((storeX L (blk ns.length)).2.1.length : Int) != (ns.length : Int)) = false := bne_eq_false_iff_eq.2 (by omega)
        simp only [hbq]
        refine Ev.succ ?_
        simp only [r_10_Join.j1, if_neg (show ¬ (false = true) by decide)]
        have hk := rjoin_l1 ns _ L hb (storeX_bytes L (blk ns.length)) hl h3 ns.length 0 (by omega) (fun j _ _ h => by omega)
        by_cases he : (storeX L (blk ns.length)).2.1 = ns
        · rw [if_pos he] at hk; rw [if_pos ⟨h, he⟩]; exact hk
        · rw [if_neg he] at hk; rw [if_neg (fun hh => he hh.2)]; exact hk
      · have hbq : (((storeX L (blk ns.length)).2.1.length : Int) != (ns.length : Int)) = true := bne_iff_ne.2 (by omega)
        simp only [hbq]
        rw [if_neg (fun hh => hl (congrArg List.length hh.2))]
        exact bad _
  · simp only [if_neg h]
    have e : (if ns.length = 0 then badJ else finJ L ns) = badJ := by
      split
      · rfl
      · unfold finJ; rw [if_neg (fun hh => h hh.1)]
    rw [e]
    exact bad _
theorem rjoin_l0 (ns : List (List Int)) (hb : bytesAll ns) (h3 : ns.length ≤ 3) : ∀ (d i : Nat), i + d = ns.length → (∀ b ∈ ns.take i, goodR b = true) →
    Ev (fun k => r_10_Join.l0 k ns ((ns.take i).flatMap decRn) (blk i) (i : Int)) (if (ns.drop i).all goodR = true then (if ns.length = 0 then badJ else finJ (ns.flatMap decRn) ns) else badJ)
  | 0, i, hd, hg => by
    refine Ev.succ ?_
    simp only [r_10_Join.l0, if_neg (show ¬ ((i : Int) < (ns.length : Int)) by omega)]
    obtain rfl : i = ns.length := by omega
    rw [List.take_length, List.drop_length]
    exact rjoin_end ns _ hb (by omega)
  | d + 1, i, hd, hg => by
    have hi : i < ns.length := by omega
    have hbi : ∀ x ∈ ns[i], isByte x := hb _ (List.getElem_mem hi)
    have hdrop : (ns.drop i).all goodR = (goodR ns[i] && (ns.drop (i + 1)).all goodR) := by
      rw [List.drop_eq_getElem_cons hi, List.all_cons]
    rw [hdrop]
    refine Ev.succ ?_
    simp only [r_10_Join.l0, if_pos (show (i : Int) < (ns.length : Int) by omega), if_pos (show (0 : Int) ≤ (i : Int) by omega), rdL_get hi]
    by_cases hl : ns[i].length = 256
    · have hrb := rd_byte hbi (i := 0) (by omega)
      simp only [if_pos (show (ns[i].length : Int) = 256 by omega), if_pos (show (0 : Int) < (ns[i].length : Int) by omega)]
      obtain ⟨n, hn⟩ : ∃ n : Nat, rd ns[i] 0 = (n : Int) := ⟨(rd ns[i] 0).toNat, (Int.toNat_of_nonneg hrb.1).symm⟩
      have hn256 : n < 256 := by have := hrb.2; rw [show ((0 : Nat) : Int) = 0 from rfl, hn] at this; omega
      by_cases hn20 : n ≤ 20
      · have hgood : goodR ns[i] = true := by unfold goodR; rw [decide_eq_true hl, hn, Int.toNat_natCast, decide_eq_true hn20]; rfl
        rw [hgood, Bool.true_and]
        have hacc : ((ns.take i).flatMap decRn).length ≤ 20 * (ns.take i).length := flat_len _ _ (fun b hb' => by
          have := hg b hb'
          unfold goodR at this
          rw [Bool.and_eq_true] at this
          unfold decRn
          rw [decF_len]
          exact of_decide_eq_true this.2)
        rw [List.length_take] at hacc
        have ih := rjoin_l0 ns hb h3 d (i + 1) (by omega) (fun b hb' => by
          rw [List.take_succ_eq_append_getElem hi] at hb'
          rcases List.mem_append.1 hb' with h | h
          · exact hg b h
          · rw [List.mem_singleton.1 h]; exact hgood)
        have e1 : decRn ns[i] = decF decR (ns[i].drop 4) n := by unfold decRn; rw [hn, Int.toNat_natCast]
        rw [flat_take_succ decRn ns i hi, blk_succ, e1] at ih
        simp only [hn, if_neg (show ¬ ((n : Int) > 20) by omega), if_neg (show ¬ ((ns.length : Int) > 3) by omega), w64 (show -9223372036854775808 ≤ (n : Int) by omega) (by omega)]
        refine Ev.bind (rext_ev ns[i] hbi n _ rfl (by omega) (by omega)) ?_
        simp only [decF_len, blk_len, if_pos (show ((ns.take i).flatMap decRn).length + n < 4398046511104 by omega), if_pos (show i < 17592186044416 by omega), wps i (by omega)]
        exact ih
      · have hbad : goodR ns[i] = false := by unfold goodR; rw [hn, Int.toNat_natCast, decide_eq_false hn20, Bool.and_false]
        rw [hbad, Bool.false_and]
        simp only [hn, if_pos (show (n : Int) > 20 by omega), if_neg (show ¬ (false = true) by decide)]
        exact Ev.now _
    · have hbad : goodR ns[i] = false := by unfold goodR; rw [decide_eq_false hl, Bool.false_and]
      rw [hbad, Bool.false_and]
      simp only [if_neg (show ¬ ((ns[i].length : Int) = 256) by omega), if_neg (show ¬ (false = true) by decide)]
      exact Ev.now _
theorem rjoin_ev (ns : List (List Int)) (hb : bytesAll ns) (hbig : ns.length < 9223372036854775807) : Ev (fun k => r_10_Join.f k ns) (joinR ns) := by
  unfold r_10_Join.f joinR
  by_cases h3 : 3 < ns.length
  · rw [if_pos (.inr h3)]
    have hi : 0 < ns.length := by omega
    have hr := rdL_get hi
    refine Ev.succ ?_
    rw [show ((0 : Nat) : Int) = 0 from rfl] at hr
    simp only [r_10_Join.l0, if_pos (show (0 : Int) < (ns.length : Int) by omega), if_pos (show (0 : Int) ≤ 0 by decide), hr]
    by_cases hl : ns[0].length = 256
    · simp only [if_pos (show (ns[0].length : Int) = 256 by omega), if_pos (show (0 : Int) < (ns[0].length : Int) by omega)]
      by_cases hn : rd ns[0] 0 > 20
      · simp only [if_pos hn]; exact Ev.now _
      · simp only [if_neg hn, if_pos (show (ns.length : Int) > 3 by omega)]; exact Ev.now _
    · simp only [if_neg (show ¬ ((ns[0].length : Int) = 256) by omega)]; exact Ev.now _
  · have h := rjoin_l0 ns hb (by omega) ns.length 0 (by omega) (fun b hb' => by simp at hb')
    by_cases h0 : ns.length = 0
    · rw [if_pos (.inl h0)]
      rw [if_pos h0] at h
      have e : (if (ns.drop 0).all goodR = true then badJ else badJ) = badJ := by split <;> rfl
      rw [e] at h
      exact h
    · rw [if_neg (fun hh => hh.elim h0 h3)]
      rw [if_neg h0] at h
      exact h
theorem nodeL_form (C : List E24) : nodeL C = hdr C.length 0 ++ (encL C ++ (List.replicate (252 - (hdr C.length 0 ++ encL C).length) 0 ++ bytesN 4 (sumB (nodeC C)).toNat)) := by
  have e : nodeL C = nodeC C ++ bytesN 4 (sumB (nodeC C)).toNat := rfl
  rw [e]
  obtain ⟨t, ht⟩ : ∃ t, bytesN 4 (sumB (nodeC C)).toNat = t := ⟨_, rfl⟩
  rw [ht]
  unfold nodeC padN
  simp only [List.append_assoc]
theorem node_dec {C : List E24} (h : ∀ e ∈ C, mayE e = true) (hn : C.length ≤ 20) : goodP (nodeL C) = true ∧ goodR (nodeL C) = true ∧ decPn (nodeL C) = C ∧ decRn (nodeL C) = C := by
  have hlen := nodeL_len C hn
  have e := hdr_take C.length 0 (encL C ++ (List.replicate (252 - (hdr C.length 0 ++ encL C).length) 0 ++ bytesN 4 (sumB (nodeC C)).toNat)) (by omega) (.inl rfl)
  rw [← nodeL_form] at e
  obtain ⟨p1, p2, p3, p4, p5⟩ := e
  refine ⟨?_, ?_, ?_, ?_⟩
  · unfold goodP; rw [hlen, p1, decide_eq_true hn]; rfl
  · unfold goodR; rw [hlen, p3, Int.toNat_natCast, decide_eq_true hn]; rfl
  · unfold decPn; rw [p1, p5]; exact decF_enc decP decP_enc C h _
  · unfold decRn; rw [p3, Int.toNat_natCast, p5]; exact decF_enc decR decR_enc C h _
theorem chunks_take (l : List E24) : ∀ m : Nat, m ≤ chunkN l.length → (List.range m).flatMap (chunkOf l) = l.take (m * 20)
  | 0, _ => by simp
  | m + 1, h => by
    have hm : m * 20 ≤ l.length := by unfold chunkN at h; omega
    rw [List.range_succ, List.flatMap_append, chunks_take l m (by omega)]
    have e : List.flatMap (chunkOf l) [m] = chunkOf l m := List.append_nil _
    rw [e, ← chunk_ref l m hm]
    have e1 : l.take (m * 20) = (l.take (min l.length ((m + 1) * 20))).take (m * 20) := by
      rw [List.take_take]; congr 1; omega
    rw [e1, List.take_append_drop]
    rcases Nat.le_total l.length ((m + 1) * 20) with h1 | h1
    · rw [Nat.min_eq_left h1, List.take_length, List.take_of_length_le h1]
    · rw [Nat.min_eq_right h1]
theorem chunks_join (l : List E24) : (List.range (chunkN l.length)).flatMap (chunkOf l) = l := by
  rw [chunks_take l _ (Nat.le_refl _), List.take_of_length_le (by unfold chunkN; omega)]
theorem nodesX_len (l : List E24) : (nodesX l).length = chunkN l.length := by unfold nodesX; rw [List.length_map, List.length_range]
theorem nodesX_flat (l : List E24) (f : List Int → List E24) (h : ∀ x, f (nodeL (chunkOf l x)) = chunkOf l x) : (nodesX l).flatMap f = l := by
  unfold nodesX
  rw [List.flatMap_map]
  simp only [h]
  exact chunks_join l
theorem needN_chunk {l : List E24} (h : needN l ≠ 0) : needN l = chunkN l.length := by
  unfold needN chunkN at *
  split at h
  · exact absurd rfl h
  · rename_i h1; rw [if_neg h1]
theorem blk_nums (k : Nat) (h : k ≤ 3) : numsD (blk k) = true := by
  rcases (by omega : k = 0 ∨ k = 1 ∨ k = 2 ∨ k = 3) with rfl | rfl | rfl | rfl <;> decide
theorem storeX_nodes_inv {L : List E24} {bs : List Int} (h : (storeX L bs).2.2 = 0) (hn : bs.length ≠ 0) : chkB L = true ∧ needN L = bs.length ∧ (storeX L bs).2.1 = nodesX L ∧ numsD bs = true := by
  unfold storeX at h ⊢
  by_cases hc : chkB L = true ∧ needN L = bs.length ∧ numsD bs = true
  · have hz : needN L ≠ 0 := by rw [hc.2.1]; exact hn
    rw [if_pos hc, if_neg hz]
    exact ⟨hc.1, hc.2.1, rfl, hc.2.2⟩
  · rw [if_neg hc] at h
    exact absurd h (by decide)
theorem finJ_nodes {L : List E24} (h : chkB L = true) (hn : needN L ≠ 0) : finJ L (nodesX L) = (L, 0) := by
  have h60 := (chk_ok h).1
  have hlen : (nodesX L).length = needN L := by rw [nodesX_len, needN_chunk hn]
  have h3 : needN L ≤ 3 := by rw [needN_chunk hn]; unfold chunkN; omega
  have hs : storeX L (blk (needN L)) = (idxL (blk (needN L)), nodesX L, 0) := by
    unfold storeX
    rw [if_pos ⟨h, (blk_len _).symm, blk_nums _ h3⟩, if_neg hn]
  unfold finJ
  rw [hlen, hs, if_pos ⟨rfl, rfl⟩]
theorem joinP_nodes {L : List E24} (h : chkB L = true) (hn : needN L ≠ 0) : joinP (nodesX L) = (L, 0) ∧ joinR (nodesX L) = (L, 0) := by
  have h60 := (chk_ok h).1
  have hlen : (nodesX L).length = needN L := by rw [nodesX_len, needN_chunk hn]
  have h3 : needN L ≤ 3 := by rw [needN_chunk hn]; unfold chunkN; omega
  have hd : ∀ x, goodP (nodeL (chunkOf L x)) = true ∧ goodR (nodeL (chunkOf L x)) = true ∧ decPn (nodeL (chunkOf L x)) = chunkOf L x ∧ decRn (nodeL (chunkOf L x)) = chunkOf L x := fun x => node_dec (fun e he => mays h e (chunkOf_mem he)) (chunkOf_le L x)
  have gP : (nodesX L).all goodP = true := List.all_eq_true.2 (fun b hb => by
    obtain ⟨x, _, rfl⟩ := List.mem_map.1 hb
    exact (hd x).1)
  have gR : (nodesX L).all goodR = true := List.all_eq_true.2 (fun b hb => by
    obtain ⟨x, _, rfl⟩ := List.mem_map.1 hb
    exact (hd x).2.1)
  unfold joinP joinR
  have hc : ¬ ((nodesX L).length = 0 ∨ 3 < (nodesX L).length) := by rw [hlen]; omega
  rw [if_neg hc, if_neg hc, if_pos gP, if_pos gR, nodesX_flat L decPn (fun x => (hd x).2.2.1), nodesX_flat L decRn (fun x => (hd x).2.2.2)]
  exact ⟨finJ_nodes h hn, finJ_nodes h hn⟩
theorem join_eq (ns : List (List Int)) : joinP ns = joinR ns := by
  by_cases hA : ∃ L, chkB L = true ∧ needN L ≠ 0 ∧ nodesX L = ns
  · obtain ⟨L, h, hn, rfl⟩ := hA
    rw [(joinP_nodes h hn).1, (joinP_nodes h hn).2]
  · unfold joinP joinR
    by_cases hc : ns.length = 0 ∨ 3 < ns.length
    · rw [if_pos hc, if_pos hc]
    · rw [if_neg hc, if_neg hc]
      have fJ : ∀ L, finJ L ns = badJ := fun L => by
        unfold finJ
        by_cases h : (storeX L (blk ns.length)).2.2 = 0 ∧ (storeX L (blk ns.length)).2.1 = ns
        · have hne : (blk ns.length).length ≠ 0 := by rw [blk_len]; omega
          obtain ⟨h1, h2, h3, _⟩ := storeX_nodes_inv h.1 hne
          exact absurd ⟨L, h1, by rw [h2]; exact hne, h3 ▸ h.2⟩ hA
        · rw [if_neg h]
      rw [fJ, fJ]
      split <;> split <;> rfl
theorem joinP_len (ns : List (List Int)) : (joinP ns).1.length ≤ 60 := by
  unfold joinP
  split
  · simp [badJ]
  · split
    · rename_i hc _
      unfold finJ
      split
      · rename_i h
        have hne : (blk ns.length).length ≠ 0 := by rw [blk_len]; omega
        exact (chk_ok (storeX_nodes_inv h.1 hne).1).1
      · simp [badJ]
    · simp [badJ]
end Go.Proofs.Ytopmjjnkolfciaa.Pr
end
section
namespace Go.Proofs.Ytopmjjnkolfciaa.Pr
open Go.RowKit Go.Proofs.YtopmjjnkolfciaaW.PrintWords Go.Proofs.YtopmjjnkolfciaaW.PrintLast Go.Proofs.YtopmjjnkolfciaaW.PrintMore
attribute [local go_sem] max2_int min2_int max_two min_two max_three min_three max_four min_four
attribute [local go_sem] Go.Proofs.Ytopmjjnkolfciaa.Hl.str_geq Go.Proofs.Ytopmjjnkolfciaa.Hl.str_gtr Go.Proofs.Ytopmjjnkolfciaa.Hl.str_leq
set_option linter.unusedVariables false
set_option linter.unusedSimpArgs false
attribute [local go_sem high] eqA24 eqA32
def l_10_alive.f (k:Nat)  : Option (Bool):=(extent_Put.f k (([(⟨2,52,3,false⟩:S24)]:List (S24))) 0 50 2 false).bind fun bt142=>((extent_Cut.f k bt142.1 1 3).bind fun bt146=>(if bt142.2=0 then (if (bt142.1.length:Int)=1 then (if 0 < (bt142.1.length:Int) then (if (((rd_T24 bt142.1 0).f0)==0&&(((rd_T24 bt142.1 0).f1)==50&&(((rd_T24 bt142.1 0).f2)==5&&(!((rd_T24 bt142.1 0).f3)))))=true then (if bt146.2.2=0 then (if (bt146.1.length:Int)=2 then (if 1 < (bt146.1.length:Int) then (if (((rd_T24 bt146.1 1).f0)==3&&(((rd_T24 bt146.1 1).f1)==53&&(((rd_T24 bt146.1 1).f2)==2&&(!((rd_T24 bt146.1 1).f3)))))=true then (if (bt146.2.1.length:Int)=1 then (if 0 < (bt146.2.1.length:Int) then (some (((rd_T32 bt146.2.1 0).f0)==51&&(((rd_T32 bt146.2.1 0).f1)==2))) else (none)) else (some false)) else (some false)) else (none)) else (some false)) else (some false)) else (some false)) else (none)) else (some false)) else (some false)))
set_option maxHeartbeats 8000000 in
set_option maxRecDepth 100000 in
theorem l_10_alive.calls (k:Nat)  (r:Bool) (w:World) (h:l_10_alive.f k  = some r) :
  Calls Try.prog 11 #[] w fun e w'=>e=.returned (.bool r)∧Below w.heap.size w w':=by
 have hu24:=Try.underlying24
 have hu32:=Try.underlying32
 have HB:=am (Below.refl w.heap.size w)
 have H:((extent_Put.f k (([(⟨2,52,3,false⟩:S24)]:List (S24))) 0 50 2 false).bind fun bt142=>((extent_Cut.f k bt142.1 1 3).bind fun bt146=>(if bt142.2=0 then (if (bt142.1.length:Int)=1 then (if 0 < (bt142.1.length:Int) then (if (((rd_T24 bt142.1 0).f0)==0&&(((rd_T24 bt142.1 0).f1)==50&&(((rd_T24 bt142.1 0).f2)==5&&(!((rd_T24 bt142.1 0).f3)))))=true then (if bt146.2.2=0 then (if (bt146.1.length:Int)=2 then (if 1 < (bt146.1.length:Int) then (if (((rd_T24 bt146.1 1).f0)==3&&(((rd_T24 bt146.1 1).f1)==53&&(((rd_T24 bt146.1 1).f2)==2&&(!((rd_T24 bt146.1 1).f3)))))=true then (if (bt146.2.1.length:Int)=1 then (if 0 < (bt146.2.1.length:Int) then (some (((rd_T32 bt146.2.1 0).f0)==51&&(((rd_T32 bt146.2.1 0).f1)==2))) else (none)) else (some false)) else (some false)) else (none)) else (some false)) else (some false)) else (some false)) else (none)) else (some false)) else (some false))))=some r:=h
 clear h
 obtain ⟨y139,hy139⟩:∃ y_:List (S24),y_=(([(⟨2,52,3,false⟩:S24)]:List (S24))):=⟨_,rfl⟩
 replace H:((extent_Put.f k y139 0 50 2 false).bind fun bt142=>((extent_Cut.f k bt142.1 1 3).bind fun bt146=>(if bt142.2=0 then (if (bt142.1.length:Int)=1 then (if 0 < (bt142.1.length:Int) then (if (((rd_T24 bt142.1 0).f0)==0&&(((rd_T24 bt142.1 0).f1)==50&&(((rd_T24 bt142.1 0).f2)==5&&(!((rd_T24 bt142.1 0).f3)))))=true then (if bt146.2.2=0 then (if (bt146.1.length:Int)=2 then (if 1 < (bt146.1.length:Int) then (if (((rd_T24 bt146.1 1).f0)==3&&(((rd_T24 bt146.1 1).f1)==53&&(((rd_T24 bt146.1 1).f2)==2&&(!((rd_T24 bt146.1 1).f3)))))=true then (if (bt146.2.1.length:Int)=1 then (if 0 < (bt146.2.1.length:Int) then (some (((rd_T32 bt146.2.1 0).f0)==51&&(((rd_T32 bt146.2.1 0).f1)==2))) else (none)) else (some false)) else (some false)) else (none)) else (some false)) else (some false)) else (some false)) else (none)) else (some false)) else (some false))))=some r:=by first|(rw [hy139];with_reducible exact H)|(have H2_:=(Option.bind_some _ _).symm.trans H;rw [hy139];with_reducible exact H2_)|(have H2_:=(Option.bind_some _ _).symm.trans H;with_reducible exact H2_)|with_reducible exact H|(rw [hy139];exact H)|exact H
 have Ny139:=am hy139
 clear hy139
 replace H:=Option.bind_eq_some_iff.mp H
 obtain ⟨⟨t142,t145⟩,A10,H⟩:=H
 replace H:((extent_Cut.f k t142 1 3).bind fun bt146=>(if t145=0 then (if (t142.length:Int)=1 then (if 0 < (t142.length:Int) then (if (((rd_T24 t142 0).f0)==0&&(((rd_T24 t142 0).f1)==50&&(((rd_T24 t142 0).f2)==5&&(!((rd_T24 t142 0).f3)))))=true then (if bt146.2.2=0 then (if (bt146.1.length:Int)=2 then (if 1 < (bt146.1.length:Int) then (if (((rd_T24 bt146.1 1).f0)==3&&(((rd_T24 bt146.1 1).f1)==53&&(((rd_T24 bt146.1 1).f2)==2&&(!((rd_T24 bt146.1 1).f3)))))=true then (if (bt146.2.1.length:Int)=1 then (if 0 < (bt146.2.1.length:Int) then (some (((rd_T32 bt146.2.1 0).f0)==51&&(((rd_T32 bt146.2.1 0).f1)==2))) else (none)) else (some false)) else (some false)) else (none)) else (some false)) else (some false)) else (some false)) else (none)) else (some false)) else (some false)))=some r:=H
 have A1:=am A10
 clear A10
 replace H:=Option.bind_eq_some_iff.mp H
 obtain ⟨⟨t146,t147,t148⟩,A20,H⟩:=H
 replace H:(if t145=0 then (if (t142.length:Int)=1 then (if 0 < (t142.length:Int) then (if (((rd_T24 t142 0).f0)==0&&(((rd_T24 t142 0).f1)==50&&(((rd_T24 t142 0).f2)==5&&(!((rd_T24 t142 0).f3)))))=true then (if t148=0 then (if (t146.length:Int)=2 then (if 1 < (t146.length:Int) then (if (((rd_T24 t146 1).f0)==3&&(((rd_T24 t146 1).f1)==53&&(((rd_T24 t146 1).f2)==2&&(!((rd_T24 t146 1).f3)))))=true then (if (t147.length:Int)=1 then (if 0 < (t147.length:Int) then (some (((rd_T32 t147 0).f0)==51&&(((rd_T32 t147 0).f1)==2))) else (none)) else (some false)) else (some false)) else (none)) else (some false)) else (some false)) else (some false)) else (none)) else (some false)) else (some false))=some r:=H
 have A2:=am A20
 clear A20
 by_cases c3:t145=0
 ·rw [if_pos c3] at H
  have c3b0:(t145==0)=true:=beq_iff_eq.mpr c3
  have c3b1:(t145 != 0)=false:=bne_eq_false_iff_eq.mpr c3
  clear c3
  by_cases c4:(t142.length:Int)=1
  ·rw [if_pos c4] at H
   have c4b0:((t142.length:Int)==1)=true:=beq_iff_eq.mpr c4
   have c4b1:((t142.length:Int) != 1)=false:=bne_eq_false_iff_eq.mpr c4
   clear c4
   by_cases c5:0 < (t142.length:Int)
   ·rw [if_pos c5] at H
    have c5b0:decide (0 < (t142.length:Int))=true:=decide_eq_true c5
    have c5b1:decide (0 < t142.length)=true:=decide_eq_true (by omega)
    clear c5
    by_cases c6:(((rd_T24 t142 0).f0)==0&&(((rd_T24 t142 0).f1)==50&&(((rd_T24 t142 0).f2)==5&&(!((rd_T24 t142 0).f3)))))=true
    ·rw [if_pos c6] at H
     have c6b0:(((rd_T24 t142 0).f0)==0&&(((rd_T24 t142 0).f1)==50&&(((rd_T24 t142 0).f2)==5&&(!((rd_T24 t142 0).f3)))))=true:=c6
     (try (have c6b1:decide (((rd_T24 t142 0).f0)=0&&(((rd_T24 t142 0).f1)==50&&(((rd_T24 t142 0).f2)==5&&(!((rd_T24 t142 0).f3)))))=true:=by simpa using c6))
     (try (have c6b2:(((rd_T24 t142 0).f0)==0&&(((rd_T24 t142 0).f1)==50&&(((rd_T24 t142 0).f2)==5&&(!((rd_T24 t142 0).f3)))))=true:=by simpa using c6))
     clear c6
     by_cases c7:t148=0
     ·rw [if_pos c7] at H
      have c7b0:(t148==0)=true:=beq_iff_eq.mpr c7
      have c7b1:(t148 != 0)=false:=bne_eq_false_iff_eq.mpr c7
      clear c7
      by_cases c8:(t146.length:Int)=2
      ·rw [if_pos c8] at H
       have c8b0:((t146.length:Int)==2)=true:=beq_iff_eq.mpr c8
       have c8b1:((t146.length:Int) != 2)=false:=bne_eq_false_iff_eq.mpr c8
       clear c8
       by_cases c9:1 < (t146.length:Int)
       ·rw [if_pos c9] at H
        have c9b0:decide (1 < (t146.length:Int))=true:=decide_eq_true c9
        have c9b1:decide (1 < t146.length)=true:=decide_eq_true (by omega)
        clear c9
        by_cases c10:(((rd_T24 t146 1).f0)==3&&(((rd_T24 t146 1).f1)==53&&(((rd_T24 t146 1).f2)==2&&(!((rd_T24 t146 1).f3)))))=true
        ·rw [if_pos c10] at H
         have c10b0:(((rd_T24 t146 1).f0)==3&&(((rd_T24 t146 1).f1)==53&&(((rd_T24 t146 1).f2)==2&&(!((rd_T24 t146 1).f3)))))=true:=c10
         (try (have c10b1:decide (((rd_T24 t146 1).f0)=3&&(((rd_T24 t146 1).f1)==53&&(((rd_T24 t146 1).f2)==2&&(!((rd_T24 t146 1).f3)))))=true:=by simpa using c10))
         (try (have c10b2:(((rd_T24 t146 1).f0)==3&&(((rd_T24 t146 1).f1)==53&&(((rd_T24 t146 1).f2)==2&&(!((rd_T24 t146 1).f3)))))=true:=by simpa using c10))
         clear c10
         by_cases c11:(t147.length:Int)=1
         ·rw [if_pos c11] at H
          have c11b0:((t147.length:Int)==1)=true:=beq_iff_eq.mpr c11
          have c11b1:((t147.length:Int) != 1)=false:=bne_eq_false_iff_eq.mpr c11
          clear c11
          by_cases c12:0 < (t147.length:Int)
          ·rw [if_pos c12] at H
           have c12b0:decide (0 < (t147.length:Int))=true:=decide_eq_true c12
           have c12b1:decide (0 < t147.length)=true:=decide_eq_true (by omega)
           clear c12;obtain rfl:=Option.some.inj H
           go_enter Try.func11,Try.ntmps11
           go_wp2_with (first|((with_reducible refine gate_dst (N:=8) rfl ?_);(try (refine gate_guard (by rfl) ?_;dsimp only));refine Kd.R_lit k24 _ 24 ?hg (N:=8) ?hd (xs:=([(⟨2,52,3,false⟩:S24)]:List (S24))) (inner:=[.int .i64 2,.int .i64 52,.int .i64 3,.bool false]) (ok:=fun _=>True) (okp:=fun _=>True) ?hr ?hp (fun _ hk=>hk) trivial (Below.refl _ _) (Nat.le_refl _) (by simp) ?_;(case hd=>rfl);(case hg=>rfl);(case hr=>first|(go_simp;done)|(go_simp;rfl));(case hp=>exact (Reps.c4 (show Kd.M k24 _ _ _ (⟨2,52,3,false⟩:S24) [.int .i64 2,.int .i64 52,.int .i64 3,.bool false] from (k24_mkM _ _ _ (⟨2,52,3,false⟩:S24) )) (Reps.none _ _)));intro v140 w13 ho14 hb hg_ hnew_;clear hg_ hnew_;(first|rw [← Ny139.out] at ho14|(simp only [Int.reduceToNat] at ho14;rw [← Ny139.out] at ho14));have n0_:=am (Kd.R_lower ho14 (bz HB));have n1_:=bst HB hb;clear HB;have HO141:=n0_;have HB:=n1_;clear n0_ n1_;clear hb ho14;obtain ⟨Ao15,co15,eo15⟩:=Kd.R_slice HO141.out;subst eo15)|((with_reducible refine gate_callee (f:=14) rfl ?_);refine goesL_ (some 10) rfl rfl Try.func14 (by kernel_rfl) rfl #[.slice Ao15 y139.length co15,.agg #[.int .i64 0,.int .i64 50,.int .i64 2,.bool false]] rfl (by (try simp only [List.map_toArray,List.map_cons,List.map_nil]);first|done|rfl|(simp only [List.length_drop,List.length_take];rfl)) ?_;(with_reducible refine (extent_Put.calls k _ _ y139 0 50 2 false t142 t145 _ ?side1 ?side2 A1.out).mono ?_);(case side1=>exact cc (Kd.R_reads' HO141.out).2.2);(case side2=>exact (Kd.R_reads' HO141.out).2.1);rintro e w16 ⟨v143,rfl,ho0,hb⟩;refine ⟨_,rfl,?_⟩;have n0_:=am (Kd.R_elder' (rR HO141) (Kd.R_base ho0) hb);have n1_:=am (Kd.R_lower (Kd.R_new' ho0 (Kd.R_lt (rR HO141))) (bz HB));have n2_:=bst HB hb;clear HO141;clear HB;have HO141:=n0_;have HO144:=n1_;have HB:=n2_;clear n0_ n1_ n2_;(try clear hb);(try clear hb2);(try clear hk);(try clear hi);(try clear ho0);obtain ⟨Ao17,co17,eo17⟩:=Kd.R_slice HO144.out;subst eo17)|((with_reducible refine gate_callee (f:=13) rfl ?_);refine goesL_ (some 15) rfl rfl Try.func13 (by kernel_rfl) rfl #[.slice Ao17 t142.length co17,.int .i64 1,.int .i64 3] rfl (by (try simp only [List.map_toArray,List.map_cons,List.map_nil]);first|done|rfl|(simp only [List.length_drop,List.length_take];rfl)) ?_;(with_reducible refine (extent_Cut.calls k _ _ t142 1 3 t146 t147 t148 _ ?side1 ?side2 A2.out).mono ?_);(case side1=>exact cc (Kd.R_reads' HO144.out).2.2);(case side2=>exact (Kd.R_reads' HO144.out).2.1);rintro e w18 ⟨v149,v151,rfl,ho0,ho1,hb⟩;refine ⟨_,rfl,?_⟩;have n0_:=am (Kd.R_elder' (rR HO141) (Kd.R_base ho0) hb);have n1_:=am (Kd.R_elder' (rR HO144) (Kd.R_base ho0) hb);have n2_:=am (Kd.R_lower (Kd.R_new' (Kd.R_new' ho0 (Kd.R_lt (rR HO141))) (Kd.R_lt (rR HO144))) (bz HB));have n3_:=am (Kd.R_lower ho1 (bz HB));have n4_:=bst HB hb;clear HO141;clear HO144;clear HB;have HO141:=n0_;have HO144:=n1_;have HO150:=n2_;have HO152:=n3_;have HB:=n4_;clear n0_ n1_ n2_ n3_ n4_;(try clear hb);(try clear hb2);(try clear hk);(try clear hi);(try clear ho0);(try clear ho1);have p153:0≤(0:Int):=(by omega);have q153:0 < (t142.length:Int):=od;obtain ⟨ad153,e153,hx153_0,hx153_1,hx153_2,hx153_3⟩:=at_T24 (Kd.R_reads' HO144.out).2.2 0 p153 q153;cases e153;have qi153:(0 < t142.length)=True:=eq_true (by omega);(try rw [show ((0:Int)).toNat=0 from rfl] at hx153_0);(try rw [show 0*4=0 from rfl] at hx153_0);(try rw [Addr.add_zero'] at hx153_0);(try rw [show ((0:Int)).toNat=0 from rfl] at hx153_1);(try rw [show 0*4=0 from rfl] at hx153_1);(try rw [Addr.add_zero'] at hx153_1);(try rw [show ((0:Int)).toNat=0 from rfl] at hx153_2);(try rw [show 0*4=0 from rfl] at hx153_2);(try rw [Addr.add_zero'] at hx153_2);(try rw [show ((0:Int)).toNat=0 from rfl] at hx153_3);(try rw [show 0*4=0 from rfl] at hx153_3);(try rw [Addr.add_zero'] at hx153_3);replace p153:=eq_true p153;replace q153:=eq_true q153;obtain ⟨Ao19,co19,eo19⟩:=Kd.R_slice HO150.out;subst eo19;have p154:0≤(1:Int):=(by omega);have q154:1 < (t146.length:Int):=od;obtain ⟨ad154,e154,hx154_0,hx154_1,hx154_2,hx154_3⟩:=at_T24 (Kd.R_reads' HO150.out).2.2 1 p154 q154;cases e154;(try simp only [show (1:Int).toNat=1 from rfl,Nat.reduceMul,Nat.reduceEqDiff,Go.Addr.add,↓reduceIte] at hx154_0);(try simp only [show (1:Int).toNat=1 from rfl,Nat.reduceMul,Nat.reduceEqDiff,Go.Addr.add,↓reduceIte] at hx154_1);(try simp only [show (1:Int).toNat=1 from rfl,Nat.reduceMul,Nat.reduceEqDiff,Go.Addr.add,↓reduceIte] at hx154_2);(try simp only [show (1:Int).toNat=1 from rfl,Nat.reduceMul,Nat.reduceEqDiff,Go.Addr.add,↓reduceIte] at hx154_3);have qi154:(1 < t146.length)=True:=eq_true (by omega);(try rw [show ((1:Int)).toNat=1 from rfl] at hx154_0);(try rw [show 1*4=4 from rfl] at hx154_0);(try rw [show ((1:Int)).toNat=1 from rfl] at hx154_1);(try rw [show 1*4=4 from rfl] at hx154_1);(try rw [show ((1:Int)).toNat=1 from rfl] at hx154_2);(try rw [show 1*4=4 from rfl] at hx154_2);(try rw [show ((1:Int)).toNat=1 from rfl] at hx154_3);(try rw [show 1*4=4 from rfl] at hx154_3);replace p154:=eq_true p154;replace q154:=eq_true q154;obtain ⟨Ao20,co20,eo20⟩:=Kd.R_slice HO152.out;subst eo20;have p155:0≤(0:Int):=(by omega);have q155:0 < (t147.length:Int):=od;obtain ⟨ad155,e155,hx155_0,hx155_1⟩:=at_T32 (Kd.R_reads' HO152.out).2.2 0 p155 q155;cases e155;have qi155:(0 < t147.length)=True:=eq_true (by omega);(try rw [show ((0:Int)).toNat=0 from rfl] at hx155_0);(try rw [show 0*2=0 from rfl] at hx155_0);(try rw [Addr.add_zero'] at hx155_0);(try rw [show ((0:Int)).toNat=0 from rfl] at hx155_1);(try rw [show 0*2=0 from rfl] at hx155_1);(try rw [Addr.add_zero'] at hx155_1);replace p155:=eq_true p155;replace q155:=eq_true q155))
           go_ret
           exact ⟨by first|rfl|(simp [errW_none,errW_some]<;>rfl)|(simp [*,errW_none,errW_some]<;>rfl),bb HB⟩
          ·rw [if_neg c12] at H
           exact absurd H (by simp)
         ·rw [if_neg c11] at H
          have c11b0:((t147.length:Int)==1)=false:=beq_eq_false_iff_ne.mpr c11
          have c11b1:((t147.length:Int) != 1)=true:=bne_iff_ne.mpr c11
          obtain rfl:=Option.some.inj H
          go_enter Try.func11,Try.ntmps11
          go_wp2_with (first|((with_reducible refine gate_dst (N:=8) rfl ?_);(try (refine gate_guard (by rfl) ?_;dsimp only));refine Kd.R_lit k24 _ 24 ?hg (N:=8) ?hd (xs:=([(⟨2,52,3,false⟩:S24)]:List (S24))) (inner:=[.int .i64 2,.int .i64 52,.int .i64 3,.bool false]) (ok:=fun _=>True) (okp:=fun _=>True) ?hr ?hp (fun _ hk=>hk) trivial (Below.refl _ _) (Nat.le_refl _) (by simp) ?_;(case hd=>rfl);(case hg=>rfl);(case hr=>first|(go_simp;done)|(go_simp;rfl));(case hp=>exact (Reps.c4 (show Kd.M k24 _ _ _ (⟨2,52,3,false⟩:S24) [.int .i64 2,.int .i64 52,.int .i64 3,.bool false] from (k24_mkM _ _ _ (⟨2,52,3,false⟩:S24) )) (Reps.none _ _)));intro v140 w21 ho22 hb hg_ hnew_;clear hg_ hnew_;(first|rw [← Ny139.out] at ho22|(simp only [Int.reduceToNat] at ho22;rw [← Ny139.out] at ho22));have n0_:=am (Kd.R_lower ho22 (bz HB));have n1_:=bst HB hb;clear HB;have HO141:=n0_;have HB:=n1_;clear n0_ n1_;clear hb ho22;obtain ⟨Ao23,co23,eo23⟩:=Kd.R_slice HO141.out;subst eo23)|((with_reducible refine gate_callee (f:=14) rfl ?_);refine goesL_ (some 10) rfl rfl Try.func14 (by kernel_rfl) rfl #[.slice Ao23 y139.length co23,.agg #[.int .i64 0,.int .i64 50,.int .i64 2,.bool false]] rfl (by (try simp only [List.map_toArray,List.map_cons,List.map_nil]);first|done|rfl|(simp only [List.length_drop,List.length_take];rfl)) ?_;(with_reducible refine (extent_Put.calls k _ _ y139 0 50 2 false t142 t145 _ ?side1 ?side2 A1.out).mono ?_);(case side1=>exact cc (Kd.R_reads' HO141.out).2.2);(case side2=>exact (Kd.R_reads' HO141.out).2.1);rintro e w24 ⟨v143,rfl,ho0,hb⟩;refine ⟨_,rfl,?_⟩;have n0_:=am (Kd.R_elder' (rR HO141) (Kd.R_base ho0) hb);have n1_:=am (Kd.R_lower (Kd.R_new' ho0 (Kd.R_lt (rR HO141))) (bz HB));have n2_:=bst HB hb;clear HO141;clear HB;have HO141:=n0_;have HO144:=n1_;have HB:=n2_;clear n0_ n1_ n2_;(try clear hb);(try clear hb2);(try clear hk);(try clear hi);(try clear ho0);obtain ⟨Ao25,co25,eo25⟩:=Kd.R_slice HO144.out;subst eo25)|((with_reducible refine gate_callee (f:=13) rfl ?_);refine goesL_ (some 15) rfl rfl Try.func13 (by kernel_rfl) rfl #[.slice Ao25 t142.length co25,.int .i64 1,.int .i64 3] rfl (by (try simp only [List.map_toArray,List.map_cons,List.map_nil]);first|done|rfl|(simp only [List.length_drop,List.length_take];rfl)) ?_;(with_reducible refine (extent_Cut.calls k _ _ t142 1 3 t146 t147 t148 _ ?side1 ?side2 A2.out).mono ?_);(case side1=>exact cc (Kd.R_reads' HO144.out).2.2);(case side2=>exact (Kd.R_reads' HO144.out).2.1);rintro e w26 ⟨v149,v151,rfl,ho0,ho1,hb⟩;refine ⟨_,rfl,?_⟩;have n0_:=am (Kd.R_elder' (rR HO141) (Kd.R_base ho0) hb);have n1_:=am (Kd.R_elder' (rR HO144) (Kd.R_base ho0) hb);have n2_:=am (Kd.R_lower (Kd.R_new' (Kd.R_new' ho0 (Kd.R_lt (rR HO141))) (Kd.R_lt (rR HO144))) (bz HB));have n3_:=am (Kd.R_lower ho1 (bz HB));have n4_:=bst HB hb;clear HO141;clear HO144;clear HB;have HO141:=n0_;have HO144:=n1_;have HO150:=n2_;have HO152:=n3_;have HB:=n4_;clear n0_ n1_ n2_ n3_ n4_;(try clear hb);(try clear hb2);(try clear hk);(try clear hi);(try clear ho0);(try clear ho1);have p153:0≤(0:Int):=(by omega);have q153:0 < (t142.length:Int):=od;obtain ⟨ad153,e153,hx153_0,hx153_1,hx153_2,hx153_3⟩:=at_T24 (Kd.R_reads' HO144.out).2.2 0 p153 q153;cases e153;have qi153:(0 < t142.length)=True:=eq_true (by omega);(try rw [show ((0:Int)).toNat=0 from rfl] at hx153_0);(try rw [show 0*4=0 from rfl] at hx153_0);(try rw [Addr.add_zero'] at hx153_0);(try rw [show ((0:Int)).toNat=0 from rfl] at hx153_1);(try rw [show 0*4=0 from rfl] at hx153_1);(try rw [Addr.add_zero'] at hx153_1);(try rw [show ((0:Int)).toNat=0 from rfl] at hx153_2);(try rw [show 0*4=0 from rfl] at hx153_2);(try rw [Addr.add_zero'] at hx153_2);(try rw [show ((0:Int)).toNat=0 from rfl] at hx153_3);(try rw [show 0*4=0 from rfl] at hx153_3);(try rw [Addr.add_zero'] at hx153_3);replace p153:=eq_true p153;replace q153:=eq_true q153;obtain ⟨Ao27,co27,eo27⟩:=Kd.R_slice HO150.out;subst eo27;have p154:0≤(1:Int):=(by omega);have q154:1 < (t146.length:Int):=od;obtain ⟨ad154,e154,hx154_0,hx154_1,hx154_2,hx154_3⟩:=at_T24 (Kd.R_reads' HO150.out).2.2 1 p154 q154;cases e154;(try simp only [show (1:Int).toNat=1 from rfl,Nat.reduceMul,Nat.reduceEqDiff,Go.Addr.add,↓reduceIte] at hx154_0);(try simp only [show (1:Int).toNat=1 from rfl,Nat.reduceMul,Nat.reduceEqDiff,Go.Addr.add,↓reduceIte] at hx154_1);(try simp only [show (1:Int).toNat=1 from rfl,Nat.reduceMul,Nat.reduceEqDiff,Go.Addr.add,↓reduceIte] at hx154_2);(try simp only [show (1:Int).toNat=1 from rfl,Nat.reduceMul,Nat.reduceEqDiff,Go.Addr.add,↓reduceIte] at hx154_3);have qi154:(1 < t146.length)=True:=eq_true (by omega);(try rw [show ((1:Int)).toNat=1 from rfl] at hx154_0);(try rw [show 1*4=4 from rfl] at hx154_0);(try rw [show ((1:Int)).toNat=1 from rfl] at hx154_1);(try rw [show 1*4=4 from rfl] at hx154_1);(try rw [show ((1:Int)).toNat=1 from rfl] at hx154_2);(try rw [show 1*4=4 from rfl] at hx154_2);(try rw [show ((1:Int)).toNat=1 from rfl] at hx154_3);(try rw [show 1*4=4 from rfl] at hx154_3);replace p154:=eq_true p154;replace q154:=eq_true q154;obtain ⟨Ao28,co28,eo28⟩:=Kd.R_slice HO152.out;subst eo28))
          go_ret
          exact ⟨by first|rfl|(simp [errW_none,errW_some]<;>rfl)|(simp [*,errW_none,errW_some]<;>rfl),bb HB⟩
        ·rw [if_neg c10] at H
         have c10b0:(((rd_T24 t146 1).f0)==3&&(((rd_T24 t146 1).f1)==53&&(((rd_T24 t146 1).f2)==2&&(!((rd_T24 t146 1).f3)))))=false:=by simpa using c10
         (try (have c10b1:decide (((rd_T24 t146 1).f0)=3&&(((rd_T24 t146 1).f1)==53&&(((rd_T24 t146 1).f2)==2&&(!((rd_T24 t146 1).f3)))))=false:=by simpa using c10))
         (try (have c10b2:(((rd_T24 t146 1).f0)==3&&(((rd_T24 t146 1).f1)==53&&(((rd_T24 t146 1).f2)==2&&(!((rd_T24 t146 1).f3)))))=false:=by simpa using c10))
         (try (have c10b3:¬ (((rd_T24 t146 1).f0)=3&&(((rd_T24 t146 1).f1)==53&&(((rd_T24 t146 1).f2)==2&&(!((rd_T24 t146 1).f3))))):=by simpa using c10))
         clear c10;obtain rfl:=Option.some.inj H
         go_enter Try.func11,Try.ntmps11
         go_wp2_with (first|((with_reducible refine gate_dst (N:=8) rfl ?_);(try (refine gate_guard (by rfl) ?_;dsimp only));refine Kd.R_lit k24 _ 24 ?hg (N:=8) ?hd (xs:=([(⟨2,52,3,false⟩:S24)]:List (S24))) (inner:=[.int .i64 2,.int .i64 52,.int .i64 3,.bool false]) (ok:=fun _=>True) (okp:=fun _=>True) ?hr ?hp (fun _ hk=>hk) trivial (Below.refl _ _) (Nat.le_refl _) (by simp) ?_;(case hd=>rfl);(case hg=>rfl);(case hr=>first|(go_simp;done)|(go_simp;rfl));(case hp=>exact (Reps.c4 (show Kd.M k24 _ _ _ (⟨2,52,3,false⟩:S24) [.int .i64 2,.int .i64 52,.int .i64 3,.bool false] from (k24_mkM _ _ _ (⟨2,52,3,false⟩:S24) )) (Reps.none _ _)));intro v140 w29 ho30 hb hg_ hnew_;clear hg_ hnew_;(first|rw [← Ny139.out] at ho30|(simp only [Int.reduceToNat] at ho30;rw [← Ny139.out] at ho30));have n0_:=am (Kd.R_lower ho30 (bz HB));have n1_:=bst HB hb;clear HB;have HO141:=n0_;have HB:=n1_;clear n0_ n1_;clear hb ho30;obtain ⟨Ao31,co31,eo31⟩:=Kd.R_slice HO141.out;subst eo31)|((with_reducible refine gate_callee (f:=14) rfl ?_);refine goesL_ (some 10) rfl rfl Try.func14 (by kernel_rfl) rfl #[.slice Ao31 y139.length co31,.agg #[.int .i64 0,.int .i64 50,.int .i64 2,.bool false]] rfl (by (try simp only [List.map_toArray,List.map_cons,List.map_nil]);first|done|rfl|(simp only [List.length_drop,List.length_take];rfl)) ?_;(with_reducible refine (extent_Put.calls k _ _ y139 0 50 2 false t142 t145 _ ?side1 ?side2 A1.out).mono ?_);(case side1=>exact cc (Kd.R_reads' HO141.out).2.2);(case side2=>exact (Kd.R_reads' HO141.out).2.1);rintro e w32 ⟨v143,rfl,ho0,hb⟩;refine ⟨_,rfl,?_⟩;have n0_:=am (Kd.R_elder' (rR HO141) (Kd.R_base ho0) hb);have n1_:=am (Kd.R_lower (Kd.R_new' ho0 (Kd.R_lt (rR HO141))) (bz HB));have n2_:=bst HB hb;clear HO141;clear HB;have HO141:=n0_;have HO144:=n1_;have HB:=n2_;clear n0_ n1_ n2_;(try clear hb);(try clear hb2);(try clear hk);(try clear hi);(try clear ho0);obtain ⟨Ao33,co33,eo33⟩:=Kd.R_slice HO144.out;subst eo33)|((with_reducible refine gate_callee (f:=13) rfl ?_);refine goesL_ (some 15) rfl rfl Try.func13 (by kernel_rfl) rfl #[.slice Ao33 t142.length co33,.int .i64 1,.int .i64 3] rfl (by (try simp only [List.map_toArray,List.map_cons,List.map_nil]);first|done|rfl|(simp only [List.length_drop,List.length_take];rfl)) ?_;(with_reducible refine (extent_Cut.calls k _ _ t142 1 3 t146 t147 t148 _ ?side1 ?side2 A2.out).mono ?_);(case side1=>exact cc (Kd.R_reads' HO144.out).2.2);(case side2=>exact (Kd.R_reads' HO144.out).2.1);rintro e w34 ⟨v149,v151,rfl,ho0,ho1,hb⟩;refine ⟨_,rfl,?_⟩;have n0_:=am (Kd.R_elder' (rR HO141) (Kd.R_base ho0) hb);have n1_:=am (Kd.R_elder' (rR HO144) (Kd.R_base ho0) hb);have n2_:=am (Kd.R_lower (Kd.R_new' (Kd.R_new' ho0 (Kd.R_lt (rR HO141))) (Kd.R_lt (rR HO144))) (bz HB));have n3_:=am (Kd.R_lower ho1 (bz HB));have n4_:=bst HB hb;clear HO141;clear HO144;clear HB;have HO141:=n0_;have HO144:=n1_;have HO150:=n2_;have HO152:=n3_;have HB:=n4_;clear n0_ n1_ n2_ n3_ n4_;(try clear hb);(try clear hb2);(try clear hk);(try clear hi);(try clear ho0);(try clear ho1);have p153:0≤(0:Int):=(by omega);have q153:0 < (t142.length:Int):=od;obtain ⟨ad153,e153,hx153_0,hx153_1,hx153_2,hx153_3⟩:=at_T24 (Kd.R_reads' HO144.out).2.2 0 p153 q153;cases e153;have qi153:(0 < t142.length)=True:=eq_true (by omega);(try rw [show ((0:Int)).toNat=0 from rfl] at hx153_0);(try rw [show 0*4=0 from rfl] at hx153_0);(try rw [Addr.add_zero'] at hx153_0);(try rw [show ((0:Int)).toNat=0 from rfl] at hx153_1);(try rw [show 0*4=0 from rfl] at hx153_1);(try rw [Addr.add_zero'] at hx153_1);(try rw [show ((0:Int)).toNat=0 from rfl] at hx153_2);(try rw [show 0*4=0 from rfl] at hx153_2);(try rw [Addr.add_zero'] at hx153_2);(try rw [show ((0:Int)).toNat=0 from rfl] at hx153_3);(try rw [show 0*4=0 from rfl] at hx153_3);(try rw [Addr.add_zero'] at hx153_3);replace p153:=eq_true p153;replace q153:=eq_true q153;obtain ⟨Ao35,co35,eo35⟩:=Kd.R_slice HO150.out;subst eo35;have p154:0≤(1:Int):=(by omega);have q154:1 < (t146.length:Int):=od;obtain ⟨ad154,e154,hx154_0,hx154_1,hx154_2,hx154_3⟩:=at_T24 (Kd.R_reads' HO150.out).2.2 1 p154 q154;cases e154;(try simp only [show (1:Int).toNat=1 from rfl,Nat.reduceMul,Nat.reduceEqDiff,Go.Addr.add,↓reduceIte] at hx154_0);(try simp only [show (1:Int).toNat=1 from rfl,Nat.reduceMul,Nat.reduceEqDiff,Go.Addr.add,↓reduceIte] at hx154_1);(try simp only [show (1:Int).toNat=1 from rfl,Nat.reduceMul,Nat.reduceEqDiff,Go.Addr.add,↓reduceIte] at hx154_2);(try simp only [show (1:Int).toNat=1 from rfl,Nat.reduceMul,Nat.reduceEqDiff,Go.Addr.add,↓reduceIte] at hx154_3);have qi154:(1 < t146.length)=True:=eq_true (by omega);(try rw [show ((1:Int)).toNat=1 from rfl] at hx154_0);(try rw [show 1*4=4 from rfl] at hx154_0);(try rw [show ((1:Int)).toNat=1 from rfl] at hx154_1);(try rw [show 1*4=4 from rfl] at hx154_1);(try rw [show ((1:Int)).toNat=1 from rfl] at hx154_2);(try rw [show 1*4=4 from rfl] at hx154_2);(try rw [show ((1:Int)).toNat=1 from rfl] at hx154_3);(try rw [show 1*4=4 from rfl] at hx154_3);replace p154:=eq_true p154;replace q154:=eq_true q154))
         go_ret
         exact ⟨by first|rfl|(simp [errW_none,errW_some]<;>rfl)|(simp [*,errW_none,errW_some]<;>rfl),bb HB⟩
       ·rw [if_neg c9] at H
        exact absurd H (by simp)
      ·rw [if_neg c8] at H
       have c8b0:((t146.length:Int)==2)=false:=beq_eq_false_iff_ne.mpr c8
       have c8b1:((t146.length:Int) != 2)=true:=bne_iff_ne.mpr c8
       obtain rfl:=Option.some.inj H
       go_enter Try.func11,Try.ntmps11
       go_wp2_with (first|((with_reducible refine gate_dst (N:=8) rfl ?_);(try (refine gate_guard (by rfl) ?_;dsimp only));refine Kd.R_lit k24 _ 24 ?hg (N:=8) ?hd (xs:=([(⟨2,52,3,false⟩:S24)]:List (S24))) (inner:=[.int .i64 2,.int .i64 52,.int .i64 3,.bool false]) (ok:=fun _=>True) (okp:=fun _=>True) ?hr ?hp (fun _ hk=>hk) trivial (Below.refl _ _) (Nat.le_refl _) (by simp) ?_;(case hd=>rfl);(case hg=>rfl);(case hr=>first|(go_simp;done)|(go_simp;rfl));(case hp=>exact (Reps.c4 (show Kd.M k24 _ _ _ (⟨2,52,3,false⟩:S24) [.int .i64 2,.int .i64 52,.int .i64 3,.bool false] from (k24_mkM _ _ _ (⟨2,52,3,false⟩:S24) )) (Reps.none _ _)));intro v140 w36 ho37 hb hg_ hnew_;clear hg_ hnew_;(first|rw [← Ny139.out] at ho37|(simp only [Int.reduceToNat] at ho37;rw [← Ny139.out] at ho37));have n0_:=am (Kd.R_lower ho37 (bz HB));have n1_:=bst HB hb;clear HB;have HO141:=n0_;have HB:=n1_;clear n0_ n1_;clear hb ho37;obtain ⟨Ao38,co38,eo38⟩:=Kd.R_slice HO141.out;subst eo38)|((with_reducible refine gate_callee (f:=14) rfl ?_);refine goesL_ (some 10) rfl rfl Try.func14 (by kernel_rfl) rfl #[.slice Ao38 y139.length co38,.agg #[.int .i64 0,.int .i64 50,.int .i64 2,.bool false]] rfl (by (try simp only [List.map_toArray,List.map_cons,List.map_nil]);first|done|rfl|(simp only [List.length_drop,List.length_take];rfl)) ?_;(with_reducible refine (extent_Put.calls k _ _ y139 0 50 2 false t142 t145 _ ?side1 ?side2 A1.out).mono ?_);(case side1=>exact cc (Kd.R_reads' HO141.out).2.2);(case side2=>exact (Kd.R_reads' HO141.out).2.1);rintro e w39 ⟨v143,rfl,ho0,hb⟩;refine ⟨_,rfl,?_⟩;have n0_:=am (Kd.R_elder' (rR HO141) (Kd.R_base ho0) hb);have n1_:=am (Kd.R_lower (Kd.R_new' ho0 (Kd.R_lt (rR HO141))) (bz HB));have n2_:=bst HB hb;clear HO141;clear HB;have HO141:=n0_;have HO144:=n1_;have HB:=n2_;clear n0_ n1_ n2_;(try clear hb);(try clear hb2);(try clear hk);(try clear hi);(try clear ho0);obtain ⟨Ao40,co40,eo40⟩:=Kd.R_slice HO144.out;subst eo40)|((with_reducible refine gate_callee (f:=13) rfl ?_);refine goesL_ (some 15) rfl rfl Try.func13 (by kernel_rfl) rfl #[.slice Ao40 t142.length co40,.int .i64 1,.int .i64 3] rfl (by (try simp only [List.map_toArray,List.map_cons,List.map_nil]);first|done|rfl|(simp only [List.length_drop,List.length_take];rfl)) ?_;(with_reducible refine (extent_Cut.calls k _ _ t142 1 3 t146 t147 t148 _ ?side1 ?side2 A2.out).mono ?_);(case side1=>exact cc (Kd.R_reads' HO144.out).2.2);(case side2=>exact (Kd.R_reads' HO144.out).2.1);rintro e w41 ⟨v149,v151,rfl,ho0,ho1,hb⟩;refine ⟨_,rfl,?_⟩;have n0_:=am (Kd.R_elder' (rR HO141) (Kd.R_base ho0) hb);have n1_:=am (Kd.R_elder' (rR HO144) (Kd.R_base ho0) hb);have n2_:=am (Kd.R_lower (Kd.R_new' (Kd.R_new' ho0 (Kd.R_lt (rR HO141))) (Kd.R_lt (rR HO144))) (bz HB));have n3_:=am (Kd.R_lower ho1 (bz HB));have n4_:=bst HB hb;clear HO141;clear HO144;clear HB;have HO141:=n0_;have HO144:=n1_;have HO150:=n2_;have HO152:=n3_;have HB:=n4_;clear n0_ n1_ n2_ n3_ n4_;(try clear hb);(try clear hb2);(try clear hk);(try clear hi);(try clear ho0);(try clear ho1);have p153:0≤(0:Int):=(by omega);have q153:0 < (t142.length:Int):=od;obtain ⟨ad153,e153,hx153_0,hx153_1,hx153_2,hx153_3⟩:=at_T24 (Kd.R_reads' HO144.out).2.2 0 p153 q153;cases e153;have qi153:(0 < t142.length)=True:=eq_true (by omega);(try rw [show ((0:Int)).toNat=0 from rfl] at hx153_0);(try rw [show 0*4=0 from rfl] at hx153_0);(try rw [Addr.add_zero'] at hx153_0);(try rw [show ((0:Int)).toNat=0 from rfl] at hx153_1);(try rw [show 0*4=0 from rfl] at hx153_1);(try rw [Addr.add_zero'] at hx153_1);(try rw [show ((0:Int)).toNat=0 from rfl] at hx153_2);(try rw [show 0*4=0 from rfl] at hx153_2);(try rw [Addr.add_zero'] at hx153_2);(try rw [show ((0:Int)).toNat=0 from rfl] at hx153_3);(try rw [show 0*4=0 from rfl] at hx153_3);(try rw [Addr.add_zero'] at hx153_3);replace p153:=eq_true p153;replace q153:=eq_true q153;obtain ⟨Ao42,co42,eo42⟩:=Kd.R_slice HO150.out;subst eo42))
       go_ret
       exact ⟨by first|rfl|(simp [errW_none,errW_some]<;>rfl)|(simp [*,errW_none,errW_some]<;>rfl),bb HB⟩
     ·rw [if_neg c7] at H
      have c7b0:(t148==0)=false:=beq_eq_false_iff_ne.mpr c7
      have c7b1:(t148 != 0)=true:=bne_iff_ne.mpr c7
      obtain rfl:=Option.some.inj H
      go_enter Try.func11,Try.ntmps11
      go_wp2_with (first|((with_reducible refine gate_dst (N:=8) rfl ?_);(try (refine gate_guard (by rfl) ?_;dsimp only));refine Kd.R_lit k24 _ 24 ?hg (N:=8) ?hd (xs:=([(⟨2,52,3,false⟩:S24)]:List (S24))) (inner:=[.int .i64 2,.int .i64 52,.int .i64 3,.bool false]) (ok:=fun _=>True) (okp:=fun _=>True) ?hr ?hp (fun _ hk=>hk) trivial (Below.refl _ _) (Nat.le_refl _) (by simp) ?_;(case hd=>rfl);(case hg=>rfl);(case hr=>first|(go_simp;done)|(go_simp;rfl));(case hp=>exact (Reps.c4 (show Kd.M k24 _ _ _ (⟨2,52,3,false⟩:S24) [.int .i64 2,.int .i64 52,.int .i64 3,.bool false] from (k24_mkM _ _ _ (⟨2,52,3,false⟩:S24) )) (Reps.none _ _)));intro v140 w43 ho44 hb hg_ hnew_;clear hg_ hnew_;(first|rw [← Ny139.out] at ho44|(simp only [Int.reduceToNat] at ho44;rw [← Ny139.out] at ho44));have n0_:=am (Kd.R_lower ho44 (bz HB));have n1_:=bst HB hb;clear HB;have HO141:=n0_;have HB:=n1_;clear n0_ n1_;clear hb ho44;obtain ⟨Ao45,co45,eo45⟩:=Kd.R_slice HO141.out;subst eo45)|((with_reducible refine gate_callee (f:=14) rfl ?_);refine goesL_ (some 10) rfl rfl Try.func14 (by kernel_rfl) rfl #[.slice Ao45 y139.length co45,.agg #[.int .i64 0,.int .i64 50,.int .i64 2,.bool false]] rfl (by (try simp only [List.map_toArray,List.map_cons,List.map_nil]);first|done|rfl|(simp only [List.length_drop,List.length_take];rfl)) ?_;(with_reducible refine (extent_Put.calls k _ _ y139 0 50 2 false t142 t145 _ ?side1 ?side2 A1.out).mono ?_);(case side1=>exact cc (Kd.R_reads' HO141.out).2.2);(case side2=>exact (Kd.R_reads' HO141.out).2.1);rintro e w46 ⟨v143,rfl,ho0,hb⟩;refine ⟨_,rfl,?_⟩;have n0_:=am (Kd.R_elder' (rR HO141) (Kd.R_base ho0) hb);have n1_:=am (Kd.R_lower (Kd.R_new' ho0 (Kd.R_lt (rR HO141))) (bz HB));have n2_:=bst HB hb;clear HO141;clear HB;have HO141:=n0_;have HO144:=n1_;have HB:=n2_;clear n0_ n1_ n2_;(try clear hb);(try clear hb2);(try clear hk);(try clear hi);(try clear ho0);obtain ⟨Ao47,co47,eo47⟩:=Kd.R_slice HO144.out;subst eo47)|((with_reducible refine gate_callee (f:=13) rfl ?_);refine goesL_ (some 15) rfl rfl Try.func13 (by kernel_rfl) rfl #[.slice Ao47 t142.length co47,.int .i64 1,.int .i64 3] rfl (by (try simp only [List.map_toArray,List.map_cons,List.map_nil]);first|done|rfl|(simp only [List.length_drop,List.length_take];rfl)) ?_;(with_reducible refine (extent_Cut.calls k _ _ t142 1 3 t146 t147 t148 _ ?side1 ?side2 A2.out).mono ?_);(case side1=>exact cc (Kd.R_reads' HO144.out).2.2);(case side2=>exact (Kd.R_reads' HO144.out).2.1);rintro e w48 ⟨v149,v151,rfl,ho0,ho1,hb⟩;refine ⟨_,rfl,?_⟩;have n0_:=am (Kd.R_elder' (rR HO141) (Kd.R_base ho0) hb);have n1_:=am (Kd.R_elder' (rR HO144) (Kd.R_base ho0) hb);have n2_:=am (Kd.R_lower (Kd.R_new' (Kd.R_new' ho0 (Kd.R_lt (rR HO141))) (Kd.R_lt (rR HO144))) (bz HB));have n3_:=am (Kd.R_lower ho1 (bz HB));have n4_:=bst HB hb;clear HO141;clear HO144;clear HB;have HO141:=n0_;have HO144:=n1_;have HO150:=n2_;have HO152:=n3_;have HB:=n4_;clear n0_ n1_ n2_ n3_ n4_;(try clear hb);(try clear hb2);(try clear hk);(try clear hi);(try clear ho0);(try clear ho1);have p153:0≤(0:Int):=(by omega);have q153:0 < (t142.length:Int):=od;obtain ⟨ad153,e153,hx153_0,hx153_1,hx153_2,hx153_3⟩:=at_T24 (Kd.R_reads' HO144.out).2.2 0 p153 q153;cases e153;have qi153:(0 < t142.length)=True:=eq_true (by omega);(try rw [show ((0:Int)).toNat=0 from rfl] at hx153_0);(try rw [show 0*4=0 from rfl] at hx153_0);(try rw [Addr.add_zero'] at hx153_0);(try rw [show ((0:Int)).toNat=0 from rfl] at hx153_1);(try rw [show 0*4=0 from rfl] at hx153_1);(try rw [Addr.add_zero'] at hx153_1);(try rw [show ((0:Int)).toNat=0 from rfl] at hx153_2);(try rw [show 0*4=0 from rfl] at hx153_2);(try rw [Addr.add_zero'] at hx153_2);(try rw [show ((0:Int)).toNat=0 from rfl] at hx153_3);(try rw [show 0*4=0 from rfl] at hx153_3);(try rw [Addr.add_zero'] at hx153_3);replace p153:=eq_true p153;replace q153:=eq_true q153))
      go_ret
      exact ⟨by first|rfl|(simp [errW_none,errW_some]<;>rfl)|(simp [*,errW_none,errW_some]<;>rfl),bb HB⟩
    ·rw [if_neg c6] at H
     have c6b0:(((rd_T24 t142 0).f0)==0&&(((rd_T24 t142 0).f1)==50&&(((rd_T24 t142 0).f2)==5&&(!((rd_T24 t142 0).f3)))))=false:=by simpa using c6
     (try (have c6b1:decide (((rd_T24 t142 0).f0)=0&&(((rd_T24 t142 0).f1)==50&&(((rd_T24 t142 0).f2)==5&&(!((rd_T24 t142 0).f3)))))=false:=by simpa using c6))
     (try (have c6b2:(((rd_T24 t142 0).f0)==0&&(((rd_T24 t142 0).f1)==50&&(((rd_T24 t142 0).f2)==5&&(!((rd_T24 t142 0).f3)))))=false:=by simpa using c6))
     (try (have c6b3:¬ (((rd_T24 t142 0).f0)=0&&(((rd_T24 t142 0).f1)==50&&(((rd_T24 t142 0).f2)==5&&(!((rd_T24 t142 0).f3))))):=by simpa using c6))
     clear c6;obtain rfl:=Option.some.inj H
     go_enter Try.func11,Try.ntmps11
     go_wp2_with (first|((with_reducible refine gate_dst (N:=8) rfl ?_);(try (refine gate_guard (by rfl) ?_;dsimp only));refine Kd.R_lit k24 _ 24 ?hg (N:=8) ?hd (xs:=([(⟨2,52,3,false⟩:S24)]:List (S24))) (inner:=[.int .i64 2,.int .i64 52,.int .i64 3,.bool false]) (ok:=fun _=>True) (okp:=fun _=>True) ?hr ?hp (fun _ hk=>hk) trivial (Below.refl _ _) (Nat.le_refl _) (by simp) ?_;(case hd=>rfl);(case hg=>rfl);(case hr=>first|(go_simp;done)|(go_simp;rfl));(case hp=>exact (Reps.c4 (show Kd.M k24 _ _ _ (⟨2,52,3,false⟩:S24) [.int .i64 2,.int .i64 52,.int .i64 3,.bool false] from (k24_mkM _ _ _ (⟨2,52,3,false⟩:S24) )) (Reps.none _ _)));intro v140 w49 ho50 hb hg_ hnew_;clear hg_ hnew_;(first|rw [← Ny139.out] at ho50|(simp only [Int.reduceToNat] at ho50;rw [← Ny139.out] at ho50));have n0_:=am (Kd.R_lower ho50 (bz HB));have n1_:=bst HB hb;clear HB;have HO141:=n0_;have HB:=n1_;clear n0_ n1_;clear hb ho50;obtain ⟨Ao51,co51,eo51⟩:=Kd.R_slice HO141.out;subst eo51)|((with_reducible refine gate_callee (f:=14) rfl ?_);refine goesL_ (some 10) rfl rfl Try.func14 (by kernel_rfl) rfl #[.slice Ao51 y139.length co51,.agg #[.int .i64 0,.int .i64 50,.int .i64 2,.bool false]] rfl (by (try simp only [List.map_toArray,List.map_cons,List.map_nil]);first|done|rfl|(simp only [List.length_drop,List.length_take];rfl)) ?_;(with_reducible refine (extent_Put.calls k _ _ y139 0 50 2 false t142 t145 _ ?side1 ?side2 A1.out).mono ?_);(case side1=>exact cc (Kd.R_reads' HO141.out).2.2);(case side2=>exact (Kd.R_reads' HO141.out).2.1);rintro e w52 ⟨v143,rfl,ho0,hb⟩;refine ⟨_,rfl,?_⟩;have n0_:=am (Kd.R_elder' (rR HO141) (Kd.R_base ho0) hb);have n1_:=am (Kd.R_lower (Kd.R_new' ho0 (Kd.R_lt (rR HO141))) (bz HB));have n2_:=bst HB hb;clear HO141;clear HB;have HO141:=n0_;have HO144:=n1_;have HB:=n2_;clear n0_ n1_ n2_;(try clear hb);(try clear hb2);(try clear hk);(try clear hi);(try clear ho0);obtain ⟨Ao53,co53,eo53⟩:=Kd.R_slice HO144.out;subst eo53)|((with_reducible refine gate_callee (f:=13) rfl ?_);refine goesL_ (some 15) rfl rfl Try.func13 (by kernel_rfl) rfl #[.slice Ao53 t142.length co53,.int .i64 1,.int .i64 3] rfl (by (try simp only [List.map_toArray,List.map_cons,List.map_nil]);first|done|rfl|(simp only [List.length_drop,List.length_take];rfl)) ?_;(with_reducible refine (extent_Cut.calls k _ _ t142 1 3 t146 t147 t148 _ ?side1 ?side2 A2.out).mono ?_);(case side1=>exact cc (Kd.R_reads' HO144.out).2.2);(case side2=>exact (Kd.R_reads' HO144.out).2.1);rintro e w54 ⟨v149,v151,rfl,ho0,ho1,hb⟩;refine ⟨_,rfl,?_⟩;have n0_:=am (Kd.R_elder' (rR HO141) (Kd.R_base ho0) hb);have n1_:=am (Kd.R_elder' (rR HO144) (Kd.R_base ho0) hb);have n2_:=am (Kd.R_lower (Kd.R_new' (Kd.R_new' ho0 (Kd.R_lt (rR HO141))) (Kd.R_lt (rR HO144))) (bz HB));have n3_:=am (Kd.R_lower ho1 (bz HB));have n4_:=bst HB hb;clear HO141;clear HO144;clear HB;have HO141:=n0_;have HO144:=n1_;have HO150:=n2_;have HO152:=n3_;have HB:=n4_;clear n0_ n1_ n2_ n3_ n4_;(try clear hb);(try clear hb2);(try clear hk);(try clear hi);(try clear ho0);(try clear ho1);have p153:0≤(0:Int):=(by omega);have q153:0 < (t142.length:Int):=od;obtain ⟨ad153,e153,hx153_0,hx153_1,hx153_2,hx153_3⟩:=at_T24 (Kd.R_reads' HO144.out).2.2 0 p153 q153;cases e153;have qi153:(0 < t142.length)=True:=eq_true (by omega);(try rw [show ((0:Int)).toNat=0 from rfl] at hx153_0);(try rw [show 0*4=0 from rfl] at hx153_0);(try rw [Addr.add_zero'] at hx153_0);(try rw [show ((0:Int)).toNat=0 from rfl] at hx153_1);(try rw [show 0*4=0 from rfl] at hx153_1);(try rw [Addr.add_zero'] at hx153_1);(try rw [show ((0:Int)).toNat=0 from rfl] at hx153_2);(try rw [show 0*4=0 from rfl] at hx153_2);(try rw [Addr.add_zero'] at hx153_2);(try rw [show ((0:Int)).toNat=0 from rfl] at hx153_3);(try rw [show 0*4=0 from rfl] at hx153_3);(try rw [Addr.add_zero'] at hx153_3);replace p153:=eq_true p153;replace q153:=eq_true q153))
     go_ret
     exact ⟨by first|rfl|(simp [errW_none,errW_some]<;>rfl)|(simp [*,errW_none,errW_some]<;>rfl),bb HB⟩
   ·rw [if_neg c5] at H
    exact absurd H (by simp)
  ·rw [if_neg c4] at H
   have c4b0:((t142.length:Int)==1)=false:=beq_eq_false_iff_ne.mpr c4
   have c4b1:((t142.length:Int) != 1)=true:=bne_iff_ne.mpr c4
   obtain rfl:=Option.some.inj H
   go_enter Try.func11,Try.ntmps11
   go_wp2_with (first|((with_reducible refine gate_dst (N:=8) rfl ?_);(try (refine gate_guard (by rfl) ?_;dsimp only));refine Kd.R_lit k24 _ 24 ?hg (N:=8) ?hd (xs:=([(⟨2,52,3,false⟩:S24)]:List (S24))) (inner:=[.int .i64 2,.int .i64 52,.int .i64 3,.bool false]) (ok:=fun _=>True) (okp:=fun _=>True) ?hr ?hp (fun _ hk=>hk) trivial (Below.refl _ _) (Nat.le_refl _) (by simp) ?_;(case hd=>rfl);(case hg=>rfl);(case hr=>first|(go_simp;done)|(go_simp;rfl));(case hp=>exact (Reps.c4 (show Kd.M k24 _ _ _ (⟨2,52,3,false⟩:S24) [.int .i64 2,.int .i64 52,.int .i64 3,.bool false] from (k24_mkM _ _ _ (⟨2,52,3,false⟩:S24) )) (Reps.none _ _)));intro v140 w55 ho56 hb hg_ hnew_;clear hg_ hnew_;(first|rw [← Ny139.out] at ho56|(simp only [Int.reduceToNat] at ho56;rw [← Ny139.out] at ho56));have n0_:=am (Kd.R_lower ho56 (bz HB));have n1_:=bst HB hb;clear HB;have HO141:=n0_;have HB:=n1_;clear n0_ n1_;clear hb ho56;obtain ⟨Ao57,co57,eo57⟩:=Kd.R_slice HO141.out;subst eo57)|((with_reducible refine gate_callee (f:=14) rfl ?_);refine goesL_ (some 10) rfl rfl Try.func14 (by kernel_rfl) rfl #[.slice Ao57 y139.length co57,.agg #[.int .i64 0,.int .i64 50,.int .i64 2,.bool false]] rfl (by (try simp only [List.map_toArray,List.map_cons,List.map_nil]);first|done|rfl|(simp only [List.length_drop,List.length_take];rfl)) ?_;(with_reducible refine (extent_Put.calls k _ _ y139 0 50 2 false t142 t145 _ ?side1 ?side2 A1.out).mono ?_);(case side1=>exact cc (Kd.R_reads' HO141.out).2.2);(case side2=>exact (Kd.R_reads' HO141.out).2.1);rintro e w58 ⟨v143,rfl,ho0,hb⟩;refine ⟨_,rfl,?_⟩;have n0_:=am (Kd.R_elder' (rR HO141) (Kd.R_base ho0) hb);have n1_:=am (Kd.R_lower (Kd.R_new' ho0 (Kd.R_lt (rR HO141))) (bz HB));have n2_:=bst HB hb;clear HO141;clear HB;have HO141:=n0_;have HO144:=n1_;have HB:=n2_;clear n0_ n1_ n2_;(try clear hb);(try clear hb2);(try clear hk);(try clear hi);(try clear ho0);obtain ⟨Ao59,co59,eo59⟩:=Kd.R_slice HO144.out;subst eo59)|((with_reducible refine gate_callee (f:=13) rfl ?_);refine goesL_ (some 15) rfl rfl Try.func13 (by kernel_rfl) rfl #[.slice Ao59 t142.length co59,.int .i64 1,.int .i64 3] rfl (by (try simp only [List.map_toArray,List.map_cons,List.map_nil]);first|done|rfl|(simp only [List.length_drop,List.length_take];rfl)) ?_;(with_reducible refine (extent_Cut.calls k _ _ t142 1 3 t146 t147 t148 _ ?side1 ?side2 A2.out).mono ?_);(case side1=>exact cc (Kd.R_reads' HO144.out).2.2);(case side2=>exact (Kd.R_reads' HO144.out).2.1);rintro e w60 ⟨v149,v151,rfl,ho0,ho1,hb⟩;refine ⟨_,rfl,?_⟩;have n0_:=am (Kd.R_elder' (rR HO141) (Kd.R_base ho0) hb);have n1_:=am (Kd.R_elder' (rR HO144) (Kd.R_base ho0) hb);have n2_:=am (Kd.R_lower (Kd.R_new' (Kd.R_new' ho0 (Kd.R_lt (rR HO141))) (Kd.R_lt (rR HO144))) (bz HB));have n3_:=am (Kd.R_lower ho1 (bz HB));have n4_:=bst HB hb;clear HO141;clear HO144;clear HB;have HO141:=n0_;have HO144:=n1_;have HO150:=n2_;have HO152:=n3_;have HB:=n4_;clear n0_ n1_ n2_ n3_ n4_;(try clear hb);(try clear hb2);(try clear hk);(try clear hi);(try clear ho0);(try clear ho1)))
   go_ret
   exact ⟨by first|rfl|(simp [errW_none,errW_some]<;>rfl)|(simp [*,errW_none,errW_some]<;>rfl),bb HB⟩
 ·rw [if_neg c3] at H
  have c3b0:(t145==0)=false:=beq_eq_false_iff_ne.mpr c3
  have c3b1:(t145 != 0)=true:=bne_iff_ne.mpr c3
  obtain rfl:=Option.some.inj H
  go_enter Try.func11,Try.ntmps11
  go_wp2_with (first|((with_reducible refine gate_dst (N:=8) rfl ?_);(try (refine gate_guard (by rfl) ?_;dsimp only));refine Kd.R_lit k24 _ 24 ?hg (N:=8) ?hd (xs:=([(⟨2,52,3,false⟩:S24)]:List (S24))) (inner:=[.int .i64 2,.int .i64 52,.int .i64 3,.bool false]) (ok:=fun _=>True) (okp:=fun _=>True) ?hr ?hp (fun _ hk=>hk) trivial (Below.refl _ _) (Nat.le_refl _) (by simp) ?_;(case hd=>rfl);(case hg=>rfl);(case hr=>first|(go_simp;done)|(go_simp;rfl));(case hp=>exact (Reps.c4 (show Kd.M k24 _ _ _ (⟨2,52,3,false⟩:S24) [.int .i64 2,.int .i64 52,.int .i64 3,.bool false] from (k24_mkM _ _ _ (⟨2,52,3,false⟩:S24) )) (Reps.none _ _)));intro v140 w61 ho62 hb hg_ hnew_;clear hg_ hnew_;(first|rw [← Ny139.out] at ho62|(simp only [Int.reduceToNat] at ho62;rw [← Ny139.out] at ho62));have n0_:=am (Kd.R_lower ho62 (bz HB));have n1_:=bst HB hb;clear HB;have HO141:=n0_;have HB:=n1_;clear n0_ n1_;clear hb ho62;obtain ⟨Ao63,co63,eo63⟩:=Kd.R_slice HO141.out;subst eo63)|((with_reducible refine gate_callee (f:=14) rfl ?_);refine goesL_ (some 10) rfl rfl Try.func14 (by kernel_rfl) rfl #[.slice Ao63 y139.length co63,.agg #[.int .i64 0,.int .i64 50,.int .i64 2,.bool false]] rfl (by (try simp only [List.map_toArray,List.map_cons,List.map_nil]);first|done|rfl|(simp only [List.length_drop,List.length_take];rfl)) ?_;(with_reducible refine (extent_Put.calls k _ _ y139 0 50 2 false t142 t145 _ ?side1 ?side2 A1.out).mono ?_);(case side1=>exact cc (Kd.R_reads' HO141.out).2.2);(case side2=>exact (Kd.R_reads' HO141.out).2.1);rintro e w64 ⟨v143,rfl,ho0,hb⟩;refine ⟨_,rfl,?_⟩;have n0_:=am (Kd.R_elder' (rR HO141) (Kd.R_base ho0) hb);have n1_:=am (Kd.R_lower (Kd.R_new' ho0 (Kd.R_lt (rR HO141))) (bz HB));have n2_:=bst HB hb;clear HO141;clear HB;have HO141:=n0_;have HO144:=n1_;have HB:=n2_;clear n0_ n1_ n2_;(try clear hb);(try clear hb2);(try clear hk);(try clear hi);(try clear ho0);obtain ⟨Ao65,co65,eo65⟩:=Kd.R_slice HO144.out;subst eo65)|((with_reducible refine gate_callee (f:=13) rfl ?_);refine goesL_ (some 15) rfl rfl Try.func13 (by kernel_rfl) rfl #[.slice Ao65 t142.length co65,.int .i64 1,.int .i64 3] rfl (by (try simp only [List.map_toArray,List.map_cons,List.map_nil]);first|done|rfl|(simp only [List.length_drop,List.length_take];rfl)) ?_;(with_reducible refine (extent_Cut.calls k _ _ t142 1 3 t146 t147 t148 _ ?side1 ?side2 A2.out).mono ?_);(case side1=>exact cc (Kd.R_reads' HO144.out).2.2);(case side2=>exact (Kd.R_reads' HO144.out).2.1);rintro e w66 ⟨v149,v151,rfl,ho0,ho1,hb⟩;refine ⟨_,rfl,?_⟩;have n0_:=am (Kd.R_elder' (rR HO141) (Kd.R_base ho0) hb);have n1_:=am (Kd.R_elder' (rR HO144) (Kd.R_base ho0) hb);have n2_:=am (Kd.R_lower (Kd.R_new' (Kd.R_new' ho0 (Kd.R_lt (rR HO141))) (Kd.R_lt (rR HO144))) (bz HB));have n3_:=am (Kd.R_lower ho1 (bz HB));have n4_:=bst HB hb;clear HO141;clear HO144;clear HB;have HO141:=n0_;have HO144:=n1_;have HO150:=n2_;have HO152:=n3_;have HB:=n4_;clear n0_ n1_ n2_ n3_ n4_;(try clear hb);(try clear hb2);(try clear hk);(try clear hi);(try clear ho0);(try clear ho1)))
  go_ret
  exact ⟨by first|rfl|(simp [errW_none,errW_some]<;>rfl)|(simp [*,errW_none,errW_some]<;>rfl),bb HB⟩
end Go.Proofs.Ytopmjjnkolfciaa.Pr
end
section
namespace Go.Proofs.Ytopmjjnkolfciaa.Pr
open Go.RowKit Go.Proofs.YtopmjjnkolfciaaW.PrintWords Go.Proofs.YtopmjjnkolfciaaW.PrintLast Go.Proofs.YtopmjjnkolfciaaW.PrintMore
set_option linter.unusedVariables false
set_option linter.unusedSimpArgs false
theorem alive_ev : Ev (fun k => l_10_alive.f k) true := by
  unfold l_10_alive.f
  have h1 : putX [(⟨2, 52, 3, false⟩ : EX)] ⟨0, 50, 2, false⟩ = ([⟨0, 50, 5, false⟩], 0) := by kernel_rfl
  have h2 : cutX [(⟨0, 50, 5, false⟩ : EX)] 1 3 = ([⟨0, 50, 1, false⟩, ⟨3, 53, 2, false⟩], [⟨51, 2⟩], 0) := by kernel_rfl
  have hp := put_ev [(⟨2, 52, 3, false⟩ : EX)] ⟨0, 50, 2, false⟩
  rw [h1] at hp
  have hc := cut_ev [(⟨0, 50, 5, false⟩ : EX)] 1 3
  rw [h2] at hc
  refine Ev.bind hp ?_
  refine Ev.bind hc ?_
  exact Ev.now _
end Go.Proofs.Ytopmjjnkolfciaa.Pr
end
section
namespace Go.Proofs.Ytopmjjnkolfciaa.Pr
open Go.RowKit Go.Proofs.YtopmjjnkolfciaaW.PrintWords Go.Proofs.YtopmjjnkolfciaaW.PrintLast Go.Proofs.YtopmjjnkolfciaaW.PrintMore
attribute [local go_sem] max2_int min2_int max_two min_two max_three min_three max_four min_four
attribute [local go_sem] Go.Proofs.Ytopmjjnkolfciaa.Hl.str_geq Go.Proofs.Ytopmjjnkolfciaa.Hl.str_gtr Go.Proofs.Ytopmjjnkolfciaa.Hl.str_leq
set_option linter.unusedVariables false
set_option linter.unusedSimpArgs false
def l_10_ExtentReads.f (k:Nat) (l0:List Int) (l1:List (List Int)):Option (Bool):=(l_10_alive.f k).bind fun t618=>(if t618=true then ((some (([]:List Int):List Int)).bind fun y619=>(if y619.length+l0.length < 140737488355328 then ((extent_Root.f k (y619++l0)).bind fun bt625=>((r_10_Root.f k l0).bind fun bt632=>((extent_Join.f k l1).bind fun bt639=>((r_10_Join.f k l1).bind fun bt643=>(if bt625.2.2=bt632.2.2 then ((r_10_Same.f k bt625.1 bt632.1).bind fun t647=>(if t647=true then ((r_03_SameInts.f k bt625.2.1 bt632.2.1).bind fun t648=>(if t648=true then (if bt639.2=bt643.2 then ((r_10_Same.f k bt639.1 bt643.1).bind fun t649=>(some t649)) else (some false)) else (some false))) else (some false))) else (some false)))))) else (none))) else (some false))
set_option maxHeartbeats 8000000 in
set_option maxRecDepth 100000 in
theorem l_10_ExtentReads.calls (k:Nat) (A0:Option Addr) (c0:Nat) (l0:List Int) (A1:Option Addr) (c1:Nat) (l1:List (List Int)) (r:Bool) (w:World) (hr0:Kd.C (Kd.int .u8) w A0 l0.length l0) (hc0:l0.length≤c0) (hr1:Kd.C (Kd.slice 5 (Kd.int .u8)) w A1 l1.length l1) (hc1:l1.length≤c1) (h:l_10_ExtentReads.f k l0 l1=some r) :
  Calls Try.prog 10 #[.slice A0 l0.length c0,.slice A1 l1.length c1] w fun e w'=>e=.returned (.bool r)∧Below w.heap.size w w':=by
 have HR0:=am hr0
 have HC0:=am hc0
 clear hr0 hc0
 have HR1:=am hr1
 have HC1:=am hc1
 clear hr1 hc1
 have HB:=am (Below.refl w.heap.size w)
 have H:((l_10_alive.f k).bind fun t618=>(if t618=true then ((some (([]:List Int):List Int)).bind fun y619=>(if y619.length+l0.length < 140737488355328 then ((extent_Root.f k (y619++l0)).bind fun bt625=>((r_10_Root.f k l0).bind fun bt632=>((extent_Join.f k l1).bind fun bt639=>((r_10_Join.f k l1).bind fun bt643=>(if bt625.2.2=bt632.2.2 then ((r_10_Same.f k bt625.1 bt632.1).bind fun t647=>(if t647=true then ((r_03_SameInts.f k bt625.2.1 bt632.2.1).bind fun t648=>(if t648=true then (if bt639.2=bt643.2 then ((r_10_Same.f k bt639.1 bt643.1).bind fun t649=>(some t649)) else (some false)) else (some false))) else (some false))) else (some false)))))) else (none))) else (some false)))=some r:=h
 clear h
 replace H:=Option.bind_eq_some_iff.mp H
 obtain ⟨t618,A30,H⟩:=H
 replace H:(if t618=true then ((some (([]:List Int):List Int)).bind fun y619=>(if y619.length+l0.length < 140737488355328 then ((extent_Root.f k (y619++l0)).bind fun bt625=>((r_10_Root.f k l0).bind fun bt632=>((extent_Join.f k l1).bind fun bt639=>((r_10_Join.f k l1).bind fun bt643=>(if bt625.2.2=bt632.2.2 then ((r_10_Same.f k bt625.1 bt632.1).bind fun t647=>(if t647=true then ((r_03_SameInts.f k bt625.2.1 bt632.2.1).bind fun t648=>(if t648=true then (if bt639.2=bt643.2 then ((r_10_Same.f k bt639.1 bt643.1).bind fun t649=>(some t649)) else (some false)) else (some false))) else (some false))) else (some false)))))) else (none))) else (some false))=some r:=H
 have A3:=am A30
 clear A30
 by_cases c4:t618=true
 ·subst c4
  have H1:((some (([]:List Int):List Int)).bind fun y619=>(if y619.length+l0.length < 140737488355328 then ((extent_Root.f k (y619++l0)).bind fun bt625=>((r_10_Root.f k l0).bind fun bt632=>((extent_Join.f k l1).bind fun bt639=>((r_10_Join.f k l1).bind fun bt643=>(if bt625.2.2=bt632.2.2 then ((r_10_Same.f k bt625.1 bt632.1).bind fun t647=>(if t647=true then ((r_03_SameInts.f k bt625.2.1 bt632.2.1).bind fun t648=>(if t648=true then (if bt639.2=bt643.2 then ((r_10_Same.f k bt639.1 bt643.1).bind fun t649=>(some t649)) else (some false)) else (some false))) else (some false))) else (some false)))))) else (none)))=some r:=by rw [if_pos rfl] at H;exact H
  clear H;have H:=H1;clear H1
  obtain ⟨y619,hy619⟩:∃ y_:List Int,y_=(([]:List Int)):=⟨_,rfl⟩
  replace H:(if y619.length+l0.length < 140737488355328 then ((extent_Root.f k (y619++l0)).bind fun bt625=>((r_10_Root.f k l0).bind fun bt632=>((extent_Join.f k l1).bind fun bt639=>((r_10_Join.f k l1).bind fun bt643=>(if bt625.2.2=bt632.2.2 then ((r_10_Same.f k bt625.1 bt632.1).bind fun t647=>(if t647=true then ((r_03_SameInts.f k bt625.2.1 bt632.2.1).bind fun t648=>(if t648=true then (if bt639.2=bt643.2 then ((r_10_Same.f k bt639.1 bt643.1).bind fun t649=>(some t649)) else (some false)) else (some false))) else (some false))) else (some false)))))) else (none))=some r:=by first|(rw [hy619];with_reducible exact H)|(have H2_:=(Option.bind_some _ _).symm.trans H;rw [hy619];with_reducible exact H2_)|(have H2_:=(Option.bind_some _ _).symm.trans H;with_reducible exact H2_)|with_reducible exact H|(rw [hy619];exact H)|exact H
  have Ny619:=am hy619
  clear hy619
  by_cases c5:y619.length+l0.length < 140737488355328
  ·rw [if_pos c5] at H
   have LMc5:=am c5
   clear c5
   obtain ⟨y622,hy622⟩:∃ y_:List Int,y_=(y619++l0):=⟨_,rfl⟩
   replace H:((extent_Root.f k y622).bind fun bt625=>((r_10_Root.f k l0).bind fun bt632=>((extent_Join.f k l1).bind fun bt639=>((r_10_Join.f k l1).bind fun bt643=>(if bt625.2.2=bt632.2.2 then ((r_10_Same.f k bt625.1 bt632.1).bind fun t647=>(if t647=true then ((r_03_SameInts.f k bt625.2.1 bt632.2.1).bind fun t648=>(if t648=true then (if bt639.2=bt643.2 then ((r_10_Same.f k bt639.1 bt643.1).bind fun t649=>(some t649)) else (some false)) else (some false))) else (some false))) else (some false))))))=some r:=by first|(rw [hy622];with_reducible exact H)|(have H2_:=(Option.bind_some _ _).symm.trans H;rw [hy622];with_reducible exact H2_)|(have H2_:=(Option.bind_some _ _).symm.trans H;with_reducible exact H2_)|with_reducible exact H|(rw [hy622];exact H)|exact H
   have Ny622:=am hy622
   clear hy622
   replace H:=Option.bind_eq_some_iff.mp H
   obtain ⟨⟨t625,t626,t627⟩,A60,H⟩:=H
   replace H:((r_10_Root.f k l0).bind fun bt632=>((extent_Join.f k l1).bind fun bt639=>((r_10_Join.f k l1).bind fun bt643=>(if t627=bt632.2.2 then ((r_10_Same.f k t625 bt632.1).bind fun t647=>(if t647=true then ((r_03_SameInts.f k t626 bt632.2.1).bind fun t648=>(if t648=true then (if bt639.2=bt643.2 then ((r_10_Same.f k bt639.1 bt643.1).bind fun t649=>(some t649)) else (some false)) else (some false))) else (some false))) else (some false)))))=some r:=H
   have A6:=am A60
   clear A60
   replace H:=Option.bind_eq_some_iff.mp H
   obtain ⟨⟨t632,t633,t634⟩,A70,H⟩:=H
   replace H:((extent_Join.f k l1).bind fun bt639=>((r_10_Join.f k l1).bind fun bt643=>(if t627=t634 then ((r_10_Same.f k t625 t632).bind fun t647=>(if t647=true then ((r_03_SameInts.f k t626 t633).bind fun t648=>(if t648=true then (if bt639.2=bt643.2 then ((r_10_Same.f k bt639.1 bt643.1).bind fun t649=>(some t649)) else (some false)) else (some false))) else (some false))) else (some false))))=some r:=H
   have A7:=am A70
   clear A70
   replace H:=Option.bind_eq_some_iff.mp H
   obtain ⟨⟨t639,t640⟩,A80,H⟩:=H
   replace H:((r_10_Join.f k l1).bind fun bt643=>(if t627=t634 then ((r_10_Same.f k t625 t632).bind fun t647=>(if t647=true then ((r_03_SameInts.f k t626 t633).bind fun t648=>(if t648=true then (if t640=bt643.2 then ((r_10_Same.f k t639 bt643.1).bind fun t649=>(some t649)) else (some false)) else (some false))) else (some false))) else (some false)))=some r:=H
   have A8:=am A80
   clear A80
   replace H:=Option.bind_eq_some_iff.mp H
   obtain ⟨⟨t643,t644⟩,A90,H⟩:=H
   replace H:(if t627=t634 then ((r_10_Same.f k t625 t632).bind fun t647=>(if t647=true then ((r_03_SameInts.f k t626 t633).bind fun t648=>(if t648=true then (if t640=t644 then ((r_10_Same.f k t639 t643).bind fun t649=>(some t649)) else (some false)) else (some false))) else (some false))) else (some false))=some r:=H
   have A9:=am A90
   clear A90
   by_cases c10:t627=t634
   ·rw [if_pos c10] at H
    have c10b0:(t627==t634)=true:=beq_iff_eq.mpr c10
    have c10b1:(t627 != t634)=false:=bne_eq_false_iff_eq.mpr c10
    clear c10
    replace H:=Option.bind_eq_some_iff.mp H
    obtain ⟨t647,A110,H⟩:=H
    replace H:(if t647=true then ((r_03_SameInts.f k t626 t633).bind fun t648=>(if t648=true then (if t640=t644 then ((r_10_Same.f k t639 t643).bind fun t649=>(some t649)) else (some false)) else (some false))) else (some false))=some r:=H
    have A11:=am A110
    clear A110
    by_cases c12:t647=true
    ·subst c12
     have H1:((r_03_SameInts.f k t626 t633).bind fun t648=>(if t648=true then (if t640=t644 then ((r_10_Same.f k t639 t643).bind fun t649=>(some t649)) else (some false)) else (some false)))=some r:=by rw [if_pos rfl] at H;exact H
     clear H;have H:=H1;clear H1
     replace H:=Option.bind_eq_some_iff.mp H
     obtain ⟨t648,A130,H⟩:=H
     replace H:(if t648=true then (if t640=t644 then ((r_10_Same.f k t639 t643).bind fun t649=>(some t649)) else (some false)) else (some false))=some r:=H
     have A13:=am A130
     clear A130
     by_cases c14:t648=true
     ·subst c14
      have H1:(if t640=t644 then ((r_10_Same.f k t639 t643).bind fun t649=>(some t649)) else (some false))=some r:=by rw [if_pos rfl] at H;exact H
      clear H;have H:=H1;clear H1
      by_cases c15:t640=t644
      ·rw [if_pos c15] at H
       have c15b0:(t640==t644)=true:=beq_iff_eq.mpr c15
       have c15b1:(t640 != t644)=false:=bne_eq_false_iff_eq.mpr c15
       clear c15
       replace H:=Option.bind_eq_some_iff.mp H
       obtain ⟨t649,A160,H⟩:=H
       replace H:(some t649)=some r:=H
       have A16:=am A160
       clear A160;obtain rfl:=Option.some.inj H
       go_enter Try.func10,Try.ntmps10
       go_wp2_with (first|((with_reducible refine gate_callee (f:=11) rfl ?_);refine goesL_ (some 15) rfl rfl Try.func11 (by kernel_rfl) rfl #[] rfl (by (try simp only [List.map_toArray,List.map_cons,List.map_nil]);first|done|rfl|(simp only [List.length_drop,List.length_take];rfl)) ?_;(with_reducible refine (l_10_alive.calls k  true _ A3.out).mono ?_);rintro e w17 ⟨rfl,hb⟩;refine ⟨_,rfl,?_⟩;have n0_:=bst HB hb;clear HB;have HB:=n0_;clear n0_;(try clear hb);(try clear hb2);(try clear hk);(try clear hi))|((with_reducible refine gate_dst (N:=18) rfl ?_);refine Kd.R_lit (Kd.int .u8) _ 5 ?hg (N:=18) ?hd (xs:=([]:List Int)) (inner:=[]) (ok:=fun _=>True) (okp:=fun _=>True) ?hr ?hp (fun _ hk=>hk) trivial (Below.refl _ _) (Nat.le_refl _) (by simp) ?_;(case hd=>rfl);(case hg=>rfl);(case hr=>first|(go_simp;done)|(go_simp;rfl));(case hp=>exact (Reps.none _ _));intro v620 w18 ho19 hb hg_ hnew_;clear hg_ hnew_;(first|rw [← Ny619.out] at ho19|(simp only [Int.reduceToNat] at ho19;rw [← Ny619.out] at ho19));have n0_:=am (Kd.R_lower ho19 (bz HB));have n1_:=bst HB hb;clear HB;have HO621:=n0_;have HB:=n1_;clear n0_ n1_;clear hb ho19)|((with_reducible refine gate_builtin (b:=.append) (xs:=#[.tmp 18,.tmp 19]) rfl ?_);at_builtin;refine Kd.R_append_rows (Kd.int .u8) (w0:=w) w.heap.size rfl (.tmp 18) (.tmp 19) 46 5 (.int .u8 0) 1 rfl Try.underlying46 info5 rfl (by decide) (by omega) v620 y619 l0 _ _ _ (fun _=>True) (fun _=>False) rfl rfl ?aO ?aR (fun _ _ h=>h) (fun _ h=>h.elim) ?aF ?aB ?aS ?aL ?_;(case aR=>exact cc (Kd.C_below HR0.out HB.out));(case aB=>exact (bb HB));(case aF=>exact (fun _ _=>trivial));(case aO=>exact (rR HO621));(case aS=>exact (bz HB));(case aL=>have:=LMc5.out;omega);intro v623 w20 ho hb hg hat;rw [← Ny622.out] at ho;have n0_:=am (hb);have n1_:=am (ho);clear HB;clear HO621;have HB:=n0_;have HO624:=n1_;clear n0_ n1_;clear ho hb hg hat;obtain ⟨Ao21,co21,eo21⟩:=Kd.R_slice HO624.out;subst eo21)|((with_reducible refine gate_callee (f:=30) rfl ?_);refine goesL_ (some 21) rfl rfl Try.func30 (by kernel_rfl) rfl #[.slice Ao21 y622.length co21] rfl (by (try simp only [List.map_toArray,List.map_cons,List.map_nil]);first|done|rfl|(simp only [List.length_drop,List.length_take];rfl)) ?_;(with_reducible refine (extent_Root.calls k _ _ y622 t625 t626 t627 _ ?side1 ?side2 A6.out).mono ?_);(case side1=>exact cc (Kd.R_reads' HO624.out).2.2);(case side2=>exact (Kd.R_reads' HO624.out).2.1);rintro e w22 ⟨v628,v630,rfl,ho0,ho1,hb⟩;refine ⟨_,rfl,?_⟩;have n0_:=am (Kd.R_below (rR HO624) hb);have n1_:=am (Kd.R_lower ho0 (bz HB));have n2_:=am (Kd.R_lower ho1 (bz HB));have n3_:=bst HB hb;clear HO624;clear HB;have HO624:=n0_;have HO629:=n1_;have HO631:=n2_;have HB:=n3_;clear n0_ n1_ n2_ n3_;(try clear hb);(try clear hb2);(try clear hk);(try clear hi);(try clear ho0);(try clear ho1))|((with_reducible refine gate_callee (f:=32) rfl ?_);refine goesL_ (some 27) rfl rfl Try.func32 (by kernel_rfl) rfl #[.slice A0 l0.length c0] rfl (by (try simp only [List.map_toArray,List.map_cons,List.map_nil]);first|done|rfl|(simp only [List.length_drop,List.length_take];rfl)) ?_;(with_reducible refine (r_10_Root.calls k _ _ l0 t632 t633 t634 _ ?side1 ?side2 A7.out).mono ?_);(case side1=>exact cc (Kd.C_below HR0.out HB.out));(case side2=>exact HC0.out);rintro e w23 ⟨v635,v637,rfl,ho0,ho1,hb⟩;refine ⟨_,rfl,?_⟩;have n0_:=am (Kd.R_below (rR HO624) hb);have n1_:=am (Kd.R_elder' (rR HO629) (Kd.R_base ho0) hb);have n2_:=am (Kd.R_elder' (rR HO631) (Kd.R_base ho1) hb);have n3_:=am (Kd.R_lower (Kd.R_new' ho0 (Kd.R_lt (rR HO629))) (bz HB));have n4_:=am (Kd.R_lower (Kd.R_new' ho1 (Kd.R_lt (rR HO631))) (bz HB));have n5_:=bst HB hb;clear HO624;clear HO629;clear HO631;clear HB;have HO624:=n0_;have HO629:=n1_;have HO631:=n2_;have HO636:=n3_;have HO638:=n4_;have HB:=n5_;clear n0_ n1_ n2_ n3_ n4_ n5_;(try clear hb);(try clear hb2);(try clear hk);(try clear hi);(try clear ho0);(try clear ho1))|((with_reducible refine gate_callee (f:=31) rfl ?_);refine goesL_ (some 33) rfl rfl Try.func31 (by kernel_rfl) rfl #[.slice A1 l1.length c1] rfl (by (try simp only [List.map_toArray,List.map_cons,List.map_nil]);first|done|rfl|(simp only [List.length_drop,List.length_take];rfl)) ?_;(with_reducible refine (extent_Join.calls k _ _ l1 t639 t640 _ ?side1 ?side2 A8.out).mono ?_);(case side1=>exact cc (Kd.C_below HR1.out HB.out));(case side2=>exact HC1.out);rintro e w24 ⟨v641,rfl,ho0,hb⟩;refine ⟨_,rfl,?_⟩;have n0_:=am (Kd.R_below (rR HO624) hb);have n1_:=am (Kd.R_elder' (rR HO629) (Kd.R_base ho0) hb);have n2_:=am (Kd.R_below (rR HO631) hb);have n3_:=am (Kd.R_elder' (rR HO636) (Kd.R_base ho0) hb);have n4_:=am (Kd.R_below (rR HO638) hb);have n5_:=am (Kd.R_lower (Kd.R_new' (Kd.R_new' ho0 (Kd.R_lt (rR HO629))) (Kd.R_lt (rR HO636))) (bz HB));have n6_:=bst HB hb;clear HO624;clear HO629;clear HO631;clear HO636;clear HO638;clear HB;have HO624:=n0_;have HO629:=n1_;have HO631:=n2_;have HO636:=n3_;have HO638:=n4_;have HO642:=n5_;have HB:=n6_;clear n0_ n1_ n2_ n3_ n4_ n5_ n6_;(try clear hb);(try clear hb2);(try clear hk);(try clear hi);(try clear ho0))|((with_reducible refine gate_callee (f:=33) rfl ?_);refine goesL_ (some 38) rfl rfl Try.func33 (by kernel_rfl) rfl #[.slice A1 l1.length c1] rfl (by (try simp only [List.map_toArray,List.map_cons,List.map_nil]);first|done|rfl|(simp only [List.length_drop,List.length_take];rfl)) ?_;(with_reducible refine (r_10_Join.calls k _ _ l1 t643 t644 _ ?side1 ?side2 A9.out).mono ?_);(case side1=>exact cc (Kd.C_below HR1.out HB.out));(case side2=>exact HC1.out);rintro e w25 ⟨v645,rfl,ho0,hb⟩;refine ⟨_,rfl,?_⟩;have n0_:=am (Kd.R_below (rR HO624) hb);have n1_:=am (Kd.R_elder' (rR HO629) (Kd.R_base ho0) hb);have n2_:=am (Kd.R_below (rR HO631) hb);have n3_:=am (Kd.R_elder' (rR HO636) (Kd.R_base ho0) hb);have n4_:=am (Kd.R_below (rR HO638) hb);have n5_:=am (Kd.R_elder' (rR HO642) (Kd.R_base ho0) hb);have n6_:=am (Kd.R_lower (Kd.R_new' (Kd.R_new' (Kd.R_new' ho0 (Kd.R_lt (rR HO629))) (Kd.R_lt (rR HO636))) (Kd.R_lt (rR HO642))) (bz HB));have n7_:=bst HB hb;clear HO624;clear HO629;clear HO631;clear HO636;clear HO638;clear HO642;clear HB;have HO624:=n0_;have HO629:=n1_;have HO631:=n2_;have HO636:=n3_;have HO638:=n4_;have HO642:=n5_;have HO646:=n6_;have HB:=n7_;clear n0_ n1_ n2_ n3_ n4_ n5_ n6_ n7_;(try clear hb);(try clear hb2);(try clear hk);(try clear hi);(try clear ho0);obtain ⟨Ao26,co26,eo26⟩:=Kd.R_slice HO629.out;subst eo26;obtain ⟨Ao27,co27,eo27⟩:=Kd.R_slice HO636.out;subst eo27)|(go_at_call 15;(with_reducible refine (r_10_Same.calls k _ _ t625 _ _ t632 true _ ?side1 ?side2 ?side3 ?side4 A11.out).mono ?_);(case side1=>exact cc (Kd.R_reads' HO629.out).2.2);(case side2=>exact (Kd.R_reads' HO629.out).2.1);(case side3=>exact cc (Kd.R_reads' HO636.out).2.2);(case side4=>exact (Kd.R_reads' HO636.out).2.1);rintro e w' ⟨rfl,⟨nd,rfl⟩⟩;obtain ⟨Ao28,co28,eo28⟩:=Kd.R_slice HO631.out;subst eo28;obtain ⟨Ao29,co29,eo29⟩:=Kd.R_slice HO638.out;subst eo29)|(go_at_call 29;(with_reducible refine (r_03_SameInts.calls k _ _ t626 _ _ t633 true _ ?side1 ?side2 ?side3 ?side4 A13.out).mono ?_);(case side1=>exact cc (Kd.R_reads' HO631.out).2.2);(case side2=>exact (Kd.R_reads' HO631.out).2.1);(case side3=>exact cc (Kd.R_reads' HO638.out).2.2);(case side4=>exact (Kd.R_reads' HO638.out).2.1);rintro e w' ⟨rfl,⟨nd,rfl⟩⟩;obtain ⟨Ao30,co30,eo30⟩:=Kd.R_slice HO642.out;subst eo30;obtain ⟨Ao31,co31,eo31⟩:=Kd.R_slice HO646.out;subst eo31)|(go_at_call 15;(with_reducible refine (r_10_Same.calls k _ _ t639 _ _ t643 t649 _ ?side1 ?side2 ?side3 ?side4 A16.out).mono ?_);(case side1=>exact cc (Kd.R_reads' HO642.out).2.2);(case side2=>exact (Kd.R_reads' HO642.out).2.1);(case side3=>exact cc (Kd.R_reads' HO646.out).2.2);(case side4=>exact (Kd.R_reads' HO646.out).2.1);rintro e w' ⟨rfl,⟨nd,rfl⟩⟩))
       go_ret
       exact ⟨by first|rfl|(simp [errW_none,errW_some]<;>rfl)|(simp [*,errW_none,errW_some]<;>rfl),bb HB⟩
      ·rw [if_neg c15] at H
       have c15b0:(t640==t644)=false:=beq_eq_false_iff_ne.mpr c15
       have c15b1:(t640 != t644)=true:=bne_iff_ne.mpr c15
       obtain rfl:=Option.some.inj H
       go_enter Try.func10,Try.ntmps10
       go_wp2_with (first|((with_reducible refine gate_callee (f:=11) rfl ?_);refine goesL_ (some 15) rfl rfl Try.func11 (by kernel_rfl) rfl #[] rfl (by (try simp only [List.map_toArray,List.map_cons,List.map_nil]);first|done|rfl|(simp only [List.length_drop,List.length_take];rfl)) ?_;(with_reducible refine (l_10_alive.calls k  true _ A3.out).mono ?_);rintro e w32 ⟨rfl,hb⟩;refine ⟨_,rfl,?_⟩;have n0_:=bst HB hb;clear HB;have HB:=n0_;clear n0_;(try clear hb);(try clear hb2);(try clear hk);(try clear hi))|((with_reducible refine gate_dst (N:=18) rfl ?_);refine Kd.R_lit (Kd.int .u8) _ 5 ?hg (N:=18) ?hd (xs:=([]:List Int)) (inner:=[]) (ok:=fun _=>True) (okp:=fun _=>True) ?hr ?hp (fun _ hk=>hk) trivial (Below.refl _ _) (Nat.le_refl _) (by simp) ?_;(case hd=>rfl);(case hg=>rfl);(case hr=>first|(go_simp;done)|(go_simp;rfl));(case hp=>exact (Reps.none _ _));intro v620 w33 ho34 hb hg_ hnew_;clear hg_ hnew_;(first|rw [← Ny619.out] at ho34|(simp only [Int.reduceToNat] at ho34;rw [← Ny619.out] at ho34));have n0_:=am (Kd.R_lower ho34 (bz HB));have n1_:=bst HB hb;clear HB;have HO621:=n0_;have HB:=n1_;clear n0_ n1_;clear hb ho34)|((with_reducible refine gate_builtin (b:=.append) (xs:=#[.tmp 18,.tmp 19]) rfl ?_);at_builtin;refine Kd.R_append_rows (Kd.int .u8) (w0:=w) w.heap.size rfl (.tmp 18) (.tmp 19) 46 5 (.int .u8 0) 1 rfl Try.underlying46 info5 rfl (by decide) (by omega) v620 y619 l0 _ _ _ (fun _=>True) (fun _=>False) rfl rfl ?aO ?aR (fun _ _ h=>h) (fun _ h=>h.elim) ?aF ?aB ?aS ?aL ?_;(case aR=>exact cc (Kd.C_below HR0.out HB.out));(case aB=>exact (bb HB));(case aF=>exact (fun _ _=>trivial));(case aO=>exact (rR HO621));(case aS=>exact (bz HB));(case aL=>have:=LMc5.out;omega);intro v623 w35 ho hb hg hat;rw [← Ny622.out] at ho;have n0_:=am (hb);have n1_:=am (ho);clear HB;clear HO621;have HB:=n0_;have HO624:=n1_;clear n0_ n1_;clear ho hb hg hat;obtain ⟨Ao36,co36,eo36⟩:=Kd.R_slice HO624.out;subst eo36)|((with_reducible refine gate_callee (f:=30) rfl ?_);refine goesL_ (some 21) rfl rfl Try.func30 (by kernel_rfl) rfl #[.slice Ao36 y622.length co36] rfl (by (try simp only [List.map_toArray,List.map_cons,List.map_nil]);first|done|rfl|(simp only [List.length_drop,List.length_take];rfl)) ?_;(with_reducible refine (extent_Root.calls k _ _ y622 t625 t626 t627 _ ?side1 ?side2 A6.out).mono ?_);(case side1=>exact cc (Kd.R_reads' HO624.out).2.2);(case side2=>exact (Kd.R_reads' HO624.out).2.1);rintro e w37 ⟨v628,v630,rfl,ho0,ho1,hb⟩;refine ⟨_,rfl,?_⟩;have n0_:=am (Kd.R_below (rR HO624) hb);have n1_:=am (Kd.R_lower ho0 (bz HB));have n2_:=am (Kd.R_lower ho1 (bz HB));have n3_:=bst HB hb;clear HO624;clear HB;have HO624:=n0_;have HO629:=n1_;have HO631:=n2_;have HB:=n3_;clear n0_ n1_ n2_ n3_;(try clear hb);(try clear hb2);(try clear hk);(try clear hi);(try clear ho0);(try clear ho1))|((with_reducible refine gate_callee (f:=32) rfl ?_);refine goesL_ (some 27) rfl rfl Try.func32 (by kernel_rfl) rfl #[.slice A0 l0.length c0] rfl (by (try simp only [List.map_toArray,List.map_cons,List.map_nil]);first|done|rfl|(simp only [List.length_drop,List.length_take];rfl)) ?_;(with_reducible refine (r_10_Root.calls k _ _ l0 t632 t633 t634 _ ?side1 ?side2 A7.out).mono ?_);(case side1=>exact cc (Kd.C_below HR0.out HB.out));(case side2=>exact HC0.out);rintro e w38 ⟨v635,v637,rfl,ho0,ho1,hb⟩;refine ⟨_,rfl,?_⟩;have n0_:=am (Kd.R_below (rR HO624) hb);have n1_:=am (Kd.R_elder' (rR HO629) (Kd.R_base ho0) hb);have n2_:=am (Kd.R_elder' (rR HO631) (Kd.R_base ho1) hb);have n3_:=am (Kd.R_lower (Kd.R_new' ho0 (Kd.R_lt (rR HO629))) (bz HB));have n4_:=am (Kd.R_lower (Kd.R_new' ho1 (Kd.R_lt (rR HO631))) (bz HB));have n5_:=bst HB hb;clear HO624;clear HO629;clear HO631;clear HB;have HO624:=n0_;have HO629:=n1_;have HO631:=n2_;have HO636:=n3_;have HO638:=n4_;have HB:=n5_;clear n0_ n1_ n2_ n3_ n4_ n5_;(try clear hb);(try clear hb2);(try clear hk);(try clear hi);(try clear ho0);(try clear ho1))|((with_reducible refine gate_callee (f:=31) rfl ?_);refine goesL_ (some 33) rfl rfl Try.func31 (by kernel_rfl) rfl #[.slice A1 l1.length c1] rfl (by (try simp only [List.map_toArray,List.map_cons,List.map_nil]);first|done|rfl|(simp only [List.length_drop,List.length_take];rfl)) ?_;(with_reducible refine (extent_Join.calls k _ _ l1 t639 t640 _ ?side1 ?side2 A8.out).mono ?_);(case side1=>exact cc (Kd.C_below HR1.out HB.out));(case side2=>exact HC1.out);rintro e w39 ⟨v641,rfl,ho0,hb⟩;refine ⟨_,rfl,?_⟩;have n0_:=am (Kd.R_below (rR HO624) hb);have n1_:=am (Kd.R_elder' (rR HO629) (Kd.R_base ho0) hb);have n2_:=am (Kd.R_below (rR HO631) hb);have n3_:=am (Kd.R_elder' (rR HO636) (Kd.R_base ho0) hb);have n4_:=am (Kd.R_below (rR HO638) hb);have n5_:=am (Kd.R_lower (Kd.R_new' (Kd.R_new' ho0 (Kd.R_lt (rR HO629))) (Kd.R_lt (rR HO636))) (bz HB));have n6_:=bst HB hb;clear HO624;clear HO629;clear HO631;clear HO636;clear HO638;clear HB;have HO624:=n0_;have HO629:=n1_;have HO631:=n2_;have HO636:=n3_;have HO638:=n4_;have HO642:=n5_;have HB:=n6_;clear n0_ n1_ n2_ n3_ n4_ n5_ n6_;(try clear hb);(try clear hb2);(try clear hk);(try clear hi);(try clear ho0))|((with_reducible refine gate_callee (f:=33) rfl ?_);refine goesL_ (some 38) rfl rfl Try.func33 (by kernel_rfl) rfl #[.slice A1 l1.length c1] rfl (by (try simp only [List.map_toArray,List.map_cons,List.map_nil]);first|done|rfl|(simp only [List.length_drop,List.length_take];rfl)) ?_;(with_reducible refine (r_10_Join.calls k _ _ l1 t643 t644 _ ?side1 ?side2 A9.out).mono ?_);(case side1=>exact cc (Kd.C_below HR1.out HB.out));(case side2=>exact HC1.out);rintro e w40 ⟨v645,rfl,ho0,hb⟩;refine ⟨_,rfl,?_⟩;have n0_:=am (Kd.R_below (rR HO624) hb);have n1_:=am (Kd.R_elder' (rR HO629) (Kd.R_base ho0) hb);have n2_:=am (Kd.R_below (rR HO631) hb);have n3_:=am (Kd.R_elder' (rR HO636) (Kd.R_base ho0) hb);have n4_:=am (Kd.R_below (rR HO638) hb);have n5_:=am (Kd.R_elder' (rR HO642) (Kd.R_base ho0) hb);have n6_:=am (Kd.R_lower (Kd.R_new' (Kd.R_new' (Kd.R_new' ho0 (Kd.R_lt (rR HO629))) (Kd.R_lt (rR HO636))) (Kd.R_lt (rR HO642))) (bz HB));have n7_:=bst HB hb;clear HO624;clear HO629;clear HO631;clear HO636;clear HO638;clear HO642;clear HB;have HO624:=n0_;have HO629:=n1_;have HO631:=n2_;have HO636:=n3_;have HO638:=n4_;have HO642:=n5_;have HO646:=n6_;have HB:=n7_;clear n0_ n1_ n2_ n3_ n4_ n5_ n6_ n7_;(try clear hb);(try clear hb2);(try clear hk);(try clear hi);(try clear ho0);obtain ⟨Ao41,co41,eo41⟩:=Kd.R_slice HO629.out;subst eo41;obtain ⟨Ao42,co42,eo42⟩:=Kd.R_slice HO636.out;subst eo42)|(go_at_call 15;(with_reducible refine (r_10_Same.calls k _ _ t625 _ _ t632 true _ ?side1 ?side2 ?side3 ?side4 A11.out).mono ?_);(case side1=>exact cc (Kd.R_reads' HO629.out).2.2);(case side2=>exact (Kd.R_reads' HO629.out).2.1);(case side3=>exact cc (Kd.R_reads' HO636.out).2.2);(case side4=>exact (Kd.R_reads' HO636.out).2.1);rintro e w' ⟨rfl,⟨nd,rfl⟩⟩;obtain ⟨Ao43,co43,eo43⟩:=Kd.R_slice HO631.out;subst eo43;obtain ⟨Ao44,co44,eo44⟩:=Kd.R_slice HO638.out;subst eo44)|(go_at_call 29;(with_reducible refine (r_03_SameInts.calls k _ _ t626 _ _ t633 true _ ?side1 ?side2 ?side3 ?side4 A13.out).mono ?_);(case side1=>exact cc (Kd.R_reads' HO631.out).2.2);(case side2=>exact (Kd.R_reads' HO631.out).2.1);(case side3=>exact cc (Kd.R_reads' HO638.out).2.2);(case side4=>exact (Kd.R_reads' HO638.out).2.1);rintro e w' ⟨rfl,⟨nd,rfl⟩⟩))
       go_ret
       exact ⟨by first|rfl|(simp [errW_none,errW_some]<;>rfl)|(simp [*,errW_none,errW_some]<;>rfl),bb HB⟩
     ·replace c14:=Bool.eq_false_iff.mpr c14
      subst c14
      have H1:(some false)=some r:=by rw [if_neg (show ¬ (false=true) by decide)] at H;exact H
      clear H;have H:=H1;clear H1;obtain rfl:=Option.some.inj H
      go_enter Try.func10,Try.ntmps10
      go_wp2_with (first|((with_reducible refine gate_callee (f:=11) rfl ?_);refine goesL_ (some 15) rfl rfl Try.func11 (by kernel_rfl) rfl #[] rfl (by (try simp only [List.map_toArray,List.map_cons,List.map_nil]);first|done|rfl|(simp only [List.length_drop,List.length_take];rfl)) ?_;(with_reducible refine (l_10_alive.calls k  true _ A3.out).mono ?_);rintro e w45 ⟨rfl,hb⟩;refine ⟨_,rfl,?_⟩;have n0_:=bst HB hb;clear HB;have HB:=n0_;clear n0_;(try clear hb);(try clear hb2);(try clear hk);(try clear hi))|((with_reducible refine gate_dst (N:=18) rfl ?_);refine Kd.R_lit (Kd.int .u8) _ 5 ?hg (N:=18) ?hd (xs:=([]:List Int)) (inner:=[]) (ok:=fun _=>True) (okp:=fun _=>True) ?hr ?hp (fun _ hk=>hk) trivial (Below.refl _ _) (Nat.le_refl _) (by simp) ?_;(case hd=>rfl);(case hg=>rfl);(case hr=>first|(go_simp;done)|(go_simp;rfl));(case hp=>exact (Reps.none _ _));intro v620 w46 ho47 hb hg_ hnew_;clear hg_ hnew_;(first|rw [← Ny619.out] at ho47|(simp only [Int.reduceToNat] at ho47;rw [← Ny619.out] at ho47));have n0_:=am (Kd.R_lower ho47 (bz HB));have n1_:=bst HB hb;clear HB;have HO621:=n0_;have HB:=n1_;clear n0_ n1_;clear hb ho47)|((with_reducible refine gate_builtin (b:=.append) (xs:=#[.tmp 18,.tmp 19]) rfl ?_);at_builtin;refine Kd.R_append_rows (Kd.int .u8) (w0:=w) w.heap.size rfl (.tmp 18) (.tmp 19) 46 5 (.int .u8 0) 1 rfl Try.underlying46 info5 rfl (by decide) (by omega) v620 y619 l0 _ _ _ (fun _=>True) (fun _=>False) rfl rfl ?aO ?aR (fun _ _ h=>h) (fun _ h=>h.elim) ?aF ?aB ?aS ?aL ?_;(case aR=>exact cc (Kd.C_below HR0.out HB.out));(case aB=>exact (bb HB));(case aF=>exact (fun _ _=>trivial));(case aO=>exact (rR HO621));(case aS=>exact (bz HB));(case aL=>have:=LMc5.out;omega);intro v623 w48 ho hb hg hat;rw [← Ny622.out] at ho;have n0_:=am (hb);have n1_:=am (ho);clear HB;clear HO621;have HB:=n0_;have HO624:=n1_;clear n0_ n1_;clear ho hb hg hat;obtain ⟨Ao49,co49,eo49⟩:=Kd.R_slice HO624.out;subst eo49)|((with_reducible refine gate_callee (f:=30) rfl ?_);refine goesL_ (some 21) rfl rfl Try.func30 (by kernel_rfl) rfl #[.slice Ao49 y622.length co49] rfl (by (try simp only [List.map_toArray,List.map_cons,List.map_nil]);first|done|rfl|(simp only [List.length_drop,List.length_take];rfl)) ?_;(with_reducible refine (extent_Root.calls k _ _ y622 t625 t626 t627 _ ?side1 ?side2 A6.out).mono ?_);(case side1=>exact cc (Kd.R_reads' HO624.out).2.2);(case side2=>exact (Kd.R_reads' HO624.out).2.1);rintro e w50 ⟨v628,v630,rfl,ho0,ho1,hb⟩;refine ⟨_,rfl,?_⟩;have n0_:=am (Kd.R_below (rR HO624) hb);have n1_:=am (Kd.R_lower ho0 (bz HB));have n2_:=am (Kd.R_lower ho1 (bz HB));have n3_:=bst HB hb;clear HO624;clear HB;have HO624:=n0_;have HO629:=n1_;have HO631:=n2_;have HB:=n3_;clear n0_ n1_ n2_ n3_;(try clear hb);(try clear hb2);(try clear hk);(try clear hi);(try clear ho0);(try clear ho1))|((with_reducible refine gate_callee (f:=32) rfl ?_);refine goesL_ (some 27) rfl rfl Try.func32 (by kernel_rfl) rfl #[.slice A0 l0.length c0] rfl (by (try simp only [List.map_toArray,List.map_cons,List.map_nil]);first|done|rfl|(simp only [List.length_drop,List.length_take];rfl)) ?_;(with_reducible refine (r_10_Root.calls k _ _ l0 t632 t633 t634 _ ?side1 ?side2 A7.out).mono ?_);(case side1=>exact cc (Kd.C_below HR0.out HB.out));(case side2=>exact HC0.out);rintro e w51 ⟨v635,v637,rfl,ho0,ho1,hb⟩;refine ⟨_,rfl,?_⟩;have n0_:=am (Kd.R_below (rR HO624) hb);have n1_:=am (Kd.R_elder' (rR HO629) (Kd.R_base ho0) hb);have n2_:=am (Kd.R_elder' (rR HO631) (Kd.R_base ho1) hb);have n3_:=am (Kd.R_lower (Kd.R_new' ho0 (Kd.R_lt (rR HO629))) (bz HB));have n4_:=am (Kd.R_lower (Kd.R_new' ho1 (Kd.R_lt (rR HO631))) (bz HB));have n5_:=bst HB hb;clear HO624;clear HO629;clear HO631;clear HB;have HO624:=n0_;have HO629:=n1_;have HO631:=n2_;have HO636:=n3_;have HO638:=n4_;have HB:=n5_;clear n0_ n1_ n2_ n3_ n4_ n5_;(try clear hb);(try clear hb2);(try clear hk);(try clear hi);(try clear ho0);(try clear ho1))|((with_reducible refine gate_callee (f:=31) rfl ?_);refine goesL_ (some 33) rfl rfl Try.func31 (by kernel_rfl) rfl #[.slice A1 l1.length c1] rfl (by (try simp only [List.map_toArray,List.map_cons,List.map_nil]);first|done|rfl|(simp only [List.length_drop,List.length_take];rfl)) ?_;(with_reducible refine (extent_Join.calls k _ _ l1 t639 t640 _ ?side1 ?side2 A8.out).mono ?_);(case side1=>exact cc (Kd.C_below HR1.out HB.out));(case side2=>exact HC1.out);rintro e w52 ⟨v641,rfl,ho0,hb⟩;refine ⟨_,rfl,?_⟩;have n0_:=am (Kd.R_below (rR HO624) hb);have n1_:=am (Kd.R_elder' (rR HO629) (Kd.R_base ho0) hb);have n2_:=am (Kd.R_below (rR HO631) hb);have n3_:=am (Kd.R_elder' (rR HO636) (Kd.R_base ho0) hb);have n4_:=am (Kd.R_below (rR HO638) hb);have n5_:=am (Kd.R_lower (Kd.R_new' (Kd.R_new' ho0 (Kd.R_lt (rR HO629))) (Kd.R_lt (rR HO636))) (bz HB));have n6_:=bst HB hb;clear HO624;clear HO629;clear HO631;clear HO636;clear HO638;clear HB;have HO624:=n0_;have HO629:=n1_;have HO631:=n2_;have HO636:=n3_;have HO638:=n4_;have HO642:=n5_;have HB:=n6_;clear n0_ n1_ n2_ n3_ n4_ n5_ n6_;(try clear hb);(try clear hb2);(try clear hk);(try clear hi);(try clear ho0))|((with_reducible refine gate_callee (f:=33) rfl ?_);refine goesL_ (some 38) rfl rfl Try.func33 (by kernel_rfl) rfl #[.slice A1 l1.length c1] rfl (by (try simp only [List.map_toArray,List.map_cons,List.map_nil]);first|done|rfl|(simp only [List.length_drop,List.length_take];rfl)) ?_;(with_reducible refine (r_10_Join.calls k _ _ l1 t643 t644 _ ?side1 ?side2 A9.out).mono ?_);(case side1=>exact cc (Kd.C_below HR1.out HB.out));(case side2=>exact HC1.out);rintro e w53 ⟨v645,rfl,ho0,hb⟩;refine ⟨_,rfl,?_⟩;have n0_:=am (Kd.R_below (rR HO624) hb);have n1_:=am (Kd.R_elder' (rR HO629) (Kd.R_base ho0) hb);have n2_:=am (Kd.R_below (rR HO631) hb);have n3_:=am (Kd.R_elder' (rR HO636) (Kd.R_base ho0) hb);have n4_:=am (Kd.R_below (rR HO638) hb);have n5_:=am (Kd.R_elder' (rR HO642) (Kd.R_base ho0) hb);have n6_:=am (Kd.R_lower (Kd.R_new' (Kd.R_new' (Kd.R_new' ho0 (Kd.R_lt (rR HO629))) (Kd.R_lt (rR HO636))) (Kd.R_lt (rR HO642))) (bz HB));have n7_:=bst HB hb;clear HO624;clear HO629;clear HO631;clear HO636;clear HO638;clear HO642;clear HB;have HO624:=n0_;have HO629:=n1_;have HO631:=n2_;have HO636:=n3_;have HO638:=n4_;have HO642:=n5_;have HO646:=n6_;have HB:=n7_;clear n0_ n1_ n2_ n3_ n4_ n5_ n6_ n7_;(try clear hb);(try clear hb2);(try clear hk);(try clear hi);(try clear ho0);obtain ⟨Ao54,co54,eo54⟩:=Kd.R_slice HO629.out;subst eo54;obtain ⟨Ao55,co55,eo55⟩:=Kd.R_slice HO636.out;subst eo55)|(go_at_call 15;(with_reducible refine (r_10_Same.calls k _ _ t625 _ _ t632 true _ ?side1 ?side2 ?side3 ?side4 A11.out).mono ?_);(case side1=>exact cc (Kd.R_reads' HO629.out).2.2);(case side2=>exact (Kd.R_reads' HO629.out).2.1);(case side3=>exact cc (Kd.R_reads' HO636.out).2.2);(case side4=>exact (Kd.R_reads' HO636.out).2.1);rintro e w' ⟨rfl,⟨nd,rfl⟩⟩;obtain ⟨Ao56,co56,eo56⟩:=Kd.R_slice HO631.out;subst eo56;obtain ⟨Ao57,co57,eo57⟩:=Kd.R_slice HO638.out;subst eo57)|(go_at_call 29;(with_reducible refine (r_03_SameInts.calls k _ _ t626 _ _ t633 false _ ?side1 ?side2 ?side3 ?side4 A13.out).mono ?_);(case side1=>exact cc (Kd.R_reads' HO631.out).2.2);(case side2=>exact (Kd.R_reads' HO631.out).2.1);(case side3=>exact cc (Kd.R_reads' HO638.out).2.2);(case side4=>exact (Kd.R_reads' HO638.out).2.1);rintro e w' ⟨rfl,⟨nd,rfl⟩⟩))
      go_ret
      exact ⟨by first|rfl|(simp [errW_none,errW_some]<;>rfl)|(simp [*,errW_none,errW_some]<;>rfl),bb HB⟩
    ·replace c12:=Bool.eq_false_iff.mpr c12
     subst c12
     have H1:(some false)=some r:=by rw [if_neg (show ¬ (false=true) by decide)] at H;exact H
     clear H;have H:=H1;clear H1;obtain rfl:=Option.some.inj H
     go_enter Try.func10,Try.ntmps10
     go_wp2_with (first|((with_reducible refine gate_callee (f:=11) rfl ?_);refine goesL_ (some 15) rfl rfl Try.func11 (by kernel_rfl) rfl #[] rfl (by (try simp only [List.map_toArray,List.map_cons,List.map_nil]);first|done|rfl|(simp only [List.length_drop,List.length_take];rfl)) ?_;(with_reducible refine (l_10_alive.calls k  true _ A3.out).mono ?_);rintro e w58 ⟨rfl,hb⟩;refine ⟨_,rfl,?_⟩;have n0_:=bst HB hb;clear HB;have HB:=n0_;clear n0_;(try clear hb);(try clear hb2);(try clear hk);(try clear hi))|((with_reducible refine gate_dst (N:=18) rfl ?_);refine Kd.R_lit (Kd.int .u8) _ 5 ?hg (N:=18) ?hd (xs:=([]:List Int)) (inner:=[]) (ok:=fun _=>True) (okp:=fun _=>True) ?hr ?hp (fun _ hk=>hk) trivial (Below.refl _ _) (Nat.le_refl _) (by simp) ?_;(case hd=>rfl);(case hg=>rfl);(case hr=>first|(go_simp;done)|(go_simp;rfl));(case hp=>exact (Reps.none _ _));intro v620 w59 ho60 hb hg_ hnew_;clear hg_ hnew_;(first|rw [← Ny619.out] at ho60|(simp only [Int.reduceToNat] at ho60;rw [← Ny619.out] at ho60));have n0_:=am (Kd.R_lower ho60 (bz HB));have n1_:=bst HB hb;clear HB;have HO621:=n0_;have HB:=n1_;clear n0_ n1_;clear hb ho60)|((with_reducible refine gate_builtin (b:=.append) (xs:=#[.tmp 18,.tmp 19]) rfl ?_);at_builtin;refine Kd.R_append_rows (Kd.int .u8) (w0:=w) w.heap.size rfl (.tmp 18) (.tmp 19) 46 5 (.int .u8 0) 1 rfl Try.underlying46 info5 rfl (by decide) (by omega) v620 y619 l0 _ _ _ (fun _=>True) (fun _=>False) rfl rfl ?aO ?aR (fun _ _ h=>h) (fun _ h=>h.elim) ?aF ?aB ?aS ?aL ?_;(case aR=>exact cc (Kd.C_below HR0.out HB.out));(case aB=>exact (bb HB));(case aF=>exact (fun _ _=>trivial));(case aO=>exact (rR HO621));(case aS=>exact (bz HB));(case aL=>have:=LMc5.out;omega);intro v623 w61 ho hb hg hat;rw [← Ny622.out] at ho;have n0_:=am (hb);have n1_:=am (ho);clear HB;clear HO621;have HB:=n0_;have HO624:=n1_;clear n0_ n1_;clear ho hb hg hat;obtain ⟨Ao62,co62,eo62⟩:=Kd.R_slice HO624.out;subst eo62)|((with_reducible refine gate_callee (f:=30) rfl ?_);refine goesL_ (some 21) rfl rfl Try.func30 (by kernel_rfl) rfl #[.slice Ao62 y622.length co62] rfl (by (try simp only [List.map_toArray,List.map_cons,List.map_nil]);first|done|rfl|(simp only [List.length_drop,List.length_take];rfl)) ?_;(with_reducible refine (extent_Root.calls k _ _ y622 t625 t626 t627 _ ?side1 ?side2 A6.out).mono ?_);(case side1=>exact cc (Kd.R_reads' HO624.out).2.2);(case side2=>exact (Kd.R_reads' HO624.out).2.1);rintro e w63 ⟨v628,v630,rfl,ho0,ho1,hb⟩;refine ⟨_,rfl,?_⟩;have n0_:=am (Kd.R_below (rR HO624) hb);have n1_:=am (Kd.R_lower ho0 (bz HB));have n2_:=am (Kd.R_lower ho1 (bz HB));have n3_:=bst HB hb;clear HO624;clear HB;have HO624:=n0_;have HO629:=n1_;have HO631:=n2_;have HB:=n3_;clear n0_ n1_ n2_ n3_;(try clear hb);(try clear hb2);(try clear hk);(try clear hi);(try clear ho0);(try clear ho1))|((with_reducible refine gate_callee (f:=32) rfl ?_);refine goesL_ (some 27) rfl rfl Try.func32 (by kernel_rfl) rfl #[.slice A0 l0.length c0] rfl (by (try simp only [List.map_toArray,List.map_cons,List.map_nil]);first|done|rfl|(simp only [List.length_drop,List.length_take];rfl)) ?_;(with_reducible refine (r_10_Root.calls k _ _ l0 t632 t633 t634 _ ?side1 ?side2 A7.out).mono ?_);(case side1=>exact cc (Kd.C_below HR0.out HB.out));(case side2=>exact HC0.out);rintro e w64 ⟨v635,v637,rfl,ho0,ho1,hb⟩;refine ⟨_,rfl,?_⟩;have n0_:=am (Kd.R_below (rR HO624) hb);have n1_:=am (Kd.R_elder' (rR HO629) (Kd.R_base ho0) hb);have n2_:=am (Kd.R_elder' (rR HO631) (Kd.R_base ho1) hb);have n3_:=am (Kd.R_lower (Kd.R_new' ho0 (Kd.R_lt (rR HO629))) (bz HB));have n4_:=am (Kd.R_lower (Kd.R_new' ho1 (Kd.R_lt (rR HO631))) (bz HB));have n5_:=bst HB hb;clear HO624;clear HO629;clear HO631;clear HB;have HO624:=n0_;have HO629:=n1_;have HO631:=n2_;have HO636:=n3_;have HO638:=n4_;have HB:=n5_;clear n0_ n1_ n2_ n3_ n4_ n5_;(try clear hb);(try clear hb2);(try clear hk);(try clear hi);(try clear ho0);(try clear ho1))|((with_reducible refine gate_callee (f:=31) rfl ?_);refine goesL_ (some 33) rfl rfl Try.func31 (by kernel_rfl) rfl #[.slice A1 l1.length c1] rfl (by (try simp only [List.map_toArray,List.map_cons,List.map_nil]);first|done|rfl|(simp only [List.length_drop,List.length_take];rfl)) ?_;(with_reducible refine (extent_Join.calls k _ _ l1 t639 t640 _ ?side1 ?side2 A8.out).mono ?_);(case side1=>exact cc (Kd.C_below HR1.out HB.out));(case side2=>exact HC1.out);rintro e w65 ⟨v641,rfl,ho0,hb⟩;refine ⟨_,rfl,?_⟩;have n0_:=am (Kd.R_below (rR HO624) hb);have n1_:=am (Kd.R_elder' (rR HO629) (Kd.R_base ho0) hb);have n2_:=am (Kd.R_below (rR HO631) hb);have n3_:=am (Kd.R_elder' (rR HO636) (Kd.R_base ho0) hb);have n4_:=am (Kd.R_below (rR HO638) hb);have n5_:=am (Kd.R_lower (Kd.R_new' (Kd.R_new' ho0 (Kd.R_lt (rR HO629))) (Kd.R_lt (rR HO636))) (bz HB));have n6_:=bst HB hb;clear HO624;clear HO629;clear HO631;clear HO636;clear HO638;clear HB;have HO624:=n0_;have HO629:=n1_;have HO631:=n2_;have HO636:=n3_;have HO638:=n4_;have HO642:=n5_;have HB:=n6_;clear n0_ n1_ n2_ n3_ n4_ n5_ n6_;(try clear hb);(try clear hb2);(try clear hk);(try clear hi);(try clear ho0))|((with_reducible refine gate_callee (f:=33) rfl ?_);refine goesL_ (some 38) rfl rfl Try.func33 (by kernel_rfl) rfl #[.slice A1 l1.length c1] rfl (by (try simp only [List.map_toArray,List.map_cons,List.map_nil]);first|done|rfl|(simp only [List.length_drop,List.length_take];rfl)) ?_;(with_reducible refine (r_10_Join.calls k _ _ l1 t643 t644 _ ?side1 ?side2 A9.out).mono ?_);(case side1=>exact cc (Kd.C_below HR1.out HB.out));(case side2=>exact HC1.out);rintro e w66 ⟨v645,rfl,ho0,hb⟩;refine ⟨_,rfl,?_⟩;have n0_:=am (Kd.R_below (rR HO624) hb);have n1_:=am (Kd.R_elder' (rR HO629) (Kd.R_base ho0) hb);have n2_:=am (Kd.R_below (rR HO631) hb);have n3_:=am (Kd.R_elder' (rR HO636) (Kd.R_base ho0) hb);have n4_:=am (Kd.R_below (rR HO638) hb);have n5_:=am (Kd.R_elder' (rR HO642) (Kd.R_base ho0) hb);have n6_:=am (Kd.R_lower (Kd.R_new' (Kd.R_new' (Kd.R_new' ho0 (Kd.R_lt (rR HO629))) (Kd.R_lt (rR HO636))) (Kd.R_lt (rR HO642))) (bz HB));have n7_:=bst HB hb;clear HO624;clear HO629;clear HO631;clear HO636;clear HO638;clear HO642;clear HB;have HO624:=n0_;have HO629:=n1_;have HO631:=n2_;have HO636:=n3_;have HO638:=n4_;have HO642:=n5_;have HO646:=n6_;have HB:=n7_;clear n0_ n1_ n2_ n3_ n4_ n5_ n6_ n7_;(try clear hb);(try clear hb2);(try clear hk);(try clear hi);(try clear ho0);obtain ⟨Ao67,co67,eo67⟩:=Kd.R_slice HO629.out;subst eo67;obtain ⟨Ao68,co68,eo68⟩:=Kd.R_slice HO636.out;subst eo68)|(go_at_call 15;(with_reducible refine (r_10_Same.calls k _ _ t625 _ _ t632 false _ ?side1 ?side2 ?side3 ?side4 A11.out).mono ?_);(case side1=>exact cc (Kd.R_reads' HO629.out).2.2);(case side2=>exact (Kd.R_reads' HO629.out).2.1);(case side3=>exact cc (Kd.R_reads' HO636.out).2.2);(case side4=>exact (Kd.R_reads' HO636.out).2.1);rintro e w' ⟨rfl,⟨nd,rfl⟩⟩))
     go_ret
     exact ⟨by first|rfl|(simp [errW_none,errW_some]<;>rfl)|(simp [*,errW_none,errW_some]<;>rfl),bb HB⟩
   ·rw [if_neg c10] at H
    have c10b0:(t627==t634)=false:=beq_eq_false_iff_ne.mpr c10
    have c10b1:(t627 != t634)=true:=bne_iff_ne.mpr c10
    obtain rfl:=Option.some.inj H
    go_enter Try.func10,Try.ntmps10
    go_wp2_with (first|((with_reducible refine gate_callee (f:=11) rfl ?_);refine goesL_ (some 15) rfl rfl Try.func11 (by kernel_rfl) rfl #[] rfl (by (try simp only [List.map_toArray,List.map_cons,List.map_nil]);first|done|rfl|(simp only [List.length_drop,List.length_take];rfl)) ?_;(with_reducible refine (l_10_alive.calls k  true _ A3.out).mono ?_);rintro e w69 ⟨rfl,hb⟩;refine ⟨_,rfl,?_⟩;have n0_:=bst HB hb;clear HB;have HB:=n0_;clear n0_;(try clear hb);(try clear hb2);(try clear hk);(try clear hi))|((with_reducible refine gate_dst (N:=18) rfl ?_);refine Kd.R_lit (Kd.int .u8) _ 5 ?hg (N:=18) ?hd (xs:=([]:List Int)) (inner:=[]) (ok:=fun _=>True) (okp:=fun _=>True) ?hr ?hp (fun _ hk=>hk) trivial (Below.refl _ _) (Nat.le_refl _) (by simp) ?_;(case hd=>rfl);(case hg=>rfl);(case hr=>first|(go_simp;done)|(go_simp;rfl));(case hp=>exact (Reps.none _ _));intro v620 w70 ho71 hb hg_ hnew_;clear hg_ hnew_;(first|rw [← Ny619.out] at ho71|(simp only [Int.reduceToNat] at ho71;rw [← Ny619.out] at ho71));have n0_:=am (Kd.R_lower ho71 (bz HB));have n1_:=bst HB hb;clear HB;have HO621:=n0_;have HB:=n1_;clear n0_ n1_;clear hb ho71)|((with_reducible refine gate_builtin (b:=.append) (xs:=#[.tmp 18,.tmp 19]) rfl ?_);at_builtin;refine Kd.R_append_rows (Kd.int .u8) (w0:=w) w.heap.size rfl (.tmp 18) (.tmp 19) 46 5 (.int .u8 0) 1 rfl Try.underlying46 info5 rfl (by decide) (by omega) v620 y619 l0 _ _ _ (fun _=>True) (fun _=>False) rfl rfl ?aO ?aR (fun _ _ h=>h) (fun _ h=>h.elim) ?aF ?aB ?aS ?aL ?_;(case aR=>exact cc (Kd.C_below HR0.out HB.out));(case aB=>exact (bb HB));(case aF=>exact (fun _ _=>trivial));(case aO=>exact (rR HO621));(case aS=>exact (bz HB));(case aL=>have:=LMc5.out;omega);intro v623 w72 ho hb hg hat;rw [← Ny622.out] at ho;have n0_:=am (hb);have n1_:=am (ho);clear HB;clear HO621;have HB:=n0_;have HO624:=n1_;clear n0_ n1_;clear ho hb hg hat;obtain ⟨Ao73,co73,eo73⟩:=Kd.R_slice HO624.out;subst eo73)|((with_reducible refine gate_callee (f:=30) rfl ?_);refine goesL_ (some 21) rfl rfl Try.func30 (by kernel_rfl) rfl #[.slice Ao73 y622.length co73] rfl (by (try simp only [List.map_toArray,List.map_cons,List.map_nil]);first|done|rfl|(simp only [List.length_drop,List.length_take];rfl)) ?_;(with_reducible refine (extent_Root.calls k _ _ y622 t625 t626 t627 _ ?side1 ?side2 A6.out).mono ?_);(case side1=>exact cc (Kd.R_reads' HO624.out).2.2);(case side2=>exact (Kd.R_reads' HO624.out).2.1);rintro e w74 ⟨v628,v630,rfl,ho0,ho1,hb⟩;refine ⟨_,rfl,?_⟩;have n0_:=am (Kd.R_below (rR HO624) hb);have n1_:=am (Kd.R_lower ho0 (bz HB));have n2_:=am (Kd.R_lower ho1 (bz HB));have n3_:=bst HB hb;clear HO624;clear HB;have HO624:=n0_;have HO629:=n1_;have HO631:=n2_;have HB:=n3_;clear n0_ n1_ n2_ n3_;(try clear hb);(try clear hb2);(try clear hk);(try clear hi);(try clear ho0);(try clear ho1))|((with_reducible refine gate_callee (f:=32) rfl ?_);refine goesL_ (some 27) rfl rfl Try.func32 (by kernel_rfl) rfl #[.slice A0 l0.length c0] rfl (by (try simp only [List.map_toArray,List.map_cons,List.map_nil]);first|done|rfl|(simp only [List.length_drop,List.length_take];rfl)) ?_;(with_reducible refine (r_10_Root.calls k _ _ l0 t632 t633 t634 _ ?side1 ?side2 A7.out).mono ?_);(case side1=>exact cc (Kd.C_below HR0.out HB.out));(case side2=>exact HC0.out);rintro e w75 ⟨v635,v637,rfl,ho0,ho1,hb⟩;refine ⟨_,rfl,?_⟩;have n0_:=am (Kd.R_below (rR HO624) hb);have n1_:=am (Kd.R_elder' (rR HO629) (Kd.R_base ho0) hb);have n2_:=am (Kd.R_elder' (rR HO631) (Kd.R_base ho1) hb);have n3_:=am (Kd.R_lower (Kd.R_new' ho0 (Kd.R_lt (rR HO629))) (bz HB));have n4_:=am (Kd.R_lower (Kd.R_new' ho1 (Kd.R_lt (rR HO631))) (bz HB));have n5_:=bst HB hb;clear HO624;clear HO629;clear HO631;clear HB;have HO624:=n0_;have HO629:=n1_;have HO631:=n2_;have HO636:=n3_;have HO638:=n4_;have HB:=n5_;clear n0_ n1_ n2_ n3_ n4_ n5_;(try clear hb);(try clear hb2);(try clear hk);(try clear hi);(try clear ho0);(try clear ho1))|((with_reducible refine gate_callee (f:=31) rfl ?_);refine goesL_ (some 33) rfl rfl Try.func31 (by kernel_rfl) rfl #[.slice A1 l1.length c1] rfl (by (try simp only [List.map_toArray,List.map_cons,List.map_nil]);first|done|rfl|(simp only [List.length_drop,List.length_take];rfl)) ?_;(with_reducible refine (extent_Join.calls k _ _ l1 t639 t640 _ ?side1 ?side2 A8.out).mono ?_);(case side1=>exact cc (Kd.C_below HR1.out HB.out));(case side2=>exact HC1.out);rintro e w76 ⟨v641,rfl,ho0,hb⟩;refine ⟨_,rfl,?_⟩;have n0_:=am (Kd.R_below (rR HO624) hb);have n1_:=am (Kd.R_elder' (rR HO629) (Kd.R_base ho0) hb);have n2_:=am (Kd.R_below (rR HO631) hb);have n3_:=am (Kd.R_elder' (rR HO636) (Kd.R_base ho0) hb);have n4_:=am (Kd.R_below (rR HO638) hb);have n5_:=am (Kd.R_lower (Kd.R_new' (Kd.R_new' ho0 (Kd.R_lt (rR HO629))) (Kd.R_lt (rR HO636))) (bz HB));have n6_:=bst HB hb;clear HO624;clear HO629;clear HO631;clear HO636;clear HO638;clear HB;have HO624:=n0_;have HO629:=n1_;have HO631:=n2_;have HO636:=n3_;have HO638:=n4_;have HO642:=n5_;have HB:=n6_;clear n0_ n1_ n2_ n3_ n4_ n5_ n6_;(try clear hb);(try clear hb2);(try clear hk);(try clear hi);(try clear ho0))|((with_reducible refine gate_callee (f:=33) rfl ?_);refine goesL_ (some 38) rfl rfl Try.func33 (by kernel_rfl) rfl #[.slice A1 l1.length c1] rfl (by (try simp only [List.map_toArray,List.map_cons,List.map_nil]);first|done|rfl|(simp only [List.length_drop,List.length_take];rfl)) ?_;(with_reducible refine (r_10_Join.calls k _ _ l1 t643 t644 _ ?side1 ?side2 A9.out).mono ?_);(case side1=>exact cc (Kd.C_below HR1.out HB.out));(case side2=>exact HC1.out);rintro e w77 ⟨v645,rfl,ho0,hb⟩;refine ⟨_,rfl,?_⟩;have n0_:=am (Kd.R_below (rR HO624) hb);have n1_:=am (Kd.R_elder' (rR HO629) (Kd.R_base ho0) hb);have n2_:=am (Kd.R_below (rR HO631) hb);have n3_:=am (Kd.R_elder' (rR HO636) (Kd.R_base ho0) hb);have n4_:=am (Kd.R_below (rR HO638) hb);have n5_:=am (Kd.R_elder' (rR HO642) (Kd.R_base ho0) hb);have n6_:=am (Kd.R_lower (Kd.R_new' (Kd.R_new' (Kd.R_new' ho0 (Kd.R_lt (rR HO629))) (Kd.R_lt (rR HO636))) (Kd.R_lt (rR HO642))) (bz HB));have n7_:=bst HB hb;clear HO624;clear HO629;clear HO631;clear HO636;clear HO638;clear HO642;clear HB;have HO624:=n0_;have HO629:=n1_;have HO631:=n2_;have HO636:=n3_;have HO638:=n4_;have HO642:=n5_;have HO646:=n6_;have HB:=n7_;clear n0_ n1_ n2_ n3_ n4_ n5_ n6_ n7_;(try clear hb);(try clear hb2);(try clear hk);(try clear hi);(try clear ho0)))
    go_ret
    exact ⟨by first|rfl|(simp [errW_none,errW_some]<;>rfl)|(simp [*,errW_none,errW_some]<;>rfl),bb HB⟩
  ·rw [if_neg c5] at H
   exact absurd H (by simp)
 ·replace c4:=Bool.eq_false_iff.mpr c4
  subst c4
  have H1:(some false)=some r:=by rw [if_neg (show ¬ (false=true) by decide)] at H;exact H
  clear H;have H:=H1;clear H1;obtain rfl:=Option.some.inj H
  go_enter Try.func10,Try.ntmps10
  go_wp2_with (first|((with_reducible refine gate_callee (f:=11) rfl ?_);refine goesL_ (some 15) rfl rfl Try.func11 (by kernel_rfl) rfl #[] rfl (by (try simp only [List.map_toArray,List.map_cons,List.map_nil]);first|done|rfl|(simp only [List.length_drop,List.length_take];rfl)) ?_;(with_reducible refine (l_10_alive.calls k  false _ A3.out).mono ?_);rintro e w78 ⟨rfl,hb⟩;refine ⟨_,rfl,?_⟩;have n0_:=bst HB hb;clear HB;have HB:=n0_;clear n0_;(try clear hb);(try clear hb2);(try clear hk);(try clear hi)))
  go_ret
  exact ⟨by first|rfl|(simp [errW_none,errW_some]<;>rfl)|(simp [*,errW_none,errW_some]<;>rfl),bb HB⟩
end Go.Proofs.Ytopmjjnkolfciaa.Pr
end
section
namespace Go.Proofs.Ytopmjjnkolfciaa.Pr
open Go.RowKit Go.Proofs.YtopmjjnkolfciaaW.PrintWords Go.Proofs.YtopmjjnkolfciaaW.PrintMore Go.Proofs.Ytopmjjnkolfciaa.Od
open Go.Proofs.Ytopmjjnkolfciaa.Cr hiding Ev.succ bs
set_option linter.unusedVariables false
set_option linter.unusedSimpArgs false
set_option maxRecDepth 20000
theorem sameInts_l0 (l : List Int) (hl : l.length < 9223372036854775807) : ∀ (d i : Nat), i + d = l.length → Ev (fun k => r_03_SameInts.l0 k l l (i : Int)) true
  | 0, i, hd => by
    refine Ev.succ ?_
    simp only [r_03_SameInts.l0, if_neg (show ¬ ((i : Int) < (l.length : Int)) by omega)]
    exact Ev.now _
  | d + 1, i, hd => by
    have hw : wrap64 ((i : Int) + 1) = ((i + 1 : Nat) : Int) := by rw [w64 (by omega) (by omega)]; omega
    refine Ev.succ ?_
    simp only [r_03_SameInts.l0, if_pos (show (i : Int) < (l.length : Int) by omega), if_pos (show (0 : Int) ≤ (i : Int) by omega), if_true, hw]
    exact sameInts_l0 l hl d (i + 1) (by omega)
theorem sameInts_ev (l : List Int) (hl : l.length < 9223372036854775807) : Ev (fun k => r_03_SameInts.f k l l) true := by
  unfold r_03_SameInts.f
  simp only [if_true]
  exact sameInts_l0 l hl l.length 0 (by omega)
theorem ExtentReads (b : List Int) (ns : List (List Int)) (hb : ∀ x ∈ b, isByte x) (hl : b.length < 140737488355328) (hn : bytesAll ns) (hnl : ns.length < 9223372036854775807) : ∃ k, l_10_ExtentReads.f k b ns = some true := by
  refine Ev.rounds ?_
  unfold l_10_ExtentReads.f
  refine Ev.bind alive_ev ?_
  simp only [if_true, Cr.bs, List.length_nil, Nat.zero_add, if_pos hl, List.nil_append]
  refine Ev.bind (proot_ev b hb) ?_
  refine Ev.bind (rroot_ev b hb) ?_
  refine Ev.bind (pjoin_ev ns hn) ?_
  refine Ev.bind (rjoin_ev ns hn hnl) ?_
  rw [← root_eq, ← join_eq]
  have h1 := rootP_len b
  have h2 := joinP_len ns
  simp only [if_true]
  refine Ev.bind (same_ev _ (by omega)) ?_
  simp only [if_true]
  refine Ev.bind (sameInts_ev _ (by omega)) ?_
  simp only [if_true]
  refine Ev.bind (same_ev _ (by omega)) ?_
  exact Ev.now _
theorem oBytes : Op.Opens Try.prog 46 (Kd.slice 5 (Kd.int .u8)) (fun b => (∀ x ∈ b, isByte x) ∧ b.length < 140737488355328) := by
  intro H enc W fuel cs x h hw
  obtain ⟨v, hk, hs⟩ := Op.opens_slice (B := 1) Try.underlying46 (by kernel_rfl) (by kernel_rfl) (Op.opens_int Try.underlying5) h hw
  exact ⟨v, hk, fun y hy => by have := bounds_u8 (hs.2 y hy); constructor <;> omega, by have := hs.1; omega⟩
theorem oRows : Op.Opens Try.prog 47 (Kd.slice 46 (Kd.slice 5 (Kd.int .u8))) (fun ns => bytesAll ns ∧ ns.length < 9223372036854775807) := by
  intro H enc W fuel cs x h hw
  obtain ⟨v, hk, hs⟩ := Op.opens_slice (B := 24) Try.underlying47 (by kernel_rfl) (by kernel_rfl) oBytes h hw
  exact ⟨v, hk, fun y hy => (hs.2 y hy).1, by have := hs.1; omega⟩
end Go.Proofs.Ytopmjjnkolfciaa.Pr
end
section
namespace Go.Proofs.Ytopmjjnkolfciaa.extentReads
open Go.ChangeShapes Go.WideShapes Go.ChangeAt Go.RowKit Go.Proofs.YtopmjjnkolfciaaW.PrintWords Go.Proofs.Ytopmjjnkolfciaa.Pr Go.Proofs.Ytopmjjnkolfciaa.Op Go.Joins
open Go.ChangeMaps (open_string shut_string)
set_option linter.unusedVariables false
theorem own : ownKnob Try.prog.godebug = none := by kernel_rfl
theorem laidOut : laidOutB Try.prog = true := by kernel_rfl
set_option maxRecDepth 100000 in
theorem contract (H : Type) (enc : TypeId × Value → H) (W : World) (base : Nat) (args : Array Value) (ds gs : List (DataW H)) (before : List MemPlace)
    (hval : ∀ (j : Nat) t v, Try.f10.params[j]? = some t → args[j]? = some v → Value.okWide Try.prog W .any base t v)
    (hW : DataW.Whole enc Try.prog Try.f10.params.toList Rows.extentReadsSpec.vars false W args.toList ds gs before)
    (hsz : (DataW.weightsEach Try.prog (Try.f10.params.toList ++ Rows.extentReadsSpec.plain.varTypes Try.prog) (ds ++ gs)).all (· ≤ reachBytes) = true) :
    Calls Try.prog 10 args W fun e W' => ∃ v, e = .returned v ∧ Rows.extentReadsSpec.post enc Try.prog Try.f10 false true false false W args v W' := by
  have hW' := hW
  obtain ⟨p, q, hA0, hV, rfl, hfz, hnd⟩ := hW
  have hA : DataW.TrodAll enc Try.prog W 0 (fun _ => true) true Try.f10.params.toList args.toList ds p := hA0
  rw [Try.params10] at hA hval hsz
  obtain ⟨v0, vs0, d0, ds0, p0, q0, hargs, rfl, rfl, h0, r0⟩ := trodAll_cons hA
  obtain ⟨v1, vs1, d1, ds1, p1, q1, rfl, rfl, rfl, h1, r1⟩ := trodAll_cons r0
  obtain ⟨rfl, rfl, rfl⟩ := trodAll_nil r1
  obtain rfl : args = #[v0, v1] := by cases args; simp_all
  obtain ⟨rfl, rfl⟩ := trodVars_none hV
  have lt0 : ∀ x ∈ p0, x.block < W.heap.size := by obtain ⟨m, hm⟩ := h0; exact DataW.trod_lt m _ _ _ hm
  have k0 := h0
  obtain ⟨A0, l0, c0, rfl, hc0, hr0, hs0⟩ := arg_slice Try.underlying46 Pr.oBytes (hval 0 46 v0 rfl rfl) h0 hsz (j := 0) (t := 46) rfl rfl
  have lt1 : ∀ x ∈ p1, x.block < W.heap.size := by obtain ⟨m, hm⟩ := h1; exact DataW.trod_lt m _ _ _ hm
  have k1 := h1
  obtain ⟨A1, l1, c1, rfl, hc1, hr1, hs1⟩ := arg_slice Try.underlying47 Pr.oRows (hval 1 47 v1 rfl rfl) h1 hsz (j := 1) (t := 47) rfl rfl
  clear hA0
  obtain ⟨k, hk⟩ := Pr.ExtentReads l0 l1 hs0.1 hs0.2 hs1.1 hs1.2
  refine (l_10_ExtentReads.calls k A0 c0 l0 A1 c1 l1 true W hr0 hc0 hr1 hc1 hk).mono fun e W' ⟨he, bel⟩ => ?_
  subst he
  exact ⟨_, rfl, _, _, _, [], _, [], hW', trodAll_mk1 (shut_bool Try.underlying4 _), (trodAll_cons_mk (Below.trod laidOut (by kernel_rfl) (of_decide_eq_true (by kernel_rfl)) k0 bel lt0) (trodAll_cons_mk (Below.trod laidOut (by kernel_rfl) (of_decide_eq_true (by kernel_rfl)) k1 bel lt1) trodAll_mk0)), rfl, bel.frame _, fun h => by cases h⟩
set_option maxRecDepth 100000 in
theorem lifted (os : Os) (started : os.Started) (H : Type) (enc : TypeId × Value → H) :
    ReturnsInHanded {} Try.checked os 10 .any (Rows.extentReadsSpec.pre6 enc Try.prog Try.f10 Rows.extentReadsRow.domain false) (Rows.extentReadsSpec.post enc Try.prog Try.f10 false true false false) := by
  refine returnsInHanded_of_change_sized (C := Try.checked) own started (by kernel_rfl) Try.func10
    (ChangeSpec.witness6 (enc := enc) (C := Try.checked) false ⟨#[], #[.slice none 0 0, .slice none 0 0], []⟩ 8 (by kernel_rfl) (by kernel_rfl) (by kernel_rfl) (by kernel_rfl)) ?_
  intro W base args ds gs before hval hW _ hsz _
  exact contract H enc W base args ds gs before hval hW hsz
theorem over : Rows.extentReadsRow.holds Try.pinned (OpenSpec.ofChange Rows.extentReadsSpec) :=
  OpenClaim.holds_of_wide 10 Try.f10 rfl rfl rfl rfl rfl rfl rfl ⟨rfl, rfl, rfl, rfl, rfl⟩ rfl rfl rfl rfl rfl (by kernel_rfl) Try.func10 (by kernel_rfl)
    (of_decide_eq_true (by kernel_rfl)) (by unfold Func.isWrapper; first | (rw [if_pos (by decide +kernel)]; kernel_rfl) | (rw [if_neg (by decide +kernel)]; exact ⟨rfl, rfl⟩))
    (fun os started H enc _ => lifted os started H enc)
theorem proved : Rows.ExtentReadsSaid := over
end Go.Proofs.Ytopmjjnkolfciaa.extentReads
namespace Go.Proofs.Ytopmjjnkolfciaa
theorem extentReads_holds : Rows.ExtentReadsSaid := extentReads.proved
end Go.Proofs.Ytopmjjnkolfciaa
end
