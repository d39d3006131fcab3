/- Bytes that are read as a note are the note's own bytes. No condition. -/
import Derived.Test.YtndlgmciplckjaaNPlain
set_option linter.unusedVariables false
set_option linter.unusedSimpArgs false
namespace Go.Proofs.Ytndlgmciplckjaa.note
open Go.ChangeShapes Go.WideShapes Go.ChangeAt Go.RowKit Go.Gz
set_option maxHeartbeats 4000000
set_option maxRecDepth 10000
theorem bOf_val (x : Int) : ((bOf x).toNat : Int) = x % 256 := by
  have := byteAV_bOf x
  simp only [byteAV, AV.int.injEq, true_and] at this
  rw [this]; exact IntKind.wrap_u8 x
theorem bOf_eq {x : Int} {a : UInt8} (h : x % 256 = (a.toNat : Int)) : bOf x = a := by
  have h1 := bOf_val x
  apply UInt8.toNat_inj.1
  omega
theorem u32_val (a b c d : UInt8) : u32 (val32 a b c d) = [a, b, c, d] := by
  have ha := byte_lt a; have hb := byte_lt b; have hc := byte_lt c; have hd := byte_lt d
  unfold u32 val32
  rw [Int.fdiv_eq_ediv_of_nonneg _ (by omega), Int.fdiv_eq_ediv_of_nonneg _ (by omega), Int.fdiv_eq_ediv_of_nonneg _ (by omega)]
  rw [bOf_eq (a := a) (by omega), bOf_eq (a := b) (by omega), bOf_eq (a := c) (by omega), bOf_eq (a := d) (by omega)]
theorem num_can {r : List UInt8} {e : Int} (h : (rdNum r e).2.2 = 0) : e = 0 ∧ r = u32 (rdNum r e).1 ++ (rdNum r e).2.1 ∧ badN (rdNum r e).1 = false := by
  unfold rdNum at h ⊢
  by_cases he : e = 0
  · simp only [he, if_true] at h ⊢
    split at h
    · split at h
      · simp at h
      · rename_i a b c d r' hv
        simp only [if_neg hv]
        refine ⟨trivial, by rw [u32_val]; rfl, ?_⟩
        have : 0 ≤ val32 a b c d := Int.natCast_nonneg _
        simp only [badN, Bool.or_eq_false_iff, decide_eq_false_iff_not]; omega
    · simp at h
  · simp only [if_neg he] at h; exact absurd h he
theorem stN_can {s : St} (h : (stN s).2 = 0) : s.2 = 0 ∧ s.1 = u32 (vN s) ++ (stN s).1 ∧ badN (vN s) = false := num_can h
theorem stT_can {s : St} (h : (stT s).2 = 0) : s.2 = 0 ∧ s.1 = txt (vT s) ++ (stT s).1 ∧ badT (vT s) = false := by
  have h : (rdText s.1 s.2).2.2 = 0 := h
  have e1 : (stT s).1 = (rdText s.1 s.2).2.1 := rfl
  have e2 : vT s = (rdText s.1 s.2).1 := rfl
  rw [e1, e2]
  unfold rdText at h ⊢
  simp only at h ⊢
  by_cases h0 : (rdNum s.1 s.2).2.2 = 0
  · obtain ⟨k1, k2, k3⟩ := num_can h0
    have hn := rdNum_nonneg s.1 s.2
    generalize rdNum s.1 s.2 = p at h h0 k2 k3 hn ⊢
    obtain ⟨n, r, e⟩ := p
    simp only at h h0 k2 k3 hn ⊢
    subst h0
    simp only [if_true] at h ⊢
    by_cases hl : n.toNat ≤ r.length
    · simp only [if_pos hl] at h ⊢
      have hlen : ((r.take n.toNat).length : Int) = n := by rw [List.length_take, Nat.min_eq_left hl]; omega
      refine ⟨k1, ?_, by unfold badT; rw [hlen]; exact k3⟩
      rw [k2]; unfold txt; rw [hlen, List.append_assoc, List.take_append_drop]
    · rw [if_neg hl] at h; simp at h
  · simp only [if_neg h0] at h; exact absurd h h0
theorem stB_can {s : St} (h : (stB s).2 = 0) : s.2 = 0 ∧ s.1 = tb (vB s) ++ (stB s).1 := by
  have h : (rdTruth s.1 s.2).2.2 = 0 := h
  have e1 : (stB s).1 = (rdTruth s.1 s.2).2.1 := rfl
  have e2 : vB s = (rdTruth s.1 s.2).1 := rfl
  rw [e1, e2]
  obtain ⟨r, e⟩ := s
  unfold rdTruth at h ⊢
  by_cases he : e = 0
  · subst he
    simp only [if_true] at h ⊢
    match r, h with
    | a :: r, h =>
      simp only at h ⊢
      by_cases hv : 1 < a.toNat
      · simp [hv] at h
      · simp only [if_neg hv]
        refine ⟨trivial, ?_⟩
        have ha : a = if decide ((a.toNat : Int) = 1) = true then 1 else 0 := by
          by_cases h1 : a.toNat = 1
          · have : decide ((a.toNat : Int) = 1) = true := by rw [decide_eq_true_eq]; omega
            rw [this, if_pos rfl]; apply UInt8.toNat_inj.1; rw [h1]; rfl
          · have : decide ((a.toNat : Int) = 1) = false := by rw [decide_eq_false_iff_not]; omega
            rw [this, if_neg (by decide)]; apply UInt8.toNat_inj.1; have : a.toNat = 0 := by omega
            rw [this]; rfl
        show a :: r = [_] ++ r
        rw [← ha]; rfl
    | [], h => simp at h
  · simp only [if_neg he] at h; exact absurd h he
theorem end_can {r : List UInt8} {e : Int} (h : rdEnd r e = 0) : e = 0 ∧ r = [] := by
  unfold rdEnd at h
  split at h
  · cases h
  · rename_i hn
    refine ⟨h, ?_⟩
    cases r with
    | nil => rfl
    | cons a r => exact absurd ⟨h, by simp⟩ hn
theorem readAsk_can {bs : List UInt8} (h : (readAsk bs).2 = 0) : (readAsk bs).1.bytes = bs := by
  unfold readAsk at h ⊢
  split at h
  · cases h
  rename_i hl
  simp only [if_neg hl]
  unfold readAskF at h ⊢
  have hs : bs = ((bs, 0) : St).1 := rfl
  generalize ((bs, 0) : St) = s0 at h hs ⊢
  generalize g1 : stN s0 = s1 at h ⊢
  generalize g2 : stN s1 = s2 at h ⊢
  generalize g3 : stN s2 = s3 at h ⊢
  generalize g4 : stN s3 = s4 at h ⊢
  generalize g5 : stT s4 = s5 at h ⊢
  generalize g6 : stT s5 = s6 at h ⊢
  generalize g7 : stT s6 = s7 at h ⊢
  generalize g8 : stT s7 = s8 at h ⊢
  unfold readAskG at h ⊢
  split at h
  case isFalse hn => exact absurd h hn
  rename_i he
  simp only [if_pos he]
  obtain ⟨e8, c8⟩ := end_can he
  obtain ⟨e7, c7, _⟩ := stT_can (s := s7) (by rw [g8]; exact e8)
  obtain ⟨e6, c6, _⟩ := stT_can (s := s6) (by rw [g7]; exact e7)
  obtain ⟨e5, c5, _⟩ := stT_can (s := s5) (by rw [g6]; exact e6)
  obtain ⟨e4, c4, _⟩ := stT_can (s := s4) (by rw [g5]; exact e5)
  obtain ⟨e3, c3, _⟩ := stN_can (s := s3) (by rw [g4]; exact e4)
  obtain ⟨e2, c2, _⟩ := stN_can (s := s2) (by rw [g3]; exact e3)
  obtain ⟨e1, c1, _⟩ := stN_can (s := s1) (by rw [g2]; exact e2)
  obtain ⟨e0, c0, _⟩ := stN_can (s := s0) (by rw [g1]; exact e1)
  rw [ask_bytes, hs, c0, g1, c1, g2, c2, g3, c3, g4, c4, g5, c5, g6, c6, g7, c7, g8, c8]
theorem list_can : ∀ {k : Nat} {s : St} {acc : List (List UInt8 × List UInt8)}, (rdList k s acc).1.2 = 0 → s.2 = 0 ∧ ∃ l, l.length = k ∧ (rdList k s acc).2 = acc ++ l ∧ s.1 = l.flatMap txt2 ++ (rdList k s acc).1.1 ∧ l.any badT2 = false
  | 0, s, acc, h => ⟨h, [], rfl, by simp [rdList], by simp [rdList], rfl⟩
  | k + 1, s, acc, h => by
    unfold rdList at h ⊢
    by_cases he : s.2 = 0
    · simp only [if_pos he] at h ⊢
      obtain ⟨e2, l, l1, l2, l3, l4⟩ := list_can h
      obtain ⟨e1, c1, b1⟩ := stT_can e2
      obtain ⟨e0, c0, b0⟩ := stT_can e1
      refine ⟨he, (vT s, vT (stT s)) :: l, by simp [l1], by rw [l2]; simp, ?_, ?_⟩
      · rw [c0, c1, l3]; simp [txt2]
      · simp only [List.any_cons, l4, badT2, b0, b1, Bool.or_self]
    · simp only [if_neg he] at h; exact absurd h he
theorem readReply_can {bs : List UInt8} (h : (readReply bs).2 = 0) : (readReply bs).1.bytes = bs ∧ (readReply bs).1.bad = false := by
  unfold readReply at h ⊢
  split at h
  · cases h
  rename_i hl
  simp only [if_neg hl]
  unfold readReplyF at h ⊢
  have hs : bs = ((bs, 0) : St).1 := rfl
  generalize ((bs, 0) : St) = s0 at h hs ⊢
  generalize g1 : stN s0 = s1 at h ⊢
  generalize g2 : stN s1 = s2 at h ⊢
  generalize g3 : stN s2 = s3 at h ⊢
  generalize g4 : stB s3 = s4 at h ⊢
  generalize g5 : stT s4 = s5 at h ⊢
  generalize g6 : stN s5 = s6 at h ⊢
  generalize gT : rdList (vN s5).toNat s6 [] = T at h ⊢
  unfold readReplyG at h ⊢
  split at h
  case isFalse hn => exact absurd h hn
  rename_i he
  simp only [if_pos he]
  obtain ⟨e9, c9⟩ := end_can he
  obtain ⟨e8, c8⟩ := stB_can e9
  obtain ⟨e7, c7, b7⟩ := stT_can e8
  obtain ⟨e6, l, l1, l2, l3, l4⟩ := list_can (k := (vN s5).toNat) (s := s6) (acc := []) (by rw [gT]; exact e7)
  rw [gT, List.nil_append] at l2
  rw [gT] at l3
  obtain ⟨e5, c5, b5⟩ := stN_can (s := s5) (by rw [g6]; exact e6)
  obtain ⟨e4, c4, b4⟩ := stT_can (s := s4) (by rw [g5]; exact e5)
  obtain ⟨e3, c3⟩ := stB_can (s := s3) (by rw [g4]; exact e4)
  obtain ⟨e2, c2, b2⟩ := stN_can (s := s2) (by rw [g3]; exact e3)
  obtain ⟨e1, c1, b1⟩ := stN_can (s := s1) (by rw [g2]; exact e2)
  obtain ⟨e0, c0, b0⟩ := stN_can (s := s0) (by rw [g1]; exact e1)
  have hn : ((l.length : Nat) : Int) = vN s5 := by
    rw [l1]
    simp only [badN, Bool.or_eq_false_iff, decide_eq_false_iff_not] at b5; omega
  have key : RepV.bytes ⟨vN s0, vN s1, vN s2, vB s3, vT s4, T.2, vT T.1, vB (stT T.1)⟩ = bs := by
    rw [rep_bytes]
    simp only [l2, hn]
    rw [hs, c0, g1, c1, g2, c2, g3, c3, g4, c4, g5, c5, g6, l3, c7, c8, c9]
  refine ⟨key, ?_⟩
  have hk : (RepV.bytes ⟨vN s0, vN s1, vN s2, vB s3, vT s4, T.2, vT T.1, vB (stT T.1)⟩).length ≤ 32768 := by rw [key]; omega
  rw [l2] at hk ⊢
  have hd : decide (32768 < (RepV.bytes ⟨vN s0, vN s1, vN s2, vB s3, vT s4, l, vT T.1, vB (stT T.1)⟩).length) = false := by rw [decide_eq_false_iff_not]; omega
  have hd2 : decide ((32768 : Int) < ((RepV.bytes ⟨vN s0, vN s1, vN s2, vB s3, vT s4, l, vT T.1, vB (stT T.1)⟩).length : Int)) = false := by rw [decide_eq_false_iff_not]; omega
  simp only [RepV.bad, RepV.badH, List.any_cons, List.any_nil, b0, b1, b2, b4, b7, l4, hn, b5, hd, hd2, Bool.or_self]
theorem unrec_can {bs : List UInt8} (h : (unrec bs).2 = 0) : txt2 (unrec bs).1 = bs := by
  unfold unrec at h ⊢
  have hs : bs = ((bs, 0) : St).1 := rfl
  generalize ((bs, 0) : St) = s0 at h hs ⊢
  generalize g1 : stT s0 = s1 at h ⊢
  generalize g2 : stT s1 = s2 at h ⊢
  unfold unrecG at h ⊢
  obtain ⟨e2, c2⟩ := end_can h
  obtain ⟨e1, c1, _⟩ := stT_can (s := s1) (by rw [g2]; exact e2)
  obtain ⟨e0, c0, _⟩ := stT_can (s := s0) (by rw [g1]; exact e1)
  rw [hs, c0, g1, c1, g2, c2]; simp [txt2]
theorem unsh_can {bs : List UInt8} (h : (unsh bs).2 = 0) : (unsh bs).1.bytes = bs := by
  unfold unsh at h ⊢
  have hs : bs = ((bs, 0) : St).1 := rfl
  generalize ((bs, 0) : St) = s0 at h hs ⊢
  generalize g1 : stT s0 = s1 at h ⊢
  generalize g2 : stT s1 = s2 at h ⊢
  generalize g3 : stN s2 = s3 at h ⊢
  generalize g4 : stN s3 = s4 at h ⊢
  unfold unshG at h ⊢
  obtain ⟨e4, c4⟩ := end_can h
  obtain ⟨e3, c3, _⟩ := stN_can (s := s3) (by rw [g4]; exact e4)
  obtain ⟨e2, c2, _⟩ := stN_can (s := s2) (by rw [g3]; exact e3)
  obtain ⟨e1, c1, _⟩ := stT_can (s := s1) (by rw [g2]; exact e2)
  obtain ⟨e0, c0, _⟩ := stT_can (s := s0) (by rw [g1]; exact e1)
  rw [hs, c0, g1, c1, g2, c2, g3, c3, g4, c4]; simp [ShV.bytes]
theorem unla_can {bs : List UInt8} (h : (unla bs).2 = 0) : (unla bs).1.bytes = bs ∧ (unla bs).1.rep.bad = false := by
  unfold unla at h ⊢
  have hs : bs = ((bs, 0) : St).1 := rfl
  generalize ((bs, 0) : St) = s0 at h hs ⊢
  generalize g1 : stN s0 = s1 at h ⊢
  generalize g2 : stT s1 = s2 at h ⊢
  unfold unlaG at h ⊢
  split at h
  case isFalse hn => exact absurd h hn
  rename_i he
  simp only [if_pos he]
  obtain ⟨e2, c2⟩ := end_can he
  obtain ⟨e1, c1, _⟩ := stT_can (s := s1) (by rw [g2]; exact e2)
  obtain ⟨e0, c0, _⟩ := stN_can (s := s0) (by rw [g1]; exact e1)
  obtain ⟨k1, k2⟩ := readReply_can h
  refine ⟨?_, k2⟩
  rw [hs, c0, g1, c1, g2, c2]; simp [LaV.bytes, k1, k2]
theorem finRec_can {s : St} {acc : List (List UInt8 × List UInt8)} (h : (finRec s acc).2 = 0) : s.2 = 0 ∧ s.1 = [] ∧ (finRec s acc).1 = acc := by
  unfold finRec at h ⊢
  split at h
  case isFalse hn => exact absurd h hn
  rename_i he
  obtain ⟨h1, h2⟩ := end_can he
  exact ⟨h1, h2, by rw [if_pos he]⟩
theorem lstRec_can : ∀ {k : Nat} {s : St} {acc : List (List UInt8 × List UInt8)}, (lstRec k s acc).2 = 0 → s.2 = 0 ∧ ∃ l : List (List UInt8 × List UInt8), l.length = k ∧ (lstRec k s acc).1 = acc ++ l ∧ s.1 = (l.flatMap fun x => txt (txt2 x))
  | 0, s, acc, h => by
    obtain ⟨h1, h2, h3⟩ := finRec_can (s := s) (acc := acc) h
    exact ⟨h1, [], rfl, by rw [List.append_nil]; exact h3, h2⟩
  | k + 1, s, acc, h => by
    unfold lstRec at h ⊢
    by_cases he : s.2 = 0
    · by_cases he1 : (stT s).2 = 0
      · by_cases he2 : (unrec (vT s)).2 = 0
        · simp only [if_pos he, if_pos he1, if_pos he2] at h ⊢
          obtain ⟨e2, l, l1, l2, l3⟩ := lstRec_can h
          obtain ⟨e1, c1, b1⟩ := stT_can he1
          have hu := unrec_can he2
          refine ⟨he, (unrec (vT s)).1 :: l, by simp [l1], by rw [l2]; simp, ?_⟩
          · rw [c1, l3, List.flatMap_cons, hu]
        · simp only [if_pos he, if_pos he1, if_neg he2] at h; exact absurd h he2
      · simp only [if_pos he, if_neg he1] at h
        exact absurd (finRec_can h).1 he1
    · simp only [if_neg he] at h
      exact absurd (finRec_can h).1 he
theorem readRec_can {bs : List UInt8} (h : (readRec bs).2 = 0) : bytesRec (readRec bs).1 = bs := by
  unfold readRec at h ⊢
  obtain ⟨e1, l, l1, l2, l3⟩ := lstRec_can h
  obtain ⟨e0, c0, b0⟩ := stN_can e1
  have hn : ((l.length : Nat) : Int) = vN (bs, 0) := by
    rw [l1]
    simp only [badN, Bool.or_eq_false_iff, decide_eq_false_iff_not] at b0; omega
  rw [l2, List.nil_append]
  have c0 : bs = u32 (vN (bs, 0)) ++ (stN (bs, 0)).1 := c0
  rw [bytesRec, hn, ← l3]; exact c0.symm
theorem finSh_can {s : St} {acc : List (ShV)} (h : (finSh s acc).2 = 0) : s.2 = 0 ∧ s.1 = [] ∧ (finSh s acc).1 = acc := by
  unfold finSh at h ⊢
  split at h
  case isFalse hn => exact absurd h hn
  rename_i he
  obtain ⟨h1, h2⟩ := end_can he
  exact ⟨h1, h2, by rw [if_pos he]⟩
theorem lstSh_can : ∀ {k : Nat} {s : St} {acc : List (ShV)}, (lstSh k s acc).2 = 0 → s.2 = 0 ∧ ∃ l : List (ShV), l.length = k ∧ (lstSh k s acc).1 = acc ++ l ∧ s.1 = (l.flatMap fun x => txt (ShV.bytes x))
  | 0, s, acc, h => by
    obtain ⟨h1, h2, h3⟩ := finSh_can (s := s) (acc := acc) h
    exact ⟨h1, [], rfl, by rw [List.append_nil]; exact h3, h2⟩
  | k + 1, s, acc, h => by
    unfold lstSh at h ⊢
    by_cases he : s.2 = 0
    · by_cases he1 : (stT s).2 = 0
      · by_cases he2 : (unsh (vT s)).2 = 0
        · simp only [if_pos he, if_pos he1, if_pos he2] at h ⊢
          obtain ⟨e2, l, l1, l2, l3⟩ := lstSh_can h
          obtain ⟨e1, c1, b1⟩ := stT_can he1
          have hu := unsh_can he2
          refine ⟨he, (unsh (vT s)).1 :: l, by simp [l1], by rw [l2]; simp, ?_⟩
          · rw [c1, l3, List.flatMap_cons, hu]
        · simp only [if_pos he, if_pos he1, if_neg he2] at h; exact absurd h he2
      · simp only [if_pos he, if_neg he1] at h
        exact absurd (finSh_can h).1 he1
    · simp only [if_neg he] at h
      exact absurd (finSh_can h).1 he
theorem readSh_can {bs : List UInt8} (h : (readSh bs).2 = 0) : bytesSh (readSh bs).1 = bs := by
  unfold readSh at h ⊢
  obtain ⟨e1, l, l1, l2, l3⟩ := lstSh_can h
  obtain ⟨e0, c0, b0⟩ := stN_can e1
  have hn : ((l.length : Nat) : Int) = vN (bs, 0) := by
    rw [l1]
    simp only [badN, Bool.or_eq_false_iff, decide_eq_false_iff_not] at b0; omega
  rw [l2, List.nil_append]
  have c0 : bs = u32 (vN (bs, 0)) ++ (stN (bs, 0)).1 := c0
  rw [bytesSh, hn, ← l3]; exact c0.symm
theorem finLa_can {s : St} {acc : List (LaV)} (h : (finLa s acc).2 = 0) : s.2 = 0 ∧ s.1 = [] ∧ (finLa s acc).1 = acc := by
  unfold finLa at h ⊢
  split at h
  case isFalse hn => exact absurd h hn
  rename_i he
  obtain ⟨h1, h2⟩ := end_can he
  exact ⟨h1, h2, by rw [if_pos he]⟩
theorem lstLa_can : ∀ {k : Nat} {s : St} {acc : List (LaV)}, (lstLa k s acc).2 = 0 → s.2 = 0 ∧ ∃ l : List (LaV), l.length = k ∧ (lstLa k s acc).1 = acc ++ l ∧ s.1 = (l.flatMap fun x => txt (LaV.bytes x)) ∧ ∀ x ∈ l, x.rep.bad = false
  | 0, s, acc, h => by
    obtain ⟨h1, h2, h3⟩ := finLa_can (s := s) (acc := acc) h
    exact ⟨h1, [], rfl, by rw [List.append_nil]; exact h3, h2, by simp⟩
  | k + 1, s, acc, h => by
    unfold lstLa at h ⊢
    by_cases he : s.2 = 0
    · by_cases he1 : (stT s).2 = 0
      · by_cases he2 : (unla (vT s)).2 = 0
        · simp only [if_pos he, if_pos he1, if_pos he2] at h ⊢
          obtain ⟨e2, l, l1, l2, l3, l4⟩ := lstLa_can h
          obtain ⟨e1, c1, b1⟩ := stT_can he1
          have hu := unla_can he2
          refine ⟨he, (unla (vT s)).1 :: l, by simp [l1], by rw [l2]; simp, ?_, ?_⟩
          · rw [c1, l3, List.flatMap_cons, hu.1]
          · intro x hx
            rcases List.mem_cons.1 hx with rfl | hx
            · exact hu.2
            · exact l4 x hx
        · simp only [if_pos he, if_pos he1, if_neg he2] at h; exact absurd h he2
      · simp only [if_pos he, if_neg he1] at h
        exact absurd (finLa_can h).1 he1
    · simp only [if_neg he] at h
      exact absurd (finLa_can h).1 he
theorem readLa_can {bs : List UInt8} (h : (readLa bs).2 = 0) : bytesLa (readLa bs).1 = bs ∧ ∀ x ∈ (readLa bs).1, x.rep.bad = false := by
  unfold readLa at h ⊢
  obtain ⟨e1, l, l1, l2, l3, l4⟩ := lstLa_can h
  obtain ⟨e0, c0, b0⟩ := stN_can e1
  have hn : ((l.length : Nat) : Int) = vN (bs, 0) := by
    rw [l1]
    simp only [badN, Bool.or_eq_false_iff, decide_eq_false_iff_not] at b0; omega
  rw [l2, List.nil_append]
  refine ⟨?_, l4⟩
  have c0 : bs = u32 (vN (bs, 0)) ++ (stN (bs, 0)).1 := c0
  rw [bytesLa, hn, ← l3]; exact c0.symm
theorem readChart_can {s : St} (h : (readChart s).2.2 = 0) : s.2 = 0 ∧ s.1 = [(readChart s).1.1].flatMap u32 ++ [bytesSh (readChart s).1.2].flatMap txt ++ (readChart s).2.1 := by
  unfold readChart at h ⊢
  by_cases h1 : (stT (stN s)).2 = 0
  · by_cases h2 : (readSh (vT (stN s))).2 = 0
    · simp only [if_pos h1, if_pos h2] at h ⊢
      obtain ⟨e1, c1, _⟩ := stT_can h1
      obtain ⟨e0, c0, _⟩ := stN_can e1
      refine ⟨e0, ?_⟩
      rw [readSh_can h2]
      simp only [List.flatMap_cons, List.flatMap_nil, List.append_nil, List.append_assoc]
      rw [← c1]; exact c0
    · simp [if_pos h1, if_neg h2] at h
  · simp only [if_neg h1] at h; exact absurd h h1
theorem readRows_can {s : St} (h : (readRows s).2.2 = 0) : s.2 = 0 ∧ s.1 = [bytesRec (readRows s).1.1, bytesLa (readRows s).1.2].flatMap txt ++ (readRows s).2.1 ∧ ∀ x ∈ (readRows s).1.2, x.rep.bad = false := by
  unfold readRows at h ⊢
  by_cases h1 : (stT (stT s)).2 = 0
  · by_cases h2 : (readRec (vT s)).2 = 0 ∧ (readLa (vT (stT s))).2 = 0
    · simp only [if_pos h1, if_pos h2] at h ⊢
      obtain ⟨e1, c1, _⟩ := stT_can h1
      obtain ⟨e0, c0, _⟩ := stT_can e1
      obtain ⟨k1, k2⟩ := readLa_can h2.2
      refine ⟨e0, ?_, k2⟩
      rw [readRec_can h2.1, k1]
      simp only [List.flatMap_cons, List.flatMap_nil, List.append_nil, List.append_assoc]
      rw [← c1]; exact c0
    · simp [if_pos h1, if_neg h2] at h
  · simp only [if_neg h1] at h; exact absurd h h1
theorem orE_zero {s : St} {e : Int} (h : (orE s e).2 = 0) : s.2 = 0 ∧ e = 0 := by
  unfold orE at h
  split at h
  · exact ⟨by assumption, h⟩
  · rename_i hn; exact absurd h hn
theorem flat_mem_le {α : Type} {f : α → List UInt8} {l : List α} {x : α} (hx : x ∈ l) : (f x).length ≤ (l.flatMap f).length := by
  obtain ⟨a, b, rfl⟩ := List.append_of_mem hx
  simp only [List.flatMap_append, List.flatMap_cons, List.length_append]; omega
theorem flat_many {α : Type} {f : α → List UInt8} (h : ∀ x, 4 ≤ (f x).length) : ∀ {l : List α}, 4 * l.length ≤ (l.flatMap f).length
  | [] => by simp
  | x :: l => by
    have := flat_many h (l := l)
    have := h x
    simp only [List.flatMap_cons, List.length_append, List.length_cons]; omega
theorem total_flat (ss : List (List UInt8)) : total ss = (ss.flatMap txt).length := by
  unfold total; first | rfl | simp
/-- What is read of a body: its bytes, and how great it is. -/
theorem body_can {k f t e i : Int} {s : St} (h : (readBody (bare k f t e i) s).2.2 = 0) (hl : s.1.length ≤ 4000000) :
    s.2 = 0 ∧ (readBody (bare k f t e i) s).1.head = (bare k f t e i).head ∧ (readBody (bare k f t e i) s).1.kind = k ∧ (1 ≤ k → k ≤ 12 → s.1 = (readBody (bare k f t e i) s).1.body ++ (readBody (bare k f t e i) s).2.1) ∧ (readBody (bare k f t e i) s).1.sz := by
  have z1 : total AskV.zero.texts ≤ 900000000 := by decide
  have z2 : RepV.zero.bytes.length ≤ 900000000 := by decide
  have z3 : total [([] : List UInt8), []] ≤ 100000000 := by decide
  by_cases h1 : k = 1
  · subst h1
    have hb : readBody (bare 1 f t e i) s = ({ bare 1 f t e i with ask := (readAsk (vT s)).1 }, orE (stT s) (readAsk (vT s)).2) := by simp [readBody, bare]
    rw [hb] at h ⊢
    obtain ⟨e1, e2⟩ := orE_zero h
    obtain ⟨e0, c0, _⟩ := stT_can e1
    have ka := readAsk_can e2
    have hv : (vT s).length ≤ 4000000 := by rw [c0, List.length_append, txt_len] at hl; omega
    refine ⟨e0, rfl, rfl, fun _ _ => ?_, ?_, z2, z3, by simp [bare], by simp [bare], by simp [bare], by simp [bare], by simp [bare], by simp [bare], by simp [bare], by simp [bare], by simp [bare]⟩
    · simp only [NoteV.body, bare, if_true, List.flatMap_cons, List.flatMap_nil, List.append_nil, ka, orE]; exact c0
    · show total (readAsk (vT s)).1.texts ≤ _
      have : ((readAsk (vT s)).1.texts.flatMap txt).length ≤ (readAsk (vT s)).1.bytes.length := by simp only [AskV.bytes, List.length_append]; omega
      rw [total_flat]; rw [ka] at this; omega
  by_cases h2 : k = 2
  · subst h2
    have hb : readBody (bare 2 f t e i) s = ({ bare 2 f t e i with rep := (readReply (vT s)).1 }, orE (stT s) (readReply (vT s)).2) := by simp [readBody, bare]
    rw [hb] at h ⊢
    obtain ⟨e1, e2⟩ := orE_zero h
    obtain ⟨e0, c0, _⟩ := stT_can e1
    have ka := (readReply_can e2).1
    have hv : (vT s).length ≤ 4000000 := by rw [c0, List.length_append, txt_len] at hl; omega
    refine ⟨e0, rfl, rfl, fun _ _ => ?_, z1, ?_, z3, by simp [bare], by simp [bare], by simp [bare], by simp [bare], by simp [bare], by simp [bare], by simp [bare], by simp [bare], by simp [bare]⟩
    · simp only [NoteV.body, bare, if_true, List.flatMap_cons, List.flatMap_nil, List.append_nil, ka, orE]; exact c0
    · show (readReply (vT s)).1.bytes.length ≤ _
      rw [ka]; omega
  by_cases h4 : k = 4 ∨ k = 6
  · have hb : readBody (bare k f t e i) s = ({ bare k f t e i with aep := (readChart s).1.1, sh := (readChart s).1.2 }, (readChart s).2) := by rcases h4 with rfl | rfl <;> simp [readBody, bare]
    rw [hb] at h ⊢
    obtain ⟨e0, c0⟩ := readChart_can h
    have hv : ((readChart s).1.2.flatMap fun x => txt x.bytes).length ≤ 4000000 := by
      have := congrArg List.length c0
      simp only [List.length_append, List.flatMap_cons, List.flatMap_nil, List.length_nil, txt_len, bytesSh] at this; omega
    have hm : ∀ x ∈ (readChart s).1.2, x.bytes.length ≤ 900000000 := fun x hx => by
      have := flat_mem_le (f := fun x : ShV => txt x.bytes) hx
      simp only [txt_len] at this; omega
    have hn : (readChart s).1.2.length ≤ 1000000 := by
      have := flat_many (f := fun x : ShV => txt x.bytes) (fun x => by rw [txt_len]; omega) (l := (readChart s).1.2); omega
    refine ⟨e0, rfl, rfl, fun _ _ => ?_, z1, z2, z3, by simp [bare], by simp [bare], hn, by simp [bare], by simp [bare], hm, by simp [bare], by simp [bare], by show ((readChart s).1.2.flatMap fun x => txt x.bytes).length ≤ _; omega⟩
    have hk : NoteV.body { bare k f t e i with aep := (readChart s).1.1, sh := (readChart s).1.2 } = [(readChart s).1.1].flatMap u32 ++ [bytesSh (readChart s).1.2].flatMap txt := by
      rcases h4 with rfl | rfl <;> simp [NoteV.body, bare, chartBy]
    rw [hk]; exact c0
  by_cases h7 : k = 7 ∨ k = 11 ∨ k = 10 ∨ k = 12 ∨ k = 8 ∨ k = 9
  · have hb : readBody (bare k f t e i) s = ({ bare k f t e i with sf := vT s, st := vT (stT s), l := (readRows (stT (stT s))).1.1, last := (readRows (stT (stT s))).1.2 }, (readRows (stT (stT s))).2) := by rcases h7 with rfl | rfl | rfl | rfl | rfl | rfl <;> simp [readBody, bare]
    rw [hb] at h ⊢
    obtain ⟨e2, c2, k2⟩ := readRows_can h
    obtain ⟨e1, c1, _⟩ := stT_can e2
    obtain ⟨e0, c0, _⟩ := stT_can e1
    have hL := congrArg List.length c2
    have hL1 := congrArg List.length c1
    have hL0 := congrArg List.length c0
    simp only [List.length_append, List.flatMap_cons, List.flatMap_nil, List.length_nil, txt_len, bytesRec, bytesLa] at hL hL1 hL0
    have m1 : ∀ x ∈ (readRows (stT (stT s))).1.1, (txt2 x).length ≤ 900000000 := fun x hx => by
      have := flat_mem_le (f := fun x : List UInt8 × List UInt8 => txt (txt2 x)) hx
      simp only [txt_len] at this; omega
    have n1 : (readRows (stT (stT s))).1.1.length ≤ 1000000 := by
      have := flat_many (f := fun x : List UInt8 × List UInt8 => txt (txt2 x)) (fun x => by rw [txt_len]; omega) (l := (readRows (stT (stT s))).1.1); omega
    have m2 : ∀ x ∈ (readRows (stT (stT s))).1.2, x.rep.bytes.length ≤ 900000000 := fun x hx => by
      have := badR_len (k2 x hx); omega
    have n2 : (readRows (stT (stT s))).1.2.length ≤ 1000000 := by
      have := flat_many (f := fun x : LaV => txt x.bytes) (fun x => by rw [txt_len]; omega) (l := (readRows (stT (stT s))).1.2); omega
    refine ⟨e0, rfl, rfl, fun _ _ => ?_, z1, z2, ?_, n1, n2, by simp [bare], m1, m2, by simp [bare], ?_, ?_, by simp [bare]⟩
    · have hk : NoteV.body { bare k f t e i with sf := vT s, st := vT (stT s), l := (readRows (stT (stT s))).1.1, last := (readRows (stT (stT s))).1.2 } = [vT s, vT (stT s)].flatMap txt ++ [bytesRec (readRows (stT (stT s))).1.1, bytesLa (readRows (stT (stT s))).1.2].flatMap txt := by
        rcases h7 with rfl | rfl | rfl | rfl | rfl | rfl <;> simp [NoteV.body, bare, rowsBy]
      rw [hk, List.append_assoc, ← c2]
      simp only [List.flatMap_cons, List.flatMap_nil, List.append_nil, List.append_assoc]
      rw [← c1]; exact c0
    · show total [vT s, vT (stT s)] ≤ _
      rw [total_flat]; simp only [List.flatMap_cons, List.flatMap_nil, List.length_append, List.length_nil, txt_len]; omega
    · show ((readRows (stT (stT s))).1.1.flatMap fun x => txt (txt2 x)).length ≤ _; omega
    · show ((readRows (stT (stT s))).1.2.flatMap fun x => txt x.bytes).length ≤ _; omega
  · have hb : readBody (bare k f t e i) s = (bare k f t e i, s) := by
      have h41 : ¬ k = 4 := fun h => h4 (.inl h)
      have h61 : ¬ k = 6 := fun h => h4 (.inr h)
      have hkk : (bare k f t e i).kind = k := rfl
      unfold readBody
      rw [hkk, if_neg h1, if_neg h2, if_neg h4, if_neg h7]
    rw [hb] at h ⊢
    refine ⟨h, rfl, rfl, fun ha hb => ?_, z1, z2, z3, by simp [bare], by simp [bare], by simp [bare], by simp [bare], by simp [bare], by simp [bare], by simp [bare], by simp [bare], by simp [bare]⟩
    have h35 : k = 3 ∨ k = 5 := by omega
    have hk : NoteV.body (bare k f t e i) = [] := by rcases h35 with rfl | rfl <;> simp [NoteV.body, bare]
    rw [hk]; rfl
theorem note_can {bs : List UInt8} (hl : bs.length ≤ 4000000) (h : rdEnd (readBody (hdN (bs, 0)) (st5 (bs, 0))).2.1 (readBody (hdN (bs, 0)) (st5 (bs, 0))).2.2 = 0) :
    (readBody (hdN (bs, 0)) (st5 (bs, 0))).1.sz ∧ (mayB (readBody (hdN (bs, 0)) (st5 (bs, 0))).1 = true → (readBody (hdN (bs, 0)) (st5 (bs, 0))).1.bytes = bs) := by
  have hs : bs = ((bs, 0) : St).1 := rfl
  generalize ((bs, 0) : St) = s0 at h hs ⊢
  obtain ⟨h1, h2⟩ := end_can h
  have hlen : ∀ s : St, (stN s).1.length ≤ s.1.length := fun s => by
    show (rdNum s.1 s.2).2.1.length ≤ _
    unfold rdNum
    split
    · split
      · rename_i hr; split <;> (rw [hr]; simp only [List.length_cons]; omega)
      · simp
    · exact Nat.le_refl _
  have hl5 : (st5 s0).1.length ≤ 4000000 := by
    have a1 := hlen s0; have a2 := hlen (stN s0); have a3 := hlen (stN (stN s0)); have a4 := hlen (stN (stN (stN s0))); have a5 := hlen (stN (stN (stN (stN s0))))
    unfold st5; rw [hs] at hl; omega
  unfold hdN at h1 h2 ⊢
  obtain ⟨e5, hh, hk, hb, hz⟩ := body_can h1 hl5
  refine ⟨hz, fun hm => ?_⟩
  obtain ⟨k1, k2, _, _⟩ := may_kind hm
  have k1 := of_decide_eq_false k1
  have k2 := of_decide_eq_false k2
  rw [hk] at k1 k2
  have hb := hb (by omega) (by omega)
  rw [h2, List.append_nil] at hb
  unfold NoteV.bytes
  rw [← hb, hh]
  unfold st5 at e5 ⊢
  obtain ⟨e4, c4, _⟩ := stN_can e5
  obtain ⟨e3, c3, _⟩ := stN_can e4
  obtain ⟨e2, c2, _⟩ := stN_can e3
  obtain ⟨e1, c1, _⟩ := stN_can e2
  obtain ⟨e0, c0, _⟩ := stN_can e1
  rw [hs]
  simp only [NoteV.head, bare, List.flatMap_cons, List.flatMap_nil, List.append_nil, List.append_assoc]
  rw [← c4, ← c3, ← c2, ← c1]; exact c0.symm
end Go.Proofs.Ytndlgmciplckjaa.note
