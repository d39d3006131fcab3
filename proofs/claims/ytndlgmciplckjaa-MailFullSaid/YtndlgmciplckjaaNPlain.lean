/- Notes read of their bytes, in plain Lean: what is packed is read again as it was. No condition. -/
import Derived.Test.YtndlgmciplckjaaNPackN
set_option linter.unusedVariables false
set_option linter.unusedSimpArgs false
namespace Go.Proofs.Ytndlgmciplckjaa.note
open Go.ChangeShapes Go.WideShapes Go.ChangeAt Go.RowKit Go.Gz
set_option maxHeartbeats 4000000
set_option maxRecDepth 10000
theorem badT_len {s : List UInt8} (h : badT s = false) : s.length ≤ 268435455 := by
  simp only [badT, badN, Bool.or_eq_false_iff, decide_eq_false_iff_not] at h
  omega
theorem list_tot : ∀ l : List (List UInt8 × List UInt8), ((l.flatMap txt2).length : Int) = 8 * l.length + sumL l
  | [] => rfl
  | p :: l => by
    have := list_tot l
    have e : sumL (p :: l) = (p.1.length : Int) + p.2.length + sumL l := by simp [sumL]
    rw [e]
    simp only [List.flatMap_cons, List.length_append, txt2, txt, u32_len, List.length_cons]
    omega
theorem rep_tot2 {a : RepV} (h : a.small = true) : a.bytes.length ≤ 900000000 := by
  simp only [RepV.small, Bool.and_eq_true, decide_eq_true_eq] at h
  have := list_tot a.l
  simp only [RepV.bytes, RepV.head, tb, List.length_append, List.flatMap_cons, List.flatMap_nil, txt, u32_len, List.length_nil, List.length_cons]
  omega
theorem val_u32 {n : Int} (h : badN n = false) : val32 (bOf (n.fdiv 16777216)) (bOf (n.fdiv 65536)) (bOf (n.fdiv 256)) (bOf n) = n := by
  have hb : ∀ x : Int, ((bOf x).toNat : Int) = x % 256 := by
    intro x
    have := byteAV_bOf x
    simp only [byteAV, AV.int.injEq, true_and] at this
    rw [this]; exact IntKind.wrap_u8 x
  simp only [badN, Bool.or_eq_false_iff, decide_eq_false_iff_not] at h
  unfold val32
  have h1 := hb (n.fdiv 16777216); have h2 := hb (n.fdiv 65536); have h3 := hb (n.fdiv 256); have h4 := hb n
  rw [Int.fdiv_eq_ediv_of_nonneg _ (by omega)] at h1 h2 h3
  rw [Int.fdiv_eq_ediv_of_nonneg _ (by omega), Int.fdiv_eq_ediv_of_nonneg _ (by omega), Int.fdiv_eq_ediv_of_nonneg _ (by omega)]
  omega
theorem num_good {n : Int} (h : badN n = false) (r : List UInt8) : rdNum (u32 n ++ r) 0 = (n, r, 0) := by
  have hv := val_u32 h
  simp only [badN, Bool.or_eq_false_iff, decide_eq_false_iff_not] at h
  simp only [u32, List.cons_append, List.nil_append, rdNum, if_true, hv]
  rw [if_neg h.2]
theorem text_good {s : List UInt8} (h : badT s = false) (r : List UInt8) : rdText (txt s ++ r) 0 = (s, r, 0) := by
  unfold rdText txt
  rw [List.append_assoc, num_good h]
  simp

theorem stN_good {n : Int} (h : badN n = false) (r : List UInt8) : stN (u32 n ++ r, 0) = (r, 0) := by simp only [stN, num_good h]
theorem stT_good {s : List UInt8} (h : badT s = false) (r : List UInt8) : stT (txt s ++ r, 0) = (r, 0) := by simp only [stT, text_good h]
theorem stB_good (t : Bool) (r : List UInt8) : stB (tb t ++ r, 0) = (r, 0) := by cases t <;> rfl
theorem vN_eq (s : St) : vN s = (rdNum s.1 s.2).1 := rfl
theorem vT_eq (s : St) : vT s = (rdText s.1 s.2).1 := rfl
theorem vN_good {n : Int} (h : badN n = false) (r : List UInt8) : vN (u32 n ++ r, 0) = n := by
  have e2 : (rdNum (u32 n ++ r) 0).1 = n := congrArg Prod.fst (num_good h r)
  exact (vN_eq _).trans e2
theorem vT_good {s : List UInt8} (h : badT s = false) (r : List UInt8) : vT (txt s ++ r, 0) = s := by
  have e2 : (rdText (txt s ++ r) 0).1 = s := congrArg Prod.fst (text_good h r)
  exact (vT_eq _).trans e2
theorem vB_good (t : Bool) (r : List UInt8) : vB (tb t ++ r, 0) = t := by cases t <;> rfl
theorem end_good : rdEnd [] 0 = 0 := rfl
theorem txt_len (s : List UInt8) : (txt s).length = 4 + s.length := by simp only [txt, List.length_append, u32_len]
theorem badT_of {s : List UInt8} (h : s.length ≤ 268435455) : badT s = false := by
  simp only [badT, badN, Bool.or_eq_false_iff, decide_eq_false_iff_not]; omega
theorem badN_of {n : Int} (h0 : 0 ≤ n) (h : n ≤ 268435455) : badN n = false := by
  simp only [badN, Bool.or_eq_false_iff, decide_eq_false_iff_not]; omega
theorem numB_bad {n : Int} (h : numB n = true) : badN n = false := by
  simp only [numB, Bool.and_eq_true, decide_eq_true_eq] at h
  exact badN_of h.1 h.2
theorem ask_bytes (a : AskV) : a.bytes = u32 a.do_ ++ (u32 a.client ++ (u32 a.seq ++ (u32 a.limit ++ (txt a.text ++ (txt a.val ++ (txt a.from_ ++ (txt a.to ++ []))))))) := by simp [AskV.bytes, AskV.nums, AskV.texts]
theorem readAsk_good {a : AskV} (ha : a.bad = false) : readAsk a.bytes = (a, 0) := by
  have hl := bad_len ha
  simp only [AskV.bad, AskV.nums, AskV.texts, List.any_cons, List.any_nil, Bool.or_false, Bool.or_eq_false_iff] at ha
  obtain ⟨⟨⟨h1, h2, h3, h4⟩, h5, h6, h7, h8⟩, _⟩ := ha
  unfold readAsk
  rw [if_neg (by omega), ask_bytes]
  simp only [readAskF, readAskG, stN_good h1, stN_good h2, stN_good h3, stN_good h4, stT_good h5, stT_good h6, stT_good h7, stT_good h8, vN_good h1, vN_good h2, vN_good h3, vN_good h4, vT_good h5, vT_good h6, vT_good h7, vT_good h8, end_good, if_true]
theorem rep_bytes (a : RepV) : a.bytes = u32 a.client ++ (u32 a.seq ++ (u32 a.err ++ (tb a.found ++ (txt a.val ++ (u32 (a.l.length : Int) ++ (a.l.flatMap txt2 ++ (txt a.next ++ (tb a.more ++ [])))))))) := by
  simp [RepV.bytes, RepV.head]
theorem list_good : ∀ {l : List (List UInt8 × List UInt8)} {r : List UInt8} (acc : List (List UInt8 × List UInt8)), l.any badT2 = false → rdList l.length (l.flatMap txt2 ++ r, 0) acc = ((r, 0), acc ++ l)
  | [], r, acc, _ => by simp [rdList]
  | (p, q) :: l, r, acc, h => by
    simp only [List.any_cons, Bool.or_eq_false_iff, badT2] at h
    obtain ⟨⟨h1, h2⟩, h3⟩ := h
    simp only [List.flatMap_cons, txt2, List.append_assoc, List.length_cons, rdList, if_true]
    rw [stT_good h1, stT_good h2, vT_good h1, vT_good h2]
    have := list_good (r := r) (acc ++ [(p, q)]) h3
    rw [this]; simp
theorem readReply_good {a : RepV} (ha : a.bad = false) : readReply a.bytes = (a, 0) := by
  have hl := badR_len ha
  simp only [RepV.bad, RepV.badH, List.any_cons, List.any_nil, Bool.or_false, Bool.or_eq_false_iff] at ha
  obtain ⟨⟨⟨⟨⟨⟨h1, h2, h3⟩, h4⟩, h5⟩, h6⟩, h7⟩, _⟩ := ha
  unfold readReply
  rw [if_neg (by omega), rep_bytes]
  simp only [readReplyF, readReplyG, stN_good h1, stN_good h2, stN_good h3, stB_good, stT_good h4, stN_good h5, vN_good h1, vN_good h2, vN_good h3, vB_good, vT_good h4, vN_good h5, Int.toNat_natCast]
  rw [list_good [] h6]
  simp only [stT_good h7, vT_good h7, stB_good, vB_good, end_good, if_true, List.nil_append]
theorem unrec_good {p : List UInt8 × List UInt8} (h : badT2 p = false) : unrec (txt2 p) = (p, 0) := by
  simp only [badT2, Bool.or_eq_false_iff] at h
  have e : txt2 p = txt p.1 ++ (txt p.2 ++ []) := by simp [txt2]
  rw [e]
  simp only [unrec, unrecG, stT_good h.1, stT_good h.2, vT_good h.1, vT_good h.2, end_good]
theorem unsh_good {s : ShV} (h1 : badT s.from_ = false) (h2 : badT s.to = false) (h3 : badN s.node = false) (h4 : badN s.epoch = false) : unsh s.bytes = (s, 0) := by
  have e : s.bytes = txt s.from_ ++ (txt s.to ++ (u32 s.node ++ (u32 s.epoch ++ []))) := by simp [ShV.bytes]
  rw [e]
  simp only [unsh, unshG, stT_good h1, stT_good h2, stN_good h3, stN_good h4, vT_good h1, vT_good h2, vN_good h3, vN_good h4, end_good]
theorem unla_good {x : LaV} (h : okLa x = true) : unla x.bytes = (x, 0) := by
  simp only [okLa, Bool.and_eq_true, Bool.not_eq_true'] at h
  have h1 := numB_bad h.2
  have h2 : badT x.rep.bytes = false := badT_of (by have := badR_len h.1; omega)
  have e : x.bytes = u32 x.seq ++ (txt x.rep.bytes ++ []) := by simp [LaV.bytes, h.1]
  rw [e]
  simp only [unla, unlaG, stN_good h1, stT_good h2, vN_good h1, vT_good h2, end_good, if_true, readReply_good h.1]
theorem lstRec_good : ∀ {l : List (List UInt8 × List UInt8)} (acc : List (List UInt8 × List UInt8)), (∀ x ∈ l, badT (txt2 x) = false ∧ unrec (txt2 x) = (x, 0)) → lstRec l.length ((l.flatMap fun x => txt (txt2 x)), 0) acc = (acc ++ l, 0)
  | [], acc, _ => by simp [lstRec, finRec, end_good]
  | x :: l, acc, h => by
    obtain ⟨h1, h2⟩ := h x (by simp)
    have := lstRec_good (l := l) (acc ++ [x]) fun y hy => h y (by simp [hy])
    simp only [List.flatMap_cons, List.length_cons, lstRec, if_true, stT_good h1, vT_good h1, h2]
    rw [this]; simp
theorem readRec_good {l : List (List UInt8 × List UInt8)} (hl : l.length ≤ 268435455) (h : ∀ x ∈ l, badT (txt2 x) = false ∧ unrec (txt2 x) = (x, 0)) : readRec (bytesRec l) = (l, 0) := by
  have hn : badN (l.length : Int) = false := badN_of (by omega) (by omega)
  simp only [readRec, bytesRec, vN_good hn, stN_good hn, Int.toNat_natCast]
  have := lstRec_good [] h
  rw [this]; simp
theorem lstSh_good : ∀ {l : List (ShV)} (acc : List (ShV)), (∀ x ∈ l, badT (ShV.bytes x) = false ∧ unsh (ShV.bytes x) = (x, 0)) → lstSh l.length ((l.flatMap fun x => txt (ShV.bytes x)), 0) acc = (acc ++ l, 0)
  | [], acc, _ => by simp [lstSh, finSh, end_good]
  | x :: l, acc, h => by
    obtain ⟨h1, h2⟩ := h x (by simp)
    have := lstSh_good (l := l) (acc ++ [x]) fun y hy => h y (by simp [hy])
    simp only [List.flatMap_cons, List.length_cons, lstSh, if_true, stT_good h1, vT_good h1, h2]
    rw [this]; simp
theorem readSh_good {l : List (ShV)} (hl : l.length ≤ 268435455) (h : ∀ x ∈ l, badT (ShV.bytes x) = false ∧ unsh (ShV.bytes x) = (x, 0)) : readSh (bytesSh l) = (l, 0) := by
  have hn : badN (l.length : Int) = false := badN_of (by omega) (by omega)
  simp only [readSh, bytesSh, vN_good hn, stN_good hn, Int.toNat_natCast]
  have := lstSh_good [] h
  rw [this]; simp
theorem lstLa_good : ∀ {l : List (LaV)} (acc : List (LaV)), (∀ x ∈ l, badT (LaV.bytes x) = false ∧ unla (LaV.bytes x) = (x, 0)) → lstLa l.length ((l.flatMap fun x => txt (LaV.bytes x)), 0) acc = (acc ++ l, 0)
  | [], acc, _ => by simp [lstLa, finLa, end_good]
  | x :: l, acc, h => by
    obtain ⟨h1, h2⟩ := h x (by simp)
    have := lstLa_good (l := l) (acc ++ [x]) fun y hy => h y (by simp [hy])
    simp only [List.flatMap_cons, List.length_cons, lstLa, if_true, stT_good h1, vT_good h1, h2]
    rw [this]; simp
theorem readLa_good {l : List (LaV)} (hl : l.length ≤ 268435455) (h : ∀ x ∈ l, badT (LaV.bytes x) = false ∧ unla (LaV.bytes x) = (x, 0)) : readLa (bytesLa l) = (l, 0) := by
  have hn : badN (l.length : Int) = false := badN_of (by omega) (by omega)
  simp only [readLa, bytesLa, vN_good hn, stN_good hn, Int.toNat_natCast]
  have := lstLa_good [] h
  rw [this]; simp
/-! A note, read. -/
def readChart (s : St) : (Int × List ShV) × St :=
  if (stT (stN s)).2 = 0 then (if (readSh (vT (stN s))).2 = 0 then ((vN s, (readSh (vT (stN s))).1), stT (stN s)) else ((0, []), ((stT (stN s)).1, 5))) else ((0, []), stT (stN s))
def readRows (s : St) : (List (List UInt8 × List UInt8) × List LaV) × St :=
  if (stT (stT s)).2 = 0 then (if (readRec (vT s)).2 = 0 ∧ (readLa (vT (stT s))).2 = 0 then (((readRec (vT s)).1, (readLa (vT (stT s))).1), stT (stT s)) else (([], []), ((stT (stT s)).1, 5))) else (([], []), stT (stT s))
def orE (s : St) (e : Int) : St := (s.1, if s.2 = 0 then e else s.2)
def readBody (n : NoteV) (s : St) : NoteV × St :=
  if n.kind = 1 then ({ n with ask := (readAsk (vT s)).1 }, orE (stT s) (readAsk (vT s)).2)
  else if n.kind = 2 then ({ n with rep := (readReply (vT s)).1 }, orE (stT s) (readReply (vT s)).2)
  else if n.kind = 4 ∨ n.kind = 6 then ({ n with aep := (readChart s).1.1, sh := (readChart s).1.2 }, (readChart s).2)
  else if n.kind = 7 ∨ n.kind = 11 ∨ n.kind = 10 ∨ n.kind = 12 ∨ n.kind = 8 ∨ n.kind = 9 then ({ n with sf := vT s, st := vT (stT s), l := (readRows (stT (stT s))).1.1, last := (readRows (stT (stT s))).1.2 }, (readRows (stT (stT s))).2)
  else (n, s)
def bare (k f t e i : Int) : NoteV := ⟨k, f, t, e, i, AskV.zero, RepV.zero, [], [], [], [], 0, []⟩
def NoteV.zero : NoteV := bare 0 0 0 0 0
def st5 (s : St) : St := stN (stN (stN (stN (stN s))))
def hdN (s : St) : NoteV := bare (vN s) (vN (stN s)) (vN (stN (stN s))) (vN (stN (stN (stN s)))) (vN (stN (stN (stN (stN s)))))
def finN (p : NoteV × St) : NoteV × Int := if rdEnd p.2.1 p.2.2 = 0 ∧ mayB p.1 = true then (p.1, 0) else (NoteV.zero, 5)
def readNote (bs : List UInt8) : NoteV × Int := finN (readBody (hdN (bs, 0)) (st5 (bs, 0)))
theorem noAsk_zero {a : AskV} (h : noAskB a = true) : a = AskV.zero := by
  simp only [noAskB, Bool.and_eq_true, decide_eq_true_eq] at h
  obtain ⟨h1, h2, h3, h4, h5, h6, h7, h8⟩ := h
  cases a
  simp only at h1 h2 h3 h4 h5 h6 h7 h8
  subst h1 h2 h3 h4 h5 h6 h7 h8
  rfl
theorem noRep_zero {a : RepV} (h : noRepB a = true) : a = RepV.zero := by
  simp only [noRepB, Bool.and_eq_true, decide_eq_true_eq, Bool.not_eq_true'] at h
  obtain ⟨h1, h2, h3, h4, h5, h6, h7, h8⟩ := h
  cases a
  simp only at h1 h2 h3 h4 h5 h6 h7 h8
  have h6 := List.length_eq_zero_iff.1 (Int.ofNat_eq_zero.1 h6)
  subst h1 h2 h3 h4 h5 h6 h7 h8
  rfl
/-- What a note that may be is like. -/
structure MayF (n : NoteV) : Prop where
  k1 : 1 ≤ n.kind
  k12 : n.kind ≤ 12
  from_ : badN n.from_ = false
  to : badN n.to = false
  epoch : badN n.epoch = false
  tick : badN n.tick = false
  abad : n.ask.bad = false
  rbad : n.rep.bad = false
  ask : n.kind ≠ 1 → n.ask = AskV.zero
  rep : n.kind ≠ 2 → n.rep = RepV.zero
  last : n.last.all okLa = true
  rows : n.kind ≠ 8 → n.kind ≠ 9 → n.l = [] ∧ n.last = []
  span : n.kind < 7 → n.sf = [] ∧ n.st = []
  maps : n.kind ≠ 4 → n.kind ≠ 6 → n.aep = 0 ∧ n.sh = []
  mapt : n.kind = 4 ∨ n.kind = 6 → atlasB n.aep n.sh = true ∧ numB n.aep = true
theorem party_bad {n : Int} (h : partyB n = true) : badN n = false := by
  simp only [partyB, Bool.or_eq_true, Bool.and_eq_true, decide_eq_true_eq] at h
  exact badN_of (by omega) (by omega)
theorem mayF {n : NoteV} (h : mayB n = true) : MayF n := by
  simp only [mayB, headB, asksB, spansB, Bool.and_eq_true, Bool.not_eq_true', decide_eq_false_iff_not] at h
  obtain ⟨⟨h1, h2, h3, h4, h5, h6, h7⟩, h8, ⟨⟨⟨h9, h10⟩, h11⟩, h12⟩, ⟨h13, h14, h15⟩, h16⟩ := h
  refine ⟨by omega, by omega, party_bad h3, party_bad h4, numB_bad h6, numB_bad h7, h9, h10, fun hk => ?_, fun hk => ?_, h13, fun k8 k9 => ?_, fun hk => ?_, fun k4 k6 => ?_, fun hk => ?_⟩
  · rcases Bool.or_eq_true_iff.1 h11 with h | h
    · exact absurd (of_decide_eq_true h) hk
    · exact noAsk_zero h
  · rcases Bool.or_eq_true_iff.1 h12 with h | h
    · exact absurd (of_decide_eq_true h) hk
    · exact noRep_zero h
  · rcases Bool.or_eq_true_iff.1 h14 with h | h
    · simp only [Bool.and_eq_true, decide_eq_true_eq] at h
      exact ⟨List.length_eq_zero_iff.1 (by omega), List.length_eq_zero_iff.1 (by omega)⟩
    · simp at h; omega
  · rcases Bool.or_eq_true_iff.1 h15 with h | h
    · simp only [Bool.and_eq_true, decide_eq_true_eq] at h
      exact h.2
    · simp at h; omega
  · unfold mapsB at h16
    rw [if_neg (by simp; omega)] at h16
    simp only [Bool.and_eq_true, decide_eq_true_eq] at h16
    exact ⟨h16.1, List.length_eq_zero_iff.1 (by omega)⟩
  · unfold mapsB at h16
    rw [if_pos (by simp; omega)] at h16
    simpa using h16
theorem head_good {n : NoteV} (h : MayF n) (w : List UInt8) : hdN (n.head ++ w, 0) = bare n.kind n.from_ n.to n.epoch n.tick ∧ st5 (n.head ++ w, 0) = (w, 0) := by
  have e : n.head ++ w = u32 n.kind ++ (u32 n.from_ ++ (u32 n.to ++ (u32 n.epoch ++ (u32 n.tick ++ w)))) := by simp [NoteV.head]
  have hk : badN n.kind = false := badN_of (by have := h.k1; omega) (by have := h.k12; omega)
  have h1 := h.from_; have h2 := h.to; have h3 := h.epoch; have h4 := h.tick
  rw [e]
  constructor
  · simp only [hdN, stN_good hk, stN_good h1, stN_good h2, stN_good h3, vN_good hk, vN_good h1, vN_good h2, vN_good h3, vN_good h4]
  · simp only [st5, stN_good hk, stN_good h1, stN_good h2, stN_good h3, stN_good h4]
theorem chart_good {n : NoteV} (h : MayF n) (hk : n.kind = 4 ∨ n.kind = 6) (hs : n.sz) : readChart (chartBy n, 0) = ((n.aep, n.sh), ([], 0)) := by
  obtain ⟨h1, h2⟩ := h.mapt hk
  have e : chartBy n = u32 n.aep ++ (txt (bytesSh n.sh) ++ []) := by simp [chartBy]
  have h3 := numB_bad h2
  have q := hs.shsum
  have h4 : badT (bytesSh n.sh) = false := badT_of (by rw [len_sh]; omega)
  have hin : ∀ x ∈ n.sh, x.bytes.length ≤ 100000000 := fun x hx => by
    have : (txt x.bytes).length ≤ (n.sh.flatMap fun x => txt x.bytes).length := by
      obtain ⟨a, b, hab⟩ := List.append_of_mem hx
      rw [hab]; simp only [List.flatMap_append, List.flatMap_cons, List.length_append]; omega
    rw [txt_len] at this; omega
  have h5 : readSh (bytesSh n.sh) = (n.sh, 0) := by
    refine readSh_good (by have := hs.sh; omega) fun x hx => ⟨badT_of (by have := hin x hx; omega), ?_⟩
    have hb := hin x hx
    simp only [ShV.bytes, List.flatMap_cons, List.flatMap_nil, List.append_nil, List.length_append, txt, u32_len] at hb
    simp only [atlasB, Bool.and_eq_true] at h1
    have ho := List.all_eq_true.1 h1.2.2.2.1 x hx
    simp only [shOk, Bool.and_eq_true, Bool.not_eq_true', decide_eq_false_iff_not] at ho
    simp only [numB, Bool.and_eq_true, decide_eq_true_eq] at h2
    exact unsh_good (badT_of (by omega)) (badT_of (by omega)) (badN_of (by omega) (by omega)) (badN_of (by omega) (by omega))
  rw [e]
  simp only [readChart, stN_good h3, stT_good h4, vN_good h3, vT_good h4, h5, if_true]
theorem rows_good {n : NoteV} (h : MayF n) (hs : n.sz) : readRows ([bytesRec n.l, bytesLa n.last].flatMap txt, 0) = ((n.l, n.last), ([], 0)) := by
  have e : [bytesRec n.l, bytesLa n.last].flatMap txt = txt (bytesRec n.l) ++ (txt (bytesLa n.last) ++ []) := by simp
  have q1 := hs.recs
  have q2 := hs.las
  have h1 : badT (bytesRec n.l) = false := badT_of (by rw [len_rec]; omega)
  have h2 : badT (bytesLa n.last) = false := badT_of (by rw [len_la]; omega)
  have i1 : ∀ x ∈ n.l, (txt2 x).length ≤ 100000000 := fun x hx => by
    have : (txt (txt2 x)).length ≤ (n.l.flatMap fun x => txt (txt2 x)).length := by
      obtain ⟨a, b, hab⟩ := List.append_of_mem hx
      rw [hab]; simp only [List.flatMap_append, List.flatMap_cons, List.length_append]; omega
    rw [txt_len] at this; omega
  have i2 : ∀ x ∈ n.last, x.bytes.length ≤ 100000000 := fun x hx => by
    have : (txt x.bytes).length ≤ (n.last.flatMap fun x => txt x.bytes).length := by
      obtain ⟨a, b, hab⟩ := List.append_of_mem hx
      rw [hab]; simp only [List.flatMap_append, List.flatMap_cons, List.length_append]; omega
    rw [txt_len] at this; omega
  have h3 : readRec (bytesRec n.l) = (n.l, 0) := by
    refine readRec_good (by have := hs.l; omega) fun x hx => ⟨badT_of (by have := i1 x hx; omega), unrec_good ?_⟩
    have hb := i1 x hx
    simp only [txt2, txt, List.length_append, u32_len] at hb
    simp only [badT2, Bool.or_eq_false_iff]
    exact ⟨badT_of (by omega), badT_of (by omega)⟩
  have h4 : readLa (bytesLa n.last) = (n.last, 0) := readLa_good (by have := hs.last; omega) fun x hx => ⟨badT_of (by have := i2 x hx; omega), unla_good (List.all_eq_true.1 h.last x hx)⟩
  rw [e]
  simp only [readRows, stT_good h1, stT_good h2, vT_good h1, vT_good h2, h3, h4, and_self, if_true]
theorem body_good {n : NoteV} (h : MayF n) (hs : n.sz) : readBody (bare n.kind n.from_ n.to n.epoch n.tick) (n.body, 0) = (n, ([], 0)) := by
  have h1 := h.k1
  have h12 := h.k12
  have hS := hs.span
  rw [total2] at hS
  have hA := h.ask
  have hR := h.rep
  have hRo := h.rows
  have hSp := h.span
  have hM := h.maps
  by_cases k1 : n.kind = 1
  · have la : badT n.ask.bytes = false := badT_of (by have := bad_len h.abad; omega)
    have e : n.body = txt n.ask.bytes ++ [] := by simp [NoteV.body, k1]
    have f : readBody (bare n.kind n.from_ n.to n.epoch n.tick) (n.body, 0) = ({ bare n.kind n.from_ n.to n.epoch n.tick with ask := n.ask }, ([], 0)) := by
      rw [e, readBody, if_pos (by exact k1)]
      simp only [stT_good la, vT_good la, readAsk_good h.abad, orE, if_true]
    rw [f]
    have a2 := hR (by omega)
    obtain ⟨a3, a4⟩ := hRo (by omega) (by omega)
    obtain ⟨a5, a6⟩ := hSp (by omega)
    obtain ⟨a7, a8⟩ := hM (by omega) (by omega)
    clear hA hR hRo hSp hM f e la hs h
    cases n
    simp only at a2 a3 a4 a5 a6 a7 a8
    subst a2 a3 a4 a5 a6 a7 a8
    rfl
  by_cases k2 : n.kind = 2
  · have la : badT n.rep.bytes = false := badT_of (by have := badR_len h.rbad; omega)
    have e : n.body = txt n.rep.bytes ++ [] := by simp [NoteV.body, k2]
    have f : readBody (bare n.kind n.from_ n.to n.epoch n.tick) (n.body, 0) = ({ bare n.kind n.from_ n.to n.epoch n.tick with rep := n.rep }, ([], 0)) := by
      rw [e, readBody, if_neg (by exact k1), if_pos (by exact k2)]
      simp only [stT_good la, vT_good la, readReply_good h.rbad, orE, if_true]
    rw [f]
    have a2 := hA k1
    obtain ⟨a3, a4⟩ := hRo (by omega) (by omega)
    obtain ⟨a5, a6⟩ := hSp (by omega)
    obtain ⟨a7, a8⟩ := hM (by omega) (by omega)
    clear hA hR hRo hSp hM f e la hs h
    cases n
    simp only at a2 a3 a4 a5 a6 a7 a8
    subst a2 a3 a4 a5 a6 a7 a8
    rfl
  have a1 := hA k1
  have a2 := hR k2
  by_cases k4 : n.kind = 4 ∨ n.kind = 6
  · have e : n.body = chartBy n := by simp only [NoteV.body, if_neg k1, if_neg k2, if_pos k4]
    have f : readBody (bare n.kind n.from_ n.to n.epoch n.tick) (n.body, 0) = ({ bare n.kind n.from_ n.to n.epoch n.tick with aep := n.aep, sh := n.sh }, ([], 0)) := by
      rw [e, readBody, if_neg (by exact k1), if_neg (by exact k2), if_pos (by exact k4), chart_good h k4 hs]
    rw [f]
    obtain ⟨a3, a4⟩ := hRo (by omega) (by omega)
    obtain ⟨a5, a6⟩ := hSp (by omega)
    clear hA hR hRo hSp hM f e hs h
    cases n
    simp only at a1 a2 a3 a4 a5 a6
    subst a1 a2 a3 a4 a5 a6
    rfl
  obtain ⟨a7, a8⟩ := hM (by omega) (by omega)
  by_cases k3 : n.kind = 3 ∨ n.kind = 5
  · have e : n.body = [] := by simp only [NoteV.body, if_neg k1, if_neg k2, if_neg k4, if_pos k3]
    have f : readBody (bare n.kind n.from_ n.to n.epoch n.tick) (n.body, 0) = (bare n.kind n.from_ n.to n.epoch n.tick, ([], 0)) := by
      have kk : ¬ ((bare n.kind n.from_ n.to n.epoch n.tick).kind = 7 ∨ (bare n.kind n.from_ n.to n.epoch n.tick).kind = 11 ∨ (bare n.kind n.from_ n.to n.epoch n.tick).kind = 10 ∨ (bare n.kind n.from_ n.to n.epoch n.tick).kind = 12 ∨ (bare n.kind n.from_ n.to n.epoch n.tick).kind = 8 ∨ (bare n.kind n.from_ n.to n.epoch n.tick).kind = 9) := by
        show ¬ (n.kind = 7 ∨ n.kind = 11 ∨ n.kind = 10 ∨ n.kind = 12 ∨ n.kind = 8 ∨ n.kind = 9)
        omega
      rw [e, readBody, if_neg (by exact k1), if_neg (by exact k2), if_neg (by exact k4), if_neg kk]
    rw [f]
    obtain ⟨a3, a4⟩ := hRo (by omega) (by omega)
    obtain ⟨a5, a6⟩ := hSp (by omega)
    clear hA hR hRo hSp hM f e hs h
    cases n
    simp only at a1 a2 a3 a4 a5 a6 a7 a8
    subst a1 a2 a3 a4 a5 a6 a7 a8
    rfl
  · have e : n.body = txt n.sf ++ (txt n.st ++ [bytesRec n.l, bytesLa n.last].flatMap txt) := by simp only [NoteV.body, if_neg k1, if_neg k2, if_neg k4, if_neg k3, rowsBy]; simp
    have t1 : badT n.sf = false := badT_of (by omega)
    have t2 : badT n.st = false := badT_of (by omega)
    have f : readBody (bare n.kind n.from_ n.to n.epoch n.tick) (n.body, 0) = ({ bare n.kind n.from_ n.to n.epoch n.tick with sf := n.sf, st := n.st, l := n.l, last := n.last }, ([], 0)) := by
      have kk : (bare n.kind n.from_ n.to n.epoch n.tick).kind = 7 ∨ (bare n.kind n.from_ n.to n.epoch n.tick).kind = 11 ∨ (bare n.kind n.from_ n.to n.epoch n.tick).kind = 10 ∨ (bare n.kind n.from_ n.to n.epoch n.tick).kind = 12 ∨ (bare n.kind n.from_ n.to n.epoch n.tick).kind = 8 ∨ (bare n.kind n.from_ n.to n.epoch n.tick).kind = 9 := by
        show n.kind = 7 ∨ n.kind = 11 ∨ n.kind = 10 ∨ n.kind = 12 ∨ n.kind = 8 ∨ n.kind = 9
        omega
      rw [e, readBody, if_neg (by exact k1), if_neg (by exact k2), if_neg (by exact k4), if_pos kk]
      simp only [stT_good t1, stT_good t2, vT_good t1, vT_good t2, rows_good h hs]
    rw [f]
    clear hA hR hRo hSp hM f e hs h t1 t2
    cases n
    simp only at a1 a2 a7 a8
    subst a1 a2 a7 a8
    rfl
/-- What is packed is read as it was. -/
theorem note_good {n : NoteV} (hm : mayB n = true) (hs : n.sz) : readNote n.bytes = (n, 0) := by
  have h := mayF hm
  obtain ⟨h1, h2⟩ := head_good h n.body
  unfold readNote NoteV.bytes
  rw [h1, h2, body_good h hs]
  simp only [finN, end_good, hm, and_self, if_true]
theorem bytes_inj {a b : NoteV} (ha : mayB a = true) (hb : mayB b = true) (sa : a.sz) (sb : b.sz) (h : a.bytes = b.bytes) : a = b := by
  have h1 := note_good ha sa
  rw [h, note_good hb sb] at h1
  exact (Prod.mk.inj h1).1.symm
end Go.Proofs.Ytndlgmciplckjaa.note
