/- What layer 1 (place) answers, as Lean functions over lists of bytes; their laws. Plain Lean, no program in sight. -/
import Derived.Test.YtfdinkofcjcahaaDoorName
namespace Go.Proofs.YtfdinkofcjcahaaDoor.Pl
open Go.RowKit Go.Proofs.YtfdinkofcjcahaaDoor.Ord Go.Proofs.YtfdinkofcjcahaaDoor.Name

/-- The pieces between the slashes. -/
def pcs : List UInt8 → List (List UInt8)
  | [] => [[]]
  | c :: r => if c = 47 then [] :: pcs r else match pcs r with
    | [] => [[c]]
    | p :: ps => (c :: p) :: ps
def bs (l : List UInt8) : ByteArray := ⟨l.toArray⟩
theorem tx_bs (l : List UInt8) : tx (bs l) = l := by simp [tx, bs]
theorem bs_tx (s : ByteArray) : bs (tx s) = s := by cases s; simp [tx, bs]
theorem bs_inj {a b : List UInt8} (h : bs a = bs b) : a = b := by rw [← tx_bs a, h, tx_bs]
theorem bs_size (l : List UInt8) : (bs l).size = l.length := by simp [bs, ByteArray.size]
/-- Each name with a slash ahead. -/
def glue : List (List UInt8) → List UInt8
  | [] => []
  | p :: r => 47 :: (p ++ glue r)
/-- The place of names. -/
def plc (l : List (List UInt8)) : List UInt8 := if l = [] then [47] else glue l

theorem pcs_ne (t : List UInt8) : pcs t ≠ [] := by
  cases t with
  | nil => simp [pcs]
  | cons c r =>
    unfold pcs
    split
    · simp
    · split <;> simp
theorem glue_pcs : ∀ t : List UInt8, glue (pcs t) = 47 :: t
  | [] => rfl
  | c :: r => by
    unfold pcs
    split
    · rename_i h
      subst h
      show 47 :: ([] ++ glue (pcs r)) = _
      rw [glue_pcs r]
      rfl
    · have ih := glue_pcs r
      split
      · rename_i h; exact absurd h (pcs_ne r)
      · rename_i p ps h
        rw [h] at ih
        simp only [glue, List.cons.injEq, true_and] at ih
        show 47 :: (c :: p ++ glue ps) = _
        rw [List.cons_append, ih]
theorem pcs_append (p : List UInt8) (hp : 47 ∉ p) (r : List UInt8) : pcs (p ++ 47 :: r) = p :: pcs r := by
  induction p with
  | nil => simp [pcs]
  | cons c p ih =>
    have hc : c ≠ 47 := fun e => hp (by simp [e])
    rw [List.cons_append, pcs, if_neg hc, ih (fun h => hp (List.mem_cons_of_mem _ h))]
theorem pcs_one (p : List UInt8) (hp : 47 ∉ p) : pcs p = [p] := by
  induction p with
  | nil => rfl
  | cons c p ih =>
    have hc : c ≠ 47 := fun e => hp (by simp [e])
    rw [pcs, if_neg hc, ih (fun h => hp (List.mem_cons_of_mem _ h))]
theorem pcs_glue : ∀ l : List (List UInt8), l ≠ [] → (∀ p ∈ l, 47 ∉ p) → pcs (glue l).tail = l
  | [], h, _ => absurd rfl h
  | [p], _, h => by simp [glue, pcs_one p (h p (by simp))]
  | p :: q :: r, _, h => by
    show pcs (p ++ 47 :: (q ++ glue r)) = _
    rw [pcs_append p (h p (by simp))]
    have := pcs_glue (q :: r) (by simp) (fun x hx => h x (List.mem_cons_of_mem _ hx))
    simp only [glue, List.tail_cons] at this
    rw [this]
theorem okN_slash {p : List UInt8} (h : okN p = true) : 47 ∉ p := by
  intro hm
  unfold okN at h
  simp only [Bool.and_eq_true, List.all_eq_true] at h
  have := h.2 47 hm
  simp [okB] at this
theorem okN_len {p : List UInt8} (h : okN p = true) : 1 ≤ p.length ∧ p.length ≤ 16 := by
  unfold okN at h
  simp only [Bool.and_eq_true, decide_eq_true_eq] at h
  omega
theorem okN_dots {p : List UInt8} (h : okN p = true) : p ≠ [] ∧ p ≠ [46] ∧ p ≠ [46, 46] := by
  refine ⟨?_, ?_, ?_⟩ <;> (rintro rfl; revert h; decide)

/-- Parse: the names, the errno. -/
def parseL (t : List UInt8) : List (List UInt8) × Int :=
  if t.length > 102 then ([], 2) else if t = [47] then ([], 0) else if t.head? = some 47 then
    (if (pcs t.tail).length > 6 then ([], 10) else if (pcs t.tail).all okN = true then (pcs t.tail, 0) else ([], 10)) else ([], 10)
/-- A list of names that makes a place. -/
def Good (l : List (List UInt8)) : Prop := l.length ≤ 6 ∧ l.all okN = true
theorem good_nil : Good [] := ⟨by simp, rfl⟩
theorem Good.ok {l : List (List UInt8)} (h : Good l) {p : List UInt8} (hp : p ∈ l) : okN p = true := List.all_eq_true.1 h.2 p hp
theorem glue_length (l : List (List UInt8)) (h : ∀ p ∈ l, p.length ≤ 16) : (glue l).length ≤ 17 * l.length := by
  induction l with
  | nil => simp [glue]
  | cons p r ih =>
    have h1 := h p (by simp)
    have h2 := ih (fun x hx => h x (List.mem_cons_of_mem _ hx))
    simp only [glue, List.length_cons, List.length_append]
    omega
theorem plc_length {l : List (List UInt8)} (h : Good l) : (plc l).length ≤ 102 ∧ 1 ≤ (plc l).length := by
  unfold plc
  split
  · simp
  · rename_i hl
    have := glue_length l (fun p hp => (okN_len (h.ok hp)).2)
    have := h.1
    cases l with
    | nil => exact absurd rfl hl
    | cons p r => simp only [glue, List.length_cons, List.length_append] at *; omega
theorem parse_plc {l : List (List UInt8)} (h : Good l) : parseL (plc l) = (l, 0) := by
  have hlen := plc_length h
  unfold parseL
  rw [if_neg (by omega)]
  by_cases hl : l = []
  · subst hl; rfl
  · have hp : plc l = glue l := if_neg hl
    cases l with
    | nil => exact absurd rfl hl
    | cons p r =>
      have hpn := okN_len (h.ok (show p ∈ p :: r by simp))
      have hne : glue (p :: r) ≠ [47] := by
        intro e
        have := congrArg List.length e
        simp only [glue, List.length_cons, List.length_append, List.length_nil] at this
        omega
      have hpc := pcs_glue (p :: r) (by simp) (fun x hx => okN_slash (h.ok hx))
      rw [hp, if_neg hne, if_pos (by simp [glue]), hpc, if_neg (by have := h.1; omega), if_pos h.2]
theorem parse_good (t : List UInt8) : Good (parseL t).1 := by
  unfold parseL
  repeat' split
  all_goals first
    | exact good_nil
    | exact ⟨by show (pcs t.tail).length ≤ 6; omega, by assumption⟩
theorem parse_cases (t : List UInt8) : (parseL t).2 = 0 ∨ (parseL t).1 = [] := by
  unfold parseL
  repeat' split
  all_goals simp
theorem parse_bad {t : List UInt8} (h : (parseL t).2 ≠ 0) : (parseL t).1 = [] := (parse_cases t).resolve_left h
theorem parse_back {t : List UInt8} (h : (parseL t).2 = 0) : t = plc (parseL t).1 := by
  unfold parseL at h ⊢
  by_cases h1 : t.length > 102
  · rw [if_pos h1] at h; simp at h
  · rw [if_neg h1] at h ⊢
    by_cases h2 : t = [47]
    · rw [if_pos h2]; subst h2; rfl
    · rw [if_neg h2] at h ⊢
      by_cases h3 : t.head? = some 47
      · rw [if_pos h3] at h ⊢
        by_cases h4 : (pcs t.tail).length > 6
        · rw [if_pos h4] at h; simp at h
        · rw [if_neg h4] at h ⊢
          by_cases h5 : (pcs t.tail).all okN = true
          · rw [if_pos h5]
            show t = plc (pcs t.tail)
            rw [plc, if_neg (pcs_ne _), glue_pcs]
            cases t with
            | nil => simp at h3
            | cons c r => simp at h3; simp [h3]
          · rw [if_neg h5] at h; simp at h
      · rw [if_neg h3] at h; simp at h
theorem plc_inj {l m : List (List UInt8)} (hl : Good l) (hm : Good m) (h : plc l = plc m) : l = m := by
  have := parse_plc hl
  rw [h, parse_plc hm] at this
  simpa using this.symm
theorem good_dropLast {l : List (List UInt8)} (h : Good l) : Good l.dropLast := by
  refine ⟨by rw [List.length_dropLast]; have := h.1; omega, ?_⟩
  rw [List.all_eq_true]
  intro p hp
  exact h.ok ((List.dropLast_sublist _).subset hp)
theorem good_append {l m : List (List UInt8)} (h : Good l) (hm : m.all okN = true) (hlen : l.length + m.length ≤ 6) : Good (l ++ m) :=
  ⟨by rw [List.length_append]; exact hlen, by rw [List.all_append, h.2, hm]; rfl⟩

/-- Join, Parent, Name. -/
def joinL (t : List UInt8) (m : List (List UInt8)) : List UInt8 × Int :=
  if (parseL t).2 = 0 then (if m.all okN = true ∧ (parseL t).1.length + m.length ≤ 6 then (plc ((parseL t).1 ++ m), 0) else ([], 10)) else ([], (parseL t).2)
def parentL (t : List UInt8) : List UInt8 × Int :=
  if (parseL t).2 = 0 then (if (parseL t).1 = [] then ([], 47) else (plc (parseL t).1.dropLast, 0)) else ([], (parseL t).2)
def lastL (l : List (List UInt8)) : List UInt8 := l.getLast?.getD []
def nameL (t : List UInt8) : List UInt8 × Int :=
  if (parseL t).2 = 0 then (lastL (parseL t).1, 0) else ([], (parseL t).2)
/-- Five digits. -/
def dig5 (n : Nat) : List UInt8 := [UInt8.ofNat (48 + n / 10000 % 10), UInt8.ofNat (48 + n / 1000 % 10), UInt8.ofNat (48 + n / 100 % 10), UInt8.ofNat (48 + n / 10 % 10), UInt8.ofNat (48 + n % 10)]
def countedL (t : List UInt8) (n : Int) : List UInt8 × Int :=
  if (parseL t).2 = 0 then (if (parseL t).1 = [] then ([], 47) else if (lastL (parseL t).1).length > 11 then ([], 10) else if n < 0 ∨ n > 99999 then ([], 1) else (t ++ dig5 n.toNat, 0)) else ([], (parseL t).2)
/-- Covers. -/
def coversL (kind : Int) (w : List UInt8) (ch : Int) (c : List UInt8) : Bool :=
  if (parseL w).2 = 0 ∧ (parseL c).2 = 0 ∧ 1 ≤ ch ∧ ch ≤ 3 ∧ (parseL w).1 <+: (parseL c).1 then
    (if kind = 1 then decide ((parseL c).1.length = (parseL w).1.length) else if kind = 2 then decide (ch ≠ 2 ∧ (parseL c).1.length ≤ (parseL w).1.length + 1) else decide (kind = 3)) else false
/-- What Clean does with the pieces. -/
def clean (acc : List (List UInt8)) : List (List UInt8) → Option (List (List UInt8))
  | [] => some acc
  | p :: r => if p = [] then clean acc r else if p = [46] then clean acc r else if p = [46, 46] then (if acc = [] then none else clean acc.dropLast r)
    else if okN p = true then clean (acc ++ [p]) r else none
def cleanEnd : Option (List (List UInt8)) → List UInt8 × Int
  | none => ([], 10)
  | some l => if l.length > 6 then ([], 10) else (plc l, 0)
def cleanL (t : List UInt8) : List UInt8 × Int :=
  if t.length > 65536 then ([], 2) else if t.head? = some 47 then cleanEnd (clean [] (pcs t.tail)) else ([], 10)
/-- What the law's loose lays between the names. -/
def mark (m : Int) : List UInt8 := 47 :: (if m = 1 then [47] else if m = 2 then [46, 47] else if m = 3 then [103, 111, 110, 101, 47, 46, 46, 47] else if m = 4 then [103, 47, 46, 47, 47, 104, 47, 46, 46, 47, 46, 47, 46, 46, 47] else [])
def looseL : List (List UInt8) → List Int → List UInt8
  | [], ms => mark (ms.headD 0)
  | p :: r, ms => mark (ms.headD 0) ++ p ++ looseL r ms.tail
end Go.Proofs.YtfdinkofcjcahaaDoor.Pl
