/-
  Chapter 7: a symbol is read back, by the program's way and by the reference's. Plain.
-/
import Derived.Test.YtdbiihfoafoljaaGreatDoorNotP
import Derived.Test.YtdbiihfoafoljaaGreatDoorDecP
set_option linter.unusedSimpArgs false
set_option linter.unusedVariables false
namespace Go.Proofs.YtdbiihfoafoljaaGreatDoor
open Go.RowKit
def HI (set : List UInt8) (s : List UInt8) : Prop := ∀ c, s.head? = some c → c ∈ set
theorem HI.nil (set : List UInt8) : HI set [] := fun c h => by simp at h
theorem HI.no {set s : List UInt8} (h : HI set s) {c : UInt8} (hc : c ∉ set) : hasC s c = false := by
  unfold hasC
  rw [beq_eq_false_iff_ne]
  exact fun e => hc (h c e)
theorem HI.nodig {set s : List UInt8} (h : HI set s) (hd : set.all (fun c => !digC c) = true) : hasD s = false := by
  cases s with
  | nil => rfl
  | cons c r =>
    rw [List.all_eq_true] at hd
    have := hd c (h c rfl)
    simpa [hasD] using this
def H1 (set A : List UInt8) : Prop := A = [] ∨ ∃ c r, A = c :: r ∧ c ∈ set
theorem HI.app {s1 s2 A T : List UInt8} (hA : H1 s1 A) (hT : HI s2 T) : HI (s1 ++ s2) (A ++ T) := by
  rcases hA with rfl | ⟨c, r, rfl, hc⟩
  · exact fun c h => List.mem_append_right _ (hT c h)
  · intro x hx
    simp at hx
    subst hx
    exact List.mem_append_left _ hc
theorem hasC_cons (c : UInt8) (r : List UInt8) : hasC (c :: r) c = true := by simp [hasC]
theorem hasC_ne {x c : UInt8} (r : List UInt8) (h : x ≠ c) : hasC (x :: r) c = false := by simp [hasC, h]
/-! The digit. -/
theorem dg_cases {n : Int} (h0 : 0 ≤ n) (h9 : n ≤ 9) : dg n = [48] ∨ dg n = [49] ∨ dg n = [50] ∨ dg n = [51] ∨ dg n = [52] ∨ dg n = [53] ∨ dg n = [54] ∨ dg n = [55] ∨ dg n = [56] ∨ dg n = [57] := by
  rcases (by omega : n = 0 ∨ n = 1 ∨ n = 2 ∨ n = 3 ∨ n = 4 ∨ n = 5 ∨ n = 6 ∨ n = 7 ∨ n = 8 ∨ n = 9) with rfl | rfl | rfl | rfl | rfl | rfl | rfl | rfl | rfl | rfl <;> decide
def ten : List UInt8 := [48, 49, 50, 51, 52, 53, 54, 55, 56, 57]
theorem dg_h1 {n : Int} (h0 : 0 ≤ n) (h9 : n ≤ 9) : H1 ten (dg n) := by
  right
  rcases dg_cases h0 h9 with h | h | h | h | h | h | h | h | h | h <;> rw [h] <;> exact ⟨_, _, rfl, by decide⟩
theorem rdD_dg {n : Int} (h0 : 0 ≤ n) (h9 : n ≤ 9) (T : List UInt8) : rdD (dg n ++ T) = (n, T) := by
  rcases (by omega : n = 0 ∨ n = 1 ∨ n = 2 ∨ n = 3 ∨ n = 4 ∨ n = 5 ∨ n = 6 ∨ n = 7 ∨ n = 8 ∨ n = 9) with rfl | rfl | rfl | rfl | rfl | rfl | rfl | rfl | rfl | rfl <;> rfl
theorem rdD_no {T : List UInt8} (h : hasD T = false) : rdD T = (0, T) := by
  cases T with
  | nil => rfl
  | cons c r =>
    unfold hasD at h
    simp only [] at h
    unfold rdD
    simp only []
    rw [if_neg (by rw [h]; decide)]
theorem rdN_dg {n : Int} (h0 : 0 ≤ n) (h9 : n ≤ 9) {T : List UInt8} (h : hasD T = false) : rdN (dg n ++ T) = (n, T) := by
  unfold rdN
  rw [rdD_dg h0 h9]
  simp only []
  rw [if_neg (by rw [h]; decide)]
theorem rdN_no {T : List UInt8} (h : hasD T = false) : rdN T = (0, T) := by
  unfold rdN
  rw [rdD_no h]
  simp only []
  rw [if_neg (by rw [h]; decide)]
theorem dcB_small {n : Int} (h0 : 0 ≤ n) (h9 : n ≤ 9) : dcB n = dg n := by
  rcases (by omega : n = 0 ∨ n = 1 ∨ n = 2 ∨ n = 3 ∨ n = 4 ∨ n = 5 ∨ n = 6 ∨ n = 7 ∨ n = 8 ∨ n = 9) with rfl | rfl | rfl | rfl | rfl | rfl | rfl | rfl | rfl | rfl <;> (unfold dcB; rw [decDigits_small (by decide)]; rfl)
theorem rdN_dc {n : Int} (h0 : 0 ≤ n) (h11 : n ≤ 11) {T : List UInt8} (h : hasD T = false) : rdN (dcB n ++ T) = (n, T) := by
  by_cases h9 : n ≤ 9
  · rw [dcB_small h0 h9]; exact rdN_dg h0 h9 h
  · rcases (by omega : n = 10 ∨ n = 11) with rfl | rfl
    · rw [show dcB 10 = [49, 48] from by unfold dcB; rw [show (10 : Int).toNat = 10 from rfl, decDigits_big (by decide), decDigits_small (by decide)]; rfl]
      unfold rdN
      simp [rdD, hasD, digC]
    · rw [show dcB 11 = [49, 49] from by unfold dcB; rw [show (11 : Int).toNat = 11 from rfl, decDigits_big (by decide), decDigits_small (by decide)]; rfl]
      unfold rdN
      simp [rdD, hasD, digC]
/-! The parts, read one after another. The program's way ('P') and the reference's ('R'). -/
def p1 (s : List UInt8) : Int × List UInt8 := if hasC s 119 then (2, s.tail) else if hasC s 110 then (3, s.tail) else (1, s)
def p2 (t : Int) (s : List UInt8) : Int × List UInt8 := if hasC s 98 then (2, s.tail) else if hasC s 108 then (3, s.tail) else if t = 2 then (if hasC s 111 then (1, s.tail) else (0, s)) else if hasC s 46 then (0, s.tail) else (1, s)
def q2 (t : Int) (s : List UInt8) : Int × List UInt8 := if hasC s 46 then (0, s.tail) else if hasC s 98 then (2, s.tail) else if hasC s 108 then (3, s.tail) else if hasC s 111 then (1, s.tail) else ((if t = 2 then 0 else 1), s)
def p4 (s : List UInt8) : Int × List UInt8 := if hasC s 70 then (4, s.tail) else if hasC s 83 then (6, s.tail) else (0, s)
def p5 (s : List UInt8) : Int × List UInt8 := if hasC s 45 then rdD s.tail else (0, s)
def q5 (s : List UInt8) : Int × List UInt8 := if hasC s 45 then rdN s.tail else (0, s)
structure Wk where
  how : Int
  vic : Int
  fd : Int
  sd : Int
  sub : Bool
/-- The fielders behind '('. -/
def inner (s : List UInt8) : (Int × Int × Bool) × List UInt8 :=
  let a := rdN s
  let b := if hasC a.2 44 then rdN a.2.tail else (0, a.2)
  let c := takeC b.2 115
  ((a.1, b.1, hasC b.2 115), takeC c 41)
def p7 (s : List UInt8) : Wk × List UInt8 :=
  if hasC s 47 = false then (⟨0, 0, 0, 0, false⟩, s)
  else match s.tail with
    | [] => (⟨0, 0, 0, 0, false⟩, [])
    | c :: r =>
      let v := rdD r
      if hasC v.2 40 then
        let i := inner v.2.tail
        (⟨idxL c, v.1, i.1.1, i.1.2.1, i.1.2.2⟩, i.2)
      else (⟨idxL c, v.1, 0, 0, false⟩, v.2)
def q7 (s : List UInt8) : Wk × List UInt8 :=
  if hasC s 47 = false then (⟨0, 0, 0, 0, false⟩, s)
  else match s.tail with
    | [] => (⟨0, 0, 0, 0, false⟩, [])
    | c :: r =>
      let v := rdN r
      if hasC v.2 40 then
        let i := inner v.2.tail
        (⟨idxL c, v.1, i.1.1, i.1.2.1, i.1.2.2⟩, i.2)
      else (⟨idxL c, v.1, 0, 0, false⟩, v.2)
def p8 (s : List UInt8) : Int := if hasC s 64 then (rdD s.tail).1 else 0
def q8 (s : List UInt8) : Int := if hasC s 64 then (rdN s.tail).1 else 0
def guessP (s : List UInt8) : Del :=
  let a := p1 s
  let b := p2 a.1 a.2
  let r := rdD b.2
  let c := p4 r.2
  let e := p5 c.2
  let f := takeC e.2 120
  let k := p7 f
  ⟨a.1, b.1, r.1, e.1, c.1, hasC e.2 120, k.1.how, k.1.vic, k.1.fd, k.1.sd, k.1.sub, p8 k.2⟩
def guessR (s : List UInt8) : Del :=
  let a := p1 s
  let b := q2 a.1 a.2
  let r := rdN b.2
  let c := p4 r.2
  let e := q5 c.2
  let f := takeC e.2 120
  let k := q7 f
  ⟨a.1, b.1, r.1, e.1, c.1, hasC e.2 120, k.1.how, k.1.vic, k.1.fd, k.1.sd, k.1.sub, q8 k.2⟩
/-! What begins the rests. -/
def S8 : List UInt8 := [64]
def S7 : List UInt8 := 47 :: S8
def S6 : List UInt8 := 120 :: S7
def S5 : List UInt8 := 45 :: S6
def S4 : List UInt8 := 70 :: 83 :: S5
def S3 : List UInt8 := ten ++ S4
def S2 : List UInt8 := 98 :: 108 :: 111 :: 46 :: S3
theorem h8 (n : Int) : HI S8 (secL n) := by
  unfold secL
  split
  · intro c h; simp at h; subst h; decide
  · exact HI.nil _
theorem h7 (d : Del) : HI S7 (wkL d ++ secL d.sec) := by
  refine HI.app (s1 := [47]) ?_ (h8 _)
  unfold wkL
  split
  · exact .inl rfl
  · exact .inr ⟨_, _, rfl, by decide⟩
theorem h6 (d : Del) : HI S6 (crL d.cr ++ (wkL d ++ secL d.sec)) := by
  refine HI.app (s1 := [120]) ?_ (h7 _)
  unfold crL
  split
  · exact .inr ⟨_, _, rfl, by decide⟩
  · exact .inl rfl
theorem h5 (d : Del) : HI S5 (shL d.short ++ (crL d.cr ++ (wkL d ++ secL d.sec))) := by
  refine HI.app (s1 := [45]) ?_ (h6 _)
  unfold shL
  split
  · exact .inr ⟨_, _, rfl, by decide⟩
  · exact .inl rfl
theorem h4 (d : Del) : HI S4 (bdL d.bd ++ (shL d.short ++ (crL d.cr ++ (wkL d ++ secL d.sec)))) := by
  refine HI.app (s1 := [70, 83]) ?_ (h5 _)
  unfold bdL
  split
  · exact .inr ⟨_, _, rfl, by decide⟩
  split
  · exact .inr ⟨_, _, rfl, by decide⟩
  · exact .inl rfl
/-- What a valid form says. -/
structure OkD (d : Del) : Prop where
  ty : d.ty = 1 ∨ d.ty = 2 ∨ d.ty = 3
  src : d.src ≤ 3
  how : d.how ≤ 10
  runs : 0 ≤ d.runs ∧ d.runs ≤ 7
  short : 0 ≤ d.short ∧ d.short ≤ 7
  bd : d.bd = 0 ∨ d.bd = 4 ∨ d.bd = 6
  vic : 0 ≤ d.vic ∧ d.vic ≤ 2
  fd : 0 ≤ d.fd ∧ d.fd ≤ 11
  sd : 0 ≤ d.sd ∧ d.sd ≤ 11
  sec : 0 ≤ d.sec ∧ d.sec ≤ 8
theorem okD_of {d : Del} (h : chkD d = 0) : OkD d := by
  unfold chkD at h
  split at h
  · cases h
  split at h
  · cases h
  rename_i h1 h2
  simp only [Bool.or_eq_true, Bool.not_eq_true', not_or, decide_eq_true_eq, Bool.not_eq_false, Bool.and_eq_true, bne_iff_ne, btw] at h1 h2
  obtain ⟨a, b, c, e⟩ := h1
  obtain ⟨f1, f2, f3, f4, f5, f6, f7⟩ := h2
  exact ⟨by omega, by omega, by omega, f1, by omega, by omega, f4, f5, f6, f7⟩
theorem h3 {d : Del} (hd : OkD d) : HI S3 (runL d ++ (bdL d.bd ++ (shL d.short ++ (crL d.cr ++ (wkL d ++ secL d.sec))))) := by
  refine HI.app (s1 := ten) ?_ (h4 _)
  unfold runL
  split
  · exact dg_h1 hd.runs.1 (by have := hd.runs.2; omega)
  · exact .inl rfl
theorem h2 {d : Del} (hd : OkD d) : HI S2 (srcL d.ty d.src ++ (runL d ++ (bdL d.bd ++ (shL d.short ++ (crL d.cr ++ (wkL d ++ secL d.sec)))))) := by
  refine HI.app (s1 := [98, 108, 111, 46]) ?_ (h3 hd)
  unfold srcL
  split
  · exact .inr ⟨_, _, rfl, by decide⟩
  split
  · exact .inr ⟨_, _, rfl, by decide⟩
  split
  · split
    · exact .inr ⟨_, _, rfl, by decide⟩
    · exact .inl rfl
  · split
    · exact .inr ⟨_, _, rfl, by decide⟩
    · exact .inl rfl
/-! Step by step. -/
theorem st1 {t : Int} (ht : t = 1 ∨ t = 2 ∨ t = 3) {T : List UInt8} (h : HI S2 T) : p1 (tyL t ++ T) = (t, T) := by
  rcases ht with rfl | rfl | rfl
  · show p1 T = _
    unfold p1
    rw [h.no (by decide), h.no (by decide)]
    rfl
  · rfl
  · rfl
theorem st2 {t s : Int} (ht : t = 1 ∨ t = 2 ∨ t = 3) (h0 : 0 ≤ s) (hs : s ≤ 3) {T : List UInt8} (h : HI S3 T) : p2 t (srcL t s ++ T) = (s, T) ∧ q2 t (srcL t s ++ T) = (s, T) := by
  have n1 := h.no (c := 98) (by decide)
  have n2 := h.no (c := 108) (by decide)
  have n3 := h.no (c := 111) (by decide)
  have n4 := h.no (c := 46) (by decide)
  rcases (by omega : s = 0 ∨ s = 1 ∨ s = 2 ∨ s = 3) with rfl | rfl | rfl | rfl <;> rcases ht with rfl | rfl | rfl <;>
    first
      | exact ⟨rfl, rfl⟩
      | (refine ⟨?_, ?_⟩ <;> (simp only [srcL, p2, q2]; simp [n1, n2, n3, n4]))
theorem st3 {d : Del} (hd : OkD d) {T : List UInt8} (h : HI S4 T) : rdD (runL d ++ T) = (d.runs, T) ∧ rdN (runL d ++ T) = (d.runs, T) := by
  have hn := h.nodig (by decide)
  unfold runL
  split
  · exact ⟨rdD_dg hd.runs.1 (by have := hd.runs.2; omega) T, rdN_dg hd.runs.1 (by have := hd.runs.2; omega) hn⟩
  · rename_i h1
    have : d.runs = 0 := by have := hd.runs.1; omega
    rw [this]
    exact ⟨rdD_no hn, rdN_no hn⟩
theorem st4 {b : Int} (hb : b = 0 ∨ b = 4 ∨ b = 6) {T : List UInt8} (h : HI S5 T) : p4 (bdL b ++ T) = (b, T) := by
  rcases hb with rfl | rfl | rfl
  · show p4 T = _
    unfold p4
    rw [h.no (by decide), h.no (by decide)]
    rfl
  · rfl
  · rfl
theorem st5 {n : Int} (h0 : 0 ≤ n) (h7 : n ≤ 7) {T : List UInt8} (h : HI S6 T) : p5 (shL n ++ T) = (n, T) ∧ q5 (shL n ++ T) = (n, T) := by
  unfold shL
  split
  · exact ⟨by unfold p5; rw [List.cons_append, hasC_cons, if_pos rfl]; exact rdD_dg h0 (by omega) T, by unfold q5; rw [List.cons_append, hasC_cons, if_pos rfl]; exact rdN_dg h0 (by omega) (h.nodig (by decide))⟩
  · have : n = 0 := by omega
    subst this
    refine ⟨?_, ?_⟩
    · unfold p5; rw [List.nil_append, h.no (by decide)]; rfl
    · unfold q5; rw [List.nil_append, h.no (by decide)]; rfl
theorem st6 (b : Bool) {T : List UInt8} (h : HI S7 T) : hasC (crL b ++ T) 120 = b ∧ takeC (crL b ++ T) 120 = T := by
  have hn := h.no (c := 120) (by decide)
  cases b
  · exact ⟨hn, by show takeC T 120 = T; unfold takeC; rw [hn]; rfl⟩
  · exact ⟨rfl, rfl⟩
theorem idx_let {h : Int} (h0 : 0 ≤ h) (h10 : h ≤ 10) : idxL (letL h) = h := by
  rcases (by omega : h = 0 ∨ h = 1 ∨ h = 2 ∨ h = 3 ∨ h = 4 ∨ h = 5 ∨ h = 6 ∨ h = 7 ∨ h = 8 ∨ h = 9 ∨ h = 10) with rfl | rfl | rfl | rfl | rfl | rfl | rfl | rfl | rfl | rfl | rfl <;> decide
theorem inner_fd {d : Del} (hd : OkD d) (T : List UInt8) : inner (dcB d.fd ++ ((if d.sd ≠ 0 then 44 :: dcB d.sd else []) ++ ((if d.sub then [115] else []) ++ [41])) ++ T) = ((d.fd, d.sd, d.sub), T) := by
  have hU : ∀ b : Bool, hasD ((if b then [115] else []) ++ [41] ++ T) = false := fun b => by cases b <;> rfl
  have hV : hasD ((if d.sd ≠ 0 then 44 :: dcB d.sd else []) ++ ((if d.sub then [115] else []) ++ [41]) ++ T) = false := by
    by_cases h : d.sd = 0
    · rw [if_neg (by simpa using h), List.nil_append]; exact hU _
    · rw [if_pos h]; rfl
  by_cases h : d.sd = 0
  · have hX : (if d.sd ≠ 0 then 44 :: dcB d.sd else []) = [] := if_neg (by simpa using h)
    rw [hX] at hV ⊢
    rw [List.nil_append] at hV ⊢
    have hc : hasC ((if d.sub then [115] else []) ++ [41] ++ T) 44 = false := by cases d.sub <;> rfl
    unfold inner
    rw [List.append_assoc, rdN_dc hd.fd.1 hd.fd.2 hV]
    simp only []
    rw [hc]
    simp only [Bool.false_eq_true, if_false, h]
    cases d.sub <;> rfl
  · have hX : (if d.sd ≠ 0 then 44 :: dcB d.sd else []) = 44 :: dcB d.sd := if_pos h
    rw [hX] at hV ⊢
    have hc : hasC (44 :: dcB d.sd ++ ((if d.sub then [115] else []) ++ [41]) ++ T) 44 = true := rfl
    have ht : (44 :: dcB d.sd ++ ((if d.sub then [115] else []) ++ [41]) ++ T).tail = dcB d.sd ++ ((if d.sub then [115] else []) ++ [41] ++ T) := by simp
    unfold inner
    rw [List.append_assoc, rdN_dc hd.fd.1 hd.fd.2 hV]
    simp only []
    rw [hc, ht]
    simp only [if_true]
    rw [rdN_dc hd.sd.1 hd.sd.2 (hU _)]
    simp only []
    cases d.sub <;> rfl
theorem st7 {d : Del} (hd : OkD d) (hh : 0 ≤ d.how) {T : List UInt8} (h : HI S8 T) : p7 (wkL d ++ T) = (⟨d.how, d.vic, d.fd, d.sd, d.sub⟩, T) ∧ q7 (wkL d ++ T) = (⟨d.how, d.vic, d.fd, d.sd, d.sub⟩, T) := by
  unfold wkL
  by_cases h0 : d.how = 0 ∧ d.vic = 0 ∧ fldB d = false
  · rw [if_pos h0, List.nil_append]
    obtain ⟨e1, e2, e3⟩ := h0
    unfold fldB at e3
    simp only [Bool.or_eq_false_iff, bne_eq_false_iff_eq] at e3
    rw [e1, e2, e3.1, e3.2.1, e3.2.2]
    have hn := h.no (c := 47) (by decide)
    exact ⟨by unfold p7; rw [if_pos hn], by unfold q7; rw [if_pos hn]⟩
  · rw [if_neg h0]
    have hc : hasC (47 :: letL d.how :: (dg d.vic ++ fdL d) ++ T) 47 = true := rfl
    have ht : (47 :: letL d.how :: (dg d.vic ++ fdL d) ++ T).tail = letL d.how :: (dg d.vic ++ (fdL d ++ T)) := by simp
    have hfd : fldB d = true → fdL d ++ T = 40 :: (dcB d.fd ++ ((if d.sd ≠ 0 then 44 :: dcB d.sd else []) ++ ((if d.sub then [115] else []) ++ [41])) ++ T) := fun e => by unfold fdL; rw [if_pos e]; simp
    have hfn : fldB d = false → fdL d ++ T = T ∧ d.fd = 0 ∧ d.sd = 0 ∧ d.sub = false := fun e => by
      have e3 := e
      unfold fldB at e3
      simp only [Bool.or_eq_false_iff, bne_eq_false_iff_eq] at e3
      refine ⟨?_, e3⟩
      unfold fdL; rw [if_neg (by rw [e]; decide)]; rfl
    have hnd : hasD (fdL d ++ T) = false := by
      cases hf : fldB d
      · rw [(hfn hf).1]; exact h.nodig (by decide)
      · rw [hfd hf]; rfl
    refine ⟨?_, ?_⟩
    · unfold p7
      rw [if_neg (by rw [hc]; decide), ht]
      simp only []
      rw [rdD_dg hd.vic.1 (by have := hd.vic.2; omega), idx_let hh hd.how]
      simp only []
      cases hf : fldB d
      · obtain ⟨e1, e2, e3, e4⟩ := hfn hf
        rw [e1, h.no (by decide), e2, e3, e4]; rfl
      · rw [hfd hf, hasC_cons, if_pos rfl, List.tail_cons, inner_fd hd]
    · unfold q7
      rw [if_neg (by rw [hc]; decide), ht]
      simp only []
      rw [rdN_dg hd.vic.1 (by have := hd.vic.2; omega) hnd, idx_let hh hd.how]
      simp only []
      cases hf : fldB d
      · obtain ⟨e1, e2, e3, e4⟩ := hfn hf
        rw [e1, h.no (by decide), e2, e3, e4]; rfl
      · rw [hfd hf, hasC_cons, if_pos rfl, List.tail_cons, inner_fd hd]
theorem st8 {n : Int} (h0 : 0 ≤ n) (h8 : n ≤ 8) : p8 (secL n) = n ∧ q8 (secL n) = n := by
  unfold secL
  split
  · refine ⟨?_, ?_⟩
    · unfold p8
      rw [hasC_cons, if_pos rfl, List.tail_cons]
      have := rdD_dg h0 (by omega) []
      rw [List.append_nil] at this
      rw [this]
    · unfold q8
      rw [hasC_cons, if_pos rfl, List.tail_cons]
      have := rdN_dg h0 (by omega) (T := []) rfl
      rw [List.append_nil] at this
      rw [this]
  · have : n = 0 := by omega
    subst this
    exact ⟨rfl, rfl⟩
theorem guess_prt {d : Del} (hc : chkD d = 0) (hs : 0 ≤ d.src) (hh : 0 ≤ d.how) : guessP (prtD d) = d ∧ guessR (prtD d) = d := by
  have hd := okD_of hc
  have e2 := st2 hd.ty hs hd.src (h3 hd)
  have e3 := st3 hd (h4 d)
  have e4 := st4 hd.bd (h5 d)
  have e5 := st5 hd.short.1 hd.short.2 (h6 d)
  have e6 := st6 d.cr (h7 d)
  have e7 := st7 hd hh (h8 d.sec)
  have e8 := st8 hd.sec.1 hd.sec.2
  refine ⟨?_, ?_⟩
  · unfold guessP prtD
    rw [st1 hd.ty (h2 hd)]
    simp only []
    rw [e2.1]
    simp only []
    rw [e3.1]
    simp only []
    rw [e4]
    simp only []
    rw [e5.1]
    simp only []
    rw [e6.1, e6.2, e7.1]
    simp only []
    rw [e8.1]
  · unfold guessR prtD
    rw [st1 hd.ty (h2 hd)]
    simp only []
    rw [e2.2]
    simp only []
    rw [e3.2]
    simp only []
    rw [e4]
    simp only []
    rw [e5.2]
    simp only []
    rw [e6.1, e6.2, e7.2]
    simp only []
    rw [e8.2]
/-- What Parse answers. -/
def parD (g : Del) (s : List UInt8) : Del × Int := if chkD g = 0 ∧ prtD g = s then (g, 0) else (zeroD, 4)
theorem parD_eq (s : List UInt8) (h1 : 0 ≤ (guessP s).src ∧ 0 ≤ (guessP s).how) (h2 : 0 ≤ (guessR s).src ∧ 0 ≤ (guessR s).how) : parD (guessP s) s = parD (guessR s) s := by
  unfold parD
  by_cases hp : chkD (guessP s) = 0 ∧ prtD (guessP s) = s
  · have := (guess_prt hp.1 h1.1 h1.2).2
    rw [hp.2] at this
    rw [this]
  · by_cases hr : chkD (guessR s) = 0 ∧ prtD (guessR s) = s
    · exfalso
      have := (guess_prt hr.1 h2.1 h2.2).1
      rw [hr.2] at this
      rw [this] at hp
      exact hp hr
    · rw [if_neg hp, if_neg hr]
end Go.Proofs.YtdbiihfoafoljaaGreatDoor
