/-
  Chapter 50 in plain Lean: what the functions compute.
-/
import Derived.Test.YtnbhplhhemkniaaBase
namespace Go.Proofs.Ytnbhplhhemkniaa

structure Jb where
  f : Int
  t : Int
  deriving DecidableEq, Inhabited
def jbE (z : Jb) : List Value := [.int .i64 z.f, .int .i64 z.t]
theorem jbE_len (z : Jb) : (jbE z).length = 2 := rfl
def inE (x : Int) : List Value := [.int .i64 x]
theorem inE_len (x : Int) : (inE x).length = 1 := rfl
theorem jb_cells {w : World} {b off k : Nat} {z : Jb} (h : ∀ j u, (jbE z)[j]? = some u → w.cell? ⟨b, off + k * 2 + j, none⟩ = some u) : w.cell? ⟨b, off + k * 2, none⟩ = some (.int .i64 z.f) ∧ w.cell? ⟨b, off + k * 2 + 1, none⟩ = some (.int .i64 z.t) :=
  ⟨h 0 _ rfl, h 1 _ rfl⟩
theorem in_cell {w : World} {b off k : Nat} {x : Int} (h : ∀ j u, (inE x)[j]? = some u → w.cell? ⟨b, off + k * 1 + j, none⟩ = some u) : w.cell? ⟨b, off + k, none⟩ = some (.int .i64 x) := by
  have := h 0 _ rfl
  simpa using this

/-! Check. -/
def capOk (c : Int) : Bool := decide (0 ≤ c) && decide (c ≤ 20)
def jErr (first n : Int) : List Jb → Int
  | [] => 0
  | j :: r => if j.t < j.f then 1 else if j.f < first ∨ first + n - 1 < j.t then 2 else jErr first n r
def ckT (js : List Jb) (first : Int) (caps : List Int) : Int :=
  if 400 < js.length ∨ 400 < caps.length then 9 else if first < 0 ∨ 109172 < first then 2 else if caps.all capOk then jErr first caps.length js else 2

/-! Room, Inside. -/
def roomF (f t : Int) : Int → Int → List Int → Int
  | n, _, [] => n
  | n, d, c :: r => roomF f t (if f ≤ d ∧ d ≤ t then IntKind.i64.wrap (n + c) else n) (d + 1) r
def roomT (f t first : Int) (caps : List Int) : Int := if first < 0 ∨ 109572 < first then 0 else roomF f t 0 first caps
def inJ (f t : Int) (j : Jb) : Bool := decide (f ≤ j.f) && decide (j.t ≤ t)
def insT (js : List Jb) (f t : Int) : Nat := js.countP (inJ f t)
def refT (js : List Jb) (first : Int) (caps : List Int) (f t : Int) : Int :=
  if ckT js first caps ≠ 0 then ckT js first caps else if t < f then 1 else if (insT js f t : Int) ≤ roomT f t first caps then 11 else 0

/-! The plan. -/
def bestN (js : List Jb) (ds : List Int) (day : Int) : Nat → Option Nat
  | 0 => none
  | k + 1 =>
    match js[k]?, ds[k]? with
    | some j, some d => if d < 0 ∧ j.f ≤ day then (match bestN js ds day k with
        | none => some k
        | some b => if j.t < (js.getD b default).t then some k else some b) else bestN js ds day k
    | _, _ => bestN js ds day k
def stepD (js : List Jb) (day : Int) (ds : List Int) : List Int := match bestN js ds day js.length with
  | none => ds
  | some k => ds.set k day
def iterD (js : List Jb) (day : Int) : Nat → List Int → List Int
  | 0, ds => ds
  | m + 1, ds => stepD js day (iterD js day m ds)
def planF (js : List Jb) : Int → List Int → List Int → List Int
  | _, [], ds => ds
  | d, c :: r, ds => planF js (d + 1) r (iterD js d c.toNat ds)
def planD (js : List Jb) (first : Int) (caps : List Int) : List Int := planF js first caps (List.replicate js.length (-1))
def lateJ (z : Jb × Int) : Bool := decide (z.2 < 0) || decide (z.1.t < z.2)
def planOk (js : List Jb) (first : Int) (caps : List Int) : Bool := !((js.zip (planD js first caps)).any lateJ)

/-! The window. -/
def badW (js : List Jb) (first : Int) (caps : List Int) (f t : Int) : Bool := decide (f ≤ t) && decide (roomT f t first caps < insT js f t)
def IsTight (js : List Jb) (first : Int) (caps : List Int) (x y : Int) : Prop :=
  (((∃ a ∈ js, a.f = x) ∧ (∃ b ∈ js, b.t = y) ∧ badW js first caps x y = true) ∧ ∀ a ∈ js, ∀ b ∈ js, badW js first caps a.f b.t = true → x < a.f ∨ (x = a.f ∧ y ≤ b.t)) ∨
  (x = 0 ∧ y = 0 ∧ ∀ a ∈ js, ∀ b ∈ js, badW js first caps a.f b.t = false)
theorem tight_unique {js : List Jb} {first : Int} {caps : List Int} {x y x' y' : Int} (h : IsTight js first caps x y) (h' : IsTight js first caps x' y') : x = x' ∧ y = y' := by
  rcases h with ⟨⟨⟨a, ha, rfl⟩, ⟨b, hb, rfl⟩, h1⟩, h2⟩ | ⟨rfl, rfl, h2⟩
  · rcases h' with ⟨⟨⟨c, hc, rfl⟩, ⟨d, hd, rfl⟩, h1'⟩, h2'⟩ | ⟨rfl, rfl, h2'⟩
    · have e1 := h2 c hc d hd h1'
      have e2 := h2' a ha b hb h1
      omega
    · have := h2' a ha b hb
      rw [h1] at this; cases this
  · rcases h' with ⟨⟨⟨c, hc, rfl⟩, ⟨d, hd, rfl⟩, h1'⟩, h2'⟩ | ⟨rfl, rfl, _⟩
    · have := h2 c hc d hd
      rw [h1'] at this; cases this
    · exact ⟨rfl, rfl⟩

/-! Small facts. -/
theorem jErr_drop {first n : Int} {js : List Jb} {k : Nat} {z : Jb} (h : js[k]? = some z) : jErr first n (js.drop k) = if z.t < z.f then 1 else if z.f < first ∨ first + n - 1 < z.t then 2 else jErr first n (js.drop (k + 1)) := by
  have hk := (List.getElem?_eq_some_iff.1 h)
  rw [List.drop_eq_getElem_cons hk.1, hk.2]; rfl
theorem roomF_take {f t d : Int} {caps : List Int} {k : Nat} {c n : Int} (h : caps[k]? = some c) (hn : roomF f t 0 d (caps.take k) = n) :
    roomF f t 0 d (caps.take (k + 1)) = if f ≤ d + k ∧ d + k ≤ t then IntKind.i64.wrap (n + c) else n := by
  have key : ∀ (l : List Int) (m d : Int), roomF f t m d (l ++ [c]) = if f ≤ d + l.length ∧ d + l.length ≤ t then IntKind.i64.wrap (roomF f t m d l + c) else roomF f t m d l := by
    intro l
    induction l with
    | nil => intro m d; simp [roomF]
    | cons a r ih =>
      intro m d
      rw [List.cons_append]
      unfold roomF
      rw [ih]
      simp only [List.length_cons, Int.natCast_add, show d + 1 + (r.length : Int) = d + ((r.length : Int) + 1) by omega]
      rfl
  have hk := (List.getElem?_eq_some_iff.1 h).1
  rw [List.take_add_one, h, Option.toList_some, key, List.length_take, Nat.min_eq_left (by omega), hn]
theorem insT_take {js : List Jb} {f t : Int} {k : Nat} {z : Jb} (h : js[k]? = some z) : insT (js.take (k + 1)) f t = insT (js.take k) f t + if inJ f t z then 1 else 0 := by
  unfold insT
  rw [List.take_add_one, h, Option.toList_some, List.countP_append, List.countP_cons, List.countP_nil]
  omega
theorem insT_le (js : List Jb) (f t : Int) : insT js f t ≤ js.length := List.countP_le_length
theorem bestN_lt {js : List Jb} {ds : List Int} {day : Int} : ∀ {k b : Nat}, bestN js ds day k = some b → b < k ∧ b < js.length
  | 0, b, h => by simp [bestN] at h
  | k + 1, b, h => by
    unfold bestN at h
    cases hj : js[k]? with
    | none => simp only [hj] at h; have := bestN_lt h; omega
    | some j =>
      have hk := (List.getElem?_eq_some_iff.1 hj).1
      cases hd : ds[k]? with
      | none => simp only [hj, hd] at h; have := bestN_lt h; omega
      | some d =>
        simp only [hj, hd] at h
        split at h
        · cases hb : bestN js ds day k with
          | none => rw [hb] at h; simp only [Option.some.injEq] at h; omega
          | some c =>
            rw [hb] at h
            have := bestN_lt hb
            simp only at h
            split at h <;> simp only [Option.some.injEq] at h <;> omega
        · have := bestN_lt h; omega
theorem stepD_len (js : List Jb) (day : Int) (ds : List Int) : (stepD js day ds).length = ds.length := by unfold stepD; split <;> simp
theorem iterD_len (js : List Jb) (day : Int) : ∀ (m : Nat) (ds : List Int), (iterD js day m ds).length = ds.length
  | 0, _ => rfl
  | m + 1, ds => by unfold iterD; rw [stepD_len, iterD_len js day m ds]
theorem planF_len (js : List Jb) : ∀ (caps : List Int) (d : Int) (ds : List Int), (planF js d caps ds).length = ds.length
  | [], _, _ => rfl
  | c :: r, d, ds => by unfold planF; rw [planF_len js r, iterD_len]
theorem planF_app (js : List Jb) : ∀ (a b : List Int) (d : Int) (ds : List Int), planF js d (a ++ b) ds = planF js (d + a.length) b (planF js d a ds)
  | [], b, d, ds => by simp [planF]
  | c :: r, b, d, ds => by
    show planF js (d + 1) (r ++ b) (iterD js d c.toNat ds) = planF js (d + ((r.length + 1 : Nat) : Int)) b (planF js (d + 1) r (iterD js d c.toNat ds))
    rw [planF_app js r b, show d + 1 + (r.length : Int) = d + ((r.length + 1 : Nat) : Int) by omega]
theorem planF_take {js : List Jb} {caps ds : List Int} {d c : Int} {k : Nat} (h : caps[k]? = some c) : planF js d (caps.take (k + 1)) ds = iterD js (d + k) c.toNat (planF js d (caps.take k) ds) := by
  have hk := (List.getElem?_eq_some_iff.1 h).1
  rw [List.take_add_one, h, Option.toList_some, planF_app, List.length_take, Nat.min_eq_left (by omega)]
  rfl
theorem iter_stop {js : List Jb} {day : Int} {ds : List Int} {m : Nat} (h : bestN js (iterD js day m ds) day js.length = none) : ∀ j, iterD js day (m + j) ds = iterD js day m ds
  | 0 => rfl
  | j + 1 => by
    show stepD js day (iterD js day (m + j) ds) = _
    rw [iter_stop h j]
    unfold stepD
    rw [h]
end Go.Proofs.Ytnbhplhhemkniaa
