/-
  Chapter 55: Check of both sides.
-/
import Derived.Test.YtckbhdokfkabfaaCu55
set_option linter.unusedSimpArgs false
set_option linter.unusedVariables false
namespace Go.Proofs.Ytckbhdokfkabfaa
open Go.RowKit
set_option maxRecDepth 100000
set_option maxHeartbeats 4000000
/-- A task in memory. -/
structure TaskR (w : World) (A B : Option Addr) (M : List Dty) (U : List Ump) : Prop where
  m : Rd dtE 4 w w.heap.size A M
  u : UmR w B U
  ms : ∀ x ∈ M, DtS x
  us : ∀ x ∈ U, UmS x
  ml : M.length ≤ 1000
  ul : U.length ≤ 1000
theorem TaskR.to {w w' : World} {A B : Option Addr} {M : List Dty} {U : List Ump} (h : TaskR w A B M U) (hb : Below w.heap.size w w') : TaskR w' A B M U := ⟨h.m.to hb, h.u.to hb, h.ms, h.us, h.ml, h.ul⟩
theorem check_p (A B : Option Addr) (c d : Nat) (M : List Dty) (U : List Ump) (r : Int) (w : World) (h : TaskR w A B M U) (hv : ckA M U = r) :
    Calls Try.prog 14 #[.slice A M.length c, .slice B U.length d] w fun e w' => e = .returned (.int .i64 r) ∧ Below w.heap.size w w' := by
  have HV := Lib.hid hv
  have H := Lib.hid h
  have hml := h.ml
  have hul := h.ul
  clear hv h
  go_enter Try.func14, Try.ntmps14
  by_cases h1 : 200 < M.length
  · have e1 : decide ((200 : Int) < (M.length : Int)) = true := decide_eq_true (by omega)
    have HE := Lib.hid (show (9 : Int) = r by rw [← HV.out]; unfold ckA; rw [if_pos (Or.inl h1)])
    go_wp2_with fail
    go_ret
    exact ⟨ret_int HE.out, Below.refl _ _⟩
  · have e1 : decide ((200 : Int) < (M.length : Int)) = false := decide_eq_false (by omega)
    by_cases h2 : 100 < U.length
    · have e2 : decide ((100 : Int) < (U.length : Int)) = true := decide_eq_true (by omega)
      have HE := Lib.hid (show (9 : Int) = r by rw [← HV.out]; unfold ckA; rw [if_pos (Or.inr h2)])
      go_wp2_with fail
      go_ret
      exact ⟨ret_int HE.out, Below.refl _ _⟩
    · have e2 : decide ((100 : Int) < (U.length : Int)) = false := decide_eq_false (by omega)
      have HCK := Lib.hid (show (if ckD M ≠ 0 then ckD M else ckU U) = r by rw [← HV.out]; unfold ckA; rw [if_neg (show ¬ (200 < M.length ∨ 100 < U.length) by omega)])
      go_wp2_with fail
      obtain ⟨q, hq⟩ : ∃ q, ckD M = q := ⟨_, rfl⟩
      refine (cd_p A c M q w hml H.out.m H.out.ms hq).mono ?_
      rintro e w1 ⟨rfl, hb1⟩
      rw [hq] at HCK
      have HB1 := Lib.hid hb1
      clear hb1 hq
      by_cases h3 : q = 0
      · have HU := Lib.hid (show ckU U = r by have := HCK.out; rw [if_neg (by simpa using h3)] at this; exact this)
        subst h3
        go_wp2_with fail
        refine (cu_p B d U r w1 hul (H.out.u.to HB1.out) H.out.us HU.out).mono ?_
        rintro e w2 ⟨rfl, hb2⟩
        have HB2 := Lib.hid (cur_step1 HB1.out hb2)
        clear hb2
        go_wp2_with fail
        go_ret
        exact ⟨rfl, HB2.out⟩
      · have HU := Lib.hid (show q = r by have := HCK.out; rw [if_pos h3] at this; exact this)
        have e3 : (q == 0) = false := by simpa using h3
        clear h3
        go_wp2_with fail
        go_ret
        exact ⟨ret_int HU.out, HB1.out⟩
theorem check_r (A B : Option Addr) (c d : Nat) (M : List Dty) (U : List Ump) (r : Int) (w : World) (h : TaskR w A B M U) (hv : ckA M U = r) :
    Calls Try.prog 15 #[.slice A M.length c, .slice B U.length d] w fun e w' => e = .returned (.int .i64 r) ∧ Below w.heap.size w w' := by
  have HV := Lib.hid hv
  have H := Lib.hid h
  have hml := h.ml
  have hul := h.ul
  clear hv h
  go_enter Try.func15, Try.ntmps15
  by_cases h1 : 200 < M.length
  · have e1 : decide ((200 : Int) < (M.length : Int)) = true := decide_eq_true (by omega)
    have HE := Lib.hid (show (9 : Int) = r by rw [← HV.out]; unfold ckA; rw [if_pos (Or.inl h1)])
    go_wp2_with fail
    go_ret
    exact ⟨ret_int HE.out, Below.refl _ _⟩
  · have e1 : decide ((200 : Int) < (M.length : Int)) = false := decide_eq_false (by omega)
    by_cases h2 : 100 < U.length
    · have e2 : decide ((100 : Int) < (U.length : Int)) = true := decide_eq_true (by omega)
      have HE := Lib.hid (show (9 : Int) = r by rw [← HV.out]; unfold ckA; rw [if_pos (Or.inr h2)])
      go_wp2_with fail
      go_ret
      exact ⟨ret_int HE.out, Below.refl _ _⟩
    · have e2 : decide ((100 : Int) < (U.length : Int)) = false := decide_eq_false (by omega)
      have HCK := Lib.hid (show (if ckD M ≠ 0 then ckD M else ckU U) = r by rw [← HV.out]; unfold ckA; rw [if_neg (show ¬ (200 < M.length ∨ 100 < U.length) by omega)])
      go_wp2_with fail
      go_loopw [19] (fun i wr => ∃ k : Nat, k ≤ M.length ∧ i = .int .i64 k ∧ (∀ j, j < k → dErr M j = 0) ∧ Below w.heap.size w wr) (fun i _ => M.length - (intOf i).toNat)
      case atStart => exact ⟨0, by omega, rfl, by intro j h; omega, Below.refl _ _⟩
      case round =>
        obtain ⟨k, hk, rfl, hno, hB⟩ := hrel
        have HNO := Lib.hid hno
        have HB := Lib.hid hB
        clear hno hB
        by_cases hlt2 : k < M.length
        · obtain ⟨x, hx⟩ : ∃ x, M[k]? = some x := ⟨_, List.getElem?_eq_getElem hlt2⟩
          have HX := Lib.hid hx
          obtain ⟨q, hq⟩ : ∃ q, errD M k x = q := ⟨_, rfl⟩
          have HQ := Lib.hid hq
          have HD := Lib.hid (show dErr M k = q by rw [← hq]; simp [dErr, hx])
          clear hx hq
          go_wp2_with fail
          refine (cd_r A c M k x q wr hml (H.out.to HB.out).m HX.out (H.out.ms x (List.mem_of_getElem? HX.out)) HQ.out).mono ?_
          rintro e w1 ⟨rfl, hb1⟩
          have HB1 := Lib.hid (cur_step1 HB.out hb1)
          clear hb1
          by_cases h3 : q = 0
          · have HN := Lib.hid (show ∀ j, j < k + 1 → dErr M j = 0 from fun j hj => by
              by_cases e : j = k
              · rw [e, HD.out]; exact h3
              · exact HNO.out j (by omega))
            subst h3
            go_wp2_with fail
            go_roundw
            case rel => exact ⟨k + 1, hlt2, by simp, HN.out, HB1.out⟩
            case measure => simp [intOf] <;> omega
          · have HE := Lib.hid (show q = r by
              have h4 : ckD M = q := by unfold ckD; rw [res_of HNO.out hlt2 (by rw [HD.out]; exact h3), HD.out]
              have := HCK.out
              rw [h4, if_pos h3] at this
              exact this)
            have e3 : (q == 0) = false := by simpa using h3
            clear h3
            go_wp2_with fail
            go_ret
            exact ⟨ret_int HE.out, HB1.out⟩
        · have hke := Lib.hid (show k = M.length by omega)
          have HU := Lib.hid (show ckU U = r by
            have h4 : ckD M = 0 := by unfold ckD; rw [res_end (by rw [← hke.out]; exact HNO.out)]
            have := HCK.out
            rw [h4, if_neg (by simp)] at this
            exact this)
          go_wp2_with fail
          go_loopw [31] (fun i wr => ∃ k : Nat, k ≤ U.length ∧ i = .int .i64 k ∧ (∀ j, j < k → uErr U j = 0) ∧ Below w.heap.size w wr) (fun i _ => U.length - (intOf i).toNat)
          case atStart => exact ⟨0, by omega, rfl, by intro j h; omega, HB.out⟩
          case round =>
            clear HB HNO
            obtain ⟨k, hk, rfl, hno, hB⟩ := hrel
            have HNO := Lib.hid hno
            have HB := Lib.hid hB
            clear hno hB
            by_cases hlt2 : k < U.length
            · obtain ⟨x, hx⟩ : ∃ x, U[k]? = some x := ⟨_, List.getElem?_eq_getElem hlt2⟩
              have HX := Lib.hid hx
              obtain ⟨q, hq⟩ : ∃ q, errU U k x = q := ⟨_, rfl⟩
              have HQ := Lib.hid hq
              have HD := Lib.hid (show uErr U k = q by rw [← hq]; simp [uErr, hx])
              clear hx hq
              go_wp2_with fail
              refine (cu_r B d U k x q _ hul (H.out.to HB.out).u HX.out (H.out.us x (List.mem_of_getElem? HX.out)) HQ.out).mono ?_
              rintro e w1 ⟨rfl, hb1⟩
              have HB1 := Lib.hid (cur_step1 HB.out hb1)
              clear hb1
              by_cases h3 : q = 0
              · have HN := Lib.hid (show ∀ j, j < k + 1 → uErr U j = 0 from fun j hj => by
                  by_cases e : j = k
                  · rw [e, HD.out]; exact h3
                  · exact HNO.out j (by omega))
                subst h3
                go_wp2_with fail
                go_roundw
                case rel => exact ⟨k + 1, hlt2, by simp, HN.out, HB1.out⟩
                case measure => simp [intOf] <;> omega
              · have HE := Lib.hid (show q = r by
                  rw [← HU.out]; unfold ckU; rw [res_of HNO.out hlt2 (by rw [HD.out]; exact h3), HD.out])
                have e3 : (q == 0) = false := by simpa using h3
                clear h3
                go_wp2_with fail
                go_ret
                exact ⟨ret_int HE.out, HB1.out⟩
            · have hke := Lib.hid (show k = U.length by omega)
              have HE := Lib.hid (show (0 : Int) = r by rw [← HU.out]; unfold ckU; rw [res_end (by rw [← hke.out]; exact HNO.out)])
              go_wp2_with fail
              go_ret
              exact ⟨ret_int HE.out, HB.out⟩
end Go.Proofs.Ytckbhdokfkabfaa
