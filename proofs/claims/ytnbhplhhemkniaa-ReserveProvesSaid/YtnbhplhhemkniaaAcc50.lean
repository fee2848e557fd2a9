/-
  Chapter 50: Accept of the program.
-/
import Derived.Test.YtnbhplhhemkniaaAcP50
import Derived.Test.YtnbhplhhemkniaaPlan50
namespace Go.Proofs.Ytnbhplhhemkniaa
open Go.RowKit
set_option maxRecDepth 100000
set_option maxHeartbeats 4000000
def AccR (js : List Jb) (first : Int) (caps days : List Int) (w : World) (G : Nat) (i : Value) (wr : World) : Prop := ∃ k : Nat, k ≤ days.length ∧ i = .int .i64 k ∧ Blk wr G 3 (il (cntL first caps.length (days.take k))) ∧ Below w.heap.size w wr ∧
  accS first caps [] (js.zip days) = accS first caps (days.take k) ((js.zip days).drop k) ∧ (∀ (q : Nat) (c : Int), caps[q]? = some c → (((days.take k).count (first + (q : Int)) : Nat) : Int) ≤ c)
theorem accept_ok (A C D : Option Addr) (jc cc dc : Nat) (js : List Jb) (caps days : List Int) (first : Int) (w : World) (hck : ckT js first caps = 0) (hdl : days.length = js.length) (hra : Rd jbE 2 w w.heap.size A js) (hrc : Rd inE 1 w w.heap.size C caps) (hrd : Rd inE 1 w w.heap.size D days) :
    Calls Try.prog 20 #[.slice A js.length jc, .int .i64 first, .slice C caps.length cc, .slice D days.length dc] w fun e w' => e = .returned (.int .i64 (accS first caps [] (js.zip days))) ∧ Below w.heap.size w w' := by
  obtain ⟨v, hv⟩ : ∃ v, accS first caps [] (js.zip days) = v := ⟨_, rfl⟩
  rw [hv]
  have HV := Lib.hid hv
  have HA := Lib.hid hra
  have HC := Lib.hid hrc
  have HD := Lib.hid hrd
  have HCK := Lib.hid hck
  have HF := Lib.hid (ckT_facts hck)
  have hjl := (ckT_facts hck).1
  have hcl := (ckT_facts hck).2.1
  have hf0 := (ckT_facts hck).2.2.1
  have hf1 := (ckT_facts hck).2.2.2.1
  clear hra hrc hrd hck hv
  go_enter Try.func20, Try.ntmps20
  go_wp2_with (first
    | (go_at_call 11; refine (check_p _ _ _ _ _ _ _ _ (by omega) (by omega) HA.out HC.out).mono ?_; rintro e w1 ⟨rfl, hb⟩; rw [HCK.out]; have HB := Lib.hid hb; clear hb)
    | (refine wpList_makeN _ rfl _ _ _ rfl 3 (.int .i64 0) 8 (by kernel_rfl) (by kernel_rfl) (by kernel_rfl) .i64 .i64 caps.length (by rfl) (by rfl) (by omega) (by unfold maxLen; omega) ?_; intro w3 hq hb3; have HB3 := Lib.hid (cur_step1 HB.out hb3); have HQ := Lib.hid hq; clear hq hb3))
  obtain ⟨G, hG⟩ : ∃ G, G = w1.heap.size := ⟨_, rfl⟩
  have hGw : w.heap.size ≤ G := by rw [hG]; exact HB.out.size
  rw [← hG, il_fn, ← cntL_nil first] at HQ
  rw [← hG]
  clear hG
  go_loopw [31] (AccR js first caps days w G) (fun i _ => days.length - (intOf i).toNat)
  case atStart => exact ⟨0, by omega, rfl, HQ.out, HB3.out, rfl, fun q c hc => by have := List.all_eq_true.1 HF.out.2.2.2.2.1 c (List.mem_of_getElem? hc); unfold capOk at this; simp at this; simp; omega⟩
  case round =>
    clear HQ HB3 HB
    obtain ⟨k, hk, rfl, hq, hb, hacc, hcnt⟩ := hrel
    have HQ := Lib.hid hq
    have HB := Lib.hid hb
    have HACC := Lib.hid (HV.out.symm.trans hacc)
    have HCNT := Lib.hid hcnt
    clear hq hb hacc hcnt
    by_cases hlt : k < days.length
    · obtain ⟨z, hz⟩ : ∃ z, js[k]? = some z := ⟨_, List.getElem?_eq_getElem (by omega)⟩
      obtain ⟨d, hd⟩ : ∃ d, days[k]? = some d := ⟨_, List.getElem?_eq_getElem hlt⟩
      obtain ⟨b, off, rfl, hbb, hcj⟩ := HA.out.at_ HB.out hz
      obtain ⟨db, doff, rfl, hdb, hdc⟩ := HD.out.at_ HB.out hd
      obtain ⟨c0, c1⟩ := jb_cells hcj
      have cd := in_cell hdc
      have HNX := Lib.hid (HACC.out.trans (acc_drop hz hd))
      have hzr := HF.out.2.2.2.2.2 z (List.mem_of_getElem? hz)
      obtain ⟨hz1, hz2, hz3⟩ := hzr
      have HDK := Lib.hid hd
      clear hcj hdc hz hd
      by_cases hbad : d < z.f ∨ z.t < d
      · have HE := Lib.hid (show v = 15 by rw [HNX.out, if_pos hbad])
        have HBAD := Lib.hid hbad
        clear hbad
        go_wp2_with fail
        all_goals first
          | (go_ret; exact ⟨ret_int HE.out.symm, HB.out⟩)
          | (exfalso; have := HBAD.out; omega)
      · have g1 : ¬ d < z.f := fun h => hbad (.inl h)
        have g2 : ¬ z.t < d := fun h => hbad (.inr h)
        have HNX2 := Lib.hid (HNX.out.trans (if_neg hbad))
        obtain ⟨q, rfl⟩ : ∃ q : Nat, d = first + (q : Int) := ⟨(d - first).toNat, by omega⟩
        have hql : q < caps.length := by omega
        obtain ⟨cp, hcp⟩ : ∃ cp, caps[q]? = some cp := ⟨_, List.getElem?_eq_getElem hql⟩
        obtain ⟨cb, coff, rfl, hcb, hcc⟩ := HC.out.at_ HB.out hcp
        have ccp := in_cell hcc
        obtain ⟨n, hn⟩ : ∃ n : Nat, (days.take k).count (first + (q : Int)) = n := ⟨_, rfl⟩
        have hle : (n : Int) ≤ cp := by have := HCNT.out q cp hcp; rw [hn] at this; exact this
        have cg : wr.cell? ⟨G, q, none⟩ = some (.int .i64 n) := (HQ.out.cell q).trans (by rw [il_at (cntL_at hql), hn])
        have fg := HQ.out.frozen q
        have hget : caps.getD (first + (q : Int) - first).toNat 0 = cp := by rw [show (first + (q : Int) - first).toNat = q by omega, List.getD, hcp]; rfl
        have hsub : first + (q : Int) - first = q := by omega
        rw [hn, hget] at HNX2
        have hnl : n ≤ k := by rw [← hn]; exact Nat.le_trans List.count_le_length (by rw [List.length_take]; omega)
        by_cases heq : (n : Int) = cp
        · have HE := Lib.hid (show v = 9 by rw [HNX2.out, if_pos (by omega)])
          have hbq : ((n : Int) == cp) = true := by simpa using heq
          clear hcc hbad
          go_wp2_with fail
          go_quiet (fail)
          go_wp2
          go_ret
          exact ⟨ret_int HE.out.symm, HB.out.trans ((cur_drew _ _).mono HB.out.size)⟩
        · have hbq : ((n : Int) == cp) = false := by rw [beq_eq_false_iff_ne]; exact heq
          have HE := Lib.hid (show v = accS first caps (days.take (k + 1)) ((js.zip days).drop (k + 1)) by rw [HNX2.out, if_neg (by omega)])
          have HQ2 := Lib.hid (show ∀ nq, Blk ((wr.drewN nq).setCell ⟨G, q, none⟩ (.int .i64 ((n : Int) + 1))) G 3 (il (cntL first caps.length (days.take (k + 1)))) from by
            intro nq
            have := (HQ.out.drewN nq).set q (.int .i64 ((n : Int) + 1))
            rw [il_set] at this
            have e := cntL_set (first := first) (m := caps.length) (pre := days.take k) hql
            rw [hn] at e
            rw [e] at this
            rwa [List.take_add_one, HDK.out, Option.toList_some])
          have HB2 := Lib.hid (show ∀ nq, Below w.heap.size w ((wr.drewN nq).setCell ⟨G, q, none⟩ (.int .i64 ((n : Int) + 1))) from fun nq => below_set (HB.out.trans ((cur_drew _ nq).mono HB.out.size)) hGw q _)
          have HC2 := Lib.hid (show ∀ (q' : Nat) (c : Int), caps[q']? = some c → (((days.take (k + 1)).count (first + (q' : Int)) : Nat) : Int) ≤ c from by
            intro q' c hc
            rw [count_take HDK.out]
            by_cases hqq : first + (q : Int) = first + (q' : Int)
            · have : q' = q := by omega
              subst this
              rw [hcp] at hc
              injection hc with hc
              subst hc
              rw [if_pos rfl, hn]
              omega
            · rw [if_neg hqq]
              have := HCNT.out q' c hc
              omega)
          clear hcc hbad
          go_wp2_with fail
          go_quiet (fail)
          go_wp2
          exact ⟨⟨k + 1, hlt, by simp, HQ2.out _, HB2.out _, HV.out.trans HE.out, HC2.out⟩, by simp [intOf]; omega⟩
    · have hke : k = days.length := by omega
      subst hke
      have HE := Lib.hid (show v = 0 by rw [HACC.out, List.drop_of_length_le (by rw [List.length_zip]; omega)]; rfl)
      go_wp2_with fail
      go_ret
      exact ⟨ret_int HE.out.symm, HB.out⟩
theorem accept_p (A C D : Option Addr) (jc cc dc : Nat) (js : List Jb) (caps days : List Int) (first : Int) (w : World) (hjl : js.length ≤ 4000000) (hcl : caps.length ≤ 4000000) (hra : Rd jbE 2 w w.heap.size A js) (hrc : Rd inE 1 w w.heap.size C caps) (hrd : Rd inE 1 w w.heap.size D days) :
    Calls Try.prog 20 #[.slice A js.length jc, .int .i64 first, .slice C caps.length cc, .slice D days.length dc] w fun e w' => e = .returned (.int .i64 (accT js first caps days)) ∧ Below w.heap.size w w' := by
  by_cases hck : ckT js first caps = 0
  · by_cases hdl : days.length = js.length
    · have he : accT js first caps days = accS first caps [] (js.zip days) := by unfold accT; rw [if_neg (by omega), if_neg (by omega)]
      rw [he]
      exact accept_ok A C D jc cc dc js caps days first w hck hdl hra hrc hrd
    · have he : accT js first caps days = 1 := by unfold accT; rw [if_neg (by omega), if_pos hdl]
      rw [he]
      have HCK := Lib.hid hck
      have HA := Lib.hid hra
      have HC := Lib.hid hrc
      have hne : ((days.length : Int) != (js.length : Int)) = true := by simp; omega
      clear hck hra hrc hrd he
      go_enter Try.func20, Try.ntmps20
      go_wp2_with (go_at_call 11; refine (check_p _ _ _ _ _ _ _ _ hjl hcl HA.out HC.out).mono ?_; rintro e w1 ⟨rfl, hb⟩; rw [HCK.out]; have HB := Lib.hid hb; clear hb)
      go_ret
      exact ⟨rfl, HB.out⟩
  · have he : accT js first caps days = ckT js first caps := by unfold accT; rw [if_pos hck]
    rw [he]
    obtain ⟨er, her⟩ : ∃ er, ckT js first caps = er := ⟨_, rfl⟩
    rw [her]
    have hne : er ≠ 0 := by rw [← her]; exact hck
    have HER := Lib.hid her
    have HA := Lib.hid hra
    have HC := Lib.hid hrc
    clear hra hrc hrd hck her he
    go_enter Try.func20, Try.ntmps20
    go_wp2_with (go_at_call 11; refine (check_p _ _ _ _ _ _ _ _ hjl hcl HA.out HC.out).mono ?_; rintro e w1 ⟨rfl, hb⟩; rw [HER.out]; have HB := Lib.hid hb; clear hb)
    go_ret
    exact ⟨rfl, HB.out⟩
end Go.Proofs.Ytnbhplhhemkniaa
