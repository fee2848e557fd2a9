/-
  Chapter 50: Accept of the reference.
-/
import Derived.Test.YtnbhplhhemkniaaAcc50
import Derived.Test.YtnbhplhhemkniaaRefu50
namespace Go.Proofs.Ytnbhplhhemkniaa
open Go.RowKit
set_option maxRecDepth 100000
set_option maxHeartbeats 4000000
def ArR (js : List Jb) (first : Int) (caps days : List Int) (w : World) (i : Value) (wr : World) : Prop := ∃ k : Nat, k ≤ js.length ∧ i = .int .i64 k ∧ Below w.heap.size w wr ∧
  accS first caps [] (js.zip days) = accS first caps (days.take k) ((js.zip days).drop k)
def ArI (days : List Int) (d : Int) (k : Nat) (w : World) (n i : Value) (wr : World) : Prop := ∃ m : Nat, m ≤ k ∧ i = .int .i64 m ∧ n = .int .i64 ((days.take m).count d : Nat) ∧ wr = w
theorem accept_r_ok (A C D : Option Addr) (jc cc dc : Nat) (js : List Jb) (caps days : List Int) (first : Int) (w : World) (hck : ckT js first caps = 0) (hdl : days.length = js.length) (hdc : js.length ≤ dc) (hra : Rd jbE 2 w w.heap.size A js) (hrc : Rd inE 1 w w.heap.size C caps) (hrd : Rd inE 1 w w.heap.size D days) :
    Calls Try.prog 21 #[.slice A js.length jc, .int .i64 first, .slice C caps.length cc, .slice D js.length dc] w fun e w' => e = .returned (.int .i64 (accS first caps [] (js.zip days))) ∧ Below w.heap.size w w' := by
  obtain ⟨v, hv⟩ : ∃ v, accS first caps [] (js.zip days) = v := ⟨_, rfl⟩
  rw [hv]
  have HV := Lib.hid hv
  have HA := Lib.hid hra
  have HC := Lib.hid hrc
  have HD := Lib.hid hrd
  have HCK := Lib.hid hck
  have HF := Lib.hid (ckT_facts hck)
  have hjl := (ckT_facts hck).1
  have hcl := (ckT_facts hck).2.1
  have hf0 := (ckT_facts hck).2.2.1
  have hf1 := (ckT_facts hck).2.2.2.1
  have HDL := Lib.hid hdl
  clear hra hrc hrd hck hv hdl
  go_enter Try.func21, Try.ntmps21
  go_wp2_with (go_at_call 12; refine (check_r _ _ _ _ _ _ _ _ (by omega) (by omega) HA.out HC.out).mono ?_; rintro e w1 ⟨rfl, hb⟩; rw [HCK.out]; have HB := Lib.hid hb; clear hb)
  go_loopw [29] (ArR js first caps days w) (fun i _ => js.length - (intOf i).toNat)
  case atStart => exact ⟨0, by omega, rfl, HB.out, rfl⟩
  case round =>
    clear HB
    obtain ⟨k, hk, rfl, hb, hacc⟩ := hrel
    have HB := Lib.hid hb
    have HACC := Lib.hid (HV.out.symm.trans hacc)
    clear hb hacc
    by_cases hlt : k < js.length
    · obtain ⟨z, hz⟩ : ∃ z, js[k]? = some z := ⟨_, List.getElem?_eq_getElem hlt⟩
      obtain ⟨d, hd⟩ : ∃ d, days[k]? = some d := ⟨_, List.getElem?_eq_getElem (by rw [HDL.out]; exact hlt)⟩
      obtain ⟨b, off, rfl, hbb, hcj⟩ := HA.out.at_ HB.out hz
      obtain ⟨db, doff, rfl, hdb, hdc2⟩ := HD.out.at_ HB.out hd
      obtain ⟨c0, c1⟩ := jb_cells hcj
      have cd0 := in_cell hdc2
      have HNX := Lib.hid (HACC.out.trans (acc_drop hz hd))
      have hzr := HF.out.2.2.2.2.2 z (List.mem_of_getElem? hz)
      obtain ⟨hz1, hz2, hz3⟩ := hzr
      have HDK := Lib.hid hd
      have hw := cur_new wr (.cells #[.int .i64 z.f, .int .i64 z.t] 43)
      have HW := Lib.hid hw
      have hbs := HB.out.size
      have k0 : (wr.alloc (.cells #[.int .i64 z.f, .int .i64 z.t] 43)).cell? ⟨wr.heap.size, 0, none⟩ = some (.int .i64 z.f) := (Blk.new wr 43 [.int .i64 z.f, .int .i64 z.t]).cell 0
      have k1 : (wr.alloc (.cells #[.int .i64 z.f, .int .i64 z.t] 43)).cell? ⟨wr.heap.size, 1, none⟩ = some (.int .i64 z.t) := (Blk.new wr 43 [.int .i64 z.f, .int .i64 z.t]).cell 1
      have cd : (wr.alloc (.cells #[.int .i64 z.f, .int .i64 z.t] 43)).cell? ⟨db, doff + k, none⟩ = some (.int .i64 d) := (hw.cell (p := ⟨db, doff + k, none⟩) (show db < wr.heap.size by omega)).trans cd0
      have HBN := Lib.hid (show ∀ nq, Below w.heap.size w ((wr.alloc (.cells #[.int .i64 z.f, .int .i64 z.t] 43)).drewN nq) from fun nq => cur_step1 HB.out (HW.out.trans ((cur_drew _ nq).mono HW.out.size)))
      clear hcj hdc2 hz hd hw
      by_cases hbad1 : d < z.f
      · have HE := Lib.hid (show v = 15 by rw [HNX.out, if_pos (.inl hbad1)])
        have g1 : decide (d < z.f) = true := decide_eq_true hbad1
        go_wp2_with fail
        go_quiet (fail)
        go_wp2
        go_ret
        exact ⟨ret_int HE.out.symm, HBN.out _⟩
      by_cases hbad2 : z.t < d
      · have HE := Lib.hid (show v = 15 by rw [HNX.out, if_pos (.inr hbad2)])
        have g1 : decide (d < z.f) = false := decide_eq_false hbad1
        have g2 : decide (z.t < d) = true := decide_eq_true hbad2
        go_wp2_with fail
        go_quiet (fail)
        go_wp2
        go_ret
        exact ⟨ret_int HE.out.symm, HBN.out _⟩
      have g1 : decide (d < z.f) = false := decide_eq_false hbad1
      have g2 : decide (z.t < d) = false := decide_eq_false hbad2
      have HNX2 := Lib.hid (HNX.out.trans (if_neg (by omega)))
      obtain ⟨q, rfl⟩ : ∃ q : Nat, d = first + (q : Int) := ⟨(d - first).toNat, by omega⟩
      have hql : q < caps.length := by omega
      obtain ⟨cp, hcp⟩ : ∃ cp, caps[q]? = some cp := ⟨_, List.getElem?_eq_getElem hql⟩
      obtain ⟨cb, coff, rfl, hcb, hcc⟩ := HC.out.at_ HB.out hcp
      have ccp0 := in_cell hcc
      have ccp : (wr.alloc (.cells #[.int .i64 z.f, .int .i64 z.t] 43)).cell? ⟨cb, coff + q, none⟩ = some (.int .i64 cp) := (HW.out.cell (p := ⟨cb, coff + q, none⟩) (show cb < wr.heap.size by omega)).trans ccp0
      have hget : caps.getD (first + (q : Int) - first).toNat 0 = cp := by rw [show (first + (q : Int) - first).toNat = q by omega, List.getD, hcp]; rfl
      have hsub : first + (q : Int) - first = q := by omega
      have hqi : (q : Int) < (caps.length : Int) := by omega
      have hq0 : (0 : Int) ≤ (q : Int) := by omega
      rw [hget] at HNX2
      clear hcc hcp hget hbad1 hbad2 ccp0 cd0
      have HDW := Lib.hid (show ∀ nq, Rd inE 1 ((wr.alloc (.cells #[.int .i64 z.f, .int .i64 z.t] 43)).drewN nq) ((wr.alloc (.cells #[.int .i64 z.f, .int .i64 z.t] 43)).drewN nq).heap.size (some ⟨db, doff, none⟩) days from fun nq => HD.out.to (HBN.out nq))
      go_wp2_with fail
      go_quiet (fail)
      go_wp2
      obtain ⟨ws, hws⟩ : ∃ ws, ws = (wr.alloc (.cells #[.int .i64 z.f, .int .i64 z.t] 43)).drewN nq := ⟨_, rfl⟩
      have HB4 := Lib.hid (show Below w.heap.size w ws from hws ▸ HBN.out nq)
      have HD4 := Lib.hid (show Rd inE 1 ws ws.heap.size (some ⟨db, doff, none⟩) days from hws ▸ HDW.out nq)
      have cd4 : ws.cell? ⟨db, doff + k, none⟩ = some (.int .i64 (first + (q : Int))) := by rw [hws]; exact cd
      have ccp4 : ws.cell? ⟨cb, coff + q, none⟩ = some (.int .i64 cp) := by rw [hws]; exact ccp
      rw [← hws]
      clear hws k0 k1 cd ccp c0 c1 HBN HDW HW HB
      go_loopw [12, 54] (ArI days (first + (q : Int)) k ws) (fun _ i _ => k - (intOf i).toNat)
      case atStart => exact ⟨0, by omega, rfl, rfl, rfl⟩
      case round =>
        obtain ⟨m, hm, rfl, rfl, rfl⟩ := hrel
        by_cases hml : m < k
        · obtain ⟨x, hx⟩ : ∃ x, days[m]? = some x := ⟨_, List.getElem?_eq_getElem (by rw [HDL.out]; omega)⟩
          obtain ⟨eb, eoff, he, heb, hec⟩ := HD4.out.at_ (Below.refl _ _) hx
          cases he
          have cx := in_cell hec
          obtain ⟨n, hn⟩ : ∃ n : Nat, (days.take m).count (first + (q : Int)) = n := ⟨_, rfl⟩
          have hnm : n ≤ m := by rw [← hn]; exact Nat.le_trans List.count_le_length (by rw [List.length_take]; omega)
          have HCT := Lib.hid (count_take (d := first + (q : Int)) hx)
          rw [hn] at HCT
          rw [hn]
          have HNN := Lib.hid hn
          have hml2 : (m : Int) < (k : Int) := by omega
          clear hec hx hn
          by_cases hxe : x = first + (q : Int)
          · have hbq : (x == first + (q : Int)) = true := by simpa using hxe
            have HN := Lib.hid (show ((days.take (m + 1)).count (first + (q : Int)) : Nat) = n + 1 by rw [HCT.out, if_pos hxe])
            clear hxe
            go_wp2_with fail
            exact ⟨⟨m + 1, hml, by simp, by rw [HN.out]; simp, rfl⟩, by simp [intOf]; omega⟩
          · have hbq : (x == first + (q : Int)) = false := by rw [beq_eq_false_iff_ne]; exact hxe
            have HN := Lib.hid (show ((days.take (m + 1)).count (first + (q : Int)) : Nat) = n by rw [HCT.out, if_neg hxe]; rfl)
            go_wp2_with fail
            exact ⟨⟨m + 1, hml, by simp, by rw [HN.out], rfl⟩, by simp [intOf]; omega⟩
        · have hke : m = k := by omega
          subst hke
          by_cases hcm : ((List.count (first + (q : Int)) (List.take m days) : Nat) : Int) < cp
          · have HE := Lib.hid (show v = accS first caps (days.take (m + 1)) ((js.zip days).drop (m + 1)) by rw [HNX2.out, if_neg (by omega)])
            go_wp2_with fail
            all_goals first
              | (exfalso; omega)
              | exact ⟨⟨m + 1, hlt, by simp, HB4.out, HV.out.trans HE.out⟩, by simp [intOf]; omega⟩
          · have HE := Lib.hid (show v = 9 by rw [HNX2.out, if_pos (by omega)])
            go_wp2_with fail
            all_goals first
              | (exfalso; omega)
              | (go_ret; exact ⟨ret_int HE.out.symm, HB4.out⟩)
    · have hke : k = js.length := by omega
      subst hke
      have HE := Lib.hid (show v = 0 by rw [HACC.out, List.drop_of_length_le (by rw [List.length_zip]; omega)]; rfl)
      go_wp2_with fail
      go_ret
      exact ⟨ret_int HE.out.symm, HB.out⟩
theorem accept_r (A C D : Option Addr) (jc cc dc : Nat) (js : List Jb) (caps days : List Int) (first : Int) (w : World) (hjl : js.length ≤ 4000000) (hcl : caps.length ≤ 4000000) (hdc : days.length ≤ dc) (hra : Rd jbE 2 w w.heap.size A js) (hrc : Rd inE 1 w w.heap.size C caps) (hrd : Rd inE 1 w w.heap.size D days) :
    Calls Try.prog 21 #[.slice A js.length jc, .int .i64 first, .slice C caps.length cc, .slice D days.length dc] w fun e w' => e = .returned (.int .i64 (accT js first caps days)) ∧ Below w.heap.size w w' := by
  by_cases hck : ckT js first caps = 0
  · by_cases hdl : days.length = js.length
    · have he : accT js first caps days = accS first caps [] (js.zip days) := by unfold accT; rw [if_neg (by omega), if_neg (by omega)]
      rw [he, hdl]
      exact accept_r_ok A C D jc cc dc js caps days first w hck hdl (by omega) hra hrc hrd
    · have he : accT js first caps days = 1 := by unfold accT; rw [if_neg (by omega), if_pos hdl]
      rw [he]
      have HCK := Lib.hid hck
      have HA := Lib.hid hra
      have HC := Lib.hid hrc
      have hne : ((days.length : Int) != (js.length : Int)) = true := by simp; omega
      clear hck hra hrc hrd he
      go_enter Try.func21, Try.ntmps21
      go_wp2_with (go_at_call 12; refine (check_r _ _ _ _ _ _ _ _ hjl hcl HA.out HC.out).mono ?_; rintro e w1 ⟨rfl, hb⟩; rw [HCK.out]; have HB := Lib.hid hb; clear hb)
      go_ret
      exact ⟨rfl, HB.out⟩
  · have he : accT js first caps days = ckT js first caps := by unfold accT; rw [if_pos hck]
    rw [he]
    obtain ⟨er, her⟩ : ∃ er, ckT js first caps = er := ⟨_, rfl⟩
    rw [her]
    have hne : er ≠ 0 := by rw [← her]; exact hck
    have HER := Lib.hid her
    have HA := Lib.hid hra
    have HC := Lib.hid hrc
    clear hra hrc hrd hck her he
    go_enter Try.func21, Try.ntmps21
    go_wp2_with (go_at_call 12; refine (check_r _ _ _ _ _ _ _ _ hjl hcl HA.out HC.out).mono ?_; rintro e w1 ⟨rfl, hb⟩; rw [HER.out]; have HB := Lib.hid hb; clear hb)
    go_ret
    exact ⟨rfl, HB.out⟩
end Go.Proofs.Ytnbhplhhemkniaa
