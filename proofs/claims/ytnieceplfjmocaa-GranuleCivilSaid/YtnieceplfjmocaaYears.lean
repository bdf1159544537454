/-
  slices.Clone of integers, granule.Years.
-/
import Derived.Test.YtnieceplfjmocaaMonthsFn
import Derived.Test.YtnieceplfjmocaaAdapt
import Derived.Test.YtnieceplfjmocaaRow
namespace Go.Proofs.Ytnieceplfjmocaa
open Go.RowKit
set_option maxRecDepth 100000
theorem arr_ints {B w : World} {fs : Faces} {q : Bool} {A : Option Addr} {c : Nat} {l : List Int} (h : ChOk B w fs (.arr q A c .i1 l)) : IntsR w A l ∧ l.length ≤ c ∧ c ≤ maxLen := by
  obtain ⟨_, h1, h2, h3⟩ := h
  refine ⟨fun h0 => ?_, h1, h2⟩
  obtain ⟨b, o, ha, hc⟩ := h3 h0
  refine ⟨b, o, ha, fun k hk => ?_⟩
  have := hc k hk 0 (.int .i64 (l.getD k 0)) rfl
  simp only [El.sz, Nat.mul_one, Nat.add_zero] at this
  exact this
theorem viewI {w : World} {hp0 : List Ch} {l : List Int} (hck : hp0.map Ch.ck = [.arr false .i1 l]) (hok : HOk w hp0 w) : ∃ A c, hp0 = [.arr false A c .i1 l] ∧ IntsR w A l ∧ l.length ≤ c ∧ c ≤ maxLen := by
  match hp0, hck with
  | [], hck => simp at hck
  | _ :: _ :: _, hck => simp at hck
  | [d], hck =>
    simp only [List.map_cons, List.map_nil, List.cons.injEq, and_true] at hck
    cases d <;> simp [Ch.ck] at hck
    rename_i q A c e l'
    obtain ⟨rfl, rfl, hck⟩ := hck
    cases hck
    exact ⟨A, c, rfl, arr_ints (hok.ok 0 _ rfl)⟩
theorem clone_fn {l : List Int} (hl : l.length ≤ 1099511627776) : Fn Try.prog 64 [.c (.sl 0)] [.arr false .i1 l] (fun v cks => v = .c (.sl 1) ∧ cks = [.own 3 .i1 l]) := by
  refine fn_run tab_holds eqs_holds mixed [] Try.func64 (by kernel_rfl) (by kernel_rfl) (Nat.le_of_ble_eq_true rfl) ?_
  intro O X hO hX
  cbv
  refine ⟨fun h => ?_, ?_⟩
  · have h0 : l = [] := by
      have := eq_t hO h
      rw [ofNat_e hO, len_e hO] at this
      exact List.eq_nil_of_length_eq_zero (Int.ofNat_eq_zero.1 this)
    subst h0
    cbv
    exact fin_ok hX rfl ⟨[2], .c (.sl 1), [.own 3 .i1 []], ⟨rfl, rfl⟩, rfl, rfl, rfl, rfl, by cbv; try simp⟩
  · cbv
    refine ⟨room_mk hO (by simp), room_mk hO hl, ?_⟩
    refine fin_ok hX rfl ⟨[3], .c (.sl 1), [.own 3 .i1 l], ⟨rfl, rfl⟩, rfl, rfl, rfl, rfl, ?_⟩
    rw [app_e hO]
    cbv; try simp

theorem rowc_fn {o : Int} {ls : List Int} (hr : RowOk ls) (ho1 : -2199023255552 ≤ o) (ho2 : o ≤ 2199023255552) (hs : psum ls ls.length ≤ 12622780800) {P : Int} {L : List Sp} (hP : ofP (psum ls ls.length) (rowTo ls ls.length) = P) (hL : ofL (psum ls ls.length) (rowTo ls ls.length) = L) :
    Fn Try.prog 65 [.c (.int .i64 o), .c (.sl 0)] [.arr false .i1 ls] (fun v' c => v' = .agg [.int .i64 o, .int .i64 P, .sl 1] ∧ c = [.arr true .i2 L]) := by
  subst hP; subst hL
  intro w hp0 hck hok vs hvs
  obtain ⟨A, c, rfl, hI, hl, hm⟩ := viewI hck hok
  simp [AV.val, vals, Ce.val, faces, Ch.face, allv] at hvs
  subst hvs
  refine (row_any o A c ls w hI hr ho1 ho2 hs).mono fun e w' ⟨⟨A', c', he, hs', hl', hm', hf'⟩, hb⟩ => ?_
  refine ⟨_, _, [.arr true A' c' .i2 (ofL (psum ls ls.length) (rowTo ls ls.length))], _, ⟨rfl, rfl⟩, rfl, he, rfl, ?_, fun j d b hj hd => ?_, by simp⟩
  · refine hok.union hb (fun j d hj => ?_) (fun j d b hj hd => ?_) (fun i j d d' _ hi _ hw => ?_)
    · match j, hj with
      | 0, hj => simp at hj; subst hj; exact sps_arr hs' hl' hm' (fun _ => hf')
    · match j, hj with
      | 0, hj => simp at hj; subst hj; obtain ⟨_, ad, ha, hb'⟩ := hd; rw [← hb']; exact hf' ad ha
    · match i, hi with
      | 0, hi => simp at hi; subst hi; cases hw
  · match j, hj with
    | 0, hj => simp at hj; subst hj; obtain ⟨_, ad, ha, hb'⟩ := hd; rw [← hb']; exact hf' ad ha

/-- the months from number f on, for 400 years -/
def rotL (f : Nat) : List Int := (monL 4800).drop f ++ (monL 4800).take f
theorem rotL_len (f : Nat) (h : f ≤ 4800) : (rotL f).length = 4800 := by rw [rotL, List.length_append, List.length_drop, List.length_take, monL_len]; omega
theorem rot_bd (f : Nat) (hf : f ≤ 4800) {k : Nat} (hk : k < 4800) : 1 ≤ iat (rotL f) k ∧ iat (rotL f) k ≤ 1000000 := by
  have hl := rotL_len f hf
  have hm : iat (rotL f) k ∈ rotL f := by
    have : iat (rotL f) k = (rotL f)[k] := by simp [iat, List.getD_eq_getElem?_getD, List.getElem?_eq_getElem (show k < (rotL f).length by omega)]
    rw [this]; exact List.getElem_mem _
  generalize iat (rotL f) k = x at hm
  have hx : x ∈ monL 4800 := by
    unfold rotL at hm
    rcases List.mem_append.1 hm with h | h
    · exact List.mem_of_mem_drop h
    · exact List.mem_of_mem_take h
  obtain ⟨j, hj, rfl⟩ := List.getElem_of_mem hx
  have := mon_ok.each j hj
  have e : iat (monL 4800) j = (monL 4800)[j] := by simp [iat, List.getD_eq_getElem?_getD, List.getElem?_eq_getElem hj]
  rw [e] at this
  exact this
def yearS (f i : Nat) : Int := psum ((rotL f).drop (12 * i)) 12
def yearsL (f n : Nat) : List Int := (List.range n).map (yearS f)
theorem yearsL_succ (f n : Nat) : yearsL f (n + 1) = yearsL f n ++ [yearS f n] := by simp [yearsL, List.range_succ]
theorem yearsL_len (f n : Nat) : (yearsL f n).length = n := by simp [yearsL]

set_option maxHeartbeats 4000000 in
theorem years_no {first : Int} (h : first < 1 ∨ 12 < first) : Fn Try.prog 36 [.c (.int .i64 first)] [] (fun v' c => v' = .tup [.many [.int .i64 0, .int .i64 0, .raw (.slice none 0 0)], .one (.int .i64 2)] ∧ c = []) := by
  refine fn_run tab_holds eqs_holds mixed [(10, [(1, [0, 1, 2, 3, 5, 6, 7, 8]), (2, [4])], [9, 10])] Try.func36 (by kernel_rfl) (by kernel_rfl) (Nat.le_of_ble_eq_true rfl) ?_
  intro O X hO hX
  cbv
  split
  · rename_i h1
    cbv
    exact fin_plain hX rfl rfl (by cbv) ⟨rfl, rfl⟩
  rename_i h1
  have g1 := lt_f hO h1
  cbv
  split
  · rename_i h2
    cbv
    exact fin_plain hX rfl rfl (by cbv) ⟨rfl, rfl⟩
  rename_i h2
  have g2 := lt_f hO h2
  exfalso; omega

set_option maxHeartbeats 4000000 in
theorem years_fn {first o P : Int} {L : List Sp} (h1 : 1 ≤ first) (h2 : first ≤ 12) (ho : psum (monL 4800) (first - 1).toNat = o) (hr : RowOk (yearsL (first - 1).toNat 400)) (hs : psum (yearsL (first - 1).toNat 400) 400 ≤ 12622780800)
    (hP : ofP (psum (yearsL (first - 1).toNat 400) 400) (rowTo (yearsL (first - 1).toNat 400) 400) = P) (hL : ofL (psum (yearsL (first - 1).toNat 400) 400) (rowTo (yearsL (first - 1).toNat 400) 400) = L) :
    Fn Try.prog 36 [.c (.int .i64 first)] [] (fun v' c => v' = .tup [.many [.int .i64 o, .int .i64 P, .sl 0], .one (.int .i64 0)] ∧ c = [.arr true .i2 L]) := by
  refine fn_run tab_holds eqs_holds mixed [(10, [(1, [0, 1, 2, 3, 5, 6, 7, 8]), (2, [4])], [9, 10])] Try.func36 (by kernel_rfl) (by kernel_rfl) (Nat.le_of_ble_eq_true rfl) ?_
  intro O X hO hX
  cbv
  split
  · rename_i g
    have := lt_t hO g
    exfalso; omega
  rename_i g1
  cbv
  split
  · rename_i g
    have := lt_t hO g
    exfalso; omega
  rename_i g2
  cbv
  obtain ⟨l, hl⟩ : ∃ l, monL 4800 = l := ⟨_, rfl⟩
  have hll : l.length = 4800 := by rw [← hl, monL_len]
  have hm := months_fn
  rw [hl] at hm
  refine call_go hO hX hm (by kernel_rfl) [] rfl trivial rfl ?_
  rintro _ _ ⟨rfl, rfl⟩
  cbv
  obtain ⟨f, hf⟩ : ∃ f, O .sub first 1 = f := ⟨_, rfl⟩
  rw [hf]
  rw [sub_e hO] at hf
  rw [hf] at ho hr hs hP hL
  have hf1 : 0 ≤ f ∧ f ≤ 11 := by omega
  have hmok := mon_ok
  rw [hl] at hmok ho
  have hcl : O .cut .i1 l 0 (O .toNat f) = l.take f.toNat := by rw [cut_e hO, toNat_e hO]; simp
  obtain ⟨lc, hlc⟩ : ∃ lc, O .cut .i1 l 0 (O .toNat f) = lc := ⟨_, rfl⟩
  rw [hlc]
  have hlc2 : lc = l.take f.toNat := hlc.symm.trans hcl
  have hlcl : lc.length = f.toNat := by rw [hlc2, List.length_take]; omega
  have hob : ∀ k, k ≤ 12 → 0 ≤ psum l k ∧ psum l k ≤ 12000000 := fun k hk => by have := psum_bd hmok k (by omega); omega
  refine ⟨inr_mk hO (by omega) (by omega), rng_mk hO (by rw [len_e hO]; have : f ≤ (l.length : Int) := by omega
                                                         exact ⟨hf1.1, this⟩), ?_⟩
  refine loop2 tab_holds eqs_holds mixed [(10, [(1, [0, 1, 2, 3, 5, 6, 7, 8]), (2, [4])], [9, 10])] hO hX (fun (i s : Int) => (0 ≤ i ∧ i ≤ f) ∧ s = psum l i.toNat) (fun i s => [(26, .c (.int .i64 i)), (5, .c (.int .i64 s))]) (fun _ _ => []) (fun i _ => (f - i).toNat) 0 0 (by kernel_rfl) ⟨by omega, rfl⟩ (by cbv) ?_
  intro i s hI
  have hi := hI.1; have hs2 := hI.2
  cbv
  split
  · rename_i c1
    have c2 := lt_t hO c1
    rw [ofNat_e hO, len_e hO] at c2
    have c3 : i.toNat < lc.length := by have : i < (lc.length : Int) := c2; omega
    have c4 : i.toNat < l.length := by omega
    have e1 : O .get .i1 lc (O .toNat i) = iat l i.toNat := by
      rw [get_e hO, toNat_e hO, hlc2]
      show (l.take f.toNat).getD i.toNat 0 = _
      simp [List.getD_eq_getElem?_getD, List.getElem?_take, iat, show i.toNat < f.toNat by omega]
    have hb := hmok.each i.toNat c4
    have hp : 0 ≤ psum l i.toNat ∧ psum l i.toNat ≤ 12000000 := hob i.toNat (by omega)
    have hps := psum_succ c4
    cbv
    obtain ⟨x, hx⟩ : ∃ x, O .get .i1 lc (O .toNat i) = x := ⟨_, rfl⟩
    rw [hx]
    rw [hx] at e1
    subst e1
    refine ⟨idx_mk hO ⟨hi.1, c2⟩, kin_mk hO (by rw [toNat_e hO]; exact c3), inr_mk hO (by rw [add_e hO]; omega) (by rw [add_e hO]; omega), inr_mk hO (by rw [add_e hO]; omega) (by rw [add_e hO]; omega), O .add i 1, O .add s (iat l i.toNat), [0, 1, 2], ⟨by rw [add_e hO]; omega, ?_⟩, by cbv; try simp, by rw [add_e hO]; omega⟩
    rw [add_e hO, add_e hO, show (i + 1).toNat = i.toNat + 1 by omega, hps, hs2]
  · rename_i c1
    have c2 := lt_f hO c1
    rw [ofNat_e hO, len_e hO] at c2
    have c3 : lc.length ≤ i.toNat := by have : (lc.length : Int) ≤ i := c2; omega
    have hsv : s = o := by rw [hs2, show i.toNat = f.toNat by omega, ho]
    cbv
    rw [show O .sub first 1 = f from (sub_e hO).trans hf, hlc]
    obtain ⟨ld, hld⟩ : ∃ ld, O .cut .i1 l (O .toNat f) (O .len .i1 l) = ld := ⟨_, rfl⟩
    have hld2 : ld = l.drop f.toNat := by
      rw [← hld, cut_e hO, toNat_e hO, len_e hO]
      exact List.take_of_length_le (by rw [List.length_drop]; exact Nat.le_refl _)
    rw [hld]
    have hldl : ld.length = 4800 - f.toNat := by rw [hld2, List.length_drop, hll]
    have hfr : 0 ≤ f ∧ f ≤ (l.length : Int) := by omega
    refine ⟨inr_mk hO (by omega) (by omega), rng_mk hO (by rw [len_e hO]; exact hfr), inr_mk hO (by omega) (by omega), rng_mk hO (by rw [len_e hO]; exact hfr), ?_⟩
    refine call_go hO hX (clone_fn (l := ld) ?_) (by kernel_rfl) [3] rfl ⟨rfl, rfl, trivial⟩ rfl ?_
    · rw [hldl]; omega
    rintro _ _ ⟨rfl, rfl⟩
    cbv
    obtain ⟨rl, hrl⟩ : ∃ rl, O .app .i1 ld lc = rl := ⟨_, rfl⟩
    have hrl2 : rl = rotL f.toNat := by rw [← hrl, app_e hO, hld2, hlc2, rotL, hl]
    have hrll : rl.length = 4800 := by rw [hrl2, rotL_len _ (by omega)]
    have hrb : ∀ k, k < 4800 → 1 ≤ iat rl k ∧ iat rl k ≤ 1000000 := fun k hk => by rw [hrl2]; exact rot_bd f.toNat (by omega) hk
    rw [hrl]
    refine ⟨room_mk hO (by rw [hldl]; omega), room_mk hO (by rw [hlcl]; omega), ?_⟩
    refine loop2 tab_holds eqs_holds mixed [(10, [(1, [0, 1, 2, 3, 5, 6, 7, 8]), (2, [4])], [9, 10])] hO hX (fun (t : Int) (Y : List Int) => (0 ≤ t ∧ t ≤ 4800 ∧ t % 12 = 0) ∧ Y = yearsL f.toNat (t.toNat / 12)) (fun t Y => [(9, .c (.int .i64 t)), (8, .c (.sl 7))]) (fun _ Y => [(6, .arr true .i1 rl), (7, .own 3 .i1 Y)]) (fun t _ => (4800 - t).toNat) 0 [] (by kernel_rfl) ⟨by omega, rfl⟩ (by cbv; try simp) ?_
    intro t Y hI
    have ht := hI.1; have hY := hI.2
    cbv
    split
    · rename_i d1
      have d2 : t < 4800 := by
        have := lt_t hO d1
        rw [ofNat_e hO, len_e hO] at this
        have h9 : t < (rl.length : Int) := this
        omega
      cbv
      obtain ⟨z, hz⟩ : ∃ z, O .cut .i1 rl (O .toNat t) (O .toNat (O .add t 12)) = z := ⟨_, rfl⟩
      have hz2 : z = (rl.drop t.toNat).take 12 := by
        rw [← hz, cut_e hO, toNat_e hO, toNat_e hO, add_e hO, show (t + 12).toNat - t.toNat = 12 by omega]
      have hzl : z.length = 12 := by rw [hz2, List.length_take, List.length_drop, hrll]; omega
      rw [hz]
      have hr1 : 0 ≤ t + 12 ∧ t + 12 ≤ (rl.length : Int) := by omega
      have hr2 : 0 ≤ t ∧ t ≤ ((t + 12).toNat : Int) := by omega
      refine ⟨inr_mk hO (by rw [add_e hO]; omega) (by rw [add_e hO]; omega), rng_mk hO (by rw [add_e hO, len_e hO]; exact hr1), rng_mk hO (by rw [add_e hO, toNat_e hO]; exact hr2), ?_⟩
      refine loop2 tab_holds eqs_holds mixed [(10, [(1, [0, 1, 2, 3, 5, 6, 7, 8]), (2, [4])], [9, 10])] hO hX (fun (j n : Int) => (0 ≤ j ∧ j ≤ 12) ∧ (n = psum (rl.drop t.toNat) j.toNat ∧ 0 ≤ n ∧ n ≤ 1000000 * j)) (fun j n => [(56, .c (.int .i64 j)), (10, .c (.int .i64 n))]) (fun _ _ => []) (fun j _ => (12 - j).toNat) 0 0 (by kernel_rfl) ⟨by omega, rfl, by omega, by omega⟩ (by cbv; try simp) ?_
      intro j n hJ
      have hj := hJ.1; have hn := hJ.2.1; have hn2 := hJ.2.2
      cbv
      split
      · rename_i q1
        have q2 : j < 12 := by
          have := lt_t hO q1
          rw [ofNat_e hO, len_e hO] at this
          have h9 : j < (z.length : Int) := this
          omega
        have q3 : 0 ≤ j ∧ j < (z.length : Int) := by omega
        have q4 : j.toNat < z.length := by omega
        have hdl : (rl.drop t.toNat).length = 4800 - t.toNat := by rw [List.length_drop, hrll]
        have q5 : j.toNat < (rl.drop t.toNat).length := by omega
        have e1 : O .get .i1 z (O .toNat j) = iat (rl.drop t.toNat) j.toNat := by
          rw [get_e hO, toNat_e hO, hz2]
          show ((rl.drop t.toNat).take 12).getD j.toNat 0 = _
          simp [List.getD_eq_getElem?_getD, List.getElem?_take, iat, show j.toNat < 12 by omega]
        have e2 : iat (rl.drop t.toNat) j.toNat = iat rl (t.toNat + j.toNat) := by
          simp [List.getD_eq_getElem?_getD, iat, List.getElem?_drop]
        have hb := hrb (t.toNat + j.toNat) (by omega)
        have hps := psum_succ q5
        rw [e2] at e1 hps
        cbv
        obtain ⟨x, hx⟩ : ∃ x, O .get .i1 z (O .toNat j) = x := ⟨_, rfl⟩
        rw [hx]
        rw [hx] at e1
        subst e1
        refine ⟨idx_mk hO q3, kin_mk hO (by rw [toNat_e hO]; exact q4), inr_mk hO (by rw [add_e hO]; omega) (by rw [add_e hO]; omega), inr_mk hO (by rw [add_e hO]; omega) (by rw [add_e hO]; omega), O .add j 1, O .add n (iat rl (t.toNat + j.toNat)), [0, 1, 2, 3, 4, 5, 6, 7, 8], ⟨by rw [add_e hO]; omega, ?_⟩, by cbv; try simp, by rw [add_e hO]; omega⟩
        rw [add_e hO, add_e hO, show (j + 1).toNat = j.toNat + 1 by omega, hps, hn]
        rw [hn] at hn2
        exact ⟨rfl, by omega, by omega⟩
      · rename_i q1
        have q2 : 12 ≤ j := by
          have := lt_f hO q1
          rw [ofNat_e hO, len_e hO] at this
          have h9 : (z.length : Int) ≤ j := this
          omega
        have hne : n = yearS f.toNat (t.toNat / 12) := by
          rw [hn, yearS, show j.toNat = 12 by omega, hrl2, show 12 * (t.toNat / 12) = t.toNat by omega]
        have hYl : Y.length ≤ 400 := by rw [hY, yearsL_len]; omega
        cbv
        refine ⟨room_mk hO (Nat.le_trans hYl (by decide)), room_mk hO (by simp), inr_mk hO (by rw [add_e hO]; omega) (by rw [add_e hO]; omega), O .add t 12, O .app .i1 Y [n], [0, 1, 2, 3, 4, 5, 6, 10], ⟨by rw [add_e hO]; omega, ?_⟩, by cbv; try simp, by rw [add_e hO]; omega⟩
        rw [add_e hO, app_e hO, show (t + 12).toNat / 12 = t.toNat / 12 + 1 by omega, yearsL_succ, hY, ← hne]
    · rename_i d1
      have d2 : 4800 ≤ t := by
        have := lt_f hO d1
        rw [ofNat_e hO, len_e hO] at this
        have h9 : (rl.length : Int) ≤ t := this
        omega
      have hY2 : Y = yearsL f.toNat 400 := by rw [hY, show t.toNat / 12 = 400 by omega]
      have hob2 := hob f.toNat (by omega)
      refine call_go hO hX (rowc_fn (o := s) (ls := Y) (P := P) (L := L) (by rw [hY2]; exact hr) (by omega) (by omega) (by rw [hY2, yearsL_len]; exact hs) (by rw [hY2, yearsL_len]; exact hP) (by rw [hY2, yearsL_len]; exact hL)) (by kernel_rfl) [7] rfl ⟨rfl, rfl, trivial⟩ rfl ?_
      rintro _ _ ⟨rfl, rfl⟩
      cbv
      refine fin_ok hX rfl ⟨[8], .tup [.many [.int .i64 o, .int .i64 P, .sl 0], .one (.int .i64 0)], [.arr true .i2 L], ⟨rfl, rfl⟩, rfl, ?_, rfl, rfl, by cbv; try simp⟩
      rw [hsv]; rfl
end Go.Proofs.Ytnieceplfjmocaa
