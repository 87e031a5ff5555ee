import Derived.Test.YtlooipgkklaijaaO18
set_option linter.unusedSimpArgs false
set_option linter.unusedVariables false
namespace Go.Proofs.Ytlooipgkklaijaa
open Go.Am Go.Am.Nm Go.Lib Go.Am.Sh

/-- What a row with a piece taken out looks like so far. -/
def delT (l : List P) (c : Nat) (i : Nat) : List P := if i ≤ c then l.take i else l.take c ++ (l.take i).drop (c + 1)
theorem delT_0 (l : List P) (c : Nat) : delT l c 0 = [] := by simp [delT]
theorem delT_step {l : List P} {c : Nat} {i : Nat} (h : i < l.length) : delT l c (i + 1) = if i = c then delT l c i else delT l c i ++ [l[i]] := by
  unfold delT
  by_cases hc : i = c
  · subst hc
    rw [if_pos rfl, if_neg (by omega), if_pos (Nat.le_refl _), List.drop_of_length_le (by simp; omega)]
    simp
  · rw [if_neg hc]
    by_cases h' : i + 1 ≤ c
    · rw [if_pos h', if_pos (by omega), List.take_succ_eq_append_getElem h]
    · rw [if_neg h', if_neg (by omega), List.take_succ_eq_append_getElem h, List.drop_append_of_le_length (by simp; omega)]
      simp
theorem delT_end (l : List P) (c : Nat) (hc : c < l.length) : delT l c l.length = delP l c := by
  unfold delT delP
  rw [if_neg (by omega), List.take_length]
theorem delT_len (l : List P) (c : Nat) (i : Nat) (hi : i ≤ l.length) : (delT l c i).length ≤ i := by
  unfold delT
  split
  · simp; omega
  · simp; omega
theorem l41 {n : Nat} (l : List P) (hr : RightP l) (f : Bool) (c par : Nat) (hc : c < l.length) (hpar : par < l.length) (e : Int) (he1 : 1 ≤ e) (he2 : e ≤ 1099511627776) (e0 : Env) (h0 : e0 0 = .lst f (l.map D)) (h8 : e0 8 = .int .i64 c) (h12 : e0 12 = .int .i64 par) (h14 : e0 14 = .int .i64 e) :
    iter (round (C18.tab n) [15, 16] [(.exit 0, [15])] c41_1 e0 1 [0]) ([.own 0 0 0 0, .int .i64 0], [.row 0 3 []]) =
      some (.exit 0, [.own 0 0 0 (delT (setE l par (e + 1)) c l.length).length], [.row 0 3 ((delT (setE l par (e + 1)) c l.length).map D)]) := by
  obtain ⟨l', hl'⟩ : ∃ l', l' = setE l par (e + 1) := ⟨_, rfl⟩
  rw [← hl']
  have hll : l'.length = l.length := by rw [hl', setE_len]
  have hl16 := hr.le
  have := for_list (f := round (C18.tab n) [15, 16] [(.exit 0, [15])] c41_1 e0 1 [0]) (fun i (o : List P) => ([.own 0 0 0 o.length, .int .i64 (i : Int)], [.row 0 3 (o.map D)])) (List.range l.length)
    (fun _ i => delT l' c (i + 1)) (fun o => (.exit 0, [.own 0 0 0 o.length], [.row 0 3 (o.map D)])) (fun i o => o = delT l' c i)
    (fun i hi o ho => by
      rw [List.getElem_range]
      have hi' : i < l.length := by simpa using hi
      have hi2 : i < l'.length := by omega
      refine ⟨rfl, ?_⟩
      obtain ⟨y, hy⟩ : ∃ y, y = l[i] := ⟨_, rfl⟩
      have hget := setE_get (e := e + 1) hpar (i := i) (by rw [setE_len]; exact hi')
      have hol := delT_len l' c i (by omega)
      rw [← ho] at hol
      have hstep := delT_step (l := l') (c := c) hi2
      rw [← ho] at hstep
      have hgl : l'[i] = if i = par then ⟨y.pa, y.gr, e + 1⟩ else y := by
        have : l'[i]'hi2 = (setE l par (e + 1))[i]'(by rw [setE_len]; exact hi') := by congr 1
        rw [this, hget, ← hy]
      rw [hgl] at hstep
      by_cases hp : i = par
      · rw [if_pos hp] at hstep
        by_cases hcc : i = c
        · rw [if_pos hcc] at hstep
          rw [hstep]
          simp -implicitDefEqProofs (disch := omega) [wrap_of, ilt_t, ilt_f, ile_t, ile_f, nlt_t, nlt_f, nle_t, nle_f, ieq_t, ieq_f, imin_l, imin_r, imax_l, imax_r, take_app1, take_map_all, round_eq, b41_1, h0, h8, h12, h14, hi', ← hy, ← hp, ← hcc]
        · rw [if_neg hcc] at hstep
          rw [hstep]
          simp -implicitDefEqProofs (disch := omega) [wrap_of, ilt_t, ilt_f, ile_t, ile_f, nlt_t, nlt_f, nle_t, nle_f, ieq_t, ieq_f, imin_l, imin_r, imax_l, imax_r, take_app1, take_map_all, round_eq, b41_1, h0, h8, h12, h14, hi', ← hy, ← hp, hcc]
      · rw [if_neg hp] at hstep
        by_cases hcc : i = c
        · rw [if_pos hcc] at hstep
          rw [hstep]
          simp -implicitDefEqProofs (disch := omega) [wrap_of, ilt_t, ilt_f, ile_t, ile_f, nlt_t, nlt_f, nle_t, nle_f, ieq_t, ieq_f, imin_l, imin_r, imax_l, imax_r, take_app1, take_map_all, round_eq, b41_1, h0, h8, h12, h14, hi', ← hy, hp, ← hcc]
        · rw [if_neg hcc] at hstep
          rw [hstep]
          simp -implicitDefEqProofs (disch := omega) [wrap_of, ilt_t, ilt_f, ile_t, ile_f, nlt_t, nlt_f, nle_t, nle_f, ieq_t, ieq_f, imin_l, imin_r, imax_l, imax_r, take_app1, take_map_all, round_eq, b41_1, h0, h8, h12, h14, hi', ← hy, hp, hcc])
    (fun o ho => by simp -implicitDefEqProofs (disch := omega) [wrap_of, ilt_t, ilt_f, ile_t, ile_f, nlt_t, nlt_f, nle_t, nle_f, ieq_t, ieq_f, imin_l, imin_r, imax_l, imax_r, take_app1, take_map_all, round_eq, b41_1, h0]) [] (delT_0 _ _).symm
  simp only [List.length_nil, List.map_nil, Int.natCast_zero] at this
  rw [this]
  have inv := fold_inv (List.range l.length) (fun (_ : List P) i => delT l' c (i + 1)) (fun i o => o = delT l' c i) 0 [] (fun i hi o _ => by rw [List.getElem_range, Nat.zero_add]) (delT_0 _ _).symm
  rw [Nat.zero_add, List.length_range] at inv
  rw [inv]
/-- catacombref18.Join -/
theorem s41 {n : Nat} (hn : 51 < n) (l : List P) (hr : RightP l) (hsh : ∀ p ∈ l, p.pa.length ≤ 1000000) (f : Bool) (s : List UInt8) (hs : s.length ≤ 1000000) :
    (C18.tab n).p 41 [.lst f (l.map D), .str s] = some (.tup [.lst (f && !decide ((joinP l s).2 = 0)) ((joinP l s).1.map D), .int .i64 (joinP l s).2]) := by
  rw [p41 hn, runP_eq, runH_eq]
  have hl := hr.le
  have h25 := s25 (n := 51) (by decide) s (by omega)
  unfold spV at h25
  have h59 := s59 (n := 51) (by decide) l (by omega) f s
  have h60 := s60 (n := 51) (by decide) s hs
  unfold joinP
  cases hp : isP s with
  | false =>
    have hq : split s = none := by
      unfold isP at hp
      cases h : split s with
      | none => rfl
      | some w => rw [h] at hp; cases hp
    rw [hq] at h25
    simp -implicitDefEqProofs (disch := omega) [wrap_of, ilt_t, ilt_f, ile_t, ile_f, nlt_t, nlt_f, nle_t, nle_f, ieq_t, ieq_f, imin_l, imin_r, imax_l, imax_r, take_app1, take_map_all, c41, a25, h25]
  | true =>
    cases hf : fnd l s with
    | false =>
      obtain ⟨w, hw⟩ : ∃ w, split s = some w := by
        unfold isP at hp
        cases h : split s with
        | none => rw [h] at hp; cases hp
        | some w => exact ⟨w, rfl⟩
      rw [hw] at h25
      rw [plc_none hr.inc hf] at h59
      simp -implicitDefEqProofs (disch := omega) [wrap_of, ilt_t, ilt_f, ile_t, ile_f, nlt_t, nlt_f, nle_t, nle_f, ieq_t, ieq_f, imin_l, imin_r, imax_l, imax_r, take_app1, take_map_all, c41, a25, h25, a59, h59]
    | true =>
      rw [plc_some hr.inc hf] at h59
      by_cases hc0 : cnt l s = 0
      · have hs47 := (hr.root_of hf).1 hc0
        have hw : split s = some [] := by rw [hs47]; decide
        rw [hw] at h25
        have hsd : decide (s = [47]) = true := decide_eq_true hs47
        clear hs47
        simp -implicitDefEqProofs (disch := omega) [wrap_of, ilt_t, ilt_f, ile_t, ile_f, nlt_t, nlt_f, nle_t, nle_f, ieq_t, ieq_f, imin_l, imin_r, imax_l, imax_r, take_app1, take_map_all, c41, a25, h25, a59, h59, hc0, strBin, hsd]
      · have hne : s ≠ [47] := fun h => hc0 ((hr.root_of hf).2 h)
        obtain ⟨m, x, hq, hla, hup, m1, m2, hpm⟩ := up_path hp hne
        rw [hq] at h25
        obtain ⟨hc, _⟩ := fnd_pat hf
        have hup' : (lastP s).elim [] (·.2) = jn m := hup
        rw [hup']
        have hjl : (jn m).length ≤ 1000000 := by
          have h1 := (split_some hq).1
          have := jn_pre (m := m ++ [x]) m.length
          rw [List.take_append_of_le_length (Nat.le_refl _), List.take_length, h1] at this
          have := this.length_le
          omega
        have h21 := s21 (n := 51) (by decide) l (hr.short hsh) f (jn m) hjl
        rw [hpm, hr.refOf hpm] at h21
        have hof := hr.of_lt hpm
        unfold lastV at h60
        rw [hla] at h60
        obtain ⟨y, hy⟩ : ∃ y, y = l[cnt l s] := ⟨_, rfl⟩
        obtain ⟨z, hz⟩ : ∃ y, y = l[ofI l (jn m)] := ⟨_, rfl⟩
        have hey := epA_of hc
        have hez := epA_of hof
        obtain ⟨y1, y2⟩ := hr.ep _ (List.getElem_mem hc)
        obtain ⟨z1, z2⟩ := hr.ep _ (List.getElem_mem hof)
        rw [← hy] at hey y1 y2
        rw [← hz] at hez z1 z2
        rw [hey, hez]
        have hmx : max y.ep z.ep = if y.ep < z.ep then z.ep else y.ep := by
          split <;> omega
        obtain ⟨e, he⟩ : ∃ e, e = max y.ep z.ep := ⟨_, rfl⟩
        have e1 : 1 ≤ e := by omega
        have e2 : e ≤ 1099511627776 := by omega
        rw [← he] at hmx ⊢
        by_cases hE : 1099511627776 ≤ e
        · simp -implicitDefEqProofs (disch := omega) [wrap_of, ilt_t, ilt_f, ile_t, ile_f, nlt_t, nlt_f, nle_t, nle_f, ieq_t, ieq_f, imin_l, imin_r, imax_l, imax_r, take_app1, take_map_all, c41, a25, h25, a59, h59, hc0, hne, strBin, a60, h60, a21, h21, hc, hof, ← hy, ← hz, ← he, hE]
        · have h41 := l41 (n := 51) l hr f (cnt l s) (ofI l (jn m)) hc hof e e1 e2
          have hend := delT_end (setE l (ofI l (jn m)) (e + 1)) (cnt l s) (by rw [setE_len]; exact hc)
          rw [setE_len] at hend
          rw [hend] at h41
          simp -implicitDefEqProofs (disch := omega) [wrap_of, ilt_t, ilt_f, ile_t, ile_f, nlt_t, nlt_f, nle_t, nle_f, ieq_t, ieq_f, imin_l, imin_r, imax_l, imax_r, take_app1, take_map_all, c41, a25, h25, a59, h59, hc0, hne, strBin, a60, h60, a21, h21, hc, hof, ← hy, ← hz, ← he, hE]
          rw [h41 _ (by simp -implicitDefEqProofs (disch := omega) [wrap_of, ilt_t, ilt_f, ile_t, ile_f, nlt_t, nlt_f, nle_t, nle_f, ieq_t, ieq_f, imin_l, imin_r, imax_l, imax_r, take_app1, take_map_all, ]) (by simp -implicitDefEqProofs (disch := omega) [wrap_of, ilt_t, ilt_f, ile_t, ile_f, nlt_t, nlt_f, nle_t, nle_f, ieq_t, ieq_f, imin_l, imin_r, imax_l, imax_r, take_app1, take_map_all, ]) (by simp -implicitDefEqProofs (disch := omega) [wrap_of, ilt_t, ilt_f, ile_t, ile_f, nlt_t, nlt_f, nle_t, nle_f, ieq_t, ieq_f, imin_l, imin_r, imax_l, imax_r, take_app1, take_map_all, ]) (by simp -implicitDefEqProofs (disch := omega) [wrap_of, ilt_t, ilt_f, ile_t, ile_f, nlt_t, nlt_f, nle_t, nle_f, ieq_t, ieq_f, imin_l, imin_r, imax_l, imax_r, take_app1, take_map_all, ← he])]
          simp -implicitDefEqProofs (disch := omega) [wrap_of, ilt_t, ilt_f, ile_t, ile_f, nlt_t, nlt_f, nle_t, nle_f, ieq_t, ieq_f, imin_l, imin_r, imax_l, imax_r, take_app1, take_map_all, ]
/-- catacombref18.Move -/
theorem s42 {n : Nat} (hn : 52 < n) (l : List P) (hr : RightP l) (hsh : ∀ p ∈ l, p.pa.length ≤ 1000000) (f : Bool) (s : List UInt8) (hs : s.length ≤ 1000000) (g : Int) :
    (C18.tab n).p 42 [.lst f (l.map D), .str s, .int .i64 g] = some (.tup [.lst (f && !decide ((moveP l s g).2 = 0)) ((moveP l s g).1.map D), .int .i64 (moveP l s g).2]) := by
  rw [p42 hn, runP_eq, runH_eq]
  have hl := hr.le
  have h25 := s25 (n := 52) (by decide) s (by omega)
  unfold spV at h25
  have h59 := s59 (n := 52) (by decide) l (by omega) f s
  unfold moveP
  by_cases g1 : 0 ≤ g
  · by_cases g2 : g < 8
    · have hg : okG g = true := by rw [okG_cases]; simp [g1, g2]
      rw [hg]
      cases hp : isP s with
      | false =>
        have hq : split s = none := by
          unfold isP at hp
          cases h : split s with
          | none => rfl
          | some w => rw [h] at hp; cases hp
        rw [hq] at h25
        simp -implicitDefEqProofs (disch := omega) [wrap_of, ilt_t, ilt_f, ile_t, ile_f, nlt_t, nlt_f, nle_t, nle_f, ieq_t, ieq_f, imin_l, imin_r, imax_l, imax_r, take_app1, take_map_all, c42, g1, g2, a25, h25]
      | true =>
        obtain ⟨w, hw⟩ : ∃ w, split s = some w := by
          unfold isP at hp
          cases h : split s with
          | none => rw [h] at hp; cases hp
          | some w => exact ⟨w, rfl⟩
        rw [hw] at h25
        cases hf : fnd l s with
        | false =>
          rw [plc_none hr.inc hf] at h59
          simp -implicitDefEqProofs (disch := omega) [wrap_of, ilt_t, ilt_f, ile_t, ile_f, nlt_t, nlt_f, nle_t, nle_f, ieq_t, ieq_f, imin_l, imin_r, imax_l, imax_r, take_app1, take_map_all, c42, g1, g2, a25, h25, a59, h59]
        | true =>
          rw [plc_some hr.inc hf] at h59
          obtain ⟨hc, hcs⟩ := fnd_pat hf
          obtain ⟨x, hx⟩ : ∃ x, x = l[cnt l s] := ⟨_, rfl⟩
          have he := epA_of hc
          obtain ⟨e1, e2⟩ := hr.ep _ (List.getElem_mem hc)
          rw [pat_of hc] at hcs
          rw [← hx] at he e1 e2 hcs
          by_cases hE : 1099511627776 ≤ x.ep
          · simp -implicitDefEqProofs (disch := omega) [wrap_of, ilt_t, ilt_f, ile_t, ile_f, nlt_t, nlt_f, nle_t, nle_f, ieq_t, ieq_f, imin_l, imin_r, imax_l, imax_r, take_app1, take_map_all, c42, g1, g2, a25, h25, a59, h59, hc, ← hx, he, hE]
          · have hsm : setM l (cnt l s) g = l.set (cnt l s) ⟨s, g, x.ep + 1⟩ := by
              unfold setM
              rw [List.getElem?_eq_getElem hc, ← hx, ← hcs]; rfl
            simp -implicitDefEqProofs (disch := omega) [wrap_of, ilt_t, ilt_f, ile_t, ile_f, nlt_t, nlt_f, nle_t, nle_f, ieq_t, ieq_f, imin_l, imin_r, imax_l, imax_r, take_app1, take_map_all, c42, g1, g2, a25, h25, a59, h59, hc, ← hx, he, hE, hsm]
            rw [List.take_of_length_le (by simp)]
    · have hg : okG g = false := by rw [okG_cases]; simp [g2]
      rw [hg]
      simp -implicitDefEqProofs (disch := omega) [wrap_of, ilt_t, ilt_f, ile_t, ile_f, nlt_t, nlt_f, nle_t, nle_f, ieq_t, ieq_f, imin_l, imin_r, imax_l, imax_r, take_app1, take_map_all, c42, g1, g2]
  · have hg : okG g = false := by rw [okG_cases]; simp [g1]
    rw [hg]
    simp -implicitDefEqProofs (disch := omega) [wrap_of, ilt_t, ilt_f, ile_t, ile_f, nlt_t, nlt_f, nle_t, nle_f, ieq_t, ieq_f, imin_l, imin_r, imax_l, imax_r, take_app1, take_map_all, c42, g1]
end Go.Proofs.Ytlooipgkklaijaa
