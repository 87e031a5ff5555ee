import Derived.Test.YtfdenmkoampgnaaGreatU49GD
set_option linter.unusedSimpArgs false
set_option linter.unusedVariables false
namespace Go.Proofs.YtfdenmkoampgnaaGreat
open Go.Am Go.Tr

def bx18 (t : Tr.Tree) (l : List Qu) (k : Nat) : AH := (l[k]?).elim [] fun q => [.var [.int .i64 q.ino, .int .i64 q.nodes, .int .i64 q.bytes], .var (Nc (getZ t q.ino))]
theorem l11 {n : Nat} (hn : 20 < n) (t : Tr.Tree) (w : WFt t) (l : List Qu) (hl : l.length ≤ 1000) (f : Bool) (e0 : Env) (h2 : e0 2 = .rptr (Tb t)) (h1 : e0 1 = .lst f (l.map Qv)) (h11 : e0 11 = .lst f (l.map Qv)) (h12 : e0 12 = .int .i64 l.length) :
    iter (round (C49.tab n) [13] [(.exit 0, []), (.ret, [4])] c11_1 e0 0 []) ([.int .i64 0], []) = some (((List.range l.length).find? fun k => !rowQ t l k).elim (.exit 0, [], []) fun _ => (.ret, [.bool false], bx18 t l ((List.range l.length).findIdx fun k => !rowQ t l k))) :=
  for_idx (f := round (C49.tab n) [13] [(.exit 0, []), (.ret, [4])] c11_1 e0 0 []) (fun k => ([.int .i64 (k : Int)], [])) (List.range l.length) (fun k => !rowQ t l k) (fun k _ => (.ret, [.bool false], bx18 t l k)) (.exit 0, [], [])
    (fun k hk => by
      rw [List.getElem_range]
      have hk : k < l.length := by simpa using hk
      obtain ⟨q, hq⟩ : ∃ q, q = l[k] := ⟨_, rfl⟩
      have h33 := s28 (n := n) (by omega) t w.wf.srt (wbt w).len q.ino
      have h13 := s16 (n := n) (by omega) t w q.ino
      have hu := used_le w q.ino
      have hbx : bx18 t l k = [.var [.int .i64 q.ino, .int .i64 q.nodes, .int .i64 q.bytes], .var (Nc (getZ t q.ino))] := by
        unfold bx18
        rw [List.getElem?_eq_getElem hk, ← hq]
        rfl
      rw [hbx]
      have hr : rowQ t l k = (decide (dirE t q.ino = 0) && (!decide (q.nodes < usedN t q.ino ∨ q.bytes < usedB t q.ino) && (decide (k = 0) || (l[k - 1]?).elim false fun p => decide (p.ino < q.ino)))) := by
        unfold rowQ pass
        rw [List.getElem?_eq_getElem hk, ← hq]
        simp only [Int.add_zero]
      generalize rowQ t l k = o at *
      unfold getV at h33
      unfold dirE at hr
      generalize usedN t q.ino = u at *
      generalize usedB t q.ino = v at *
      simp only [Tv] at h13
      cases hf : find t.nodes q.ino with
      | none =>
        rw [hf] at h33 hr
        obtain rfl : o = false := by rw [hr]; rfl
        have hz : getZ t q.ino = nodeZ := by unfold getZ; rw [hf]; rfl
        rw [hz]
        simp only [Option.elim_none, Tv, Nd, nodeZ, List.map_nil] at h33
        simp only [Nc, nodeZ, List.map_nil]
        simp -implicitDefEqProofs (disch := omega) [wrap_of, ilt_t, ilt_f, ile_t, ile_f, nlt_t, nlt_f, nle_t, nle_f, ieq_t, ieq_f, imin_l, imin_r, imax_l, imax_r, take_app1, take_map_all, round_eq, b11_1, h2, h1, h11, h12, hk, ← hq, a28, h33, a16, h13]
      | some q' =>
        rw [hf] at h33 hr
        rw [getZ_of hf]
        simp only [Option.elim_some, Tv, Nd] at h33
        simp only [Nc]
        by_cases c1 : q'.kind = 2
        · by_cases c2 : q.nodes < u
          · obtain rfl : o = false := by rw [hr]; simp [c2]
            simp -implicitDefEqProofs (disch := omega) [wrap_of, ilt_t, ilt_f, ile_t, ile_f, nlt_t, nlt_f, nle_t, nle_f, ieq_t, ieq_f, imin_l, imin_r, imax_l, imax_r, take_app1, take_map_all, round_eq, b11_1, h2, h1, h11, h12, hk, ← hq, a28, h33, a16, h13, c1, c2]
          · by_cases co3 : q.bytes < v
            · obtain rfl : o = false := by rw [hr]; simp [co3]
              simp -implicitDefEqProofs (disch := omega) [wrap_of, ilt_t, ilt_f, ile_t, ile_f, nlt_t, nlt_f, nle_t, nle_f, ieq_t, ieq_f, imin_l, imin_r, imax_l, imax_r, take_app1, take_map_all, round_eq, b11_1, h2, h1, h11, h12, hk, ← hq, a28, h33, a16, h13, c1, c2, co3]
            · by_cases co4 : k = 0
              · obtain rfl : o = true := by rw [hr]; simp [c1, c2, co3, co4]
                subst co4
                simp -implicitDefEqProofs (disch := omega) [wrap_of, ilt_t, ilt_f, ile_t, ile_f, nlt_t, nlt_f, nle_t, nle_f, ieq_t, ieq_f, imin_l, imin_r, imax_l, imax_r, take_app1, take_map_all, round_eq, b11_1, h2, h1, h11, h12, hk, ← hq, a28, h33, a16, h13, c1, c2, co3]
              · have hk1 : k - 1 < l.length := by omega
                obtain ⟨j, rfl⟩ : ∃ j, k = j + 1 := ⟨k - 1, by omega⟩
                simp only [Nat.add_sub_cancel] at hk1 hr
                obtain ⟨p, hp⟩ : ∃ p, p = l[j] := ⟨_, rfl⟩
                rw [List.getElem?_eq_getElem hk1, ← hp] at hr
                by_cases co5 : p.ino < q.ino
                · obtain rfl : o = true := by rw [hr]; simp [c1, c2, co3, co5]
                  simp -implicitDefEqProofs (disch := omega) [wrap_of, ilt_t, ilt_f, ile_t, ile_f, nlt_t, nlt_f, nle_t, nle_f, ieq_t, ieq_f, imin_l, imin_r, imax_l, imax_r, take_app1, take_map_all, round_eq, b11_1, h2, h1, h11, h12, hk, ← hq, a28, h33, a16, h13, c1, c2, co3, hk1, ← hp, co5]
                · obtain rfl : o = false := by rw [hr]; simp [co5]
                  simp -implicitDefEqProofs (disch := omega) [wrap_of, ilt_t, ilt_f, ile_t, ile_f, nlt_t, nlt_f, nle_t, nle_f, ieq_t, ieq_f, imin_l, imin_r, imax_l, imax_r, take_app1, take_map_all, round_eq, b11_1, h2, h1, h11, h12, hk, ← hq, a28, h33, a16, h13, c1, c2, co3, hk1, ← hp, co5]
        · obtain rfl : o = false := by rw [hr]; simp [c1]
          simp -implicitDefEqProofs (disch := omega) [wrap_of, ilt_t, ilt_f, ile_t, ile_f, nlt_t, nlt_f, nle_t, nle_f, ieq_t, ieq_f, imin_l, imin_r, imax_l, imax_r, take_app1, take_map_all, round_eq, b11_1, h2, h1, h11, h12, hk, ← hq, a28, h33, a16, h13, c1])
    (by
      rw [List.length_range]
      simp -implicitDefEqProofs (disch := omega) [wrap_of, ilt_t, ilt_f, ile_t, ile_f, nlt_t, nlt_f, nle_t, nle_f, ieq_t, ieq_f, imin_l, imin_r, imax_l, imax_r, take_app1, take_map_all, round_eq, b11_1, h12])
theorem s11 {n : Nat} (hn : 21 < n) (t : Tr.Tree) (w : WFt t) (l : List Qu) (hl : l.length ≤ 1000) (f : Bool) : (C49.tab n).p 11 [Tv t, .lst f (l.map Qv)] = some (.bool (rightQ t l)) := by
  rw [p11 hn, runP_eq, runH_eq]
  have h := fun e0 h2 h1 h11 h12 => l11 (n := 21) (by decide) t w l hl f e0 h2 h1 h11 h12
  have ha : (List.range l.length).all (rowQ t l) = ((List.range l.length).find? fun k => !rowQ t l k).isNone := by
    cases hf : (List.range l.length).find? fun k => !rowQ t l k with
    | none =>
      rw [Option.isNone_none, List.all_eq_true]
      intro k hk
      have := List.find?_eq_none.1 hf k hk
      simpa using this
    | some k =>
      have h1 := List.find?_some hf
      have h2 := List.mem_of_find?_eq_some hf
      rw [Option.isNone_some, ← Bool.not_eq_true, List.all_eq_true]
      intro h'
      rw [h' k h2] at h1
      cases h1
  unfold rightQ
  rw [ha]
  generalize bx18 t l ((List.range l.length).findIdx fun k => !rowQ t l k) = X at *
  generalize (List.range l.length).find? (fun k => !rowQ t l k) = o at *
  simp -implicitDefEqProofs (disch := omega) [wrap_of, ilt_t, ilt_f, ile_t, ile_f, nlt_t, nlt_f, nle_t, nle_f, ieq_t, ieq_f, imin_l, imin_r, imax_l, imax_r, take_app1, take_map_all, c11]
  rw [h _ (by simp -implicitDefEqProofs (disch := omega) [wrap_of, ilt_t, ilt_f, ile_t, ile_f, nlt_t, nlt_f, nle_t, nle_f, ieq_t, ieq_f, imin_l, imin_r, imax_l, imax_r, take_app1, take_map_all, ]) (by simp -implicitDefEqProofs (disch := omega) [wrap_of, ilt_t, ilt_f, ile_t, ile_f, nlt_t, nlt_f, nle_t, nle_f, ieq_t, ieq_f, imin_l, imin_r, imax_l, imax_r, take_app1, take_map_all, ]) (by simp -implicitDefEqProofs (disch := omega) [wrap_of, ilt_t, ilt_f, ile_t, ile_f, nlt_t, nlt_f, nle_t, nle_f, ieq_t, ieq_f, imin_l, imin_r, imax_l, imax_r, take_app1, take_map_all, ]) (by simp -implicitDefEqProofs (disch := omega) [wrap_of, ilt_t, ilt_f, ile_t, ile_f, nlt_t, nlt_f, nle_t, nle_f, ieq_t, ieq_f, imin_l, imin_r, imax_l, imax_r, take_app1, take_map_all, ])]
  cases o with
  | none =>
    by_cases c : l.length ≤ 16
    · simp -implicitDefEqProofs (disch := omega) [wrap_of, ilt_t, ilt_f, ile_t, ile_f, nlt_t, nlt_f, nle_t, nle_f, ieq_t, ieq_f, imin_l, imin_r, imax_l, imax_r, take_app1, take_map_all, c]
    · simp -implicitDefEqProofs (disch := omega) [wrap_of, ilt_t, ilt_f, ile_t, ile_f, nlt_t, nlt_f, nle_t, nle_f, ieq_t, ieq_f, imin_l, imin_r, imax_l, imax_r, take_app1, take_map_all, c]
  | some k => simp -implicitDefEqProofs (disch := omega) [wrap_of, ilt_t, ilt_f, ile_t, ile_f, nlt_t, nlt_f, nle_t, nle_f, ieq_t, ieq_f, imin_l, imin_r, imax_l, imax_r, take_app1, take_map_all, ]
end Go.Proofs.YtfdenmkoampgnaaGreat

namespace Go.Proofs.YtfdenmkoampgnaaGreat
open Go.Am Go.Tr

theorem take_app (l : List Qu) {k : Nat} (hk : k < l.length) : ((l.map Qv).take k ++ (l.map Qv).drop (k + 1)).take (k + (l.length - (k + 1))) = (l.map Qv).take k ++ (l.map Qv).drop (k + 1) := by
  rw [List.take_of_length_le]
  simp
  omega
theorem s17 {n : Nat} (hn : 19 < n) (t : Tr.Tree) (w : WFt t) (l : List Qu) (hs : SrtQ l) (hl : l.length ≤ 1000) (f : Bool) (i a b : Int) :
    ∃ g : Bool, (C49.tab n).p 17 [Tv t, .lst f (l.map Qv), I i, I a, I b] = some (.tup [.lst g ((setP t l i a b).1.map Qv), I (setP t l i a b).2]) := by
  rw [p17 hn]
  have h33 := s28 (n := 19) (by decide) t w.wf.srt (wbt w).len i
  have h13 := s16 (n := 19) (by decide) t w i
  have h36 := s31 (n := 19) (by decide) l hs hl f i
  have h37 := p41 (n := 19) (by decide)
  have h38 := p42 (n := 19) (by decide)
  have h39 := p43 (n := 19) (by decide)
  have hu := used_le w i
  unfold getV at h33
  unfold setP
  cases hf : find t.nodes i with
  | none =>
    have hd : dirE t i = 70 := by unfold dirE; rw [hf]
    rw [hf] at h33
    rw [hd]
    simp only [Option.elim_none, Tv, Nd, nodeZ, List.map_nil] at h33
    refine ⟨f, ?_⟩
    rw [runP_eq, runH_eq]
    simp -implicitDefEqProofs (disch := omega) [wrap_of, ilt_t, ilt_f, ile_t, ile_f, nlt_t, nlt_f, nle_t, nle_f, ieq_t, ieq_f, imin_l, imin_r, imax_l, imax_r, take_app1, take_map_all, c17, a28, h33]
  | some q =>
    rw [hf] at h33
    simp only [Option.elim_some, Tv, Nd] at h33
    by_cases c1 : q.kind = 2
    · have hd : dirE t i = 0 := by unfold dirE; rw [hf]; simp [c1]
      rw [hd]
      simp only [Tv] at h13
      rcases cutQ_find hs i with ⟨hc, hi, hq⟩ | ⟨hq, _⟩
      · rw [hq] at h36
        have hrm := remQ_cut hs hc hi
        have hpt := putQ_cut (x := ⟨i, a, b⟩) hs hc hi
        have htk := take_app l hc
        by_cases c2 : a < 0
        · refine ⟨false, ?_⟩
          rw [hrm]
          generalize cutQ l i = k at *
          rw [runP_eq, runH_eq]
          simp -implicitDefEqProofs (disch := omega) [wrap_of, ilt_t, ilt_f, ile_t, ile_f, nlt_t, nlt_f, nle_t, nle_f, ieq_t, ieq_f, imin_l, imin_r, imax_l, imax_r, take_app1, take_map_all, c17, a28, h33, a31, h36, c1, c2, hc, h37, h38, cloneH, deleteH, htk]
        · by_cases co3 : a < usedN t i
          · refine ⟨f, ?_⟩
            generalize usedN t i = u at *
            generalize usedB t i = v at *
            generalize cutQ l i = k at *
            rw [runP_eq, runH_eq]
            simp -implicitDefEqProofs (disch := omega) [wrap_of, ilt_t, ilt_f, ile_t, ile_f, nlt_t, nlt_f, nle_t, nle_f, ieq_t, ieq_f, imin_l, imin_r, imax_l, imax_r, take_app1, take_map_all, c17, a28, h33, a31, h36, c1, c2, a16, h13, co3]
          · by_cases co4 : b < usedB t i
            · refine ⟨f, ?_⟩
              generalize usedN t i = u at *
              generalize usedB t i = v at *
              generalize cutQ l i = k at *
              rw [runP_eq, runH_eq]
              simp -implicitDefEqProofs (disch := omega) [wrap_of, ilt_t, ilt_f, ile_t, ile_f, nlt_t, nlt_f, nle_t, nle_f, ieq_t, ieq_f, imin_l, imin_r, imax_l, imax_r, take_app1, take_map_all, c17, a28, h33, a31, h36, c1, c2, a16, h13, co3, co4]
            · refine ⟨false, ?_⟩
              have co5 : ¬ findQ l i = none := fun h => by rw [hq] at h; cases h
              rw [hpt]
              generalize usedN t i = u at *
              generalize usedB t i = v at *
              simp only
              generalize cutQ l i = k at *
              rw [runP_eq, runH_eq]
              simp -implicitDefEqProofs (disch := omega) [wrap_of, ilt_t, ilt_f, ile_t, ile_f, nlt_t, nlt_f, nle_t, nle_f, ieq_t, ieq_f, imin_l, imin_r, imax_l, imax_r, take_app1, take_map_all, c17, a28, h33, a31, h36, c1, c2, a16, h13, co3, co4, co5, h38, cloneH, hc]
              exact List.take_of_length_le (by simp)
      · rw [hq] at h36
        have hrm := remQ_none hq
        have hpt := putQ_none (x := ⟨i, a, b⟩) hq
        have hcl := cutQ_le l i
        by_cases c2 : a < 0
        · refine ⟨f, ?_⟩
          rw [hrm]
          generalize cutQ l i = k at *
          rw [runP_eq, runH_eq]
          simp -implicitDefEqProofs (disch := omega) [wrap_of, ilt_t, ilt_f, ile_t, ile_f, nlt_t, nlt_f, nle_t, nle_f, ieq_t, ieq_f, imin_l, imin_r, imax_l, imax_r, take_app1, take_map_all, c17, a28, h33, a31, h36, c1, c2]
        · by_cases co3 : a < usedN t i
          · refine ⟨f, ?_⟩
            generalize usedN t i = u at *
            generalize usedB t i = v at *
            generalize cutQ l i = k at *
            rw [runP_eq, runH_eq]
            simp -implicitDefEqProofs (disch := omega) [wrap_of, ilt_t, ilt_f, ile_t, ile_f, nlt_t, nlt_f, nle_t, nle_f, ieq_t, ieq_f, imin_l, imin_r, imax_l, imax_r, take_app1, take_map_all, c17, a28, h33, a31, h36, c1, c2, a16, h13, co3]
          · by_cases co4 : b < usedB t i
            · refine ⟨f, ?_⟩
              generalize usedN t i = u at *
              generalize usedB t i = v at *
              generalize cutQ l i = k at *
              rw [runP_eq, runH_eq]
              simp -implicitDefEqProofs (disch := omega) [wrap_of, ilt_t, ilt_f, ile_t, ile_f, nlt_t, nlt_f, nle_t, nle_f, ieq_t, ieq_f, imin_l, imin_r, imax_l, imax_r, take_app1, take_map_all, c17, a28, h33, a31, h36, c1, c2, a16, h13, co3, co4]
            · by_cases co5 : 16 ≤ l.length
              · refine ⟨f, ?_⟩
                generalize usedN t i = u at *
                generalize usedB t i = v at *
                generalize cutQ l i = k at *
                rw [runP_eq, runH_eq]
                simp -implicitDefEqProofs (disch := omega) [wrap_of, ilt_t, ilt_f, ile_t, ile_f, nlt_t, nlt_f, nle_t, nle_f, ieq_t, ieq_f, imin_l, imin_r, imax_l, imax_r, take_app1, take_map_all, c17, a28, h33, a31, h36, c1, c2, a16, h13, co3, co4, hq, co5]
              · refine ⟨false, ?_⟩
                rw [hpt]
                generalize usedN t i = u at *
                generalize usedB t i = v at *
                simp only
                generalize cutQ l i = k at *
                rw [runP_eq, runH_eq]
                simp -implicitDefEqProofs (disch := omega) [wrap_of, ilt_t, ilt_f, ile_t, ile_f, nlt_t, nlt_f, nle_t, nle_f, ieq_t, ieq_f, imin_l, imin_r, imax_l, imax_r, take_app1, take_map_all, c17, a28, h33, a31, h36, c1, c2, a16, h13, co3, co4, hq, co5, h38, h39, cloneH, insertH, hcl]
                rw [List.take_of_length_le (by simp; omega)]
    · have hd : dirE t i = 73 := by unfold dirE; rw [hf]; simp [c1]
      rw [hd]
      refine ⟨f, ?_⟩
      rw [runP_eq, runH_eq]
      simp -implicitDefEqProofs (disch := omega) [wrap_of, ilt_t, ilt_f, ile_t, ile_f, nlt_t, nlt_f, nle_t, nle_f, ieq_t, ieq_f, imin_l, imin_r, imax_l, imax_r, take_app1, take_map_all, c17, a28, h33, c1]
structure Gi where
  a : UInt8
  n : Int
  b : Int
  n0 : -128 ≤ n
  n1 : n ≤ 127
  b0 : -128 ≤ b
  b1 : b ≤ 127
@[simp] def Gv (g : Gi) : AV := .agg [.int .u8 g.a.toNat, .int .i8 g.n, .int .i8 g.b]
@[simp] theorem szGv (l : List Gi) : szOk 3 (l.map Gv) = true := by simp [szOk]
def quoS (t : Tr.Tree) (s : List Qu × Bool) (g : Gi) : List Qu × Bool :=
  ((setP t s.1 (nodeAt t g.a.toNat) g.n (8 * g.b)).1, s.2 && !decide ((setP t s.1 (nodeAt t g.a.toNat) g.n (8 * g.b)).2 = 0))
def quoL (t : Tr.Tree) (gs : List Gi) : List Qu × Bool := (gs.take 20).foldl (quoS t) ([], true)
theorem setP_len (t : Tr.Tree) (l : List Qu) (i a b : Int) : (setP t l i a b).1.length ≤ l.length + 1 := by
  unfold setP
  have h1 : (remQ l i).length ≤ l.length := List.length_filter_le _ _
  have h2 : (putQ l ⟨i, a, b⟩).length ≤ l.length + 1 := by
    unfold putQ
    have := List.length_filter_le (fun q : Qu => decide (q.ino ≠ i)) (l.drop (cutQ l i))
    have := cutQ_le l i
    simp only [List.length_append, List.length_cons, List.length_take, List.length_drop] at *
    omega
  split
  · simp
  · split
    · simp only; omega
    · split
      · simp
      · split
        · simp
        · exact h2
theorem wrap_i8 {n : Int} (h0 : -128 ≤ n) (h1 : n ≤ 127) : IntKind.i64.wrap n = n := by
  unfold IntKind.wrap
  simp [IntKind.bits, IntKind.signed]
  omega
theorem l7 {n : Nat} (hn : 63 < n) (t : Tr.Tree) (w : WFt t) (gs : List Gi) (hg : gs.length ≤ 9223372036854775807) (g : Bool) (e0 : Env) (h2 : e0 2 = .rptr (Tb t)) (h1 : e0 1 = .lst g (gs.map Gv)) :
    iter (round (C49.tab n) [5, 6] [(.exit 0, [5])] c7_1 e0 0 []) ([.lst true [], .int .i64 0], []) = some (.exit 0, [.lst (quoL t gs).2 ((quoL t gs).1.map Qv)], []) := by
  exact for_list (f := round (C49.tab n) [5, 6] [(.exit 0, [5])] c7_1 e0 0 []) (fun k (s : List Qu × Bool) => ([.lst s.2 (s.1.map Qv), .int .i64 (k : Int)], [])) (gs.take 20) (quoS t) (fun s => (.exit 0, [.lst s.2 (s.1.map Qv)], [])) (fun k s => s.1.length ≤ k)
    (fun k hk s hs => by
      rw [List.length_take] at hk
      have hk1 : k < gs.length := by omega
      have hk2 : k < 20 := by omega
      rw [List.getElem_take]
      obtain ⟨x, hx⟩ : ∃ x, x = gs[k] := ⟨_, rfl⟩
      rw [← hx]
      obtain ⟨s1, s2⟩ := s
      simp only at hs
      refine ⟨by have := setP_len t s1 (nodeAt t x.a.toNat) x.n (8 * x.b); unfold quoS; simp only; omega, ?_⟩
      have h12 := s24 (n := n) (by omega) t (wbt w) x.a.toNat (UInt8.toNat_lt x.a)
      have h16 := s23 (n := n) (by omega) t w s1 (by omega) s2 (nodeAt t x.a.toNat) x.n (8 * x.b)
      have w1 := wrap_i8 x.n0 x.n1
      have w2 := wrap_i8 x.b0 x.b1
      obtain ⟨xa, xn, xb, n0, n1, b0, b1⟩ := x
      unfold quoS
      simp only [Tv] at h12 h16 w1 w2 ⊢
      generalize setP t s1 (nodeAt t xa.toNat) xn (8 * xb) = r at *
      generalize nodeAt t xa.toNat = i at *
      simp -implicitDefEqProofs (disch := omega) [wrap_of, ilt_t, ilt_f, ile_t, ile_f, nlt_t, nlt_f, nle_t, nle_f, ieq_t, ieq_f, imin_l, imin_r, imax_l, imax_r, take_app1, take_map_all, round_eq, b7_1, h2, h1, hk1, hk2, ← hx, h12, w1, w2, h16])
    (fun s hs => by
      rw [List.length_take]
      by_cases c : gs.length ≤ 20
      · rw [Nat.min_eq_right c]
        simp -implicitDefEqProofs (disch := omega) [wrap_of, ilt_t, ilt_f, ile_t, ile_f, nlt_t, nlt_f, nle_t, nle_f, ieq_t, ieq_f, imin_l, imin_r, imax_l, imax_r, take_app1, take_map_all, round_eq, b7_1, h2, h1]
      · rw [Nat.min_eq_left (by omega)]
        simp -implicitDefEqProofs (disch := omega) [wrap_of, ilt_t, ilt_f, ile_t, ile_f, nlt_t, nlt_f, nle_t, nle_f, ieq_t, ieq_f, imin_l, imin_r, imax_l, imax_r, take_app1, take_map_all, round_eq, b7_1, h2, h1, show 20 < gs.length by omega]) ([], true) (by simp)
theorem s7 {n : Nat} (hn : 64 < n) (t : Tr.Tree) (w : WFt t) (gs : List Gi) (hg : gs.length ≤ 9223372036854775807) (g : Bool) : (C49.tab n).p 7 [Tv t, .lst g (gs.map Gv)] = some (.lst (quoL t gs).2 ((quoL t gs).1.map Qv)) := by
  rw [p7 hn, runP_eq, runH_eq]
  have h := fun e0 h2 h1 => l7 (n := 64) (by decide) t w gs hg g e0 h2 h1
  generalize quoL t gs = r at *
  simp -implicitDefEqProofs (disch := omega) [wrap_of, ilt_t, ilt_f, ile_t, ile_f, nlt_t, nlt_f, nle_t, nle_f, ieq_t, ieq_f, imin_l, imin_r, imax_l, imax_r, take_app1, take_map_all, c7]
  rw [h _ (by simp -implicitDefEqProofs (disch := omega) [wrap_of, ilt_t, ilt_f, ile_t, ile_f, nlt_t, nlt_f, nle_t, nle_f, ieq_t, ieq_f, imin_l, imin_r, imax_l, imax_r, take_app1, take_map_all, ]) (by simp -implicitDefEqProofs (disch := omega) [wrap_of, ilt_t, ilt_f, ile_t, ile_f, nlt_t, nlt_f, nle_t, nle_f, ieq_t, ieq_f, imin_l, imin_r, imax_l, imax_r, take_app1, take_map_all, ])]
  simp -implicitDefEqProofs (disch := omega) [wrap_of, ilt_t, ilt_f, ile_t, ile_f, nlt_t, nlt_f, nle_t, nle_f, ieq_t, ieq_f, imin_l, imin_r, imax_l, imax_r, take_app1, take_map_all, ]
def dirAt (t : Tr.Tree) (k : Nat) : Int := if dirE t (nodeAt t k) = 0 then nodeAt t k else 1
theorem dirAt_dir {t : Tr.Tree} (w : WFt t) (k : Nat) : dirE t (dirAt t k) = 0 := by
  unfold dirAt
  split
  · assumption
  · obtain ⟨r, r1, r2, _⟩ := w.wf.root
    exact dirE_iff.2 ⟨r, r1, r2⟩
theorem s8 {n : Nat} (hn : 65 < n) (t : Tr.Tree) (w : WFt t) (k : Nat) (hk : k < 256) : (C49.tab n).p 8 [Tv t, .int .u8 (k : Int)] = some (I (dirAt t k)) := by
  rw [p8 hn, runP_eq, runH_eq]
  have h12 := s24 (n := 65) (by decide) t (wbt w) k hk
  have hG := s14 (n := 65) (by decide) t (wbt w) (nodeAt t k)
  unfold dirAt dirE
  unfold getV at hG
  generalize nodeAt t k = i at *
  simp only [Tv] at h12
  cases hf : find t.nodes i with
  | none =>
    rw [hf] at hG
    simp only [Option.elim_none, Tv, Nd, nodeZ, List.map_nil] at hG
    simp -implicitDefEqProofs (disch := omega) [wrap_of, ilt_t, ilt_f, ile_t, ile_f, nlt_t, nlt_f, nle_t, nle_f, ieq_t, ieq_f, imin_l, imin_r, imax_l, imax_r, take_app1, take_map_all, c8, a24, h12, a14, hG]
  | some q =>
    rw [hf] at hG
    simp only [Option.elim_some, Tv, Nd] at hG
    by_cases c1 : q.kind = 2
    · simp -implicitDefEqProofs (disch := omega) [wrap_of, ilt_t, ilt_f, ile_t, ile_f, nlt_t, nlt_f, nle_t, nle_f, ieq_t, ieq_f, imin_l, imin_r, imax_l, imax_r, take_app1, take_map_all, c8, a24, h12, a14, hG, c1]
    · simp -implicitDefEqProofs (disch := omega) [wrap_of, ilt_t, ilt_f, ile_t, ile_f, nlt_t, nlt_f, nle_t, nle_f, ieq_t, ieq_f, imin_l, imin_r, imax_l, imax_r, take_app1, take_map_all, c8, a24, h12, a14, hG, c1]
end Go.Proofs.YtfdenmkoampgnaaGreat

namespace Go.Proofs.YtfdenmkoampgnaaGreat
open Go.Am Go.Tr

def k1 : Tr.Tree := ⟨false, [⟨1, 2, 0, true, [], false, [⟨[97], 2, 1⟩], 1⟩, ⟨2, 2, 1, true, [], true, [], 1⟩], 3, 2⟩
def k2 : Tr.Tree := ⟨false, [⟨1, 2, 0, true, [], false, [⟨[97], 2, 1⟩], 1⟩, ⟨2, 2, 1, true, [], false, [⟨[102], 3, 2⟩], 1⟩, ⟨3, 1, 1, true, [], true, [], 0⟩], 4, 3⟩
def k3 : Tr.Tree := ⟨false, [⟨1, 2, 0, true, [], false, [⟨[97], 2, 1⟩], 1⟩, ⟨2, 2, 1, true, [], false, [⟨[102], 3, 2⟩, ⟨[103], 3, 3⟩], 1⟩, ⟨3, 1, 2, true, [], true, [], 0⟩], 4, 4⟩
def k4 : Tr.Tree := ⟨false, [⟨1, 2, 0, true, [], false, [⟨[97], 2, 1⟩], 1⟩, ⟨2, 2, 1, true, [], false, [⟨[100], 4, 4⟩, ⟨[102], 3, 2⟩, ⟨[103], 3, 3⟩], 1⟩, ⟨3, 1, 2, true, [], true, [], 0⟩, ⟨4, 2, 1, true, [], true, [], 2⟩], 5, 5⟩
def k5 : Tr.Tree := ⟨false, [⟨1, 2, 0, true, [], false, [⟨[97], 2, 1⟩], 1⟩, ⟨2, 2, 1, true, [], false, [⟨[100], 4, 4⟩, ⟨[102], 3, 2⟩, ⟨[103], 3, 3⟩], 1⟩, ⟨3, 1, 2, false, [1, 2, 3, 4, 5], true, [], 0⟩, ⟨4, 2, 1, true, [], true, [], 2⟩], 5, 5⟩
theorem k1_add : Tr.add okN sLess newT 1 [97] 2 = (k1, 2, 0) := by decide
theorem k2_add : Tr.add okN sLess k1 2 [102] 1 = (k2, 3, 0) := by decide
theorem k3_ln : Tr.ln okN sLess k2 3 2 [103] = (k3, 0) := by decide
theorem k4_add : Tr.add okN sLess k3 2 [100] 2 = (k4, 4, 0) := by decide
theorem k5_put : Tr.put k4 3 [1, 2, 3, 4, 5] = (k5, 0) := by decide
theorem wnew : WFt newT := WF.new
theorem wk1 : WFt k1 := by
  have := wnew.add ord_sLess 1 [97] 2
  rw [k1_add] at this
  exact this
theorem wk2 : WFt k2 := by
  have := wk1.add ord_sLess 2 [102] 1
  rw [k2_add] at this
  exact this
theorem wk3 : WFt k3 := by
  have := wk2.ln ord_sLess 3 2 [103]
  rw [k3_ln] at this
  exact this
theorem wk4 : WFt k4 := by
  have := wk3.add ord_sLess 2 [100] 2
  rw [k4_add] at this
  exact this
theorem wk5 : WFt k5 := by
  have := wk4.put 3 [1, 2, 3, 4, 5]
  rw [k5_put] at this
  exact this
abbrev lq : List Qu := [⟨2, 3, 9⟩]
theorem k_u2 : usedN k5 2 = 2 ∧ usedB k5 2 = 5 := by decide
theorem k_u1 : usedN k5 1 = 3 ∧ usedB k5 1 = 5 := by decide
theorem k_u3 : usedN k5 3 = 0 ∧ usedB k5 3 = 0 := by decide
theorem k_s1 : setP k5 [] 2 3 9 = (lq, 0) := by decide
theorem k_s2 : setP k5 lq 2 1 9 = (lq, 90) := by decide
theorem k_s3 : setP k5 lq 2 2 4 = (lq, 90) := by decide
theorem k_s4 : setP k5 lq 3 9 9 = (lq, 73) := by decide
theorem k_s5 : setP k5 lq 9 9 9 = (lq, 70) := by decide
theorem k_s6 : setP k5 lq 2 (-1) 0 = ([], 0) := by decide
theorem k_d4 : dom k5 lq 4 = 2 := by decide
theorem k_d1 : dom k5 lq 1 = 0 := by decide
theorem k_d2 : dom k5 lq 2 = 2 := by decide
theorem k_m1 : may k5 lq 4 1 4 = 0 := by decide
theorem k_m2 : may k5 lq 4 2 0 = 90 := by decide
theorem k_m3 : may k5 lq 4 0 5 = 90 := by decide
theorem k_m4 : may k5 lq 1 99 99 = 0 := by decide
theorem k_r1 : rightQ k5 lq = true := by decide
theorem k_r2 : rightQ k5 [⟨3, 9, 9⟩] = false := by decide
theorem s15 {n : Nat} (hn : 41 < n) : (C49.tab n).p 15 [] = some (Tv k5) := by
  rw [p15 hn, runP_eq, runH_eq]
  have h30 := s21 (n := 41) (by decide)
  have h48a := s37 (n := 41) (by decide) newT (wbt wnew) 1 [97] (by decide) 2 (by decide) (fun _ _ => bt_of (wnew.bg.moreT _ _) (by omega))
  have h48b := s37 (n := 41) (by decide) k1 (wbt wk1) 2 [102] (by decide) 1 (by decide) (fun _ _ => bt_of (wk1.bg.moreT _ _) (by omega))
  have h49 := s38 (n := 41) (by decide) k2 (wbt wk2) 3 2 [103] (by decide) (by decide)
    (fun q hq => bt_of (wk2.bg.withN (by show q.ents.length ≤ _; have := wk2.bg.ents q (find_mem hq).1; omega) (by show _ ≤ q.links + 1 ∧ q.links + 1 ≤ _; have := wk2.bg.lk q (find_mem hq).1; omega)) (by omega))
    (fun q hq => by have := wk2.bg.lk q (find_mem hq).1; omega)
  have h48c := s37 (n := 41) (by decide) k3 (wbt wk3) 2 [100] (by decide) 2 (by decide) (fun _ _ => bt_of (wk3.bg.moreT _ _) (by omega))
  have h50 := fun f => s39 (n := 41) (by decide) k4 (wbt wk4) 3 f [1, 2, 3, 4, 5] (by decide)
  rw [k1_add] at h48a
  rw [k2_add] at h48b
  rw [k3_ln] at h49
  rw [k4_add] at h48c
  rw [k5_put] at h50
  have hB : ([1, 2, 3, 4, 5] : List UInt8).map B = [.int .u8 1, .int .u8 2, .int .u8 3, .int .u8 4, .int .u8 5] := rfl
  rw [hB] at h50
  simp only [Tv] at h30 h48a h48b h49 h48c h50 ⊢
  generalize k1 = t1 at *
  generalize k2 = t2 at *
  generalize k3 = t3 at *
  generalize k4 = t4 at *
  generalize k5 = t5 at *
  generalize newT = t0 at *
  simp -implicitDefEqProofs (disch := omega) [wrap_of, ilt_t, ilt_f, ile_t, ile_f, nlt_t, nlt_f, nle_t, nle_f, ieq_t, ieq_f, imin_l, imin_r, imax_l, imax_r, take_app1, take_map_all, c15, a21, h30, a37, h48a, h48b, h48c, a38, h49, a39, h50]
theorem k_dir : dirE k5 1 = 0 ∧ dirE k5 2 = 0 ∧ dirE k5 4 = 0 := by decide
theorem srt1 (q : Qu) : SrtQ [q] := List.pairwise_singleton _ _
theorem s4 {n : Nat} (hn : 42 < n) : (C49.tab n).p 4 [] = some (.bool true) := by
  rw [p4 hn, runP_eq, runH_eq]
  have h29 := s15 (n := 42) (by decide)
  have h13a := s16 (n := 42) (by decide) k5 wk5 2
  have h13b := s16 (n := 42) (by decide) k5 wk5 1
  have h13c := s16 (n := 42) (by decide) k5 wk5 3
  rw [k_u2.1, k_u2.2] at h13a
  rw [k_u1.1, k_u1.2] at h13b
  rw [k_u3.1, k_u3.2] at h13c
  obtain ⟨g1, h15a⟩ := s17 (n := 42) (by decide) k5 wk5 [] List.Pairwise.nil (by decide) true 2 3 9
  obtain ⟨g2, h15b⟩ := s17 (n := 42) (by decide) k5 wk5 lq (srt1 _) (by decide) g1 2 1 9
  obtain ⟨g3, h15c⟩ := s17 (n := 42) (by decide) k5 wk5 lq (srt1 _) (by decide) g1 2 2 4
  obtain ⟨g4, h15d⟩ := s17 (n := 42) (by decide) k5 wk5 lq (srt1 _) (by decide) g1 3 9 9
  obtain ⟨g5, h15e⟩ := s17 (n := 42) (by decide) k5 wk5 lq (srt1 _) (by decide) g1 9 9 9
  obtain ⟨g6, h15f⟩ := s17 (n := 42) (by decide) k5 wk5 lq (srt1 _) (by decide) g1 2 (-1) 0
  rw [k_s1] at h15a
  rw [k_s2] at h15b
  rw [k_s3] at h15c
  rw [k_s4] at h15d
  rw [k_s5] at h15e
  rw [k_s6] at h15f
  have h17 := fun g => s18 (n := 42) (by decide) lq lq (by decide) (by decide) g1 g
  have h22a := s19 (n := 42) (by decide) k5 wk5 lq (srt1 _) (by decide) g1 k_dir.2.2
  have h22b := s19 (n := 42) (by decide) k5 wk5 lq (srt1 _) (by decide) g1 k_dir.1
  have h23a := s20 (n := 42) (by decide) k5 wk5 lq (srt1 _) (by decide) g1 k_dir.1 k_dir.2.2
  have h23b := s20 (n := 42) (by decide) k5 wk5 lq (srt1 _) (by decide) g1 k_dir.2.1 k_dir.2.2
  have h24a := s12 (n := 42) (by decide) k5 wk5 lq (srt1 _) (by decide) g1 1 4 (by decide) (by decide) (by decide) (by decide) k_dir.2.2
  have h24b := s12 (n := 42) (by decide) k5 wk5 lq (srt1 _) (by decide) g1 2 0 (by decide) (by decide) (by decide) (by decide) k_dir.2.2
  have h24c := s12 (n := 42) (by decide) k5 wk5 lq (srt1 _) (by decide) g1 0 5 (by decide) (by decide) (by decide) (by decide) k_dir.2.2
  have h24d := s12 (n := 42) (by decide) k5 wk5 lq (srt1 _) (by decide) g1 99 99 (by decide) (by decide) (by decide) (by decide) k_dir.1
  have h18a := s11 (n := 42) (by decide) k5 wk5 lq (by decide) g1
  have h18b := fun g => s11 (n := 42) (by decide) k5 wk5 [⟨3, 9, 9⟩] (by decide) g
  rw [k_d4] at h22a h23a h23b
  rw [k_d1] at h22b h23a
  rw [k_d2] at h23b
  rw [k_m1] at h24a
  rw [k_m2] at h24b
  rw [k_m3] at h24c
  rw [k_m4] at h24d
  rw [k_r1] at h18a
  rw [k_r2] at h18b
  simp only [Tv, Qv, List.map_cons, List.map_nil, decide_true, I, ne_eq, not_true_eq_false, decide_false, show decide ¬ (0 : Int) = 2 from rfl] at h29 h13a h13b h13c h15a h15b h15c h15d h15e h15f h17 h22a h22b h23a h23b h24a h24b h24c h24d h18a h18b ⊢
  generalize k5 = t5 at *
  simp -implicitDefEqProofs (disch := omega) [wrap_of, ilt_t, ilt_f, ile_t, ile_f, nlt_t, nlt_f, nle_t, nle_f, ieq_t, ieq_f, imin_l, imin_r, imax_l, imax_r, take_app1, take_map_all, c4, a15, h29, a16, h13a, h13b, h13c, a17, h15a, h15b, h15c, h15d, h15e, h15f, a18, h17, a19, h22a, h22b, a20, h23a, h23b, a12, h24a, h24b, h24c, h24d, a11, h18a, h18b]
end Go.Proofs.YtfdenmkoampgnaaGreat
