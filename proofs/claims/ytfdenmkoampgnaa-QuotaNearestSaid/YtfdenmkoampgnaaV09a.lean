import Derived.Test.YtfdenmkoampgnaaT09GP
import Derived.Test.YtfdenmkoampgnaaTrGM
set_option linter.unusedSimpArgs false
set_option linter.unusedVariables false
namespace Go.Proofs.Ytfdenmkoampgnaa
open Go.Am Go.Tr

theorem s28 {n : Nat} (hn : 74 < n) (t : Tr.Tree) (hs : Srt t.nodes) (hl : t.nodes.length ≤ 1000) (i : Int) (f : Bool) (d : List UInt8) (hd : d.length ≤ 9223372036854775807) :
    (C09.tab n).p 28 [Tv t, I i, .lst f (d.map B)] = some (.tup [Tv (put t i d).1, I (put t i d).2]) := by
  rw [p28 hn, runP_eq, runH_eq]
  have hA := s61 (n := 9) (by decide) t hs hl i [.var [.lst true [], .int .i64 0, .int .i64 0], .var [.lst t.fn (t.nodes.map Nd), .int .i64 t.next, .int .i64 t.cookie], .var [.int .i64 0, .int .i64 0, .int .i64 0, .lst true [], .lst true [], .int .i64 0]] rfl 1 rfl
  have hb := p45 (n := 74) (by decide)
  have hc46 := p46 (n := 74) (by decide)
  have hp := p47 (n := 74) (by decide)
  have hcl := p62 (n := 73) (by decide)
  unfold put
  rcases at_get hs i with ⟨q, hf, hc, hq⟩ | hf
  · rw [hf] at hA ⊢
    have hq' : q = t.nodes[cutN t.nodes i] := by rw [List.getElem?_eq_getElem hc] at hq; exact (Option.some.inj hq).symm
    have hqi := (find_mem hf).2
    subst hqi
    by_cases c1 : q.kind = 2
    · generalize cutN t.nodes q.ino = c at *
      simp -implicitDefEqProofs (disch := omega) [wrap_of, ilt_t, ilt_f, ile_t, ile_f, nlt_t, nlt_f, nle_t, nle_f, ieq_t, ieq_f, imin_l, imin_r, imax_l, imax_r, take_app1, take_map_all, c28, hb, runH_eq, c45, hA, hc, ← hq', c1]
    · by_cases c2 : 4096 < d.length
      · generalize cutN t.nodes q.ino = c at *
        simp -implicitDefEqProofs (disch := omega) [wrap_of, ilt_t, ilt_f, ile_t, ile_f, nlt_t, nlt_f, nle_t, nle_f, ieq_t, ieq_f, imin_l, imin_r, imax_l, imax_r, take_app1, take_map_all, c28, hb, runH_eq, c45, hA, hc, ← hq', c1, c2]
      · have hA2 := s61 (n := 73) (by decide) t hs hl q.ino [.var [.lst true [], .int .i64 0, .int .i64 0], .var [.lst t.fn (t.nodes.map Nd), .int .i64 t.next, .int .i64 t.cookie], .var [.int .i64 q.ino, .int .i64 q.kind, .int .i64 q.links, .lst q.fd (q.data.map B), .lst q.fe (q.ents.map En), .int .i64 q.up], .var [.int .i64 q.ino, .int .i64 q.kind, .int .i64 q.links, .lst false (d.map B), .lst q.fe (q.ents.map En), .int .i64 q.up]] rfl 1 rfl
        rw [hf] at hA2
        have hwn := withN_at hs (n := { q with fd := false, data := d }) hc (by rw [← hq']) rfl
        simp only [if_neg c1, if_neg c2, hwn]
        clear hwn
        generalize cutN t.nodes q.ino = c at *
        simp -implicitDefEqProofs (disch := omega) [wrap_of, ilt_t, ilt_f, ile_t, ile_f, nlt_t, nlt_f, nle_t, nle_f, ieq_t, ieq_f, imin_l, imin_r, imax_l, imax_r, take_app1, take_map_all, c28, hb, hp, runH_eq, c45, c47, hA, hA2, hc, ← hq', c1, c2, a46, hc46, cloneP, hcl, cloneH]
        rw [List.take_of_length_le (by simp)]
  · rw [hf] at hA ⊢
    generalize cutN t.nodes i = c at *
    simp -implicitDefEqProofs (disch := omega) [wrap_of, ilt_t, ilt_f, ile_t, ile_f, nlt_t, nlt_f, nle_t, nle_f, ieq_t, ieq_f, imin_l, imin_r, imax_l, imax_r, take_app1, take_map_all, c28, hb, runH_eq, c45, hA]
end Go.Proofs.Ytfdenmkoampgnaa
