/- Of other numbers of bytes nothing is told. No condition. -/
import Derived.Test.YtjjohdeknahkmaaX43
import Derived.Test.YtjjohdeknahkmaaOob1
namespace Go.Proofs.Ytjjohdeknahkmaa.Pure
open Go Go.RowKit Go.Proofs.Ytjjohdeknahkmaa.X Go.Proofs.Ytjjohdeknahkmaa.Plain Go.Proofs.YtjjohdeknahkmaaW.PrintWords Go.Proofs.YtjjohdeknahkmaaW.PrintMore

theorem OobLong : strakelaw05_OobLong.Pure := by
  intro K L S d m _ _ _ _ hn hw _ _ hw'
  have hd := bytes_of hw
  have hm := bytes_of hw'
  refine Ev.rounds (g := fun k => strakelaw05_OobLong.f k K L S d m) ?_
  unfold strakelaw05_OobLong.f
  refine Ev.bind awake5_is ?_
  by_cases h0 : (m.length : Int) > 1000
  · exact evp h0 (Ev.now _)
  refine evn h0 ?_
  refine Ev.bind (pack_is K L S d hd (by omega)) ?_
  by_cases h : OR K L S ∧ d.length = 16
  · rw [if_pos h]
    have hpl := pk_len K L S d
    have hpb := pk_bytes h.1.K L S d
    refine evp rfl ?_
    simp only [Option.bind_some, List.nil_append]
    refine evp (by rw [hpl]; decide) (evp (by rw [hpl]; omega) ?_)
    by_cases c : m.length = 0
    · obtain rfl := List.eq_nil_of_length_eq_zero c
      rw [List.append_nil, List.append_nil]
      refine Ev.bind (unpack_pk h.1 d hd h.2) ?_
      refine evp (by rw [h.2]; decide) (evp (by rw [h.2]; decide) ?_)
      refine Ev.bind (unpack_pk h.1 d hd h.2) ?_
      refine evp rfl (evp trivial (evp (by simp) ?_))
      have e : (K == K && (L == L && (S == S))) = true := by simp
      rw [e]
      exact Ev.step (f := fun _ => some true) (fun k => by rw [strakelaw05_OobLong.j1]) (Ev.now _)
    · refine Ev.bind (unpack_not _ d (by rw [List.length_append, hpl]; omega)) ?_
      refine evp (by rw [h.2]; decide) (evp (by rw [h.2]; omega) ?_)
      have hu := unpack_is K L S _ (d ++ m) h.1.K h.1.L h.1.S ⟨addS_lo 0 (fr K L S ++ d), addS_hi _ _⟩ (Bytes.app hd hm) (by rw [List.length_append, h.2]; omega)
      unfold ut at hu
      rw [if_neg (fun z => by have := z.1; rw [List.length_append] at this; omega)] at hu
      refine Ev.bind hu ?_
      refine evn (by omega) (evp trivial (evp rfl (evp rfl (evp rfl ?_))))
      exact Ev.step (f := fun _ => some true) (fun k => by rw [strakelaw05_OobLong.j2]; rfl) (Ev.now _)
  · rw [if_neg h]
    refine evn (by decide) (evp rfl (evp rfl ?_))
    exact Ev.step (f := fun _ => some true) (fun k => by rw [strakelaw05_OobLong.j0]; rfl) (Ev.now _)
end Go.Proofs.Ytjjohdeknahkmaa.Pure
