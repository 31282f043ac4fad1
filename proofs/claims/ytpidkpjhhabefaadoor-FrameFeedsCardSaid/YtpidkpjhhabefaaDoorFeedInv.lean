/- What holds between the parts that a stream is fed. -/
import Derived.Test.YtpidkpjhhabefaaDoorFeedRows
namespace Go.Proofs.YtpidkpjhhabefaaDoor
open Go.RowKit FrameMath
set_option linter.unusedVariables false

/-- What waits of all that came. -/
def wt (A : List UInt8) : List UInt8 := A.drop (A.length - (cut [] A).2.1)
structure Inv (w0 : World) (B k : Nat) (v4 v5 vw : Value) (A : List UInt8) (fsg : List Fr) (W : World) : Prop where
  small : A.length ≤ 1500 * k
  own4 : W.ownsRow w0.heap.size 5 1 v4 A.length (A.map u8v)
  str : StreamAt W w0.heap.size B (wt A) vw (cut [] A).2.2 (cut [] A).1.length
  got : Frames W w0.heap.size 52 v5 fsg
  cont : cont fsg = (cut [] A).1
  below : Below w0.heap.size w0 W
  n4 : ∀ g, v4.ownBlock = some g → g ≠ B ∧ vw.ownBlock ≠ some g
  n5 : ∀ g, v5.ownBlock = some g → g ≠ B ∧ vw.ownBlock ≠ some g ∧ v4.ownBlock ≠ some g
  bod : ∀ f ∈ fsg, ∀ b off, f.2.ao = some ⟨b, off, none⟩ → f.2.l ≠ [] → b ≠ B ∧ vw.ownBlock ≠ some b ∧ v4.ownBlock ≠ some b
theorem Inv.go {w0 : World} {B k : Nat} {v4 v5 vw : Value} {A : List UInt8} {fsg : List Fr} {W W' : World} (h : Inv w0 B k v4 v5 vw A fsg W) (hb : Below W.heap.size W W') : Inv w0 B k v4 v5 vw A fsg W' where
  small := h.small
  own4 := own_below h.own4 hb (Nat.le_refl _)
  str := h.str.off (bad := fun _ => False) (Off.below hb) (fun h => h) (fun _ _ h => h)
  got := h.got.below hb
  cont := h.cont
  below := h.below.trans (hb.mono h.below.size)
  n4 := h.n4
  n5 := h.n5
  bod := h.bod
theorem Inv.next {w0 : World} {B k : Nat} {v4 v5 vw : Value} {A : List UInt8} {fsg : List Fr} {W : World} (h : Inv w0 B k v4 v5 vw A fsg W) : Inv w0 B (k + 1) v4 v5 vw A fsg W := { h with small := by have := h.small; omega }

section
variable {adr : Nat → Addr} {w0 W W2 W3 W4 W5 : World} {B k ct : Nat} {v4 v5 vw v vw' v4' v5' v' : Value} {A b : List UInt8} {fsg fs : List Fr}
theorem st_own4 (I : Inv w0 B k v4 v5 vw A fsg W) (fd : Fed adr w0 W B vw (wt A ++ b) ct v fs vw' W2) : W2.ownsRow w0.heap.size 5 1 v4 A.length (A.map u8v) :=
  own_off I.own4 fd.off (fun g hg h => by
    rcases h with h | h
    · exact (I.n4 g hg).1 h
    · exact (I.n4 g hg).2 h)
theorem st_got2 (I : Inv w0 B k v4 v5 vw A fsg W) (fd : Fed adr w0 W B vw (wt A ++ b) ct v fs vw' W2) : Frames W2 w0.heap.size 52 v5 fsg :=
  I.got.off fd.off (fun g hg h => by
    rcases h with h | h
    · exact (I.n5 g hg).1 h
    · exact (I.n5 g hg).2.1 h) (fun f hf b off e hl h => by
    have := I.bod f hf b off e hl
    rcases h with h | h
    · exact this.1 h
    · exact this.2.1 h)
theorem st_off3 (hg3 : W2.grownBy W3 v4.ownBlock) : Off (fun k => v4.ownBlock = some k) W2 W3 := Off.grown hg3 (fun _ h => h)
theorem st_fr3 (I : Inv w0 B k v4 v5 vw A fsg W) (fd : Fed adr w0 W B vw (wt A ++ b) ct v fs vw' W2) (hg3 : W2.grownBy W3 v4.ownBlock) : Frames W3 W.heap.size 46 v fs :=
  fd.frames.off (st_off3 hg3) (fun g hg h => by have := own_ge fd.frames.1 g hg; have := own_lt I.own4 g h; omega) (fun f hf b off e hl h => by
    have h1 := own_lt I.own4 b h
    rcases fd.far f hf with h2 | ⟨b', off', e', hb'⟩
    · exact hl h2
    · rw [e] at e'
      have e2 := congrArg (fun o : Option Addr => o.map (·.block)) e'
      simp only [Option.map_some, Option.some.injEq] at e2
      omega)
theorem st_got3 (I : Inv w0 B k v4 v5 vw A fsg W) (fd : Fed adr w0 W B vw (wt A ++ b) ct v fs vw' W2) (hg3 : W2.grownBy W3 v4.ownBlock) : Frames W3 w0.heap.size 52 v5 fsg :=
  (st_got2 I fd).off (st_off3 hg3) (fun g hg h => (I.n5 g hg).2.2 h) (fun f hf b off e hl h => (I.bod f hf b off e hl).2.2 h)
theorem st_str3 (I : Inv w0 B k v4 v5 vw A fsg W) (fd : Fed adr w0 W B vw (wt A ++ b) ct v fs vw' W2) (hg3 : W2.grownBy W3 v4.ownBlock) : StreamAt W3 w0.heap.size B ((wt A ++ b).drop ((wt A ++ b).length - (cut [] (wt A ++ b)).2.1)) vw' (cut [] (wt A ++ b)).2.2 (ct + fs.length) :=
  fd.stream.off (st_off3 hg3) (fun h => (I.n4 B h).1 rfl) (fun g hg h => by have := fd.fresh g hg; have := own_lt I.own4 g h; omega)
theorem st_hap (I : Inv w0 B k v4 v5 vw A fsg W) (fd : Fed adr w0 W B vw (wt A ++ b) ct v fs vw' W2) (hF : Frames W4 W3.heap.size 52 v' fs) : ∀ f ∈ fs, BodyOk W4 v5.ownBlock f.2 := fun f hf => by
  obtain ⟨h1, h2, h3, h4⟩ := hF.2 f hf
  refine ⟨h1, h2, h3, ?_⟩
  rcases h4 with h4 | ⟨b', off, e, _, hc⟩
  · exact .inl h4
  · rcases fd.far f hf with h5 | ⟨b2, off2, e', hb'⟩
    · exact .inl h5
    · refine .inr ⟨b', off, e, fun hh => ?_, hc⟩
      have := own_lt I.got.1 b' hh.symm
      rw [e] at e'
      have e2 := congrArg (fun o : Option Addr => o.map (·.block)) e'
      simp only [Option.map_some, Option.some.injEq] at e2
      omega
theorem st_next (I : Inv w0 B k v4 v5 vw A fsg W) (hnb : (cut [] A).2.2 = false) (hb15 : b.length ≤ 1500) (fd : Fed adr w0 W B vw (wt A ++ b) (cut [] A).1.length v fs vw' W2)
    (hg3 : W2.grownBy W3 v4.ownBlock) (hat3 : v4'.ownBlock = v4.ownBlock ∨ v4'.ownBlock = some W2.heap.size) (hown3 : W3.ownsRow w0.heap.size 5 1 v4' (A ++ b).length ((A ++ b).map u8v))
    (hb4 : Below W3.heap.size W3 W4) (hg5 : W4.grownBy W5 v5.ownBlock) (hat5 : v5'.ownBlock = v5.ownBlock ∨ v5'.ownBlock = some W4.heap.size) (hgot : Frames W5 w0.heap.size 52 v5' (fsg ++ fs)) :
    Inv w0 B (k + 1) v4' v5' vw' (A ++ b) (fsg ++ fs) W5 := by
  have s0 := fd.off.size
  have s3 := hg3.size
  have s4 := hb4.size
  have s5 := hg5.size
  have hB := I.str.lt
  have l4 := own_lt I.own4
  have l5 := own_lt I.got.1
  have lw := own_lt fd.stream.own
  have l4' := own_lt hown3
  have o5 : Off (fun k => v5.ownBlock = some k) W4 W5 := Off.grown hg5 (fun _ h => h)
  have c1 := cut_feed A b hnb
  have c2 := wait_feed A b hnb
  have str3 := st_str3 I fd hg3
  have str4 := str3.off (bad := fun _ => False) (Off.below hb4) (fun h => h) (fun _ _ h => h)
  have str5 := str4.off o5 (fun h => (I.n5 B h).1 rfl) (fun g hg h => by have := fd.fresh g hg; have := l5 g h; omega)
  have hct : (cut [] (A ++ b)).1.length = (cut [] A).1.length + fs.length := by
    rw [c1]
    simp only [List.length_append]
    show _ + (cut [] (wt A ++ b)).1.length = _
    rw [← fd.cont]
    simp [Go.Proofs.YtpidkpjhhabefaaDoor.cont]
  refine ⟨by rw [List.length_append]; have := I.small; omega, ?_, ?_, hgot, ?_, ?_, ?_, ?_, ?_⟩
  · exact own_off (own_below hown3 hb4 (Nat.le_refl _)) o5 (fun g hg h => by
      rcases hat3 with e | e
      · rw [e] at hg
        exact (I.n5 g h).2.2 hg
      · rw [e] at hg; cases hg
        have := l5 _ h
        omega)
  · have e1 : wt (A ++ b) = (wt A ++ b).drop ((wt A ++ b).length - (cut [] (wt A ++ b)).2.1) := c2
    have e2 : (cut [] (A ++ b)).2.2 = (cut [] (wt A ++ b)).2.2 := by rw [c1]; rfl
    rw [e1, e2, hct]
    exact str5
  · rw [show Go.Proofs.YtpidkpjhhabefaaDoor.cont (fsg ++ fs) = Go.Proofs.YtpidkpjhhabefaaDoor.cont fsg ++ Go.Proofs.YtpidkpjhhabefaaDoor.cont fs by simp [Go.Proofs.YtpidkpjhhabefaaDoor.cont], I.cont, fd.cont, c1]
    rfl
  · have q3 : Below w0.heap.size w0 W3 := fd.below.grown hg3 fd.below.size (fun g hg => own_ge I.own4 g hg)
    exact (q3.trans (hb4.mono q3.size)).grown hg5 (by have := q3.size; omega) (fun g hg => own_ge I.got.1 g hg)
  · intro g hg
    rcases hat3 with e | e
    · rw [e] at hg
      exact ⟨(I.n4 g hg).1, fun h => by have := fd.fresh g h; have := l4 g hg; omega⟩
    · rw [e] at hg; cases hg
      exact ⟨by omega, fun h => by have := lw _ h; omega⟩
  · intro g hg
    rcases hat5 with e | e
    · rw [e] at hg
      refine ⟨(I.n5 g hg).1, fun h => by have := fd.fresh g h; have := l5 g hg; omega, fun h => ?_⟩
      rcases hat3 with e3 | e3
      · rw [e3] at h; exact (I.n5 g hg).2.2 h
      · rw [e3] at h; cases h; have := l5 _ hg; omega
    · rw [e] at hg; cases hg
      exact ⟨by omega, fun h => by have := lw _ h; omega, fun h => by have := l4' _ h; omega⟩
  · intro f hf b' off e hl
    rcases List.mem_append.1 hf with hf | hf
    · have hbl := (I.got.2 f hf).lt b' off e hl
      have hbd := I.bod f hf b' off e hl
      refine ⟨hbd.1, fun h => by have := fd.fresh b' h; omega, fun h => ?_⟩
      rcases hat3 with e3 | e3
      · rw [e3] at h; exact hbd.2.2 h
      · rw [e3] at h; cases h; omega
    · have hbl := (fd.apart f hf).lt b' off e hl
      have hge : W.heap.size ≤ b' := by
        rcases fd.far f hf with h | ⟨b2, off2, e', hb'⟩
        · exact (hl h).elim
        · rw [e] at e'
          have e2 := congrArg (fun o : Option Addr => o.map (·.block)) e'
          simp only [Option.map_some, Option.some.injEq] at e2
          omega
      refine ⟨by omega, fun h => ?_, fun h => ?_⟩
      · rcases (fd.apart f hf).2.2.2 with h2 | ⟨b2, off2, e', hne, _⟩
        · exact hl h2
        · rw [e] at e'
          have e2 := congrArg (fun o : Option Addr => o.map (·.block)) e'
          simp only [Option.map_some, Option.some.injEq] at e2
          rw [← e2] at hne
          exact hne h.symm
      · rcases hat3 with e3 | e3
        · rw [e3] at h; have := l4 b' h; omega
        · rw [e3] at h; cases h; omega
end
end Go.Proofs.YtpidkpjhhabefaaDoor
