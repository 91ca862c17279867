/- ClipGathers: the two baskets beside each other. -/
import Derived.Test.YtmhninlndjcikaaKm
namespace Go.Proofs.Ytmhninlndjcikaa
open Go.RowKit Go.Proofs.YtmhninlndjcikaaW.PrintWords Go.Proofs.YtmhninlndjcikaaW.PrintLast Go.Proofs.YtmhninlndjcikaaW.PrintMore
set_option linter.unusedVariables false
set_option linter.unusedSimpArgs false

/-- clip's Put leaves the document's basket. -/
theorem Rb.put {w w' : World} {base g gx : Nat} {v v' vL : Value} {kk k' : Bs} {L : List Pc} {sk : Bool} (h : Rb w base gx (fun b => b ≠ g ∧ some b ≠ v.ownBlock) L sk vL) (hp : Put' w w' base g v k' v') (hne : gx ≠ g) (hv : v.ownBlock ≠ some gx) :
    Rb w' base gx (fun b => b ≠ g ∧ some b ≠ v'.ownBlock) L sk vL := by
  refine ⟨?_, ?_⟩
  · unfold Rk
    rw [hp.2.1.2 gx (blk_lt h.1) hne (fun e => hv e.symm)]
    exact h.1
  · have h1 := Kd.R_mono (Kd.R_bound h.2) (ok' := fun b => (b ≠ gx ∧ b ≠ g ∧ some b ≠ v.ownBlock) ∧ b < w.heap.size) (fun b hb => ⟨⟨hb.1.1, hb.1.2.1, hb.1.2.2⟩, hb.2.2.1⟩)
    have h2 := hp.keepR h1 (fun b hb => ⟨hb.1.2.1, fun e => hb.1.2.2 e.symm⟩)
    refine Kd.R_mono h2 (fun b hb => ⟨hb.1.1, hb.1.2.1, fun e => ?_⟩)
    rcases hp.2.2.1 with q | q | ⟨c, q, hc⟩
    · rw [q] at e; cases e
    · rw [q] at e; exact hb.1.2.2 e
    · rw [q] at e
      have : b = c := by simpa using e
      omega
/-- The document's Put leaves clip's basket. -/
theorem Bk.rput {w w' : World} {base g gx : Nat} {OK : Nat → Prop} {v vL vL' : Value} {k : Bs} {L' : List Pc} {sk' : Bool} (h : Bk w base g k v) (hr : RPut w w' base gx OK vL L' sk' vL') (hne : g ≠ gx) (h1 : vL.ownBlock ≠ some g) (h2 : v.ownBlock ≠ some gx) (h3 : ∀ b, v.ownBlock = some b → vL.ownBlock ≠ some b) : Bk w' base g k v := by
  refine ⟨?_, ?_⟩
  · rw [hr.2.1.2 g (blk_lt h.1) hne (fun e => h1 e.symm)]
    exact h.1
  · have flat : ∀ {ok1 ok2 : Nat → Prop} {x : Int} {cs : List Value}, (Kd.int .u8).M w base ok1 x cs → (Kd.int .u8).M w base ok2 x cs := fun h => h
    have a := Kd.R_flat (ok' := fun b => b ≠ g ∧ v.ownBlock = some b) flat h.2 (fun b hb hk => ⟨hk, hb⟩)
    have b := Kd.R_step a (fun b hb hlt => hr.2.1.2 b hlt (fun e => h2 (by rw [← e]; exact hb.2)) (fun e => h3 b hb.2 e.symm))
    exact Kd.R_mono b (fun _ hb => hb.1)
/-- The rows of the two lie apart. -/
theorem Rb.apart {w : World} {base g gx : Nat} {v vL : Value} {L : List Pc} {sk : Bool} (h : Rb w base gx (fun b => b ≠ g ∧ some b ≠ v.ownBlock) L sk vL) : vL.ownBlock ≠ some g ∧ ∀ b, v.ownBlock = some b → vL.ownBlock ≠ some b :=
  ⟨fun e => (h.2.1 _ e).2.1 rfl, fun b hb e => (h.2.1 _ e).2.2 hb.symm⟩
theorem Bk.ne_blk {w : World} {base g gx : Nat} {k : Bs} {v : Value} {cs : Array Value} (h : Bk w base g k v) (hx : w.heap[gx]? = some (.cells cs 45 (0, 0))) : v.ownBlock ≠ some gx := fun e => Kd.R_ne h.2 hx (by decide) e.symm
theorem kOf_len (L : List Pc) (sk : Bool) : (kOf L sk).p = allD L := rfl
theorem refL_length (L : List Pc) (sk : Bool) (x : Pc) : (refL L sk x).length ≤ L.length + 1 := by
  unfold refL
  repeat' split
  all_goals simp
end Go.Proofs.Ytmhninlndjcikaa
