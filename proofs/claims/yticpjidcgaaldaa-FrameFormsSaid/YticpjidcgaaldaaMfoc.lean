/- The parts of this proof, one behind the other: contracts of the functions, plain laws, the walk. -/
import Derived.Test.YticpjidcgaaldaaMfob
import Derived.Test.YticpjidcgaaldaaProg
import Derived.Below
import Derived.Deep.Draws
import Derived.Deep.AppendLies
import Derived.Maps.AppendAt
import Derived.OwnWalk
import Derived.Laws.BytesArg
import Derived.Laws.MakeOwn
import Derived.Laws.OwnMore
import Derived.Deep.OwnRows
import Derived.Tactics
import Derived.Lib.ConvBytes
import Derived.Laws.Slices
import Derived.WalkKit
import Derived.KernelRfl
import Derived.RowKit3
import Derived.Deep.LoopGhost
import Derived.Deep.QuietTactic
import Derived.BigQuiet
import Derived.WideLaws
import Derived.Deep.DeepCutAuto
import Derived.Deep.CutBlock
import Derived.Deep.RegionHeld3
import Derived.Laws.Rows
import Derived.Lib.AppendStr
import Derived.ArgAppend
import Derived.Laws.IdiomCopy
import Derived.OrdersHeld
import Derived.Laws.BitsLemmas
import Derived.RowKit
import Derived.Test.YticpjidcgaaldaaWWords
import Derived.Test.YticpjidcgaaldaaWLast
import Derived.Test.YticpjidcgaaldaaWTab
import Derived.Test.YticpjidcgaaldaaWQPut
import Derived.Test.YticpjidcgaaldaaWApart
import Derived.Test.YticpjidcgaaldaaWArr
import Derived.Test.YticpjidcgaaldaaWZeros
import Derived.Test.YticpjidcgaaldaaWFoot
import Derived.Test.YticpjidcgaaldaaWKept
import Derived.Test.YticpjidcgaaldaaWShare
import Derived.Test.YticpjidcgaaldaaWN
import Derived.Test.YticpjidcgaaldaaWNEv
import Derived.Test.YticpjidcgaaldaaWMore
namespace Go.Proofs.Yticpjidcgaaldaa
open Go.RowKit Go.Proofs.YticpjidcgaaldaaW.PrintWords Go.Proofs.YticpjidcgaaldaaW.PrintLast Go.Proofs.YticpjidcgaaldaaW.PrintMore
set_option linter.unusedVariables false
set_option linter.unusedSimpArgs false

structure ERes where
  mg : Int
  ep : Int
  sq : Int
  nx : Int
  bt : Int
  fl : Int
  D : List Int
  l : List Int
  bad : Bool
def eyeF (q : List Int) : ERes :=
  let a := eByte q false
  let b := eFix 2 a.2.1 a.2.2
  let c := eFix 2 b.2.1 b.2.2
  let d := eFix 2 c.2.1 c.2.2
  let e := eFix 4 d.2.1 d.2.2
  let f := eByte e.2.1 e.2.2
  let g := eBlob 64 f.2.1 f.2.2
  ⟨a.1, b.1, c.1, d.1, e.1, f.1, g.1, g.2.1, g.2.2⟩
def b1F (fl : Int) : Bool := decide (fl % 2 = 1)
def b2F (fl : Int) : Bool := decide (fl / 2 % 2 = 1)
def b4F (fl : Int) : Bool := decide (fl / 4 % 2 = 1)
structure FRes where
  err : Int
  ep : Int
  sq : Int
  nx : Int
  bt : Int
  fi : Bool
  la : Bool
  al : Bool
  D : List Int
def badF (e : Int) : FRes := ⟨e, 0, 0, 0, 0, false, false, false, []⟩
def ERes.good (x : ERes) (p : List Int) : Bool :=
  decide (¬ (x.bad = true ∨ 0 < x.l.length)) && (decide (x.mg = 86) && (rightF x.sq x.D.length (b1F x.fl) (b2F x.fl) (b4F x.fl) && decide (fBytes x.ep.toNat x.sq.toNat x.nx.toNat x.bt.toNat (b1F x.fl) (b2F x.fl) (b4F x.fl) x.D = p)))
def sealedB (p : List Int) : Bool := decide (p.drop (p.length - 4) = tailL (sumN tab (p.take (p.length - 4))))
def parseF (p : List Int) : FRes :=
  if p.length < 4 then badF 2 else if sealedB p = false then badF 5 else
    let x := eyeF (p.take (p.length - 4))
    if x.good p = true then ⟨0, x.ep, x.sq, x.nx, x.bt, b1F x.fl, b2F x.fl, b4F x.fl, x.D⟩ else badF 2
theorem flags_b (fi la al : Bool) : b1F (flagsF fi la al) = fi ∧ b2F (flagsF fi la al) = la ∧ b4F (flagsF fi la al) = al := by
  cases fi <;> cases la <;> cases al <;> decide
theorem fix_low (k x : Nat) (l : List Int) (hx : x < 256 ^ k) : eFix k (lowN x k ++ l) false = ((x : Int), l, false) := by
  rw [eFix_good (by rw [List.length_append, lowN_length]; omega), List.take_left' (lowN_length _ _), List.drop_left' (lowN_length _ _), leN_low k x hx]
theorem byte_cons (x : Int) (l : List Int) : eByte (x :: l) false = (x, l, false) := by
  rw [eByte_good (by simp)]; rfl
theorem numR_byte (n : Nat) (hn : n < 128) (l : List Int) : numR 0 0 ((n : Int) :: l) = some (n, l) := by
  unfold numR
  rw [if_neg (by rintro (h | h | h) <;> omega), if_pos (by omega)]
  simp; omega
theorem blob_low (n : Nat) (D l : List Int) (hn : D.length = n) (h64 : n ≤ 64) : eBlob 64 ((n : Int) :: (D ++ l)) false = (D, l, false) := by
  have e : eNum 64 ((n : Int) :: (D ++ l)) false = ((n : Int), D ++ l, false) := by
    unfold eNum numB
    rw [if_neg (by decide), numR_byte n (by omega)]
    show (if 64 < n then _ else _ : Int × List Int × Bool) = _
    rw [if_neg (by omega)]
  unfold eBlob
  rw [e]
  show (if false = true ∨ (D ++ l).length < ((n : Int)).toNat then _ else _ : List Int × List Int × Bool) = _
  rw [if_neg (by rw [List.length_append, Int.toNat_natCast]; rintro (h | h); cases h; omega), Int.toNat_natCast, List.take_left' hn, List.drop_left' hn]
theorem eyeF_body (ep sq nx bt : Nat) (fi la al : Bool) (D : List Int) (he : ep < 65536 ∧ sq < 65536 ∧ nx < 65536 ∧ bt < 4294967296) (hD : D.length ≤ 64) :
    eyeF (fBody ep sq nx bt fi la al D) = ⟨86, ep, sq, nx, bt, flagsF fi la al, D, [], false⟩ := by
  have h : fBody ep sq nx bt fi la al D = 86 :: (lowN ep 2 ++ (lowN sq 2 ++ (lowN nx 2 ++ (lowN bt 4 ++ (flagsF fi la al :: ((D.length : Int) :: (D ++ []))))))) := by
    unfold fBody fHead; simp
  unfold eyeF
  rw [h]
  simp only [byte_cons, fix_low 2 ep _ (by omega), fix_low 2 sq _ (by omega), fix_low 2 nx _ (by omega), fix_low 4 bt _ (by omega), blob_low D.length D [] rfl hD]
theorem sealL_len (l : List Int) : (sealL l).length = l.length + 4 := by unfold sealL; rw [List.length_append]; rfl
theorem sealL_take (l : List Int) : (sealL l).take ((sealL l).length - 4) = l := by
  rw [sealL_len, Nat.add_sub_cancel]; unfold sealL; exact List.take_left' rfl
theorem sealL_sealed (l : List Int) : sealedB (sealL l) = true := by
  unfold sealedB
  rw [sealL_take, sealL_len, Nat.add_sub_cancel]
  unfold sealL
  rw [List.drop_left' rfl]
  exact decide_eq_true rfl
theorem fBody_len (ep sq nx bt : Nat) (fi la al : Bool) (D : List Int) : (fBody ep sq nx bt fi la al D).length = 13 + D.length := by
  unfold fBody; rw [List.length_append, fHead_len]
theorem tailL_bytes (n : Nat) (h : n < 4294967296) : Bytes (tailL n) := by
  unfold tailL
  intro b hb
  simp only [List.mem_cons, List.not_mem_nil, or_false] at hb
  omega
theorem sumN_lt {l : List Int} : sumN tab l < 4294967296 := by unfold sumN; omega
theorem fBytes_bytes (ep sq nx bt : Nat) (fi la al : Bool) (D : List Int) (hD : Bytes D) : Bytes (fBytes ep sq nx bt fi la al D) := by
  unfold fBytes
  split
  · rename_i hr
    unfold sealL fBody
    exact ((fHead_bytes _ _ _ _ _ _ _ _ (by have := rightF_le hr; omega)).append hD).append (tailL_bytes _ sumN_lt)
  · exact Bytes.nil
theorem parseF_back (ep sq nx bt : Nat) (fi la al : Bool) (D : List Int) (he : ep < 65536 ∧ sq < 65536 ∧ nx < 65536 ∧ bt < 4294967296) (hr : rightF sq D.length fi la al = true) :
    parseF (fBytes ep sq nx bt fi la al D) = ⟨0, ep, sq, nx, bt, fi, la, al, D⟩ := by
  have hb : fBytes ep sq nx bt fi la al D = sealL (fBody ep sq nx bt fi la al D) := by unfold fBytes; rw [if_pos hr]
  obtain ⟨f1, f2, f3⟩ := flags_b fi la al
  unfold parseF
  rw [if_neg (by rw [hb, sealL_len]; omega), if_neg (by rw [hb, sealL_sealed]; decide)]
  have hx : eyeF ((fBytes ep sq nx bt fi la al D).take ((fBytes ep sq nx bt fi la al D).length - 4)) = ⟨86, ep, sq, nx, bt, flagsF fi la al, D, [], false⟩ := by
    rw [hb, sealL_take, eyeF_body ep sq nx bt fi la al D he (rightF_le hr)]
  rw [hx]
  simp only [f1, f2, f3]
  rw [if_pos]
  unfold ERes.good
  simp only [f1, f2, f3, hr, Int.toNat_natCast]
  simp
theorem eFix_lt {l : List Int} {bad : Bool} (k : Nat) (h : Bytes l) : 0 ≤ (eFix k l bad).1 ∧ (eFix k l bad).1 < 256 ^ k := by
  unfold eFix
  split
  · exact ⟨Int.le_refl _, Int.pow_pos (by decide)⟩
  · have h1 := leN_bd (h.take k)
    have h2 : (l.take k).length ≤ k := List.length_take_le _ _
    have h3 : (256 : Int) ^ (l.take k).length ≤ 256 ^ k := by
      have := Int.ofNat_le.2 (Nat.pow_le_pow_right (n := 256) (by decide) h2)
      rwa [Int.natCast_pow, Int.natCast_pow] at this
    exact ⟨h1.1, by omega⟩
end Go.Proofs.Yticpjidcgaaldaa

namespace Go.Proofs.Yticpjidcgaaldaa
open Go.RowKit Go.Proofs.YticpjidcgaaldaaW.PrintWords Go.Proofs.YticpjidcgaaldaaW.PrintLast Go.Proofs.YticpjidcgaaldaaW.PrintMore
set_option linter.unusedVariables false
set_option linter.unusedSimpArgs false

def mSay (k t m tk hs : Int) (P : List Int) (C : List S59) : List Int :=
  if k = 2 then [k] ++ lowN t.toNat 4 ++ lowN m.toNat 4 else if k = 5 ∨ k = 6 then [k] ++ pbD tk.toNat hs.toNat P C else [k]
def mBytes (k t m tk hs : Int) (P : List Int) (C : List S59) : List Int := if rightM k t m tk hs P C = true then mSay k t m tk hs P C else []

set_option maxRecDepth 100000 in
set_option maxHeartbeats 16000000 in
theorem mbytes_any (k t m tk hs : Int) (P : List Int) (C : List S59) (v : Value) (w00 : World) (hv : MsC w00 k t m tk hs P C v) (hk : OkM k t m tk hs P C) :
    Calls Try.prog 13 #[v] w00 fun e w' => ∃ v', e = .returned v' ∧ (Kd.int .u8).R 5 w' w00.heap.size (fun _ => True) v' (mBytes k t m tk hs P C) ∧ Below w00.heap.size w00 w' := by
  have KR := Aside0.mk (fun (z : World) (h : Below w00.heap.size w00 z) => mright_any k t m tk hs P C v z (hv.below h) hk)
  obtain ⟨A, c, A2, c2, rfl, h2, h3, h4, h5⟩ := hv
  have HOK := Aside0.mk hk
  have HD : Aside0 (∀ z, Below w00.heap.size w00 z → DvC z tk hs P C (.agg #[.int .u32 tk, .int .u32 hs, .slice A P.length c, .slice A2 C.length c2])) := ⟨fun z hz => ⟨A, c, A2, c2, rfl, h2, h3, Kd.C_below h4 hz, Kd.C_below h5 hz⟩⟩
  obtain ⟨n, hn⟩ : ∃ n, P.length = n := ⟨_, rfl⟩
  obtain ⟨nc, hnc⟩ : ∃ nc, C.length = nc := ⟨_, rfl⟩
  rw [hn, hnc] at HD KR
  rw [hn, hnc]
  obtain ⟨B, hB⟩ : ∃ B, w00.heap.size = B := ⟨_, rfl⟩
  rw [hB] at HD KR
  have HB := Aside0.mk hB
  have H0 := Aside0.mk ((Hp.start w00).allocAt (.cells #[.int .u8 k, .int .u32 t, .int .u32 m, .int .u32 tk, .int .u32 hs, .slice A n c, .slice A2 nc c2] 28) B hB)
  rw [hB] at H0
  obtain ⟨tn, htn⟩ : ∃ x : Nat, t = (x : Int) := ⟨t.toNat, by have := HOK.out.2.1; omega⟩
  obtain ⟨mn, hmn⟩ : ∃ x : Nat, m = (x : Int) := ⟨m.toNat, by have := HOK.out.2.2.1; omega⟩
  obtain ⟨tkn, htk⟩ : ∃ x : Nat, tk = (x : Int) := ⟨tk.toNat, by have := HOK.out.2.2.2.1; omega⟩
  obtain ⟨hsn, hhs⟩ : ∃ x : Nat, hs = (x : Int) := ⟨hs.toNat, by have := HOK.out.2.2.2.2.1; omega⟩
  have HTN : Aside0 (t = tn ∧ m = mn ∧ tn < 4294967296 ∧ mn < 4294967296) := ⟨htn, hmn, by have := HOK.out.2.1; omega, by have := HOK.out.2.2.1; omega⟩
  have KB := Aside0.mk (fun (z : World) (h : Below B w00 z) => pbytes7_any tkn hsn P C _ z (by rw [← htk, ← hhs]; exact HD.out z h) HOK.out.2.2.2.2.2.1 (by have := HOK.out.2.2.2.2.2.2.2.1; omega) (by have := HOK.out.2.2.2.1; omega) (by have := HOK.out.2.2.2.2.1; omega) (fun y hy => (HOK.out.2.2.2.2.2.2.1 y hy).2))
  have HPN := Aside0.mk hn
  obtain ⟨pb, hpb⟩ : ∃ pb, pbD tkn hsn P C = pb := ⟨_, rfl⟩
  rw [hpb] at KB
  have HPL : Aside0 (pb.length ≤ 9009) := ⟨by rw [← hpb]; have := pbD_le tkn hsn P C; have := HOK.out.2.2.2.2.2.2.2.1; omega⟩
  obtain ⟨mb, hmb⟩ : ∃ mb, mBytes k t m tk hs P C = mb := ⟨_, rfl⟩
  rw [hmb]
  obtain ⟨ρ, hρ⟩ : ∃ ρ, rightM k t m tk hs P C = ρ := ⟨_, rfl⟩
  have HMB : Aside0 (mb = if ρ = true then (if k = 2 then [k] ++ lowN tn 4 ++ lowN mn 4 else if k = 5 ∨ k = 6 then [k] ++ pb else [k]) else []) := ⟨by
    rw [← hmb, ← hρ, ← hpb]
    unfold mBytes mSay
    rw [show t.toNat = tn by omega, show m.toNat = mn by omega, show tk.toNat = tkn by omega, show hs.toNat = hsn by omega]⟩
  rw [hρ] at KR
  clear hk h2 h3 h4 h5 hn hnc htk hhs hpb hmb hρ htn hmn
  go_enter Try.func13, Try.ntmps13
  go_wp2_with (first | (refine wpList_load_row_g 28 (.tmp 1) rfl B rfl rfl 28 _ (0, 0) _ (H0.out.get (i := 0) rfl) Try.underlying28 rfl (msg_info _ _ _ _ _ _ _) ?_))
  refine (KR.out _ H0.out.bel).mono ?_
  rintro e V0 ⟨rfl, hb1⟩
  have H1 := Aside0.mk (H0.out.call hb1)
  clear hb1 H0 KR
  cases ρ with
  | false =>
    have HE : Aside0 (mb = []) := ⟨by rw [HMB.out]; rfl⟩
    clear HMB
    go_wp2_with fail
    go_ret
    rw [HE.out, HB.out]
    exact ⟨_, rfl, Kd.R_nil _ _ _ _ _, H1.out.bel⟩
  | true =>
    rw [if_pos rfl] at HMB
    obtain ⟨gp, hgp⟩ : ∃ gp, V0.heap.size = gp := ⟨_, rfl⟩
    have GD : Aside0 (B < gp) := ⟨by rw [← hgp]; exact H1.out.lt (i := 0) rfl⟩
    have hP0 : Pn (V0.alloc (.cells #[.slice none 0 0] 91)) gp gp [] (.slice none 0 0) := ⟨by rw [← hgp]; exact blk_new _ _, Kd.R_nil _ _ _ _ _⟩
    have HP0 := Aside0.mk hP0
    have HB0 : Aside0 (Below gp V0 (V0.alloc (.cells #[.slice none 0 0] 91))) := ⟨by rw [← hgp]; exact below_alloc (Below.refl _ _) _⟩
    have HG0 := Aside0.mk (H1.out.get (i := 0) rfl)
    have HW0 : Aside0 (∀ z, Below gp V0 z → Below B w00 z) := ⟨fun z hz => H1.out.bel.trans (hz.mono (Nat.le_of_lt GD.out))⟩
    clear hP0 H1
    have c0 : ∀ z, Below gp V0 z → z.cell? ⟨B, 0, none⟩ = some (.int .u8 k) := fun z hz => blk_cell ((hz.block B GD.out).trans HG0.out) 0
    have c1 : ∀ z, Below gp V0 z → z.cell? ⟨B, 1, none⟩ = some (.int .u32 t) := fun z hz => blk_cell ((hz.block B GD.out).trans HG0.out) 1
    have c2' : ∀ z, Below gp V0 z → z.cell? ⟨B, 2, none⟩ = some (.int .u32 m) := fun z hz => blk_cell ((hz.block B GD.out).trans HG0.out) 2
    have c3 : ∀ z, Below gp V0 z → z.cell? ⟨B, 3, none⟩ = some (.int .u32 tk) := fun z hz => blk_cell ((hz.block B GD.out).trans HG0.out) 3
    have c4 : ∀ z, Below gp V0 z → z.cell? ⟨B, 4, none⟩ = some (.int .u32 hs) := fun z hz => blk_cell ((hz.block B GD.out).trans HG0.out) 4
    have c5 : ∀ z, Below gp V0 z → z.cell? ⟨B, 5, none⟩ = some (.slice A n c) := fun z hz => blk_cell ((hz.block B GD.out).trans HG0.out) 5
    have c6 : ∀ z, Below gp V0 z → z.cell? ⟨B, 6, none⟩ = some (.slice A2 nc c2) := fun z hz => blk_cell ((hz.block B GD.out).trans HG0.out) 6
    have HCL := Aside0.mk (And.intro c0 (And.intro c1 (And.intro c2' (And.intro c3 (And.intro c4 (And.intro c5 c6))))))
    clear c0 c1 c2' c3 c4 c5 c6
    have HGP := Aside0.mk hgp
    clear hgp
    have c0 := HCL.out.1 _ HB0.out
    go_wp2_with fail
    clear c0
    rw [HGP.out]
    refine (pbyte_any gp gp [] _ k _ HP0.out (Nat.le_refl _) (by simp)).mono ?_
    rintro e V1 ⟨v1, rfl, h1⟩
    have HP1 : Aside0 (Pn V1 gp gp [k] v1) := ⟨h1.1⟩
    have HB1 := Aside0.mk (HB0.out.trans h1.2.2.2)
    clear h1 HP0 HB0
    have c0 := HCL.out.1 _ HB1.out
    by_cases h2 : k = 2
    · subst h2
      have HE : Aside0 (mb = [2] ++ lowN tn 4 ++ lowN mn 4) := ⟨HMB.out⟩
      clear HMB
      go_wp2_with fail
      clear c0
      obtain ⟨e1, e2, HTN2, HTN3⟩ := HTN.out
      subst e1 e2
      refine regionS (W := V1)
        [fun _ v => v = .pointer (some ⟨B, 1, none⟩),
         fun _ v => v = .int .u32 tn,
         fun _ v => v = .pointer (some ⟨gp, 0, none⟩),
         fun _ v => v = .pointer (some ⟨B, 2, none⟩),
         fun _ v => v = .int .u32 mn,
         fun _ v => v = .pointer (some ⟨gp, 0, none⟩)]
        [2, 5]
        (fun t => match t with | 0 => fun (rs : List Value) (w : World) => ∃ v, Pn w gp gp [2] v | 1 => fun (rs : List Value) (w : World) => ∃ v, Pn w gp gp ([2] ++ lowN tn 4) v | 2 => fun (rs : List Value) (w : World) => ∃ v, Pn w gp gp ([2] ++ lowN tn 4 ++ lowN mn 4) v | _ => fun _ _ => False)
        (fun _ _ _ => True) (fun w => Below gp V0 w ∧ gp ≤ w.heap.size)
        (fun j =>  none)
        [(0, some 14), (1, some 15), (2, some 16), (3, some 17), (4, some 18), (5, some 19)]
        []
        (by kernel_rfl) (by kernel_rfl) (by kernel_rfl) (by kernel_rfl) (by kernel_rfl) ?z7_1c ?z7_1i ?z7_1b ?z7_1d ?z7_1g ⟨?z7_1t0, ?z7_1t1, ?z7_1t2, ?z7_1t3, ?z7_1t4, ?z7_1t5, trivial⟩ ⟨?z7_1o0, ?z7_1o1, ?z7_1o2, ?z7_1o3, ?z7_1o4, ?z7_1o5, trivial⟩ ?z7_1e
      case z7_1c => exact ⟨HB1.out.trans (below_drew (Below.refl _ _)), Nat.le_of_lt (blk_lt HP1.out.1)⟩
      case z7_1i => exact ⟨_, HP1.out⟩
      case z7_1b => intro w w' hb h; exact ⟨h.1.trans (hb.mono h.2), Nat.le_trans h.2 hb.size⟩
      case z7_1d =>
        intro t rs w w' hb h
        match t, h with
        | 0, h => (replace h : ∃ v, Pn w gp gp [2] v := h); show ∃ v, Pn w' gp gp [2] v; (obtain ⟨v, h⟩ := h; exact ⟨v, h.below hb⟩)
        | 1, h => (replace h : ∃ v, Pn w gp gp ([2] ++ lowN tn 4) v := h); show ∃ v, Pn w' gp gp ([2] ++ lowN tn 4) v; (obtain ⟨v, h⟩ := h; exact ⟨v, h.below hb⟩)
        | 2, h => (replace h : ∃ v, Pn w gp gp ([2] ++ lowN tn 4 ++ lowN mn 4) v := h); show ∃ v, Pn w' gp gp ([2] ++ lowN tn 4 ++ lowN mn 4) v; (obtain ⟨v, h⟩ := h; exact ⟨v, h.below hb⟩)
        | _ + 3, h => exact h.elim
      case z7_1g =>
        intro j hj; cases hj
      case z7_1t0 => exact StabS.const _ _ _ _
      case z7_1t1 => exact StabS.const _ _ _ _
      case z7_1t2 => exact StabS.const _ _ _ _
      case z7_1t3 => exact StabS.const _ _ _ _
      case z7_1t4 => exact StabS.const _ _ _ _
      case z7_1t5 => exact StabS.const _ _ _ _
      case z7_1o0 =>
        intro vs w t hC ht1 ht2 hS hV
        rw [if_pos (by kernel_rfl)]
        generalize hρ : rho _ _ _ vs = ρ
        have e1 : ρ (.tmp 1) = .pointer (some ⟨B, 0, none⟩) := by rw [← hρ]; kernel_rfl
        clear hρ hV
        refine runs_val (v := .pointer (some ⟨B, 1, none⟩)) (w' := w) ?_ ⟨Below.refl _ _, rfl⟩
        clear ht1 ht2 hS hC
        go_simp <;> (first | exact IntWalk.u64_in _ (by omega) | exact IntWalk.u32_in _ (by omega) | exact IntWalk.u16_in _ (by omega) | exact IntWalk.u8_in _ (by omega) | exact IntWalk.i64_in _ (by omega) | skip)
      case z7_1o1 =>
        intro vs w t hC ht1 ht2 hS hV
        rw [if_pos (by kernel_rfl)]
        generalize hρ : rho _ _ _ vs = ρ
        have d14 : (vs 0) = .pointer (some ⟨B, 1, none⟩) := hV 0 (by kernel_rfl)
        have e14 : ρ (.tmp 14) = vs 0 := by rw [← hρ]; kernel_rfl
        rw [d14] at e14; clear d14
        clear hρ hV
        have c0 := HCL.out.2.1 w hC.1
        refine runs_val (v := .int .u32 tn) (w' := w) ?_ ⟨Below.refl _ _, rfl⟩
        clear ht1 ht2 hS hC
        go_simp
      case z7_1o2 =>
        intro vs w hC hS hV
        replace hS : ∃ v, Pn w gp gp [2] v := hS
        rw [if_pos (by kernel_rfl)]
        generalize hρ : rho _ _ _ vs = ρ
        have e3 : ρ (.tmp 3) = .pointer (some ⟨gp, 0, none⟩) := by rw [← hρ]; kernel_rfl
        have d15 : (vs 1) = .int .u32 tn := hV 1 (by kernel_rfl)
        have e15 : ρ (.tmp 15) = vs 1 := by rw [← hρ]; kernel_rfl
        rw [d15] at e15; clear d15
        have ef39 : ρ (.func 39) = .func (.func 39) #[] #[] := by rw [← hρ]; rfl
        clear hρ hV
        obtain ⟨v, hp⟩ := hS
        refine runs_call (f := 39) (args := #[.pointer (some ⟨gp, 0, none⟩), .int .u32 tn]) (w' := w) ?_ ?_
        · go_simp
        · refine (pword_any gp gp [2] v tn HTN2 w hp (Nat.le_refl _) (by simp)).mono ?_
          rintro e w5 ⟨v', rfl, h⟩
          exact ⟨_, rfl, ⟨hC.1.trans h.2.2.2, Nat.le_trans hC.2 h.2.1.1⟩, trivial, rfl, ⟨v', h.1⟩⟩
      case z7_1o3 =>
        intro vs w t hC ht1 ht2 hS hV
        rw [if_pos (by kernel_rfl)]
        generalize hρ : rho _ _ _ vs = ρ
        have e1 : ρ (.tmp 1) = .pointer (some ⟨B, 0, none⟩) := by rw [← hρ]; kernel_rfl
        clear hρ hV
        refine runs_val (v := .pointer (some ⟨B, 2, none⟩)) (w' := w) ?_ ⟨Below.refl _ _, rfl⟩
        clear ht1 ht2 hS hC
        go_simp <;> (first | exact IntWalk.u64_in _ (by omega) | exact IntWalk.u32_in _ (by omega) | exact IntWalk.u16_in _ (by omega) | exact IntWalk.u8_in _ (by omega) | exact IntWalk.i64_in _ (by omega) | skip)
      case z7_1o4 =>
        intro vs w t hC ht1 ht2 hS hV
        rw [if_pos (by kernel_rfl)]
        generalize hρ : rho _ _ _ vs = ρ
        have d17 : (vs 3) = .pointer (some ⟨B, 2, none⟩) := hV 3 (by kernel_rfl)
        have e17 : ρ (.tmp 17) = vs 3 := by rw [← hρ]; kernel_rfl
        rw [d17] at e17; clear d17
        clear hρ hV
        have c0 := HCL.out.2.2.1 w hC.1
        refine runs_val (v := .int .u32 mn) (w' := w) ?_ ⟨Below.refl _ _, rfl⟩
        clear ht1 ht2 hS hC
        go_simp
      case z7_1o5 =>
        intro vs w hC hS hV
        replace hS : ∃ v, Pn w gp gp ([2] ++ lowN tn 4) v := hS
        rw [if_pos (by kernel_rfl)]
        generalize hρ : rho _ _ _ vs = ρ
        have d16 : (vs 2) = .pointer (some ⟨gp, 0, none⟩) := hV 2 (by kernel_rfl)
        have e16 : ρ (.tmp 16) = vs 2 := by rw [← hρ]; kernel_rfl
        rw [d16] at e16; clear d16
        have d18 : (vs 4) = .int .u32 mn := hV 4 (by kernel_rfl)
        have e18 : ρ (.tmp 18) = vs 4 := by rw [← hρ]; kernel_rfl
        rw [d18] at e18; clear d18
        have ef39 : ρ (.func 39) = .func (.func 39) #[] #[] := by rw [← hρ]; rfl
        clear hρ hV
        obtain ⟨v, hp⟩ := hS
        refine runs_call (f := 39) (args := #[.pointer (some ⟨gp, 0, none⟩), .int .u32 mn]) (w' := w) ?_ ?_
        · go_simp
        · refine (pword_any gp gp ([2] ++ lowN tn 4) v mn HTN3 w hp (Nat.le_refl _) (by rw [List.length_append, lowN_length]; simp)).mono ?_
          rintro e w5 ⟨v', rfl, h⟩
          exact ⟨_, rfl, ⟨hC.1.trans h.2.2.2, Nat.le_trans hC.2 h.2.1.1⟩, trivial, rfl, ⟨v', h.1⟩⟩
      case z7_1e =>
        intro vs V2 hC hS hV
        replace hS : (fun (w : World) => ∃ v, Pn w gp gp ([2] ++ lowN tn 4 ++ lowN mn 4) v) V2 := hS
        have d14 : (vs 0) = .pointer (some ⟨B, 1, none⟩) := hV 0 (Nat.le_of_ble_eq_true rfl)
        have d15 : (vs 1) = .int .u32 tn := hV 1 (Nat.le_of_ble_eq_true rfl)
        have d16 : (vs 2) = .pointer (some ⟨gp, 0, none⟩) := hV 2 (Nat.le_of_ble_eq_true rfl)
        have d17 : (vs 3) = .pointer (some ⟨B, 2, none⟩) := hV 3 (Nat.le_of_ble_eq_true rfl)
        have d18 : (vs 4) = .int .u32 mn := hV 4 (Nat.le_of_ble_eq_true rfl)
        have d19 : (vs 5) = .pointer (some ⟨gp, 0, none⟩) := hV 5 (Nat.le_of_ble_eq_true rfl)
        clear hV
        simp only [putAll]
        rw [d14, d15, d16, d17, d18, d19]
        clear d14 d15 d16 d17 d18 d19
        clear vs
        simp only [Act.put, List.setIfInBounds_toArray, List.set_cons_zero, List.set_cons_succ]
        obtain ⟨v2, hp2⟩ := hS
        have HP2 := Aside0.mk hp2
        have HB2 := Aside0.mk hC.1
        clear hp2 hC
        go_wp2_with fail
        refine (pbytes_any gp gp ([2] ++ lowN tn 4 ++ lowN mn 4) v2 V2 HP2.out (by simp [lowN_length])).mono ?_
        rintro e V9 ⟨v9, rfl, hr9, hb9⟩
        have HR9 := Aside0.mk (Kd.R_lower hr9 (Nat.le_trans (Nat.le_of_lt GD.out) (Nat.le_of_lt (blk_lt HP2.out.1))))
        have HB9 := Aside0.mk (HW0.out _ (HB2.out.trans (hb9.mono (Nat.le_of_lt (blk_lt HP2.out.1)))))
        clear hr9 hb9
        go_wp2_with fail
        go_ret
        rw [HB.out, HE.out]
        exact ⟨_, rfl, HR9.out, HB9.out⟩
    · skip
      by_cases h5 : k = 5
      · subst h5
        have HE : Aside0 (mb = [5] ++ pb) := ⟨HMB.out⟩
        clear HMB
        go_wp2_with fail
        clear c0
        refine regionS (W := V1)
          [fun _ _ => True,
           fun _ v => v = .pointer (some ⟨B, 3, none⟩),
           fun _ v => v = .agg #[.int .u32 tk, .int .u32 hs, .slice A n c, .slice A2 nc c2],
           fun _ _ => True,
           fun _ _ => True,
           fun _ _ => True]
          [0, 3, 4, 5]
          (fun t => match t with | 0 => fun (rs : List Value) (w : World) => ∃ v, Pn w gp gp [5] v | 1 => fun (rs : List Value) (w : World) => (Kd.int .u8).R 5 w gp (fun _ => True) (rs.getD 0 undef) [5] | 2 => fun (rs : List Value) (w : World) => (Kd.int .u8).R 5 w gp (fun _ => True) (rs.getD 0 undef) [5] ∧ (Kd.int .u8).R 5 w gp (fun _ => True) (rs.getD 1 undef) pb | 3 => fun (rs : List Value) (w : World) => (Kd.int .u8).R 5 w gp (fun _ => True) (rs.getD 2 undef) ([5] ++ pb) | 4 => fun (rs : List Value) (w : World) => (Kd.int .u8).R 5 w gp (fun _ => True) (rs.getD 3 undef) ([5] ++ pb) | _ => fun _ _ => False)
          (fun _ _ _ => True) (fun w => Below gp V0 w ∧ gp ≤ w.heap.size)
          (fun j =>  none)
          [(0, some 23), (1, some 24), (2, some 25), (3, some 26), (4, some 27), (5, some 2)]
          []
          (by kernel_rfl) (by kernel_rfl) (by kernel_rfl) (by kernel_rfl) (by kernel_rfl) ?z10_2c ?z10_2i ?z10_2b ?z10_2d ?z10_2g ⟨?z10_2t0, ?z10_2t1, ?z10_2t2, ?z10_2t3, ?z10_2t4, ?z10_2t5, trivial⟩ ⟨?z10_2o0, ?z10_2o1, ?z10_2o2, ?z10_2o3, ?z10_2o4, ?z10_2o5, trivial⟩ ?z10_2e
        case z10_2c => exact ⟨HB1.out.trans (below_drew (Below.refl _ _)), Nat.le_of_lt (blk_lt HP1.out.1)⟩
        case z10_2i => exact ⟨_, HP1.out⟩
        case z10_2b => intro w w' hb h; exact ⟨h.1.trans (hb.mono h.2), Nat.le_trans h.2 hb.size⟩
        case z10_2d =>
          intro t rs w w' hb h
          match t, h with
          | 0, h => (replace h : ∃ v, Pn w gp gp [5] v := h); show ∃ v, Pn w' gp gp [5] v; first | exact Kd.R_below h hb | exact ⟨Kd.R_below h.1 hb, Kd.R_below h.2 hb⟩ | (obtain ⟨v, h⟩ := h; exact ⟨v, h.below hb⟩)
          | 1, h => (replace h : (Kd.int .u8).R 5 w gp (fun _ => True) (rs.getD 0 undef) [5] := h); show (Kd.int .u8).R 5 w' gp (fun _ => True) (rs.getD 0 undef) [5]; first | exact Kd.R_below h hb | exact ⟨Kd.R_below h.1 hb, Kd.R_below h.2 hb⟩ | (obtain ⟨v, h⟩ := h; exact ⟨v, h.below hb⟩)
          | 2, h => (replace h : (Kd.int .u8).R 5 w gp (fun _ => True) (rs.getD 0 undef) [5] ∧ (Kd.int .u8).R 5 w gp (fun _ => True) (rs.getD 1 undef) pb := h); show (Kd.int .u8).R 5 w' gp (fun _ => True) (rs.getD 0 undef) [5] ∧ (Kd.int .u8).R 5 w' gp (fun _ => True) (rs.getD 1 undef) pb; first | exact Kd.R_below h hb | exact ⟨Kd.R_below h.1 hb, Kd.R_below h.2 hb⟩ | (obtain ⟨v, h⟩ := h; exact ⟨v, h.below hb⟩)
          | 3, h => (replace h : (Kd.int .u8).R 5 w gp (fun _ => True) (rs.getD 2 undef) ([5] ++ pb) := h); show (Kd.int .u8).R 5 w' gp (fun _ => True) (rs.getD 2 undef) ([5] ++ pb); first | exact Kd.R_below h hb | exact ⟨Kd.R_below h.1 hb, Kd.R_below h.2 hb⟩ | (obtain ⟨v, h⟩ := h; exact ⟨v, h.below hb⟩)
          | 4, h => (replace h : (Kd.int .u8).R 5 w gp (fun _ => True) (rs.getD 3 undef) ([5] ++ pb) := h); show (Kd.int .u8).R 5 w' gp (fun _ => True) (rs.getD 3 undef) ([5] ++ pb); first | exact Kd.R_below h hb | exact ⟨Kd.R_below h.1 hb, Kd.R_below h.2 hb⟩ | (obtain ⟨v, h⟩ := h; exact ⟨v, h.below hb⟩)
          | _ + 5, h => exact h.elim
        case z10_2g =>
          intro j hj; cases hj
        case z10_2t0 => exact StabS.const _ _ _ _
        case z10_2t1 => exact StabS.const _ _ _ _
        case z10_2t2 => exact StabS.const _ _ _ _
        case z10_2t3 => exact StabS.const _ _ _ _
        case z10_2t4 => exact StabS.const _ _ _ _
        case z10_2t5 => exact StabS.const _ _ _ _
        case z10_2o0 =>
          intro vs w hC hS hV
          replace hS : ∃ v, Pn w gp gp [5] v := hS
          rw [if_pos (by kernel_rfl)]
          generalize hρ : rho _ _ _ vs = ρ
          have e3 : ρ (.tmp 3) = .pointer (some ⟨gp, 0, none⟩) := by rw [← hρ]; kernel_rfl
          have ef40 : ρ (.func 40) = .func (.func 40) #[] #[] := by rw [← hρ]; rfl
          clear hρ hV
          obtain ⟨v, hp⟩ := hS
          refine runs_call (f := 40) (args := #[.pointer (some ⟨gp, 0, none⟩)]) (w' := w) ?_ ?_
          · go_simp
          · refine (pbytes_any gp gp [5] v w hp (by simp)).mono ?_
            rintro e w5 ⟨v9, rfl, hr9, hb9⟩
            exact ⟨_, rfl, ⟨hC.1.trans (hb9.mono hC.2), Nat.le_trans hC.2 hb9.size⟩, trivial, trivial, Kd.R_lower hr9 hC.2⟩
        case z10_2o1 =>
          intro vs w t hC ht1 ht2 hS hV
          rw [if_pos (by kernel_rfl)]
          generalize hρ : rho _ _ _ vs = ρ
          have e1 : ρ (.tmp 1) = .pointer (some ⟨B, 0, none⟩) := by rw [← hρ]; kernel_rfl
          clear hρ hV
          refine runs_val (v := .pointer (some ⟨B, 3, none⟩)) (w' := w) ?_ ⟨Below.refl _ _, rfl⟩
          clear ht1 ht2 hS hC
          go_simp <;> (first | exact IntWalk.u64_in _ (by omega) | exact IntWalk.u32_in _ (by omega) | exact IntWalk.u16_in _ (by omega) | exact IntWalk.u8_in _ (by omega) | exact IntWalk.i64_in _ (by omega) | skip)
        case z10_2o2 =>
          intro vs w t hC ht1 ht2 hS hV
          rw [if_pos (by kernel_rfl)]
          generalize hρ : rho _ _ _ vs = ρ
          have d24 : (vs 1) = .pointer (some ⟨B, 3, none⟩) := hV 1 (by kernel_rfl)
          have e24 : ρ (.tmp 24) = vs 1 := by rw [← hρ]; kernel_rfl
          rw [d24] at e24; clear d24
          clear hρ hV
          have c3 := HCL.out.2.2.2.1 w hC.1
          have c4 := HCL.out.2.2.2.2.1 w hC.1
          have c5 := HCL.out.2.2.2.2.2.1 w hC.1
          have c6 := HCL.out.2.2.2.2.2.2 w hC.1
          refine runs_val (v := .agg #[.int .u32 tk, .int .u32 hs, .slice A n c, .slice A2 nc c2]) (w' := w) ?_ ⟨Below.refl _ _, rfl⟩
          clear ht1 ht2 hS hC
          go_simp
        case z10_2o3 =>
          intro vs w hC hS hV
          replace hS : (Kd.int .u8).R 5 w gp (fun _ => True) (vs 0) [5] := hS
          rw [if_pos (by kernel_rfl)]
          generalize hρ : rho _ _ _ vs = ρ
          have d25 : (vs 2) = .agg #[.int .u32 tk, .int .u32 hs, .slice A n c, .slice A2 nc c2] := hV 2 (by kernel_rfl)
          have e25 : ρ (.tmp 25) = vs 2 := by rw [← hρ]; kernel_rfl
          rw [d25] at e25; clear d25
          have ef41 : ρ (.func 41) = .func (.func 41) #[] #[] := by rw [← hρ]; rfl
          clear hρ hV
          refine runs_call (f := 41) (args := #[.agg #[.int .u32 tk, .int .u32 hs, .slice A n c, .slice A2 nc c2]]) (w' := w) ?_ ?_
          · go_simp
          · refine (KB.out w (HW0.out w hC.1)).mono ?_
            rintro e w5 ⟨v9, rfl, hr9, hb9⟩
            exact ⟨_, rfl, ⟨hC.1.trans (hb9.mono hC.2), Nat.le_trans hC.2 hb9.size⟩, trivial, trivial, Kd.R_below hS hb9, Kd.R_lower hr9 hC.2⟩
        case z10_2o4 =>
          intro vs w hC hS hV
          replace hS : (Kd.int .u8).R 5 w gp (fun _ => True) (vs 0) [5] ∧ (Kd.int .u8).R 5 w gp (fun _ => True) (vs 3) pb := hS
          rw [if_pos (by kernel_rfl)]
          generalize hρ : rho _ _ _ vs = ρ
          have d23 : (fun (w : World) (v : Value) => True) w (vs 0) := hV 0 (by kernel_rfl)
          have e23 : ρ (.tmp 23) = vs 0 := by rw [← hρ]; kernel_rfl
          have d26 : (fun (w : World) (v : Value) => True) w (vs 3) := hV 3 (by kernel_rfl)
          have e26 : ρ (.tmp 26) = vs 3 := by rw [← hρ]; kernel_rfl
          clear hρ hV
          obtain ⟨A5, c5, h5, l5, q5⟩ := Kd.R_reads hS.2
          rw [h5] at e26
          refine runs_append (Kd.int .u8) (Rr := fun x cs => cs = [.int .u8 x]) gp 23 26 23 5 (.int .u8 0) 1 rfl Try.underlying23 np_info rfl (by decide) (by decide) (vs 0) [5] pb A5 pb.length c5 (fun _ => True) (fun _ => False) e23 e26 hS.1 q5 (fun _ _ h => h) (fun _ h => h.elim) (fun _ _ => trivial) hC.2 (by have := HPL.out; simp; omega) ?_
          intro v1 w1 h1 hg1 hat
          exact ⟨⟨hC.1.trans ((Below.refl gp w).grown hg1 hC.2 (fun j hj => Kd.R_base hS.1 j hj)), Nat.le_trans hC.2 hg1.size⟩, trivial, trivial, h1⟩
        case z10_2o5 =>
          intro vs w hC hS hV
          replace hS : (Kd.int .u8).R 5 w gp (fun _ => True) (vs 4) ([5] ++ pb) := hS
          rw [if_pos (by kernel_rfl)]
          generalize hρ : rho _ _ _ vs = ρ
          have d27 : (fun (w : World) (v : Value) => True) w (vs 4) := hV 4 (by kernel_rfl)
          have e27 : ρ (.tmp 27) = vs 4 := by rw [← hρ]; kernel_rfl
          clear hρ hV
          refine runs_val (v := vs 4) (w' := w) ?_ ⟨hC, trivial, trivial, hS⟩
          clear hS hC
          go_simp
        case z10_2e =>
          intro vs V2 hC hS hV
          replace hS : (fun (w : World) => (Kd.int .u8).R 5 w gp (fun _ => True) (vs 5) ([5] ++ pb)) V2 := hS
          have d23 : (fun (w : World) (v : Value) => True) V2 (vs 0) := hV 0 (Nat.le_of_ble_eq_true rfl)
          have d24 : (vs 1) = .pointer (some ⟨B, 3, none⟩) := hV 1 (Nat.le_of_ble_eq_true rfl)
          have d25 : (vs 2) = .agg #[.int .u32 tk, .int .u32 hs, .slice A n c, .slice A2 nc c2] := hV 2 (Nat.le_of_ble_eq_true rfl)
          have d26 : (fun (w : World) (v : Value) => True) V2 (vs 3) := hV 3 (Nat.le_of_ble_eq_true rfl)
          have d27 : (fun (w : World) (v : Value) => True) V2 (vs 4) := hV 4 (Nat.le_of_ble_eq_true rfl)
          have d2 : (fun (w : World) (v : Value) => True) V2 (vs 5) := hV 5 (Nat.le_of_ble_eq_true rfl)
          clear hV
          simp only [putAll]
          rw [d24, d25]
          clear d24 d25
          generalize vs 0 = v23 at *
          generalize vs 3 = v26 at *
          generalize vs 4 = v27 at *
          generalize vs 5 = v2 at *
          clear vs
          simp only [Act.put, List.setIfInBounds_toArray, List.set_cons_zero, List.set_cons_succ]
          have HR2 := Aside0.mk (Kd.R_lower hS (Nat.le_of_lt GD.out))
          have HB2 := Aside0.mk (HW0.out _ hC.1)
          clear hS hC
          go_wp2_with fail
          go_ret
          rw [HB.out, HE.out]
          exact ⟨_, rfl, HR2.out, HB2.out⟩
      · skip
        by_cases h6 : k = 6
        · subst h6
          have HE : Aside0 (mb = [6] ++ pb) := ⟨HMB.out⟩
          clear HMB
          go_wp2_with fail
          clear c0
          refine regionS (W := V1)
            [fun _ _ => True,
             fun _ v => v = .pointer (some ⟨B, 3, none⟩),
             fun _ v => v = .agg #[.int .u32 tk, .int .u32 hs, .slice A n c, .slice A2 nc c2],
             fun _ _ => True,
             fun _ _ => True,
             fun _ _ => True]
            [0, 3, 4, 5]
            (fun t => match t with | 0 => fun (rs : List Value) (w : World) => ∃ v, Pn w gp gp [6] v | 1 => fun (rs : List Value) (w : World) => (Kd.int .u8).R 5 w gp (fun _ => True) (rs.getD 0 undef) [6] | 2 => fun (rs : List Value) (w : World) => (Kd.int .u8).R 5 w gp (fun _ => True) (rs.getD 0 undef) [6] ∧ (Kd.int .u8).R 5 w gp (fun _ => True) (rs.getD 1 undef) pb | 3 => fun (rs : List Value) (w : World) => (Kd.int .u8).R 5 w gp (fun _ => True) (rs.getD 2 undef) ([6] ++ pb) | 4 => fun (rs : List Value) (w : World) => (Kd.int .u8).R 5 w gp (fun _ => True) (rs.getD 3 undef) ([6] ++ pb) | _ => fun _ _ => False)
            (fun _ _ _ => True) (fun w => Below gp V0 w ∧ gp ≤ w.heap.size)
            (fun j =>  none)
            [(0, some 23), (1, some 24), (2, some 25), (3, some 26), (4, some 27), (5, some 2)]
            []
            (by kernel_rfl) (by kernel_rfl) (by kernel_rfl) (by kernel_rfl) (by kernel_rfl) ?z10_3c ?z10_3i ?z10_3b ?z10_3d ?z10_3g ⟨?z10_3t0, ?z10_3t1, ?z10_3t2, ?z10_3t3, ?z10_3t4, ?z10_3t5, trivial⟩ ⟨?z10_3o0, ?z10_3o1, ?z10_3o2, ?z10_3o3, ?z10_3o4, ?z10_3o5, trivial⟩ ?z10_3e
          case z10_3c => exact ⟨HB1.out.trans (below_drew (Below.refl _ _)), Nat.le_of_lt (blk_lt HP1.out.1)⟩
          case z10_3i => exact ⟨_, HP1.out⟩
          case z10_3b => intro w w' hb h; exact ⟨h.1.trans (hb.mono h.2), Nat.le_trans h.2 hb.size⟩
          case z10_3d =>
            intro t rs w w' hb h
            match t, h with
            | 0, h => (replace h : ∃ v, Pn w gp gp [6] v := h); show ∃ v, Pn w' gp gp [6] v; first | exact Kd.R_below h hb | exact ⟨Kd.R_below h.1 hb, Kd.R_below h.2 hb⟩ | (obtain ⟨v, h⟩ := h; exact ⟨v, h.below hb⟩)
            | 1, h => (replace h : (Kd.int .u8).R 5 w gp (fun _ => True) (rs.getD 0 undef) [6] := h); show (Kd.int .u8).R 5 w' gp (fun _ => True) (rs.getD 0 undef) [6]; first | exact Kd.R_below h hb | exact ⟨Kd.R_below h.1 hb, Kd.R_below h.2 hb⟩ | (obtain ⟨v, h⟩ := h; exact ⟨v, h.below hb⟩)
            | 2, h => (replace h : (Kd.int .u8).R 5 w gp (fun _ => True) (rs.getD 0 undef) [6] ∧ (Kd.int .u8).R 5 w gp (fun _ => True) (rs.getD 1 undef) pb := h); show (Kd.int .u8).R 5 w' gp (fun _ => True) (rs.getD 0 undef) [6] ∧ (Kd.int .u8).R 5 w' gp (fun _ => True) (rs.getD 1 undef) pb; first | exact Kd.R_below h hb | exact ⟨Kd.R_below h.1 hb, Kd.R_below h.2 hb⟩ | (obtain ⟨v, h⟩ := h; exact ⟨v, h.below hb⟩)
            | 3, h => (replace h : (Kd.int .u8).R 5 w gp (fun _ => True) (rs.getD 2 undef) ([6] ++ pb) := h); show (Kd.int .u8).R 5 w' gp (fun _ => True) (rs.getD 2 undef) ([6] ++ pb); first | exact Kd.R_below h hb | exact ⟨Kd.R_below h.1 hb, Kd.R_below h.2 hb⟩ | (obtain ⟨v, h⟩ := h; exact ⟨v, h.below hb⟩)
            | 4, h => (replace h : (Kd.int .u8).R 5 w gp (fun _ => True) (rs.getD 3 undef) ([6] ++ pb) := h); show (Kd.int .u8).R 5 w' gp (fun _ => True) (rs.getD 3 undef) ([6] ++ pb); first | exact Kd.R_below h hb | exact ⟨Kd.R_below h.1 hb, Kd.R_below h.2 hb⟩ | (obtain ⟨v, h⟩ := h; exact ⟨v, h.below hb⟩)
            | _ + 5, h => exact h.elim
          case z10_3g =>
            intro j hj; cases hj
          case z10_3t0 => exact StabS.const _ _ _ _
          case z10_3t1 => exact StabS.const _ _ _ _
          case z10_3t2 => exact StabS.const _ _ _ _
          case z10_3t3 => exact StabS.const _ _ _ _
          case z10_3t4 => exact StabS.const _ _ _ _
          case z10_3t5 => exact StabS.const _ _ _ _
          case z10_3o0 =>
            intro vs w hC hS hV
            replace hS : ∃ v, Pn w gp gp [6] v := hS
            rw [if_pos (by kernel_rfl)]
            generalize hρ : rho _ _ _ vs = ρ
            have e3 : ρ (.tmp 3) = .pointer (some ⟨gp, 0, none⟩) := by rw [← hρ]; kernel_rfl
            have ef40 : ρ (.func 40) = .func (.func 40) #[] #[] := by rw [← hρ]; rfl
            clear hρ hV
            obtain ⟨v, hp⟩ := hS
            refine runs_call (f := 40) (args := #[.pointer (some ⟨gp, 0, none⟩)]) (w' := w) ?_ ?_
            · go_simp
            · refine (pbytes_any gp gp [6] v w hp (by simp)).mono ?_
              rintro e w5 ⟨v9, rfl, hr9, hb9⟩
              exact ⟨_, rfl, ⟨hC.1.trans (hb9.mono hC.2), Nat.le_trans hC.2 hb9.size⟩, trivial, trivial, Kd.R_lower hr9 hC.2⟩
          case z10_3o1 =>
            intro vs w t hC ht1 ht2 hS hV
            rw [if_pos (by kernel_rfl)]
            generalize hρ : rho _ _ _ vs = ρ
            have e1 : ρ (.tmp 1) = .pointer (some ⟨B, 0, none⟩) := by rw [← hρ]; kernel_rfl
            clear hρ hV
            refine runs_val (v := .pointer (some ⟨B, 3, none⟩)) (w' := w) ?_ ⟨Below.refl _ _, rfl⟩
            clear ht1 ht2 hS hC
            go_simp <;> (first | exact IntWalk.u64_in _ (by omega) | exact IntWalk.u32_in _ (by omega) | exact IntWalk.u16_in _ (by omega) | exact IntWalk.u8_in _ (by omega) | exact IntWalk.i64_in _ (by omega) | skip)
          case z10_3o2 =>
            intro vs w t hC ht1 ht2 hS hV
            rw [if_pos (by kernel_rfl)]
            generalize hρ : rho _ _ _ vs = ρ
            have d24 : (vs 1) = .pointer (some ⟨B, 3, none⟩) := hV 1 (by kernel_rfl)
            have e24 : ρ (.tmp 24) = vs 1 := by rw [← hρ]; kernel_rfl
            rw [d24] at e24; clear d24
            clear hρ hV
            have c3 := HCL.out.2.2.2.1 w hC.1
            have c4 := HCL.out.2.2.2.2.1 w hC.1
            have c5 := HCL.out.2.2.2.2.2.1 w hC.1
            have c6 := HCL.out.2.2.2.2.2.2 w hC.1
            refine runs_val (v := .agg #[.int .u32 tk, .int .u32 hs, .slice A n c, .slice A2 nc c2]) (w' := w) ?_ ⟨Below.refl _ _, rfl⟩
            clear ht1 ht2 hS hC
            go_simp
          case z10_3o3 =>
            intro vs w hC hS hV
            replace hS : (Kd.int .u8).R 5 w gp (fun _ => True) (vs 0) [6] := hS
            rw [if_pos (by kernel_rfl)]
            generalize hρ : rho _ _ _ vs = ρ
            have d25 : (vs 2) = .agg #[.int .u32 tk, .int .u32 hs, .slice A n c, .slice A2 nc c2] := hV 2 (by kernel_rfl)
            have e25 : ρ (.tmp 25) = vs 2 := by rw [← hρ]; kernel_rfl
            rw [d25] at e25; clear d25
            have ef41 : ρ (.func 41) = .func (.func 41) #[] #[] := by rw [← hρ]; rfl
            clear hρ hV
            refine runs_call (f := 41) (args := #[.agg #[.int .u32 tk, .int .u32 hs, .slice A n c, .slice A2 nc c2]]) (w' := w) ?_ ?_
            · go_simp
            · refine (KB.out w (HW0.out w hC.1)).mono ?_
              rintro e w5 ⟨v9, rfl, hr9, hb9⟩
              exact ⟨_, rfl, ⟨hC.1.trans (hb9.mono hC.2), Nat.le_trans hC.2 hb9.size⟩, trivial, trivial, Kd.R_below hS hb9, Kd.R_lower hr9 hC.2⟩
          case z10_3o4 =>
            intro vs w hC hS hV
            replace hS : (Kd.int .u8).R 5 w gp (fun _ => True) (vs 0) [6] ∧ (Kd.int .u8).R 5 w gp (fun _ => True) (vs 3) pb := hS
            rw [if_pos (by kernel_rfl)]
            generalize hρ : rho _ _ _ vs = ρ
            have d23 : (fun (w : World) (v : Value) => True) w (vs 0) := hV 0 (by kernel_rfl)
            have e23 : ρ (.tmp 23) = vs 0 := by rw [← hρ]; kernel_rfl
            have d26 : (fun (w : World) (v : Value) => True) w (vs 3) := hV 3 (by kernel_rfl)
            have e26 : ρ (.tmp 26) = vs 3 := by rw [← hρ]; kernel_rfl
            clear hρ hV
            obtain ⟨A5, c5, h5, l5, q5⟩ := Kd.R_reads hS.2
            rw [h5] at e26
            refine runs_append (Kd.int .u8) (Rr := fun x cs => cs = [.int .u8 x]) gp 23 26 23 5 (.int .u8 0) 1 rfl Try.underlying23 np_info rfl (by decide) (by decide) (vs 0) [6] pb A5 pb.length c5 (fun _ => True) (fun _ => False) e23 e26 hS.1 q5 (fun _ _ h => h) (fun _ h => h.elim) (fun _ _ => trivial) hC.2 (by have := HPL.out; simp; omega) ?_
            intro v1 w1 h1 hg1 hat
            exact ⟨⟨hC.1.trans ((Below.refl gp w).grown hg1 hC.2 (fun j hj => Kd.R_base hS.1 j hj)), Nat.le_trans hC.2 hg1.size⟩, trivial, trivial, h1⟩
          case z10_3o5 =>
            intro vs w hC hS hV
            replace hS : (Kd.int .u8).R 5 w gp (fun _ => True) (vs 4) ([6] ++ pb) := hS
            rw [if_pos (by kernel_rfl)]
            generalize hρ : rho _ _ _ vs = ρ
            have d27 : (fun (w : World) (v : Value) => True) w (vs 4) := hV 4 (by kernel_rfl)
            have e27 : ρ (.tmp 27) = vs 4 := by rw [← hρ]; kernel_rfl
            clear hρ hV
            refine runs_val (v := vs 4) (w' := w) ?_ ⟨hC, trivial, trivial, hS⟩
            clear hS hC
            go_simp
          case z10_3e =>
            intro vs V2 hC hS hV
            replace hS : (fun (w : World) => (Kd.int .u8).R 5 w gp (fun _ => True) (vs 5) ([6] ++ pb)) V2 := hS
            have d23 : (fun (w : World) (v : Value) => True) V2 (vs 0) := hV 0 (Nat.le_of_ble_eq_true rfl)
            have d24 : (vs 1) = .pointer (some ⟨B, 3, none⟩) := hV 1 (Nat.le_of_ble_eq_true rfl)
            have d25 : (vs 2) = .agg #[.int .u32 tk, .int .u32 hs, .slice A n c, .slice A2 nc c2] := hV 2 (Nat.le_of_ble_eq_true rfl)
            have d26 : (fun (w : World) (v : Value) => True) V2 (vs 3) := hV 3 (Nat.le_of_ble_eq_true rfl)
            have d27 : (fun (w : World) (v : Value) => True) V2 (vs 4) := hV 4 (Nat.le_of_ble_eq_true rfl)
            have d2 : (fun (w : World) (v : Value) => True) V2 (vs 5) := hV 5 (Nat.le_of_ble_eq_true rfl)
            clear hV
            simp only [putAll]
            rw [d24, d25]
            clear d24 d25
            generalize vs 0 = v23 at *
            generalize vs 3 = v26 at *
            generalize vs 4 = v27 at *
            generalize vs 5 = v2 at *
            clear vs
            simp only [Act.put, List.setIfInBounds_toArray, List.set_cons_zero, List.set_cons_succ]
            have HR2 := Aside0.mk (Kd.R_lower hS (Nat.le_of_lt GD.out))
            have HB2 := Aside0.mk (HW0.out _ hC.1)
            clear hS hC
            go_wp2_with fail
            go_ret
            rw [HB.out, HE.out]
            exact ⟨_, rfl, HR2.out, HB2.out⟩
        · skip
          have HE : Aside0 (mb = [k]) := ⟨by rw [HMB.out, if_neg h2, if_neg (by omega)]⟩
          clear HMB
          go_wp2_with fail
          refine (pbytes_any gp gp [k] v1 V1 HP1.out (by simp [lowN_length])).mono ?_
          rintro e V9 ⟨v9, rfl, hr9, hb9⟩
          have HR9 := Aside0.mk (Kd.R_lower hr9 (Nat.le_trans (Nat.le_of_lt GD.out) (Nat.le_of_lt (blk_lt HP1.out.1))))
          have HB9 := Aside0.mk (HW0.out _ (HB1.out.trans (hb9.mono (Nat.le_of_lt (blk_lt HP1.out.1)))))
          clear hr9 hb9
          go_wp2_with fail
          go_ret
          rw [HB.out, HE.out]
          exact ⟨_, rfl, HR9.out, HB9.out⟩
end Go.Proofs.Yticpjidcgaaldaa

namespace Go.Proofs.Yticpjidcgaaldaa
open Go.RowKit Go.Proofs.YticpjidcgaaldaaW.PrintWords Go.Proofs.YticpjidcgaaldaaW.PrintLast Go.Proofs.YticpjidcgaaldaaW.PrintMore
set_option linter.unusedVariables false
set_option linter.unusedSimpArgs false

structure MRes where
  ok : Bool
  k : Int
  t : Int
  m : Int
  tk : Int
  hs : Int
  P : List Int
  C : List S59
def badR : MRes := ⟨false, 0, 0, 0, 0, 0, [], []⟩
def readR : List Int → MRes
  | [] => badR
  | x :: r => if x = 2 then (if r.length = 8 then ⟨true, 2, leN (r.take 4), leN ((r.drop 4).take 4), 0, 0, [], []⟩ else badR)
    else if x = 5 ∨ x = 6 then (if okD r = true then ⟨true, x, tkQ r, 0, tkQ r, hsQ r, plQ r, clQ r⟩ else badR)
    else if x = 1 ∨ x = 3 ∨ x = 4 then (if r.length = 0 then ⟨true, x, 0, 0, 0, 0, [], []⟩ else badR) else badR
theorem readR_two (r : List Int) : readR (2 :: r) = if r.length = 8 then ⟨true, 2, leN (r.take 4), leN ((r.drop 4).take 4), 0, 0, [], []⟩ else badR := by simp only [readR, if_true]
theorem readR_five {x : Int} (r : List Int) (h2 : ¬ x = 2) (h : x = 5 ∨ x = 6) : readR (x :: r) = if okD r = true then ⟨true, x, tkQ r, 0, tkQ r, hsQ r, plQ r, clQ r⟩ else badR := by simp only [readR]; rw [if_neg h2, if_pos h]
theorem readR_oth {x : Int} (r : List Int) (h2 : ¬ x = 2) (h : ¬ (x = 5 ∨ x = 6)) : readR (x :: r) = if x = 1 ∨ x = 3 ∨ x = 4 then (if r.length = 0 then ⟨true, x, 0, 0, 0, 0, [], []⟩ else badR) else badR := by simp only [readR]; rw [if_neg h2, if_neg h]
theorem OfR.msg {b : Nat} {w : World} {k t m tk hs : Int} {P : List Int} {C : List S59} {x y : Value} (h : OfR b w tk hs P C (.agg #[.int .u32 tk, .int .u32 hs, x, y])) : MsC w k t m tk hs P C (.agg #[.int .u8 k, .int .u32 t, .int .u32 m, .int .u32 tk, .int .u32 hs, x, y]) := by
  obtain ⟨A, c, A2, c2, he, h1, h2, h3, h4⟩ := h.cells
  injection he with he
  simp only [Array.mk.injEq, List.cons.injEq, and_true, true_and] at he
  obtain ⟨rfl, rfl⟩ := he
  exact ⟨A, c, A2, c2, rfl, h1, h2, h3, h4⟩
theorem parse_formR {q : List Int} {b : Nat} {w' : World} {e : Ending} (h : ParseR q b w' e) : ∃ A n c A2 m c2, e = .returned (.tuple #[.agg #[.int .u32 (tkQ q), .int .u32 (hsQ q), .slice A n c, .slice A2 m c2], .int .i64 (ecD q)]) ∧
    OfR b w' (tkQ q) (hsQ q) (plQ q) (clQ q) (.agg #[.int .u32 (tkQ q), .int .u32 (hsQ q), .slice A n c, .slice A2 m c2]) := by
  unfold ParseR at h
  unfold tkQ hsQ plQ clQ ecD
  by_cases hk : okD q = true
  · simp only [hk, if_true] at h ⊢
    obtain ⟨v, rfl, hv⟩ := h
    obtain ⟨A, c, A2, c2, rfl, h1, h2, h3, h4⟩ := hv
    exact ⟨A, _, c, A2, _, c2, rfl, A, c, A2, c2, rfl, h1, h2, h3, h4⟩
  · simp only [hk, if_false] at h ⊢
    subst h
    exact ⟨none, 0, 0, none, 0, 0, rfl, none, 0, none, 0, rfl, Nat.le_refl _, Nat.le_refl _, Kd.R_nil _ _ _ _ _, Kd.R_nil _ _ _ _ _⟩
theorem Hp.eyeL {B0 B ge : Nat} {w0 w w' : World} {L : List (Nat × Obj)} {l : List Int} {b : Bool} (h : Hp B0 w0 w L []) (he : EyTo w w' ge B l b) (h0 : B0 ≤ ge) (hne : ∀ p ∈ L, p.1 ≠ ge) : Hp B0 w0 w' L [] :=
  ⟨h.1.trans (he.2.2.mono h0), fun p hp => ⟨(he.2.1.2 p.1 (blk_lt (h.2.1 p hp).1) (hne p hp) (by simp)).trans (h.2.1 p hp).1, (h.2.1 p hp).2⟩, h.2.2.1, Nat.le_trans h.le he.2.1.1, fun φ hφ => by cases hφ⟩
theorem zero_msg (w : World) : (zeroValue 28).run Try.prog w = .ok (.agg #[.int .u8 0, .int .u32 0, .int .u32 0, .int .u32 0, .int .u32 0, .slice none 0 0, .slice none 0 0]) w := by kernel_rfl
theorem MsC_zero (w : World) (k t m : Int) : MsC w k t m 0 0 [] [] (.agg #[.int .u8 k, .int .u32 t, .int .u32 m, .int .u32 0, .int .u32 0, .slice none 0 0, .slice none 0 0]) :=
  ⟨none, 0, none, 0, rfl, Nat.le_refl _, Nat.le_refl _, Kd.C_nil _ _, Kd.C_nil _ _⟩
theorem OkM_zero {k t m : Int} (hk : 0 ≤ k ∧ k < 256) (ht : 0 ≤ t ∧ t < 4294967296) (hm : 0 ≤ m ∧ m < 4294967296) : OkM k t m 0 0 [] [] := ⟨hk, ht, hm, by omega, by omega, Bytes.nil, (fun y hy => by cases hy), by simp, by simp⟩
def ReadM (q : List Int) (w' : World) (e : Ending) : Prop := ∃ v, e = .returned (.tuple #[v, .int .i64 (if (readR q).ok = true then 0 else 2)]) ∧ MsC w' (readR q).k (readR q).t (readR q).m (readR q).tk (readR q).hs (readR q).P (readR q).C v
theorem ReadM.of {q : List Int} {r : MRes} {w' : World} {v : Value} (hq : readR q = r) (hv : MsC w' r.k r.t r.m r.tk r.hs r.P r.C v) : ReadM q w' (.returned (.tuple #[v, .int .i64 (if r.ok = true then 0 else 2)])) := by
  subst hq; exact ⟨v, rfl, hv⟩

set_option maxRecDepth 100000 in
set_option maxHeartbeats 16000000 in
theorem mread_any (A : Option Addr) (n c : Nat) (q : List Int) (w00 : World) (hq : (Kd.int .u8).C w00 A n q) (hc : n ≤ c) (hn : n ≤ 100000000) (hb : Bytes q) :
    Calls Try.prog 17 #[.slice A n c] w00 fun e w' => ReadM q w' e ∧ Below w00.heap.size w00 w' := by
  have HF : Aside0 (∀ z, Below w00.heap.size w00 z → (Kd.int .u8).C z A n q) := ⟨fun z hz => Kd.C_below hq hz⟩
  obtain ⟨B, hB⟩ : ∃ B, w00.heap.size = B := ⟨_, rfl⟩
  have H0 := Aside0.mk ((Hp.start w00).allocAt (.cells #[.int .u8 0, .int .u32 0, .int .u32 0, .int .u32 0, .int .u32 0, .slice none 0 0, .slice none 0 0] 28) B hB)
  rw [hB] at H0 HF
  rw [hB]
  have HN := Aside0.mk (And.intro hn (And.intro hc hq.1))
  have HBQ := Aside0.mk hb
  have KR := Aside0.mk (fun (z : World) (h : Below B w00 z) => read_any A n c q z (HF.out z h) hn)
  have HB := Aside0.mk hB
  have hz7 := zero_msg
  clear hq hn hb hc
  go_enter Try.func17, Try.ntmps17
  go_wp2_with fail
  clear hB
  refine (KR.out _ H0.out.bel).mono ?_
  rintro e w1 ⟨ge, rfl, hge, hEy, hb1⟩
  obtain ⟨BB, hBB⟩ : ∃ BB, w1.heap.size = BB := ⟨_, rfl⟩
  rw [hBB] at hEy
  have hgB : ge < BB := by obtain ⟨_, _, _, _, _, _, _, h5⟩ := hEy; exact h5
  have hge2 : B < ge := Nat.lt_of_lt_of_le (H0.out.lt (i := 0) rfl) hge
  have HGE := Aside0.mk (And.intro hge2 (And.intro hgB (show BB ≤ w1.heap.size by omega)))
  have H1 := Aside0.mk (H0.out.call hb1)
  have HE1 := Aside0.mk hEy
  clear hge hEy hb1 hBB hge2 hgB H0 KR
  obtain ⟨⟨x, l1, b1⟩, e1⟩ : ∃ y, eByte q false = y := ⟨_, rfl⟩
  have K1 := ebyte_any ge BB q false w1 HE1.out
  rw [e1] at K1
  have KK1 := Aside0.mk K1
  have HEB := Aside0.mk e1
  clear K1 e1
  go_wp2_with fail
  refine KK1.out.mono ?_
  rintro e w2 ⟨rfl, he2⟩
  have H2 := Aside0.mk (H1.out.eyeL he2 (Nat.le_of_lt HGE.out.1) (fun p hp => by obtain rfl := List.mem_singleton.1 hp; exact Nat.ne_of_lt HGE.out.1))
  have HE2 := Aside0.mk he2.1
  have HS2 : Aside0 (ge < w2.heap.size ∧ BB ≤ w2.heap.size) := ⟨Nat.lt_of_lt_of_le HGE.out.2.1 (Nat.le_trans HGE.out.2.2 he2.2.1.1), Nat.le_trans HGE.out.2.2 he2.2.1.1⟩
  clear he2 H1 HE1 KK1
  obtain ⟨g5, hg5⟩ : ∃ g5, w2.heap.size = g5 := ⟨_, rfl⟩
  have H3 := Aside0.mk (H2.out.allocAt (.cells #[.int .u8 x, .int .u32 0, .int .u32 0, .int .u32 0, .int .u32 0, .slice none 0 0, .slice none 0 0] 28) g5 hg5)
  have HE3 := Aside0.mk (HE2.out.below ((below_alloc (Below.refl w2.heap.size w2) (.cells #[.int .u8 x, .int .u32 0, .int .u32 0, .int .u32 0, .int .u32 0, .slice none 0 0, .slice none 0 0] 28)).mono HS2.out.2) HS2.out.2)
  have HG5 : Aside0 (ge < g5 ∧ B < g5 ∧ BB ≤ g5) := ⟨by rw [← hg5]; exact HS2.out.1, by have := HGE.out.1; have := HS2.out.1; omega, by rw [← hg5]; exact HS2.out.2⟩
  clear H2 HE2 HS2
  have HG5E := Aside0.mk hg5
  have HX : Aside0 (0 ≤ x ∧ x < 256) := ⟨by have := (eByte_b (bad := false) HBQ.out).1; rw [HEB.out] at this; exact this⟩
  have HBL1 : Aside0 (Bytes l1) := ⟨by have := (eByte_b (bad := false) HBQ.out).2; rw [HEB.out] at this; exact this⟩
  have HQ : Aside0 ((q = [] ∧ x = 0 ∧ l1 = [] ∧ b1 = true) ∨ (q = x :: l1 ∧ b1 = false)) := ⟨by
    have e1 := HEB.out
    cases q with
    | nil => rw [eByte_short (by simp)] at e1; simp only [Prod.mk.injEq] at e1; exact .inl ⟨rfl, e1.1.symm, e1.2.1.symm, e1.2.2.symm⟩
    | cons y r => rw [eByte_good (by simp)] at e1; simp only [Prod.mk.injEq] at e1; obtain ⟨rfl, rfl, rfl⟩ := e1; exact .inr ⟨rfl, rfl⟩⟩
  clear HEB
  by_cases x2 : x = 2
  · subst x2
    have HQ2 : Aside0 (q = 2 :: l1 ∧ b1 = false) := ⟨by rcases HQ.out with h | h; exact absurd h.2.1 (by decide); exact h⟩
    obtain rfl := HQ2.out.2
    obtain ⟨⟨t, l2, b2⟩, e2⟩ : ∃ y, eFix 4 l1 false = y := ⟨_, rfl⟩
    obtain ⟨⟨m, l3, b3⟩, e3⟩ : ∃ y, eFix 4 l2 b2 = y := ⟨_, rfl⟩
    have hBl2 : Bytes l2 := by have := eFix_b (bad := false) 4 HBL1.out; rw [e2] at this; exact this
    have KK2 := Aside0.mk (fun (X : World) (hx : Ey X ge BB l1 false) => eword_any ge BB l1 false X hx HBL1.out)
    have KK3 := Aside0.mk (fun (X : World) (hx : Ey X ge BB l2 b2) => eword_any ge BB l2 b2 X hx hBl2)
    rw [e2] at KK2
    rw [e3] at KK3
    have HT2 : Aside0 ((b3 = true ∨ 0 < l3.length → readR q = badR) ∧ (¬ (b3 = true ∨ 0 < l3.length) → readR q = ⟨true, 2, t, m, 0, 0, [], []⟩) ∧ (0 ≤ t ∧ t < 4294967296) ∧ 0 ≤ m ∧ m < 4294967296) := ⟨by
      rw [HQ2.out.1, readR_two]
      by_cases h4 : 4 ≤ l1.length
      · rw [eFix_good h4] at e2
        simp only [Prod.mk.injEq] at e2
        obtain ⟨rfl, rfl, rfl⟩ := e2
        have ht := leN4 HBL1.out
        by_cases h8 : 8 ≤ l1.length
        · rw [eFix_good (by rw [List.length_drop]; omega)] at e3
          simp only [Prod.mk.injEq] at e3
          obtain ⟨rfl, rfl, rfl⟩ := e3
          have hm := leN4 (HBL1.out.drop 4)
          rw [List.drop_drop, List.length_drop]
          unfold U32 at ht hm
          refine ⟨fun h => ?_, fun h => ?_, ht, hm⟩
          · rw [if_neg (by rcases h with h | h; cases h; omega)]
          · rw [if_pos (by have := fun q => h (.inr q); omega)]
        · rw [eFix_short (by rw [List.length_drop]; omega)] at e3
          simp only [Prod.mk.injEq] at e3
          obtain ⟨rfl, rfl, rfl⟩ := e3
          unfold U32 at ht
          exact ⟨fun h => by rw [if_neg (by omega)], fun h => absurd (.inl rfl) h, ht, by omega, by omega⟩
      · rw [eFix_short (by omega)] at e2
        simp only [Prod.mk.injEq] at e2
        obtain ⟨rfl, rfl, rfl⟩ := e2
        rw [eFix_bad] at e3
        simp only [Prod.mk.injEq] at e3
        obtain ⟨rfl, rfl, rfl⟩ := e3
        exact ⟨fun h => by rw [if_neg (by omega)], fun h => absurd (.inl rfl) h, by omega, by omega, by omega⟩⟩
    clear e2 e3 hBl2
    go_wp2_with fail
    generalize w2.alloc (.cells #[.int .u8 2, .int .u32 0, .int .u32 0, .int .u32 0, .int .u32 0, .slice none 0 0, .slice none 0 0] 28) = W3 at *
    clear hg5
    refine (KK2.out _ HE3.out).mono ?_
    rintro e w4 ⟨rfl, he4⟩
    have H4 := Aside0.mk (H3.out.eyeL he4 (Nat.le_of_lt HGE.out.1) (fun p hp => by
      simp only [List.mem_cons, List.not_mem_nil, or_false] at hp
      rcases hp with rfl | rfl
      · exact Nat.ne_of_gt HG5.out.1
      · exact Nat.ne_of_lt HGE.out.1))
    have HE4 := Aside0.mk he4.1
    clear he4 H3 HE3 KK2
    go_wp2_with fail
    refine (KK3.out _ HE4.out).mono ?_
    rintro e w5 ⟨rfl, he5⟩
    have H5 := Aside0.mk (H4.out.eyeL he5 (Nat.le_of_lt HGE.out.1) (fun p hp => by
      simp only [List.mem_cons, List.not_mem_nil, or_false] at hp
      rcases hp with rfl | rfl
      · exact Nat.ne_of_gt HG5.out.1
      · exact Nat.ne_of_lt HGE.out.1))
    have HE5 := Aside0.mk he5.1
    have HS5 : Aside0 (BB ≤ w5.heap.size) := ⟨Nat.le_trans HG5.out.2.2 (Nat.le_of_lt (H5.out.lt (i := 0) rfl))⟩
    clear he5 H4 HE4 KK3
    have c1 := blk_cell (H5.out.get (i := 0) rfl) 1
    have c2 := blk_cell (H5.out.get (i := 0) rfl) 2
    have f1 := blk_frozen (H5.out.get (i := 0) rfl) 1
    have f2 := blk_frozen (H5.out.get (i := 0) rfl) 2
    go_wp2_with fail
    clear c1 c2 f1 f2
    have H6 := Aside0.mk ((H5.out.setCell (i := 0) rfl 1 (.int .u32 t)).setCell (i := 0) rfl 2 (.int .u32 m))
    have HE6 := Aside0.mk (HE5.out.below (((Below.refl BB w5).setCell (p := ⟨g5, 1, none⟩) HG5.out.2.2 (.int .u32 t)).setCell (p := ⟨g5, 2, none⟩) HG5.out.2.2 (.int .u32 m)) HS5.out)
    clear H5 HE5 HS5
    generalize (w5.setCell ⟨g5, 1, none⟩ (.int .u32 t)).setCell ⟨g5, 2, none⟩ (.int .u32 m) = W6 at *
    have H7 : Aside0 (Hp B w00 W6 [(g5, .cells #[.int .u8 2, .int .u32 t, .int .u32 m, .int .u32 0, .int .u32 0, .slice none 0 0, .slice none 0 0] 28 (0, 0)), (B, .cells #[.int .u8 0, .int .u32 0, .int .u32 0, .int .u32 0, .int .u32 0, .slice none 0 0, .slice none 0 0] 28 (0, 0))] []) := ⟨H6.out⟩
    clear H6
    refine (done_any ge BB l3 b3 W6 HE6.out).mono ?_
    rintro e w7 ⟨rfl, rfl⟩
    by_cases hd : b3 = true ∨ 0 < l3.length
    · rw [if_pos hd]
      have HDD := Aside0.mk (HT2.out.1 hd)
      clear hd
      go_wp2_with (first | (refine wpList_store_row rfl 28 (.tmp 2) (.tmp 49) rfl B #[.int .u8 0, .int .u32 0, .int .u32 0, .int .u32 0, .int .u32 0, .slice none 0 0, .slice none 0 0] rfl rfl 28 _ (H7.out.get (i := 1) rfl) (msg_info _ _ _ _ _ _ _) rfl (by simp [Value.oneCell']) ?_))
      have H9 := Aside0.mk (H7.out.setRow (i := 1) rfl #[.int .u8 0, .int .u32 0, .int .u32 0, .int .u32 0, .int .u32 0, .slice none 0 0, .slice none 0 0])
      have HRQ : Aside0 (readR q = badR) := ⟨HDD.out⟩
      refine bodyPost_ret (results_ct rfl _ _ B _ #[.int .u8 0, .int .u32 0, .int .u32 0, .int .u32 0, .int .u32 0, .slice none 0 0, .slice none 0 0] (0, 0) _ rfl (H9.out.get (i := 1) rfl) Try.underlying28 rfl (msg_info _ _ _ _ _ _ _)) rfl ?_
      exact ⟨ReadM.of HRQ.out (MsC_zero _ 0 0 0), H9.out.bel⟩
    · rw [if_neg hd]
      have HDD := Aside0.mk (HT2.out.2.1 hd)
      clear hd
      go_wp2_with (first | (refine wpList_load_row_g 28 (.tmp 5) rfl g5 rfl rfl 28 _ (0, 0) _ (H7.out.get (i := 0) rfl) Try.underlying28 rfl (msg_info _ _ _ _ _ _ _) ?_))
      refine (mright_any 2 t m 0 0 [] [] _ _ (MsC_zero _ _ _ _) (OkM_zero (by omega) HT2.out.2.2.1 HT2.out.2.2.2)).mono ?_
      rintro e w8 ⟨rfl, hb8⟩
      have H8 := Aside0.mk (H7.out.call hb8)
      rw [show rightM 2 t m 0 0 [] [] = true by unfold rightM isZ; simp]
      clear hb8 H7 HE6
      go_wp2_with (first | (refine wpList_load_row_g 28 (.tmp 5) rfl g5 rfl rfl 28 _ (0, 0) _ (H8.out.get (i := 0) rfl) Try.underlying28 rfl (msg_info _ _ _ _ _ _ _) ?_) | (refine wpList_store_row rfl 28 (.tmp 2) (.tmp 50) rfl B #[.int .u8 2, .int .u32 t, .int .u32 m, .int .u32 0, .int .u32 0, .slice none 0 0, .slice none 0 0] rfl rfl 28 _ (H8.out.get (i := 1) rfl) (msg_info _ _ _ _ _ _ _) rfl (by simp [Value.oneCell']) ?_))
      have H9 := Aside0.mk ((H8.out).setRow (i := 1) rfl #[.int .u8 2, .int .u32 t, .int .u32 m, .int .u32 0, .int .u32 0, .slice none 0 0, .slice none 0 0])
      have HRQ : Aside0 (readR q = ⟨true, 2, t, m, 0, 0, [], []⟩) := ⟨HDD.out⟩
      refine bodyPost_ret (results_ct rfl _ _ B _ #[.int .u8 2, .int .u32 t, .int .u32 m, .int .u32 0, .int .u32 0, .slice none 0 0, .slice none 0 0] (0, 0) _ rfl (H9.out.get (i := 1) rfl) Try.underlying28 rfl (msg_info _ _ _ _ _ _ _)) rfl ?_
      exact ⟨ReadM.of HRQ.out (MsC_zero _ _ _ _), H9.out.bel⟩
  · skip
    by_cases x5 : x = 5
    · subst x5
      have HQ2 : Aside0 (q = 5 :: l1 ∧ b1 = false) := ⟨by rcases HQ.out with h | h; exact absurd h.2.1 (by decide); exact h⟩
      have hq1 : n = l1.length + 1 := by have := HN.out.2.2; rw [HQ2.out.1] at this; simpa using this.symm
      obtain ⟨A9, z1, z2, _⟩ := eye_lo (P := Try.prog) .u8 .i64 23 5 1 Try.underlying23 np_info A n c 1 (by omega) HN.out.2.1
      have hn1 : (1 : Int) ≤ n := by omega
      clear hq1
      have Z1 : Aside0 (∀ W : World, (Instr.slice 23 (.slice A n c) (some (.int .i64 1)) none none).run Try.prog W = .ok (.slice A9 (n - 1) (c - 1)) W) := ⟨fun W => z1 W⟩
      have Z2 : Aside0 (∀ z, Below B w00 z → (Kd.int .u8).C z A9 (n - 1) l1) := ⟨fun z hz => by have := z2 z q (HF.out z hz); rw [HQ2.out.1] at this; exact this⟩
      clear z1 z2
      have z1 := Z1.out
      go_wp2_with fail
      generalize w2.alloc (.cells #[.int .u8 5, .int .u32 0, .int .u32 0, .int .u32 0, .int .u32 0, .slice none 0 0, .slice none 0 0] 28) = W3 at *
      clear z1 Z1 hg5
      refine (parse_any A9 (n - 1) (c - 1) l1 W3 (Z2.out _ H3.out.bel) (by have := HN.out.1; omega) HBL1.out).mono ?_
      rintro e w4 ⟨hp4, hb4⟩
      obtain ⟨A5, n5, c5, A6, n6, c6, rfl, hD4⟩ := parse_formR hp4
      obtain ⟨g6, hg6⟩ : ∃ g6, w4.heap.size = g6 := ⟨_, rfl⟩
      have H4 := Aside0.mk ((H3.out.ofR hb4 hD4).allocAt (.cells #[.int .u32 (tkQ l1), .int .u32 (hsQ l1), .slice A5 n5 c5, .slice A6 n6 c6] 26) g6 hg6)
      clear hp4 hb4 hD4 H3 HE3
      obtain ⟨β, hβ⟩ : ∃ β, okD l1 = β := ⟨_, rfl⟩
      have HEC : ecD l1 = if β = true then 0 else 2 := by unfold ecD; rw [hβ]
      have HBE := Aside0.mk hβ
      clear hβ
      cases β with
      | false =>
        rw [if_neg (by decide)] at HEC
        rw [HEC]
        clear HEC
        go_wp2_with (first | (refine wpList_store_row rfl 28 (.tmp 2) (.tmp 34) rfl B #[.int .u8 0, .int .u32 0, .int .u32 0, .int .u32 0, .int .u32 0, .slice none 0 0, .slice none 0 0] rfl rfl 28 _ (H4.out.get (i := 2) rfl) (msg_info _ _ _ _ _ _ _) rfl (by simp [Value.oneCell']) ?_))
        have H9 := Aside0.mk (H4.out.setRow (i := 2) rfl #[.int .u8 0, .int .u32 0, .int .u32 0, .int .u32 0, .int .u32 0, .slice none 0 0, .slice none 0 0])
        have HRQ : Aside0 (readR q = badR) := ⟨by rw [HQ2.out.1, readR_five _ (by decide) (by decide), if_neg (by rw [HBE.out]; decide)]⟩
        refine bodyPost_ret (results_ct rfl _ _ B _ #[.int .u8 0, .int .u32 0, .int .u32 0, .int .u32 0, .int .u32 0, .slice none 0 0, .slice none 0 0] (0, 0) _ rfl (H9.out.get (i := 2) rfl) Try.underlying28 rfl (msg_info _ _ _ _ _ _ _)) rfl ?_
        exact ⟨ReadM.of HRQ.out (MsC_zero _ 0 0 0), H9.out.bel⟩
      | true =>
        rw [if_pos rfl] at HEC
        rw [HEC]
        clear HEC
        go_wp2_with fail
        generalize hW5 : w4.alloc (.cells #[.int .u32 (tkQ l1), .int .u32 (hsQ l1), .slice A5 n5 c5, .slice A6 n6 c6] 26) = W5 at *
        clear hW5 hg6
        refine regionS (W := W5)
          [fun _ v => v = .agg #[.int .u32 (tkQ l1), .int .u32 (hsQ l1), .slice A5 n5 c5, .slice A6 n6 c6],
           fun _ v => v = .pointer (some ⟨g6, 0, none⟩),
           fun _ v => v = .int .u32 (tkQ l1),
           fun _ v => v = .pointer (some ⟨g5, 3, none⟩),
           fun _ _ => True,
           fun _ v => v = .pointer (some ⟨g5, 1, none⟩),
           fun _ _ => True]
          [4, 6]
          (fun t => match t with | 0 => fun (rs : List Value) (w : World) => Hp B w00 w [(g6, .cells #[.int .u32 (tkQ l1), .int .u32 (hsQ l1), .slice A5 n5 c5, .slice A6 n6 c6] 26 (0, 0)), (g5, .cells #[.int .u8 5, .int .u32 0, .int .u32 0, .int .u32 0, .int .u32 0, .slice none 0 0, .slice none 0 0] 28 (0, 0)), (B, .cells #[.int .u8 0, .int .u32 0, .int .u32 0, .int .u32 0, .int .u32 0, .slice none 0 0, .slice none 0 0] 28 (0, 0))] [fun X => OfR B X (tkQ l1) (hsQ l1) (plQ l1) (clQ l1) (.agg #[.int .u32 (tkQ l1), .int .u32 (hsQ l1), .slice A5 n5 c5, .slice A6 n6 c6])] | 1 => fun (rs : List Value) (w : World) => Hp B w00 w [(g6, .cells #[.int .u32 (tkQ l1), .int .u32 (hsQ l1), .slice A5 n5 c5, .slice A6 n6 c6] 26 (0, 0)), (g5, .cells #[.int .u8 5, .int .u32 0, .int .u32 0, .int .u32 (tkQ l1), .int .u32 (hsQ l1), .slice A5 n5 c5, .slice A6 n6 c6] 28 (0, 0)), (B, .cells #[.int .u8 0, .int .u32 0, .int .u32 0, .int .u32 0, .int .u32 0, .slice none 0 0, .slice none 0 0] 28 (0, 0))] [fun X => OfR B X (tkQ l1) (hsQ l1) (plQ l1) (clQ l1) (.agg #[.int .u32 (tkQ l1), .int .u32 (hsQ l1), .slice A5 n5 c5, .slice A6 n6 c6])] | 2 => fun (rs : List Value) (w : World) => Hp B w00 w [(g6, .cells #[.int .u32 (tkQ l1), .int .u32 (hsQ l1), .slice A5 n5 c5, .slice A6 n6 c6] 26 (0, 0)), (g5, .cells #[.int .u8 5, .int .u32 (tkQ l1), .int .u32 0, .int .u32 (tkQ l1), .int .u32 (hsQ l1), .slice A5 n5 c5, .slice A6 n6 c6] 28 (0, 0)), (B, .cells #[.int .u8 0, .int .u32 0, .int .u32 0, .int .u32 0, .int .u32 0, .slice none 0 0, .slice none 0 0] 28 (0, 0))] [fun X => OfR B X (tkQ l1) (hsQ l1) (plQ l1) (clQ l1) (.agg #[.int .u32 (tkQ l1), .int .u32 (hsQ l1), .slice A5 n5 c5, .slice A6 n6 c6])] | _ => fun _ _ => False)
          (fun _ _ _ => True) (fun w => ∃ o, Hp B w00 w [(g6, .cells #[.int .u32 (tkQ l1), .int .u32 (hsQ l1), .slice A5 n5 c5, .slice A6 n6 c6] 26 (0, 0)), (g5, o), (B, .cells #[.int .u8 0, .int .u32 0, .int .u32 0, .int .u32 0, .int .u32 0, .slice none 0 0, .slice none 0 0] 28 (0, 0))] [fun X => OfR B X (tkQ l1) (hsQ l1) (plQ l1) (clQ l1) (.agg #[.int .u32 (tkQ l1), .int .u32 (hsQ l1), .slice A5 n5 c5, .slice A6 n6 c6])])
          (fun j =>  none)
          [(0, some 35), (1, some 36), (2, some 37), (3, some 38), (4, none), (5, some 39), (6, none)]
          []
          (by kernel_rfl) (by kernel_rfl) (by kernel_rfl) (by kernel_rfl) (by kernel_rfl) ?z11_1c ?z11_1i ?z11_1b ?z11_1d ?z11_1g ⟨?z11_1t0, ?z11_1t1, ?z11_1t2, ?z11_1t3, ?z11_1t4, ?z11_1t5, ?z11_1t6, trivial⟩ ⟨?z11_1o0, ?z11_1o1, ?z11_1o2, ?z11_1o3, ?z11_1o4, ?z11_1o5, ?z11_1o6, trivial⟩ ?z11_1e
        case z11_1c => exact ⟨_, H4.out.drew⟩
        case z11_1i => exact H4.out.drew
        case z11_1b => intro w w' hb h; obtain ⟨o, h⟩ := h; exact ⟨o, h.call hb⟩
        case z11_1d =>
          intro t rs w w' hb h
          match t, h with
          | 0, h => (replace h : Hp B w00 w [(g6, .cells #[.int .u32 (tkQ l1), .int .u32 (hsQ l1), .slice A5 n5 c5, .slice A6 n6 c6] 26 (0, 0)), (g5, .cells #[.int .u8 5, .int .u32 0, .int .u32 0, .int .u32 0, .int .u32 0, .slice none 0 0, .slice none 0 0] 28 (0, 0)), (B, .cells #[.int .u8 0, .int .u32 0, .int .u32 0, .int .u32 0, .int .u32 0, .slice none 0 0, .slice none 0 0] 28 (0, 0))] [fun X => OfR B X (tkQ l1) (hsQ l1) (plQ l1) (clQ l1) (.agg #[.int .u32 (tkQ l1), .int .u32 (hsQ l1), .slice A5 n5 c5, .slice A6 n6 c6])] := h); show Hp B w00 w' [(g6, .cells #[.int .u32 (tkQ l1), .int .u32 (hsQ l1), .slice A5 n5 c5, .slice A6 n6 c6] 26 (0, 0)), (g5, .cells #[.int .u8 5, .int .u32 0, .int .u32 0, .int .u32 0, .int .u32 0, .slice none 0 0, .slice none 0 0] 28 (0, 0)), (B, .cells #[.int .u8 0, .int .u32 0, .int .u32 0, .int .u32 0, .int .u32 0, .slice none 0 0, .slice none 0 0] 28 (0, 0))] [fun X => OfR B X (tkQ l1) (hsQ l1) (plQ l1) (clQ l1) (.agg #[.int .u32 (tkQ l1), .int .u32 (hsQ l1), .slice A5 n5 c5, .slice A6 n6 c6])]; exact Hp.call h hb
          | 1, h => (replace h : Hp B w00 w [(g6, .cells #[.int .u32 (tkQ l1), .int .u32 (hsQ l1), .slice A5 n5 c5, .slice A6 n6 c6] 26 (0, 0)), (g5, .cells #[.int .u8 5, .int .u32 0, .int .u32 0, .int .u32 (tkQ l1), .int .u32 (hsQ l1), .slice A5 n5 c5, .slice A6 n6 c6] 28 (0, 0)), (B, .cells #[.int .u8 0, .int .u32 0, .int .u32 0, .int .u32 0, .int .u32 0, .slice none 0 0, .slice none 0 0] 28 (0, 0))] [fun X => OfR B X (tkQ l1) (hsQ l1) (plQ l1) (clQ l1) (.agg #[.int .u32 (tkQ l1), .int .u32 (hsQ l1), .slice A5 n5 c5, .slice A6 n6 c6])] := h); show Hp B w00 w' [(g6, .cells #[.int .u32 (tkQ l1), .int .u32 (hsQ l1), .slice A5 n5 c5, .slice A6 n6 c6] 26 (0, 0)), (g5, .cells #[.int .u8 5, .int .u32 0, .int .u32 0, .int .u32 (tkQ l1), .int .u32 (hsQ l1), .slice A5 n5 c5, .slice A6 n6 c6] 28 (0, 0)), (B, .cells #[.int .u8 0, .int .u32 0, .int .u32 0, .int .u32 0, .int .u32 0, .slice none 0 0, .slice none 0 0] 28 (0, 0))] [fun X => OfR B X (tkQ l1) (hsQ l1) (plQ l1) (clQ l1) (.agg #[.int .u32 (tkQ l1), .int .u32 (hsQ l1), .slice A5 n5 c5, .slice A6 n6 c6])]; exact Hp.call h hb
          | 2, h => (replace h : Hp B w00 w [(g6, .cells #[.int .u32 (tkQ l1), .int .u32 (hsQ l1), .slice A5 n5 c5, .slice A6 n6 c6] 26 (0, 0)), (g5, .cells #[.int .u8 5, .int .u32 (tkQ l1), .int .u32 0, .int .u32 (tkQ l1), .int .u32 (hsQ l1), .slice A5 n5 c5, .slice A6 n6 c6] 28 (0, 0)), (B, .cells #[.int .u8 0, .int .u32 0, .int .u32 0, .int .u32 0, .int .u32 0, .slice none 0 0, .slice none 0 0] 28 (0, 0))] [fun X => OfR B X (tkQ l1) (hsQ l1) (plQ l1) (clQ l1) (.agg #[.int .u32 (tkQ l1), .int .u32 (hsQ l1), .slice A5 n5 c5, .slice A6 n6 c6])] := h); show Hp B w00 w' [(g6, .cells #[.int .u32 (tkQ l1), .int .u32 (hsQ l1), .slice A5 n5 c5, .slice A6 n6 c6] 26 (0, 0)), (g5, .cells #[.int .u8 5, .int .u32 (tkQ l1), .int .u32 0, .int .u32 (tkQ l1), .int .u32 (hsQ l1), .slice A5 n5 c5, .slice A6 n6 c6] 28 (0, 0)), (B, .cells #[.int .u8 0, .int .u32 0, .int .u32 0, .int .u32 0, .int .u32 0, .slice none 0 0, .slice none 0 0] 28 (0, 0))] [fun X => OfR B X (tkQ l1) (hsQ l1) (plQ l1) (clQ l1) (.agg #[.int .u32 (tkQ l1), .int .u32 (hsQ l1), .slice A5 n5 c5, .slice A6 n6 c6])]; exact Hp.call h hb
          | _ + 3, h => exact h.elim
        case z11_1g =>
          intro j hj; cases hj
        case z11_1t0 => exact StabS.const _ _ _ _
        case z11_1t1 => exact StabS.const _ _ _ _
        case z11_1t2 => exact StabS.const _ _ _ _
        case z11_1t3 => exact StabS.const _ _ _ _
        case z11_1t4 => exact StabS.const _ _ _ _
        case z11_1t5 => exact StabS.const _ _ _ _
        case z11_1t6 => exact StabS.const _ _ _ _
        case z11_1o0 =>
          intro vs w t hC ht1 ht2 hS hV
          rw [if_pos (by kernel_rfl)]
          generalize hρ : rho _ _ _ vs = ρ
          have e6 : ρ (.tmp 6) = .pointer (some ⟨g6, 0, none⟩) := by rw [← hρ]; kernel_rfl
          clear hρ hV
          obtain ⟨o, hH⟩ := hC
          have c0 := blk_cell (hH.get (i := 0) rfl) 0
          have c1 := blk_cell (hH.get (i := 0) rfl) 1
          have c2 := blk_cell (hH.get (i := 0) rfl) 2
          have c3 := blk_cell (hH.get (i := 0) rfl) 3
          refine runs_val (v := .agg #[.int .u32 (tkQ l1), .int .u32 (hsQ l1), .slice A5 n5 c5, .slice A6 n6 c6]) (w' := w) ?_ ⟨Below.refl _ _, rfl⟩
          clear ht1 ht2 hS hH
          go_simp
        case z11_1o1 =>
          intro vs w t hC ht1 ht2 hS hV
          rw [if_pos (by kernel_rfl)]
          generalize hρ : rho _ _ _ vs = ρ
          have e6 : ρ (.tmp 6) = .pointer (some ⟨g6, 0, none⟩) := by rw [← hρ]; kernel_rfl
          clear hρ hV
          refine runs_val (v := .pointer (some ⟨g6, 0, none⟩)) (w' := w) ?_ ⟨Below.refl _ _, rfl⟩
          clear ht1 ht2 hS hC
          go_simp <;> (first | exact IntWalk.u64_in _ (by omega) | exact IntWalk.u32_in _ (by omega) | exact IntWalk.u16_in _ (by omega) | exact IntWalk.u8_in _ (by omega) | exact IntWalk.i64_in _ (by omega) | skip)
        case z11_1o2 =>
          intro vs w t hC ht1 ht2 hS hV
          rw [if_pos (by kernel_rfl)]
          generalize hρ : rho _ _ _ vs = ρ
          have d36 : (vs 1) = .pointer (some ⟨g6, 0, none⟩) := hV 1 (by kernel_rfl)
          have e36 : ρ (.tmp 36) = vs 1 := by rw [← hρ]; kernel_rfl
          rw [d36] at e36; clear d36
          clear hρ hV
          obtain ⟨o, hH⟩ := hC
          have c0 := blk_cell (hH.get (i := 0) rfl) 0
          refine runs_val (v := .int .u32 (tkQ l1)) (w' := w) ?_ ⟨Below.refl _ _, rfl⟩
          clear ht1 ht2 hS hH
          go_simp
        case z11_1o3 =>
          intro vs w t hC ht1 ht2 hS hV
          rw [if_pos (by kernel_rfl)]
          generalize hρ : rho _ _ _ vs = ρ
          have e5 : ρ (.tmp 5) = .pointer (some ⟨g5, 0, none⟩) := by rw [← hρ]; kernel_rfl
          clear hρ hV
          refine runs_val (v := .pointer (some ⟨g5, 3, none⟩)) (w' := w) ?_ ⟨Below.refl _ _, rfl⟩
          clear ht1 ht2 hS hC
          go_simp <;> (first | exact IntWalk.u64_in _ (by omega) | exact IntWalk.u32_in _ (by omega) | exact IntWalk.u16_in _ (by omega) | exact IntWalk.u8_in _ (by omega) | exact IntWalk.i64_in _ (by omega) | skip)
        case z11_1o4 =>
          intro vs w hC hS hV
          replace hS : Hp B w00 w [(g6, .cells #[.int .u32 (tkQ l1), .int .u32 (hsQ l1), .slice A5 n5 c5, .slice A6 n6 c6] 26 (0, 0)), (g5, .cells #[.int .u8 5, .int .u32 0, .int .u32 0, .int .u32 0, .int .u32 0, .slice none 0 0, .slice none 0 0] 28 (0, 0)), (B, .cells #[.int .u8 0, .int .u32 0, .int .u32 0, .int .u32 0, .int .u32 0, .slice none 0 0, .slice none 0 0] 28 (0, 0))] [fun X => OfR B X (tkQ l1) (hsQ l1) (plQ l1) (clQ l1) (.agg #[.int .u32 (tkQ l1), .int .u32 (hsQ l1), .slice A5 n5 c5, .slice A6 n6 c6])] := hS
          rw [if_pos (by kernel_rfl)]
          generalize hρ : rho _ _ _ vs = ρ
          have d38 : (vs 3) = .pointer (some ⟨g5, 3, none⟩) := hV 3 (by kernel_rfl)
          have e38 : ρ (.tmp 38) = vs 3 := by rw [← hρ]; kernel_rfl
          rw [d38] at e38; clear d38
          have d35 : (vs 0) = .agg #[.int .u32 (tkQ l1), .int .u32 (hsQ l1), .slice A5 n5 c5, .slice A6 n6 c6] := hV 0 (by kernel_rfl)
          have e35 : ρ (.tmp 35) = vs 0 := by rw [← hρ]; kernel_rfl
          rw [d35] at e35; clear d35
          clear hρ hV
          have c3 := blk_cell (hS.get (i := 1) rfl) 3
          have c4 := blk_cell (hS.get (i := 1) rfl) 4
          have c5' := blk_cell (hS.get (i := 1) rfl) 5
          have c6' := blk_cell (hS.get (i := 1) rfl) 6
          have f3 := blk_frozen (hS.get (i := 1) rfl) 3
          have f4 := blk_frozen (hS.get (i := 1) rfl) 4
          have f5 := blk_frozen (hS.get (i := 1) rfl) 5
          have f6 := blk_frozen (hS.get (i := 1) rfl) 6
          have hH := (((hS.setCell (i := 1) rfl 3 (.int .u32 (tkQ l1))).setCell (i := 1) rfl 4 (.int .u32 (hsQ l1))).setCell (i := 1) rfl 5 (.slice A5 n5 c5)).setCell (i := 1) rfl 6 (.slice A6 n6 c6)
          refine runs_skip (w' := (((w.setCell ⟨g5, 3, none⟩ (.int .u32 (tkQ l1))).setCell ⟨g5, 4, none⟩ (.int .u32 (hsQ l1))).setCell ⟨g5, 5, none⟩ (.slice A5 n5 c5)).setCell ⟨g5, 6, none⟩ (.slice A6 n6 c6)) ?_ ⟨⟨_, hH⟩, trivial, trivial, hH⟩
          clear hS hC hH
          go_simp
        case z11_1o5 =>
          intro vs w t hC ht1 ht2 hS hV
          rw [if_pos (by kernel_rfl)]
          generalize hρ : rho _ _ _ vs = ρ
          have e5 : ρ (.tmp 5) = .pointer (some ⟨g5, 0, none⟩) := by rw [← hρ]; kernel_rfl
          clear hρ hV
          refine runs_val (v := .pointer (some ⟨g5, 1, none⟩)) (w' := w) ?_ ⟨Below.refl _ _, rfl⟩
          clear ht1 ht2 hS hC
          go_simp <;> (first | exact IntWalk.u64_in _ (by omega) | exact IntWalk.u32_in _ (by omega) | exact IntWalk.u16_in _ (by omega) | exact IntWalk.u8_in _ (by omega) | exact IntWalk.i64_in _ (by omega) | skip)
        case z11_1o6 =>
          intro vs w hC hS hV
          replace hS : Hp B w00 w [(g6, .cells #[.int .u32 (tkQ l1), .int .u32 (hsQ l1), .slice A5 n5 c5, .slice A6 n6 c6] 26 (0, 0)), (g5, .cells #[.int .u8 5, .int .u32 0, .int .u32 0, .int .u32 (tkQ l1), .int .u32 (hsQ l1), .slice A5 n5 c5, .slice A6 n6 c6] 28 (0, 0)), (B, .cells #[.int .u8 0, .int .u32 0, .int .u32 0, .int .u32 0, .int .u32 0, .slice none 0 0, .slice none 0 0] 28 (0, 0))] [fun X => OfR B X (tkQ l1) (hsQ l1) (plQ l1) (clQ l1) (.agg #[.int .u32 (tkQ l1), .int .u32 (hsQ l1), .slice A5 n5 c5, .slice A6 n6 c6])] := hS
          rw [if_pos (by kernel_rfl)]
          generalize hρ : rho _ _ _ vs = ρ
          have d39 : (vs 5) = .pointer (some ⟨g5, 1, none⟩) := hV 5 (by kernel_rfl)
          have e39 : ρ (.tmp 39) = vs 5 := by rw [← hρ]; kernel_rfl
          rw [d39] at e39; clear d39
          have d37 : (vs 2) = .int .u32 (tkQ l1) := hV 2 (by kernel_rfl)
          have e37 : ρ (.tmp 37) = vs 2 := by rw [← hρ]; kernel_rfl
          rw [d37] at e37; clear d37
          clear hρ hV
          have c1 := blk_cell (hS.get (i := 1) rfl) 1
          have f1 := blk_frozen (hS.get (i := 1) rfl) 1
          have hH := hS.setCell (i := 1) rfl 1 (.int .u32 (tkQ l1))
          refine runs_skip (w' := w.setCell ⟨g5, 1, none⟩ (.int .u32 (tkQ l1))) ?_ ⟨⟨_, hH⟩, trivial, trivial, hH⟩
          clear hS hC hH
          go_simp
        case z11_1e =>
          intro vs W7 hC hS hV
          replace hS : (fun (w : World) => Hp B w00 w [(g6, .cells #[.int .u32 (tkQ l1), .int .u32 (hsQ l1), .slice A5 n5 c5, .slice A6 n6 c6] 26 (0, 0)), (g5, .cells #[.int .u8 5, .int .u32 (tkQ l1), .int .u32 0, .int .u32 (tkQ l1), .int .u32 (hsQ l1), .slice A5 n5 c5, .slice A6 n6 c6] 28 (0, 0)), (B, .cells #[.int .u8 0, .int .u32 0, .int .u32 0, .int .u32 0, .int .u32 0, .slice none 0 0, .slice none 0 0] 28 (0, 0))] [fun X => OfR B X (tkQ l1) (hsQ l1) (plQ l1) (clQ l1) (.agg #[.int .u32 (tkQ l1), .int .u32 (hsQ l1), .slice A5 n5 c5, .slice A6 n6 c6])]) W7 := hS
          have d35 : (vs 0) = .agg #[.int .u32 (tkQ l1), .int .u32 (hsQ l1), .slice A5 n5 c5, .slice A6 n6 c6] := hV 0 (Nat.le_of_ble_eq_true rfl)
          have d36 : (vs 1) = .pointer (some ⟨g6, 0, none⟩) := hV 1 (Nat.le_of_ble_eq_true rfl)
          have d37 : (vs 2) = .int .u32 (tkQ l1) := hV 2 (Nat.le_of_ble_eq_true rfl)
          have d38 : (vs 3) = .pointer (some ⟨g5, 3, none⟩) := hV 3 (Nat.le_of_ble_eq_true rfl)
          have d39 : (vs 5) = .pointer (some ⟨g5, 1, none⟩) := hV 5 (Nat.le_of_ble_eq_true rfl)
          clear hV
          simp only [putAll]
          rw [d35, d36, d37, d38, d39]
          clear d35 d36 d37 d38 d39
          generalize vs 4 = vN4
          generalize vs 6 = vN6
          clear vs
          simp only [Act.put, List.setIfInBounds_toArray, List.set_cons_zero, List.set_cons_succ]
          have H7 := Aside0.mk hS
          clear hS hC
          go_wp2_with (first | (refine wpList_load_row_g 28 (.tmp 5) rfl g5 rfl rfl 28 _ (0, 0) _ (H7.out.get (i := 1) rfl) Try.underlying28 rfl (msg_info _ _ _ _ _ _ _) ?_) | (refine wpList_store_row rfl 28 (.tmp 2) (.tmp 40) rfl B #[.int .u8 5, .int .u32 (tkQ l1), .int .u32 0, .int .u32 (tkQ l1), .int .u32 (hsQ l1), .slice A5 n5 c5, .slice A6 n6 c6] rfl rfl 28 _ (H7.out.get (i := 2) rfl) (msg_info _ _ _ _ _ _ _) rfl (by simp [Value.oneCell']) ?_))
          have H9 := Aside0.mk (H7.out.setRow (i := 2) rfl #[.int .u8 5, .int .u32 (tkQ l1), .int .u32 0, .int .u32 (tkQ l1), .int .u32 (hsQ l1), .slice A5 n5 c5, .slice A6 n6 c6])
          have HRQ : Aside0 (readR q = ⟨true, 5, tkQ l1, 0, tkQ l1, hsQ l1, plQ l1, clQ l1⟩) := ⟨by rw [HQ2.out.1, readR_five _ (by decide) (by decide), if_pos HBE.out]⟩
          refine bodyPost_ret (results_ct rfl _ _ B _ #[.int .u8 5, .int .u32 (tkQ l1), .int .u32 0, .int .u32 (tkQ l1), .int .u32 (hsQ l1), .slice A5 n5 c5, .slice A6 n6 c6] (0, 0) _ rfl (H9.out.get (i := 2) rfl) Try.underlying28 rfl (msg_info _ _ _ _ _ _ _)) rfl ?_
          exact ⟨ReadM.of HRQ.out (OfR.msg (H9.out.fact (i := 0) rfl)), H9.out.bel⟩
    · skip
      by_cases x6 : x = 6
      · subst x6
        have HQ2 : Aside0 (q = 6 :: l1 ∧ b1 = false) := ⟨by rcases HQ.out with h | h; exact absurd h.2.1 (by decide); exact h⟩
        have hq1 : n = l1.length + 1 := by have := HN.out.2.2; rw [HQ2.out.1] at this; simpa using this.symm
        obtain ⟨A9, z1, z2, _⟩ := eye_lo (P := Try.prog) .u8 .i64 23 5 1 Try.underlying23 np_info A n c 1 (by omega) HN.out.2.1
        have hn1 : (1 : Int) ≤ n := by omega
        clear hq1
        have Z1 : Aside0 (∀ W : World, (Instr.slice 23 (.slice A n c) (some (.int .i64 1)) none none).run Try.prog W = .ok (.slice A9 (n - 1) (c - 1)) W) := ⟨fun W => z1 W⟩
        have Z2 : Aside0 (∀ z, Below B w00 z → (Kd.int .u8).C z A9 (n - 1) l1) := ⟨fun z hz => by have := z2 z q (HF.out z hz); rw [HQ2.out.1] at this; exact this⟩
        clear z1 z2
        have z1 := Z1.out
        go_wp2_with fail
        generalize w2.alloc (.cells #[.int .u8 6, .int .u32 0, .int .u32 0, .int .u32 0, .int .u32 0, .slice none 0 0, .slice none 0 0] 28) = W3 at *
        clear z1 Z1 hg5
        refine (parse_any A9 (n - 1) (c - 1) l1 W3 (Z2.out _ H3.out.bel) (by have := HN.out.1; omega) HBL1.out).mono ?_
        rintro e w4 ⟨hp4, hb4⟩
        obtain ⟨A5, n5, c5, A6, n6, c6, rfl, hD4⟩ := parse_formR hp4
        obtain ⟨g6, hg6⟩ : ∃ g6, w4.heap.size = g6 := ⟨_, rfl⟩
        have H4 := Aside0.mk ((H3.out.ofR hb4 hD4).allocAt (.cells #[.int .u32 (tkQ l1), .int .u32 (hsQ l1), .slice A5 n5 c5, .slice A6 n6 c6] 26) g6 hg6)
        clear hp4 hb4 hD4 H3 HE3
        obtain ⟨β, hβ⟩ : ∃ β, okD l1 = β := ⟨_, rfl⟩
        have HEC : ecD l1 = if β = true then 0 else 2 := by unfold ecD; rw [hβ]
        have HBE := Aside0.mk hβ
        clear hβ
        cases β with
        | false =>
          rw [if_neg (by decide)] at HEC
          rw [HEC]
          clear HEC
          go_wp2_with (first | (refine wpList_store_row rfl 28 (.tmp 2) (.tmp 34) rfl B #[.int .u8 0, .int .u32 0, .int .u32 0, .int .u32 0, .int .u32 0, .slice none 0 0, .slice none 0 0] rfl rfl 28 _ (H4.out.get (i := 2) rfl) (msg_info _ _ _ _ _ _ _) rfl (by simp [Value.oneCell']) ?_))
          have H9 := Aside0.mk (H4.out.setRow (i := 2) rfl #[.int .u8 0, .int .u32 0, .int .u32 0, .int .u32 0, .int .u32 0, .slice none 0 0, .slice none 0 0])
          have HRQ : Aside0 (readR q = badR) := ⟨by rw [HQ2.out.1, readR_five _ (by decide) (by decide), if_neg (by rw [HBE.out]; decide)]⟩
          refine bodyPost_ret (results_ct rfl _ _ B _ #[.int .u8 0, .int .u32 0, .int .u32 0, .int .u32 0, .int .u32 0, .slice none 0 0, .slice none 0 0] (0, 0) _ rfl (H9.out.get (i := 2) rfl) Try.underlying28 rfl (msg_info _ _ _ _ _ _ _)) rfl ?_
          exact ⟨ReadM.of HRQ.out (MsC_zero _ 0 0 0), H9.out.bel⟩
        | true =>
          rw [if_pos rfl] at HEC
          rw [HEC]
          clear HEC
          go_wp2_with fail
          generalize hW5 : w4.alloc (.cells #[.int .u32 (tkQ l1), .int .u32 (hsQ l1), .slice A5 n5 c5, .slice A6 n6 c6] 26) = W5 at *
          clear hW5 hg6
          refine regionS (W := W5)
            [fun _ v => v = .agg #[.int .u32 (tkQ l1), .int .u32 (hsQ l1), .slice A5 n5 c5, .slice A6 n6 c6],
             fun _ v => v = .pointer (some ⟨g6, 0, none⟩),
             fun _ v => v = .int .u32 (tkQ l1),
             fun _ v => v = .pointer (some ⟨g5, 3, none⟩),
             fun _ _ => True,
             fun _ v => v = .pointer (some ⟨g5, 1, none⟩),
             fun _ _ => True]
            [4, 6]
            (fun t => match t with | 0 => fun (rs : List Value) (w : World) => Hp B w00 w [(g6, .cells #[.int .u32 (tkQ l1), .int .u32 (hsQ l1), .slice A5 n5 c5, .slice A6 n6 c6] 26 (0, 0)), (g5, .cells #[.int .u8 6, .int .u32 0, .int .u32 0, .int .u32 0, .int .u32 0, .slice none 0 0, .slice none 0 0] 28 (0, 0)), (B, .cells #[.int .u8 0, .int .u32 0, .int .u32 0, .int .u32 0, .int .u32 0, .slice none 0 0, .slice none 0 0] 28 (0, 0))] [fun X => OfR B X (tkQ l1) (hsQ l1) (plQ l1) (clQ l1) (.agg #[.int .u32 (tkQ l1), .int .u32 (hsQ l1), .slice A5 n5 c5, .slice A6 n6 c6])] | 1 => fun (rs : List Value) (w : World) => Hp B w00 w [(g6, .cells #[.int .u32 (tkQ l1), .int .u32 (hsQ l1), .slice A5 n5 c5, .slice A6 n6 c6] 26 (0, 0)), (g5, .cells #[.int .u8 6, .int .u32 0, .int .u32 0, .int .u32 (tkQ l1), .int .u32 (hsQ l1), .slice A5 n5 c5, .slice A6 n6 c6] 28 (0, 0)), (B, .cells #[.int .u8 0, .int .u32 0, .int .u32 0, .int .u32 0, .int .u32 0, .slice none 0 0, .slice none 0 0] 28 (0, 0))] [fun X => OfR B X (tkQ l1) (hsQ l1) (plQ l1) (clQ l1) (.agg #[.int .u32 (tkQ l1), .int .u32 (hsQ l1), .slice A5 n5 c5, .slice A6 n6 c6])] | 2 => fun (rs : List Value) (w : World) => Hp B w00 w [(g6, .cells #[.int .u32 (tkQ l1), .int .u32 (hsQ l1), .slice A5 n5 c5, .slice A6 n6 c6] 26 (0, 0)), (g5, .cells #[.int .u8 6, .int .u32 (tkQ l1), .int .u32 0, .int .u32 (tkQ l1), .int .u32 (hsQ l1), .slice A5 n5 c5, .slice A6 n6 c6] 28 (0, 0)), (B, .cells #[.int .u8 0, .int .u32 0, .int .u32 0, .int .u32 0, .int .u32 0, .slice none 0 0, .slice none 0 0] 28 (0, 0))] [fun X => OfR B X (tkQ l1) (hsQ l1) (plQ l1) (clQ l1) (.agg #[.int .u32 (tkQ l1), .int .u32 (hsQ l1), .slice A5 n5 c5, .slice A6 n6 c6])] | _ => fun _ _ => False)
            (fun _ _ _ => True) (fun w => ∃ o, Hp B w00 w [(g6, .cells #[.int .u32 (tkQ l1), .int .u32 (hsQ l1), .slice A5 n5 c5, .slice A6 n6 c6] 26 (0, 0)), (g5, o), (B, .cells #[.int .u8 0, .int .u32 0, .int .u32 0, .int .u32 0, .int .u32 0, .slice none 0 0, .slice none 0 0] 28 (0, 0))] [fun X => OfR B X (tkQ l1) (hsQ l1) (plQ l1) (clQ l1) (.agg #[.int .u32 (tkQ l1), .int .u32 (hsQ l1), .slice A5 n5 c5, .slice A6 n6 c6])])
            (fun j =>  none)
            [(0, some 35), (1, some 36), (2, some 37), (3, some 38), (4, none), (5, some 39), (6, none)]
            []
            (by kernel_rfl) (by kernel_rfl) (by kernel_rfl) (by kernel_rfl) (by kernel_rfl) ?z11_2c ?z11_2i ?z11_2b ?z11_2d ?z11_2g ⟨?z11_2t0, ?z11_2t1, ?z11_2t2, ?z11_2t3, ?z11_2t4, ?z11_2t5, ?z11_2t6, trivial⟩ ⟨?z11_2o0, ?z11_2o1, ?z11_2o2, ?z11_2o3, ?z11_2o4, ?z11_2o5, ?z11_2o6, trivial⟩ ?z11_2e
          case z11_2c => exact ⟨_, H4.out.drew⟩
          case z11_2i => exact H4.out.drew
          case z11_2b => intro w w' hb h; obtain ⟨o, h⟩ := h; exact ⟨o, h.call hb⟩
          case z11_2d =>
            intro t rs w w' hb h
            match t, h with
            | 0, h => (replace h : Hp B w00 w [(g6, .cells #[.int .u32 (tkQ l1), .int .u32 (hsQ l1), .slice A5 n5 c5, .slice A6 n6 c6] 26 (0, 0)), (g5, .cells #[.int .u8 6, .int .u32 0, .int .u32 0, .int .u32 0, .int .u32 0, .slice none 0 0, .slice none 0 0] 28 (0, 0)), (B, .cells #[.int .u8 0, .int .u32 0, .int .u32 0, .int .u32 0, .int .u32 0, .slice none 0 0, .slice none 0 0] 28 (0, 0))] [fun X => OfR B X (tkQ l1) (hsQ l1) (plQ l1) (clQ l1) (.agg #[.int .u32 (tkQ l1), .int .u32 (hsQ l1), .slice A5 n5 c5, .slice A6 n6 c6])] := h); show Hp B w00 w' [(g6, .cells #[.int .u32 (tkQ l1), .int .u32 (hsQ l1), .slice A5 n5 c5, .slice A6 n6 c6] 26 (0, 0)), (g5, .cells #[.int .u8 6, .int .u32 0, .int .u32 0, .int .u32 0, .int .u32 0, .slice none 0 0, .slice none 0 0] 28 (0, 0)), (B, .cells #[.int .u8 0, .int .u32 0, .int .u32 0, .int .u32 0, .int .u32 0, .slice none 0 0, .slice none 0 0] 28 (0, 0))] [fun X => OfR B X (tkQ l1) (hsQ l1) (plQ l1) (clQ l1) (.agg #[.int .u32 (tkQ l1), .int .u32 (hsQ l1), .slice A5 n5 c5, .slice A6 n6 c6])]; exact Hp.call h hb
            | 1, h => (replace h : Hp B w00 w [(g6, .cells #[.int .u32 (tkQ l1), .int .u32 (hsQ l1), .slice A5 n5 c5, .slice A6 n6 c6] 26 (0, 0)), (g5, .cells #[.int .u8 6, .int .u32 0, .int .u32 0, .int .u32 (tkQ l1), .int .u32 (hsQ l1), .slice A5 n5 c5, .slice A6 n6 c6] 28 (0, 0)), (B, .cells #[.int .u8 0, .int .u32 0, .int .u32 0, .int .u32 0, .int .u32 0, .slice none 0 0, .slice none 0 0] 28 (0, 0))] [fun X => OfR B X (tkQ l1) (hsQ l1) (plQ l1) (clQ l1) (.agg #[.int .u32 (tkQ l1), .int .u32 (hsQ l1), .slice A5 n5 c5, .slice A6 n6 c6])] := h); show Hp B w00 w' [(g6, .cells #[.int .u32 (tkQ l1), .int .u32 (hsQ l1), .slice A5 n5 c5, .slice A6 n6 c6] 26 (0, 0)), (g5, .cells #[.int .u8 6, .int .u32 0, .int .u32 0, .int .u32 (tkQ l1), .int .u32 (hsQ l1), .slice A5 n5 c5, .slice A6 n6 c6] 28 (0, 0)), (B, .cells #[.int .u8 0, .int .u32 0, .int .u32 0, .int .u32 0, .int .u32 0, .slice none 0 0, .slice none 0 0] 28 (0, 0))] [fun X => OfR B X (tkQ l1) (hsQ l1) (plQ l1) (clQ l1) (.agg #[.int .u32 (tkQ l1), .int .u32 (hsQ l1), .slice A5 n5 c5, .slice A6 n6 c6])]; exact Hp.call h hb
            | 2, h => (replace h : Hp B w00 w [(g6, .cells #[.int .u32 (tkQ l1), .int .u32 (hsQ l1), .slice A5 n5 c5, .slice A6 n6 c6] 26 (0, 0)), (g5, .cells #[.int .u8 6, .int .u32 (tkQ l1), .int .u32 0, .int .u32 (tkQ l1), .int .u32 (hsQ l1), .slice A5 n5 c5, .slice A6 n6 c6] 28 (0, 0)), (B, .cells #[.int .u8 0, .int .u32 0, .int .u32 0, .int .u32 0, .int .u32 0, .slice none 0 0, .slice none 0 0] 28 (0, 0))] [fun X => OfR B X (tkQ l1) (hsQ l1) (plQ l1) (clQ l1) (.agg #[.int .u32 (tkQ l1), .int .u32 (hsQ l1), .slice A5 n5 c5, .slice A6 n6 c6])] := h); show Hp B w00 w' [(g6, .cells #[.int .u32 (tkQ l1), .int .u32 (hsQ l1), .slice A5 n5 c5, .slice A6 n6 c6] 26 (0, 0)), (g5, .cells #[.int .u8 6, .int .u32 (tkQ l1), .int .u32 0, .int .u32 (tkQ l1), .int .u32 (hsQ l1), .slice A5 n5 c5, .slice A6 n6 c6] 28 (0, 0)), (B, .cells #[.int .u8 0, .int .u32 0, .int .u32 0, .int .u32 0, .int .u32 0, .slice none 0 0, .slice none 0 0] 28 (0, 0))] [fun X => OfR B X (tkQ l1) (hsQ l1) (plQ l1) (clQ l1) (.agg #[.int .u32 (tkQ l1), .int .u32 (hsQ l1), .slice A5 n5 c5, .slice A6 n6 c6])]; exact Hp.call h hb
            | _ + 3, h => exact h.elim
          case z11_2g =>
            intro j hj; cases hj
          case z11_2t0 => exact StabS.const _ _ _ _
          case z11_2t1 => exact StabS.const _ _ _ _
          case z11_2t2 => exact StabS.const _ _ _ _
          case z11_2t3 => exact StabS.const _ _ _ _
          case z11_2t4 => exact StabS.const _ _ _ _
          case z11_2t5 => exact StabS.const _ _ _ _
          case z11_2t6 => exact StabS.const _ _ _ _
          case z11_2o0 =>
            intro vs w t hC ht1 ht2 hS hV
            rw [if_pos (by kernel_rfl)]
            generalize hρ : rho _ _ _ vs = ρ
            have e6 : ρ (.tmp 6) = .pointer (some ⟨g6, 0, none⟩) := by rw [← hρ]; kernel_rfl
            clear hρ hV
            obtain ⟨o, hH⟩ := hC
            have c0 := blk_cell (hH.get (i := 0) rfl) 0
            have c1 := blk_cell (hH.get (i := 0) rfl) 1
            have c2 := blk_cell (hH.get (i := 0) rfl) 2
            have c3 := blk_cell (hH.get (i := 0) rfl) 3
            refine runs_val (v := .agg #[.int .u32 (tkQ l1), .int .u32 (hsQ l1), .slice A5 n5 c5, .slice A6 n6 c6]) (w' := w) ?_ ⟨Below.refl _ _, rfl⟩
            clear ht1 ht2 hS hH
            go_simp
          case z11_2o1 =>
            intro vs w t hC ht1 ht2 hS hV
            rw [if_pos (by kernel_rfl)]
            generalize hρ : rho _ _ _ vs = ρ
            have e6 : ρ (.tmp 6) = .pointer (some ⟨g6, 0, none⟩) := by rw [← hρ]; kernel_rfl
            clear hρ hV
            refine runs_val (v := .pointer (some ⟨g6, 0, none⟩)) (w' := w) ?_ ⟨Below.refl _ _, rfl⟩
            clear ht1 ht2 hS hC
            go_simp <;> (first | exact IntWalk.u64_in _ (by omega) | exact IntWalk.u32_in _ (by omega) | exact IntWalk.u16_in _ (by omega) | exact IntWalk.u8_in _ (by omega) | exact IntWalk.i64_in _ (by omega) | skip)
          case z11_2o2 =>
            intro vs w t hC ht1 ht2 hS hV
            rw [if_pos (by kernel_rfl)]
            generalize hρ : rho _ _ _ vs = ρ
            have d36 : (vs 1) = .pointer (some ⟨g6, 0, none⟩) := hV 1 (by kernel_rfl)
            have e36 : ρ (.tmp 36) = vs 1 := by rw [← hρ]; kernel_rfl
            rw [d36] at e36; clear d36
            clear hρ hV
            obtain ⟨o, hH⟩ := hC
            have c0 := blk_cell (hH.get (i := 0) rfl) 0
            refine runs_val (v := .int .u32 (tkQ l1)) (w' := w) ?_ ⟨Below.refl _ _, rfl⟩
            clear ht1 ht2 hS hH
            go_simp
          case z11_2o3 =>
            intro vs w t hC ht1 ht2 hS hV
            rw [if_pos (by kernel_rfl)]
            generalize hρ : rho _ _ _ vs = ρ
            have e5 : ρ (.tmp 5) = .pointer (some ⟨g5, 0, none⟩) := by rw [← hρ]; kernel_rfl
            clear hρ hV
            refine runs_val (v := .pointer (some ⟨g5, 3, none⟩)) (w' := w) ?_ ⟨Below.refl _ _, rfl⟩
            clear ht1 ht2 hS hC
            go_simp <;> (first | exact IntWalk.u64_in _ (by omega) | exact IntWalk.u32_in _ (by omega) | exact IntWalk.u16_in _ (by omega) | exact IntWalk.u8_in _ (by omega) | exact IntWalk.i64_in _ (by omega) | skip)
          case z11_2o4 =>
            intro vs w hC hS hV
            replace hS : Hp B w00 w [(g6, .cells #[.int .u32 (tkQ l1), .int .u32 (hsQ l1), .slice A5 n5 c5, .slice A6 n6 c6] 26 (0, 0)), (g5, .cells #[.int .u8 6, .int .u32 0, .int .u32 0, .int .u32 0, .int .u32 0, .slice none 0 0, .slice none 0 0] 28 (0, 0)), (B, .cells #[.int .u8 0, .int .u32 0, .int .u32 0, .int .u32 0, .int .u32 0, .slice none 0 0, .slice none 0 0] 28 (0, 0))] [fun X => OfR B X (tkQ l1) (hsQ l1) (plQ l1) (clQ l1) (.agg #[.int .u32 (tkQ l1), .int .u32 (hsQ l1), .slice A5 n5 c5, .slice A6 n6 c6])] := hS
            rw [if_pos (by kernel_rfl)]
            generalize hρ : rho _ _ _ vs = ρ
            have d38 : (vs 3) = .pointer (some ⟨g5, 3, none⟩) := hV 3 (by kernel_rfl)
            have e38 : ρ (.tmp 38) = vs 3 := by rw [← hρ]; kernel_rfl
            rw [d38] at e38; clear d38
            have d35 : (vs 0) = .agg #[.int .u32 (tkQ l1), .int .u32 (hsQ l1), .slice A5 n5 c5, .slice A6 n6 c6] := hV 0 (by kernel_rfl)
            have e35 : ρ (.tmp 35) = vs 0 := by rw [← hρ]; kernel_rfl
            rw [d35] at e35; clear d35
            clear hρ hV
            have c3 := blk_cell (hS.get (i := 1) rfl) 3
            have c4 := blk_cell (hS.get (i := 1) rfl) 4
            have c5' := blk_cell (hS.get (i := 1) rfl) 5
            have c6' := blk_cell (hS.get (i := 1) rfl) 6
            have f3 := blk_frozen (hS.get (i := 1) rfl) 3
            have f4 := blk_frozen (hS.get (i := 1) rfl) 4
            have f5 := blk_frozen (hS.get (i := 1) rfl) 5
            have f6 := blk_frozen (hS.get (i := 1) rfl) 6
            have hH := (((hS.setCell (i := 1) rfl 3 (.int .u32 (tkQ l1))).setCell (i := 1) rfl 4 (.int .u32 (hsQ l1))).setCell (i := 1) rfl 5 (.slice A5 n5 c5)).setCell (i := 1) rfl 6 (.slice A6 n6 c6)
            refine runs_skip (w' := (((w.setCell ⟨g5, 3, none⟩ (.int .u32 (tkQ l1))).setCell ⟨g5, 4, none⟩ (.int .u32 (hsQ l1))).setCell ⟨g5, 5, none⟩ (.slice A5 n5 c5)).setCell ⟨g5, 6, none⟩ (.slice A6 n6 c6)) ?_ ⟨⟨_, hH⟩, trivial, trivial, hH⟩
            clear hS hC hH
            go_simp
          case z11_2o5 =>
            intro vs w t hC ht1 ht2 hS hV
            rw [if_pos (by kernel_rfl)]
            generalize hρ : rho _ _ _ vs = ρ
            have e5 : ρ (.tmp 5) = .pointer (some ⟨g5, 0, none⟩) := by rw [← hρ]; kernel_rfl
            clear hρ hV
            refine runs_val (v := .pointer (some ⟨g5, 1, none⟩)) (w' := w) ?_ ⟨Below.refl _ _, rfl⟩
            clear ht1 ht2 hS hC
            go_simp <;> (first | exact IntWalk.u64_in _ (by omega) | exact IntWalk.u32_in _ (by omega) | exact IntWalk.u16_in _ (by omega) | exact IntWalk.u8_in _ (by omega) | exact IntWalk.i64_in _ (by omega) | skip)
          case z11_2o6 =>
            intro vs w hC hS hV
            replace hS : Hp B w00 w [(g6, .cells #[.int .u32 (tkQ l1), .int .u32 (hsQ l1), .slice A5 n5 c5, .slice A6 n6 c6] 26 (0, 0)), (g5, .cells #[.int .u8 6, .int .u32 0, .int .u32 0, .int .u32 (tkQ l1), .int .u32 (hsQ l1), .slice A5 n5 c5, .slice A6 n6 c6] 28 (0, 0)), (B, .cells #[.int .u8 0, .int .u32 0, .int .u32 0, .int .u32 0, .int .u32 0, .slice none 0 0, .slice none 0 0] 28 (0, 0))] [fun X => OfR B X (tkQ l1) (hsQ l1) (plQ l1) (clQ l1) (.agg #[.int .u32 (tkQ l1), .int .u32 (hsQ l1), .slice A5 n5 c5, .slice A6 n6 c6])] := hS
            rw [if_pos (by kernel_rfl)]
            generalize hρ : rho _ _ _ vs = ρ
            have d39 : (vs 5) = .pointer (some ⟨g5, 1, none⟩) := hV 5 (by kernel_rfl)
            have e39 : ρ (.tmp 39) = vs 5 := by rw [← hρ]; kernel_rfl
            rw [d39] at e39; clear d39
            have d37 : (vs 2) = .int .u32 (tkQ l1) := hV 2 (by kernel_rfl)
            have e37 : ρ (.tmp 37) = vs 2 := by rw [← hρ]; kernel_rfl
            rw [d37] at e37; clear d37
            clear hρ hV
            have c1 := blk_cell (hS.get (i := 1) rfl) 1
            have f1 := blk_frozen (hS.get (i := 1) rfl) 1
            have hH := hS.setCell (i := 1) rfl 1 (.int .u32 (tkQ l1))
            refine runs_skip (w' := w.setCell ⟨g5, 1, none⟩ (.int .u32 (tkQ l1))) ?_ ⟨⟨_, hH⟩, trivial, trivial, hH⟩
            clear hS hC hH
            go_simp
          case z11_2e =>
            intro vs W7 hC hS hV
            replace hS : (fun (w : World) => Hp B w00 w [(g6, .cells #[.int .u32 (tkQ l1), .int .u32 (hsQ l1), .slice A5 n5 c5, .slice A6 n6 c6] 26 (0, 0)), (g5, .cells #[.int .u8 6, .int .u32 (tkQ l1), .int .u32 0, .int .u32 (tkQ l1), .int .u32 (hsQ l1), .slice A5 n5 c5, .slice A6 n6 c6] 28 (0, 0)), (B, .cells #[.int .u8 0, .int .u32 0, .int .u32 0, .int .u32 0, .int .u32 0, .slice none 0 0, .slice none 0 0] 28 (0, 0))] [fun X => OfR B X (tkQ l1) (hsQ l1) (plQ l1) (clQ l1) (.agg #[.int .u32 (tkQ l1), .int .u32 (hsQ l1), .slice A5 n5 c5, .slice A6 n6 c6])]) W7 := hS
            have d35 : (vs 0) = .agg #[.int .u32 (tkQ l1), .int .u32 (hsQ l1), .slice A5 n5 c5, .slice A6 n6 c6] := hV 0 (Nat.le_of_ble_eq_true rfl)
            have d36 : (vs 1) = .pointer (some ⟨g6, 0, none⟩) := hV 1 (Nat.le_of_ble_eq_true rfl)
            have d37 : (vs 2) = .int .u32 (tkQ l1) := hV 2 (Nat.le_of_ble_eq_true rfl)
            have d38 : (vs 3) = .pointer (some ⟨g5, 3, none⟩) := hV 3 (Nat.le_of_ble_eq_true rfl)
            have d39 : (vs 5) = .pointer (some ⟨g5, 1, none⟩) := hV 5 (Nat.le_of_ble_eq_true rfl)
            clear hV
            simp only [putAll]
            rw [d35, d36, d37, d38, d39]
            clear d35 d36 d37 d38 d39
            generalize vs 4 = vN4
            generalize vs 6 = vN6
            clear vs
            simp only [Act.put, List.setIfInBounds_toArray, List.set_cons_zero, List.set_cons_succ]
            have H7 := Aside0.mk hS
            clear hS hC
            go_wp2_with (first | (refine wpList_load_row_g 28 (.tmp 5) rfl g5 rfl rfl 28 _ (0, 0) _ (H7.out.get (i := 1) rfl) Try.underlying28 rfl (msg_info _ _ _ _ _ _ _) ?_) | (refine wpList_store_row rfl 28 (.tmp 2) (.tmp 40) rfl B #[.int .u8 6, .int .u32 (tkQ l1), .int .u32 0, .int .u32 (tkQ l1), .int .u32 (hsQ l1), .slice A5 n5 c5, .slice A6 n6 c6] rfl rfl 28 _ (H7.out.get (i := 2) rfl) (msg_info _ _ _ _ _ _ _) rfl (by simp [Value.oneCell']) ?_))
            have H9 := Aside0.mk (H7.out.setRow (i := 2) rfl #[.int .u8 6, .int .u32 (tkQ l1), .int .u32 0, .int .u32 (tkQ l1), .int .u32 (hsQ l1), .slice A5 n5 c5, .slice A6 n6 c6])
            have HRQ : Aside0 (readR q = ⟨true, 6, tkQ l1, 0, tkQ l1, hsQ l1, plQ l1, clQ l1⟩) := ⟨by rw [HQ2.out.1, readR_five _ (by decide) (by decide), if_pos HBE.out]⟩
            refine bodyPost_ret (results_ct rfl _ _ B _ #[.int .u8 6, .int .u32 (tkQ l1), .int .u32 0, .int .u32 (tkQ l1), .int .u32 (hsQ l1), .slice A5 n5 c5, .slice A6 n6 c6] (0, 0) _ rfl (H9.out.get (i := 2) rfl) Try.underlying28 rfl (msg_info _ _ _ _ _ _ _)) rfl ?_
            exact ⟨ReadM.of HRQ.out (OfR.msg (H9.out.fact (i := 0) rfl)), H9.out.bel⟩
      · skip
        have HRR : Aside0 (b1 = true ∨ 0 < l1.length → readR q = badR) := ⟨by
          rcases HQ.out with h | h
          · intro _; rw [h.1]; rfl
          · rw [h.1, h.2]
            intro hh
            have h0 : l1.length ≠ 0 := by rcases hh with hh | hh; cases hh; omega
            rw [readR_oth _ x2 (by omega), if_neg h0]; split <;> rfl⟩
        have HRS : Aside0 (¬ (b1 = true ∨ 0 < l1.length) → readR q = if x = 1 ∨ x = 3 ∨ x = 4 then ⟨true, x, 0, 0, 0, 0, [], []⟩ else badR) := ⟨by
          intro hh
          rcases HQ.out with h | h
          · exact absurd (.inl h.2.2.2) hh
          · rw [h.1]
            have h0 : l1.length = 0 := by have := fun e => hh (.inr e); omega
            rw [readR_oth _ x2 (by omega), if_pos h0]⟩
        go_wp2_with fail
        generalize w2.alloc (.cells #[.int .u8 x, .int .u32 0, .int .u32 0, .int .u32 0, .int .u32 0, .slice none 0 0, .slice none 0 0] 28) = W3 at *
        clear hg5
        refine (done_any ge BB l1 b1 W3 HE3.out).mono ?_
        rintro e w7 ⟨rfl, rfl⟩
        by_cases hd : b1 = true ∨ 0 < l1.length
        · rw [if_pos hd]
          have HDD := Aside0.mk (HRR.out hd)
          clear hd
          go_wp2_with (first | (refine wpList_store_row rfl 28 (.tmp 2) (.tmp 49) rfl B #[.int .u8 0, .int .u32 0, .int .u32 0, .int .u32 0, .int .u32 0, .slice none 0 0, .slice none 0 0] rfl rfl 28 _ (H3.out.get (i := 1) rfl) (msg_info _ _ _ _ _ _ _) rfl (by simp [Value.oneCell']) ?_))
          have H9 := Aside0.mk (H3.out.setRow (i := 1) rfl #[.int .u8 0, .int .u32 0, .int .u32 0, .int .u32 0, .int .u32 0, .slice none 0 0, .slice none 0 0])
          have HRQ : Aside0 (readR q = badR) := ⟨HDD.out⟩
          refine bodyPost_ret (results_ct rfl _ _ B _ #[.int .u8 0, .int .u32 0, .int .u32 0, .int .u32 0, .int .u32 0, .slice none 0 0, .slice none 0 0] (0, 0) _ rfl (H9.out.get (i := 1) rfl) Try.underlying28 rfl (msg_info _ _ _ _ _ _ _)) rfl ?_
          exact ⟨ReadM.of HRQ.out (MsC_zero _ 0 0 0), H9.out.bel⟩
        · rw [if_neg hd]
          have HDD := Aside0.mk (HRS.out hd)
          clear hd HRR HRS HQ
          go_wp2_with (first | (refine wpList_load_row_g 28 (.tmp 5) rfl g5 rfl rfl 28 _ (0, 0) _ (H3.out.get (i := 0) rfl) Try.underlying28 rfl (msg_info _ _ _ _ _ _ _) ?_))
          refine (mright_any x 0 0 0 0 [] [] _ _ (MsC_zero _ _ _ _) (OkM_zero HX.out (by omega) (by omega))).mono ?_
          rintro e w8 ⟨rfl, hb8⟩
          have H8 := Aside0.mk (H3.out.call hb8)
          clear hb8 H3 HE3
          by_cases h134 : x = 1 ∨ x = 3 ∨ x = 4
          · have HDE := HDD.out
            rw [if_pos h134] at HDE
            have HD2 := Aside0.mk HDE
            rw [show rightM x 0 0 0 0 [] [] = true by unfold rightM isZ; rw [if_pos h134]; simp]
            clear HDE HDD h134
            go_wp2_with (first | (refine wpList_load_row_g 28 (.tmp 5) rfl g5 rfl rfl 28 _ (0, 0) _ (H8.out.get (i := 0) rfl) Try.underlying28 rfl (msg_info _ _ _ _ _ _ _) ?_) | (refine wpList_store_row rfl 28 (.tmp 2) (.tmp 50) rfl B #[.int .u8 x, .int .u32 0, .int .u32 0, .int .u32 0, .int .u32 0, .slice none 0 0, .slice none 0 0] rfl rfl 28 _ (H8.out.get (i := 1) rfl) (msg_info _ _ _ _ _ _ _) rfl (by simp [Value.oneCell']) ?_))
            have H9 := Aside0.mk ((H8.out).setRow (i := 1) rfl #[.int .u8 x, .int .u32 0, .int .u32 0, .int .u32 0, .int .u32 0, .slice none 0 0, .slice none 0 0])
            have HRQ : Aside0 (readR q = ⟨true, x, 0, 0, 0, 0, [], []⟩) := ⟨HD2.out⟩
            refine bodyPost_ret (results_ct rfl _ _ B _ #[.int .u8 x, .int .u32 0, .int .u32 0, .int .u32 0, .int .u32 0, .slice none 0 0, .slice none 0 0] (0, 0) _ rfl (H9.out.get (i := 1) rfl) Try.underlying28 rfl (msg_info _ _ _ _ _ _ _)) rfl ?_
            exact ⟨ReadM.of HRQ.out (MsC_zero _ _ _ _), H9.out.bel⟩
          · have HDE := HDD.out
            rw [if_neg h134] at HDE
            have HD2 := Aside0.mk HDE
            rw [show rightM x 0 0 0 0 [] [] = false by unfold rightM; rw [if_neg h134, if_neg x2, if_neg (by omega)]]
            clear HDE HDD h134
            go_wp2_with (first | (refine wpList_store_row rfl 28 (.tmp 2) (.tmp 49) rfl B #[.int .u8 0, .int .u32 0, .int .u32 0, .int .u32 0, .int .u32 0, .slice none 0 0, .slice none 0 0] rfl rfl 28 _ (H8.out.get (i := 1) rfl) (msg_info _ _ _ _ _ _ _) rfl (by simp [Value.oneCell']) ?_))
            have H9 := Aside0.mk (H8.out.setRow (i := 1) rfl #[.int .u8 0, .int .u32 0, .int .u32 0, .int .u32 0, .int .u32 0, .slice none 0 0, .slice none 0 0])
            have HRQ : Aside0 (readR q = badR) := ⟨HD2.out⟩
            refine bodyPost_ret (results_ct rfl _ _ B _ #[.int .u8 0, .int .u32 0, .int .u32 0, .int .u32 0, .int .u32 0, .slice none 0 0, .slice none 0 0] (0, 0) _ rfl (H9.out.get (i := 1) rfl) Try.underlying28 rfl (msg_info _ _ _ _ _ _ _)) rfl ?_
            exact ⟨ReadM.of HRQ.out (MsC_zero _ 0 0 0), H9.out.bel⟩
end Go.Proofs.Yticpjidcgaaldaa

namespace Go.Proofs.Yticpjidcgaaldaa
open Go.RowKit Go.Proofs.YticpjidcgaaldaaW.PrintWords Go.Proofs.YticpjidcgaaldaaW.PrintLast Go.Proofs.YticpjidcgaaldaaW.PrintMore
set_option linter.unusedVariables false
set_option linter.unusedSimpArgs false

def FParseR (p : List Int) (w' : World) (e : Ending) : Prop := ∃ v, e = .returned (.tuple #[v, .int .i64 (parseF p).err]) ∧ FrC w' (parseF p).ep (parseF p).sq (parseF p).nx (parseF p).bt (parseF p).fi (parseF p).la (parseF p).al (parseF p).D v
theorem FParseR.of {p : List Int} {r : FRes} {w' : World} {v : Value} (hp : parseF p = r) (hv : FrC w' r.ep r.sq r.nx r.bt r.fi r.la r.al r.D v) : FParseR p w' (.returned (.tuple #[v, .int .i64 r.err])) := by
  subst hp; exact ⟨v, rfl, hv⟩
theorem FrC_zero (w : World) : FrC w 0 0 0 0 false false false [] (.agg #[.int .u16 0, .int .u16 0, .int .u16 0, .int .u32 0, .bool false, .bool false, .bool false, .slice none 0 0]) := ⟨none, 0, rfl, Nat.le_refl _, Kd.C_nil _ _⟩
theorem zero_frame (w : World) : (zeroValue 72).run Try.prog w = .ok (.agg #[.int .u16 0, .int .u16 0, .int .u16 0, .int .u32 0, .bool false, .bool false, .bool false, .slice none 0 0]) w := by kernel_rfl
theorem and_b1 (f : Int) (h : 0 ≤ f ∧ f < 256) : bits .and .u8 f 1 = f % 2 := by
  obtain ⟨n, rfl⟩ : ∃ n : Nat, f = (n : Int) := ⟨f.toNat, by omega⟩
  have key : ∀ n : Nat, n < 256 → bits .and .u8 (n : Int) 1 = (n : Int) % 2 := by decide +kernel
  exact key n (by omega)
theorem and_b2 (f : Int) (h : 0 ≤ f ∧ f < 256) : bits .and .u8 f 2 = 2 * (f / 2 % 2) := by
  obtain ⟨n, rfl⟩ : ∃ n : Nat, f = (n : Int) := ⟨f.toNat, by omega⟩
  have key : ∀ n : Nat, n < 256 → bits .and .u8 (n : Int) 2 = 2 * ((n : Int) / 2 % 2) := by decide +kernel
  exact key n (by omega)
theorem and_b4 (f : Int) (h : 0 ≤ f ∧ f < 256) : bits .and .u8 f 4 = 4 * (f / 4 % 2) := by
  obtain ⟨n, rfl⟩ : ∃ n : Nat, f = (n : Int) := ⟨f.toNat, by omega⟩
  have key : ∀ n : Nat, n < 256 → bits .and .u8 (n : Int) 4 = 4 * ((n : Int) / 4 % 2) := by decide +kernel
  exact key n (by omega)
theorem and_b (f : Int) (h : 0 ≤ f ∧ f < 256) : (bits .and .u8 f 1 != 0) = b1F f ∧ (bits .and .u8 f 2 != 0) = b2F f ∧ (bits .and .u8 f 4 != 0) = b4F f := by
  rw [and_b1 f h, and_b2 f h, and_b4 f h]
  unfold b1F b2F b4F
  refine ⟨?_, ?_, ?_⟩ <;> (rw [Bool.eq_iff_iff]; rw [bne_iff_ne, decide_eq_true_iff]; omega)

theorem eblob_bytes (most : Nat) (hm : most < 18446744073709551616) (l : List Int) (bad : Bool) (hb : Bytes l) : Bytes (eBlob most l bad).1 := by
  obtain ⟨n, h1, h2, h3, h4⟩ := eNum_facts most hm l bad hb
  unfold eBlob
  generalize eNum most l bad = r at *
  obtain ⟨a, b, d⟩ := r
  simp only at h3 ⊢
  split
  · exact Bytes.nil
  · exact h3.take _
set_option maxRecDepth 100000 in
set_option maxHeartbeats 16000000 in
theorem fparse_any (A : Option Addr) (n c : Nat) (p : List Int) (w00 : World) (hp : (Kd.int .u8).C w00 A n p) (hc : n ≤ c) (hn : n ≤ 100000) (hb : Bytes p) :
    Calls Try.prog 29 #[.slice A n c] w00 fun e w' => FParseR p w' e ∧ Below w00.heap.size w00 w' := by
  have HF : Aside0 (∀ z, Below w00.heap.size w00 z → (Kd.int .u8).C z A n p) := ⟨fun z hz => Kd.C_below hp hz⟩
  obtain ⟨B, hB⟩ : ∃ B, w00.heap.size = B := ⟨_, rfl⟩
  have H0 := Aside0.mk ((Hp.start w00).allocAt (.cells #[.int .u16 0, .int .u16 0, .int .u16 0, .int .u32 0, .bool false, .bool false, .bool false, .slice none 0 0] 72) B hB)
  rw [hB] at H0 HF
  rw [hB]
  have HN := Aside0.mk (And.intro hn (And.intro hc hp.1))
  have HBP := Aside0.mk hb
  have hz8 := zero_frame
  clear hp hn hb hc
  go_enter Try.func29, Try.ntmps29
  go_wp2_with fail
  clear hB
  refine (make_any _).mono ?_
  rintro e w1 ⟨tb, rfl, hT, hb1⟩
  have H1 := Aside0.mk (H0.out.call hb1)
  have HT := Aside0.mk hT
  clear hb1 H0 hT
  go_wp2_with fail
  by_cases h4 : n < 4
  · have HPQ : Aside0 (parseF p = badF 2) := ⟨by unfold parseF; rw [if_pos (by have := HN.out.2.2; omega)]⟩
    clear HT
    refine (open_short tb A n c _ h4).mono ?_
    rintro e w2 ⟨rfl, hb2⟩
    have H2 := Aside0.mk (H1.out.call hb2)
    clear hb2 H1
    go_wp2_with (first | (refine wpList_store_row rfl 72 (.tmp 2) (.tmp 18) rfl B #[.int .u16 0, .int .u16 0, .int .u16 0, .int .u32 0, .bool false, .bool false, .bool false, .slice none 0 0] rfl rfl 72 _ (H2.out.get (i := 0) rfl) (frame_info _ _ _ _ _ _ _ _) rfl (by simp [Value.oneCell']) ?_))
    have H9 := Aside0.mk (H2.out.setRow (i := 0) rfl #[.int .u16 0, .int .u16 0, .int .u16 0, .int .u32 0, .bool false, .bool false, .bool false, .slice none 0 0])
    refine bodyPost_ret (results_ct rfl _ _ B _ #[.int .u16 0, .int .u16 0, .int .u16 0, .int .u32 0, .bool false, .bool false, .bool false, .slice none 0 0] (0, 0) _ rfl (H9.out.get (i := 0) rfl) Try.underlying72 rfl (frame_info _ _ _ _ _ _ _ _)) rfl ?_
    exact ⟨FParseR.of HPQ.out (FrC_zero _), H9.out.bel⟩
  · obtain ⟨β, hβ⟩ : ∃ β, sealedB p = β := ⟨_, rfl⟩
    have hq : decide (p.drop (n - 4) = tailL (sumN tab (p.take (n - 4)))) = β := by rw [← hβ]; unfold sealedB; rw [HN.out.2.2]
    refine (open_long β tab tb A n c p _ HT.out (HF.out _ H1.out.bel) HN.out.2.1 HBP.out (by omega) (by have := HN.out.1; omega) hq).mono ?_
    rintro e w2 ⟨v2, rfl, hv2, hb2⟩
    clear hq HT
    cases β with
    | false =>
      have HPQ : Aside0 (parseF p = badF 5) := ⟨by unfold parseF; rw [if_neg (by have := HN.out.2.2; omega), if_pos hβ]⟩
      have H2 := Aside0.mk (H1.out.call hb2)
      obtain ⟨A2, c2, rfl, _, _⟩ := Kd.R_reads hv2
      clear hb2 hv2 H1 hβ
      simp only [Bool.false_eq_true, if_false]
      go_wp2_with (first | (refine wpList_store_row rfl 72 (.tmp 2) (.tmp 18) rfl B #[.int .u16 0, .int .u16 0, .int .u16 0, .int .u32 0, .bool false, .bool false, .bool false, .slice none 0 0] rfl rfl 72 _ (H2.out.get (i := 0) rfl) (frame_info _ _ _ _ _ _ _ _) rfl (by simp [Value.oneCell']) ?_))
      have H9 := Aside0.mk (H2.out.setRow (i := 0) rfl #[.int .u16 0, .int .u16 0, .int .u16 0, .int .u32 0, .bool false, .bool false, .bool false, .slice none 0 0])
      refine bodyPost_ret (results_ct rfl _ _ B _ #[.int .u16 0, .int .u16 0, .int .u16 0, .int .u32 0, .bool false, .bool false, .bool false, .slice none 0 0] (0, 0) _ rfl (H9.out.get (i := 0) rfl) Try.underlying72 rfl (frame_info _ _ _ _ _ _ _ _)) rfl ?_
      exact ⟨FParseR.of HPQ.out (FrC_zero _), H9.out.bel⟩
    | true =>
      simp only [if_true] at hv2 ⊢
      obtain ⟨q, hq⟩ : ∃ q, p.take (n - 4) = q := ⟨_, rfl⟩
      rw [hq] at hv2
      have HPQ : Aside0 (parseF p = if (eyeF q).good p = true then ⟨0, (eyeF q).ep, (eyeF q).sq, (eyeF q).nx, (eyeF q).bt, b1F (eyeF q).fl, b2F (eyeF q).fl, b4F (eyeF q).fl, (eyeF q).D⟩ else badF 2) := ⟨by
        unfold parseF; rw [if_neg (by have := HN.out.2.2; omega), if_neg (by rw [hβ]; decide), HN.out.2.2, hq]⟩
      have HBQ : Aside0 (Bytes q) := ⟨by rw [← hq]; exact HBP.out.take _⟩
      have HQN : Aside0 (q.length ≤ 100000) := ⟨by rw [← hq, List.length_take]; have := HN.out.1; omega⟩
      obtain ⟨A2, c2, rfl, hc2, hC2⟩ := Kd.R_reads hv2
      have H2 := Aside0.mk (H1.out.call hb2)
      have KR := Aside0.mk (read_any A2 q.length c2 q w2 hC2 (by have := HQN.out; omega))
      clear hv2 hb2 hC2 hc2 H1 hβ hq
      go_wp2_with fail
      refine KR.out.mono ?_
      rintro e w3 ⟨ge, rfl, hge, hEy, hb3⟩
      obtain ⟨BB, hBB⟩ : ∃ BB, w3.heap.size = BB := ⟨_, rfl⟩
      rw [hBB] at hEy
      have hgB : ge < BB := by obtain ⟨_, _, _, _, _, _, _, h5⟩ := hEy; exact h5
      have hge2 : B < ge := Nat.lt_of_lt_of_le (H2.out.lt (i := 0) rfl) hge
      have HGE := Aside0.mk (And.intro hge2 (And.intro hgB (show BB ≤ w3.heap.size by omega)))
      have H3 := Aside0.mk (H2.out.call hb3)
      have HE3 := Aside0.mk hEy
      clear hge hEy hb3 hBB hge2 hgB H2 KR
      obtain ⟨⟨mg, l1, b1⟩, e1⟩ : ∃ y, eByte q false = y := ⟨_, rfl⟩
      obtain ⟨⟨ep, l2, b2⟩, e2⟩ : ∃ y, eFix 2 l1 b1 = y := ⟨_, rfl⟩
      obtain ⟨⟨sq, l3, b3⟩, e3⟩ : ∃ y, eFix 2 l2 b2 = y := ⟨_, rfl⟩
      obtain ⟨⟨nx, l4, b4⟩, e4⟩ : ∃ y, eFix 2 l3 b3 = y := ⟨_, rfl⟩
      obtain ⟨⟨bt, l5, b5⟩, e5⟩ : ∃ y, eFix 4 l4 b4 = y := ⟨_, rfl⟩
      obtain ⟨⟨fl, l6, b6⟩, e6⟩ : ∃ y, eByte l5 b5 = y := ⟨_, rfl⟩
      obtain ⟨⟨D, l7, b7⟩, e7⟩ : ∃ y, eBlob 64 l6 b6 = y := ⟨_, rfl⟩
      have HX : Aside0 (eyeF q = ⟨mg, ep, sq, nx, bt, fl, D, l7, b7⟩) := ⟨by unfold eyeF; simp only [e1, e2, e3, e4, e5, e6, e7]⟩
      have q1 : Bytes l1 ∧ (0 ≤ mg ∧ mg < 256) := by have := eByte_b (bad := false) HBQ.out; rw [e1] at this; exact ⟨this.2, this.1⟩
      have q2 : Bytes l2 ∧ (0 ≤ ep ∧ ep < 65536) := by have h1 := eFix_b (bad := b1) 2 q1.1; have h2 := eFix_lt (bad := b1) 2 q1.1; rw [e2] at h1 h2; exact ⟨h1, h2⟩
      have q3 : Bytes l3 ∧ (0 ≤ sq ∧ sq < 65536) := by have h1 := eFix_b (bad := b2) 2 q2.1; have h2 := eFix_lt (bad := b2) 2 q2.1; rw [e3] at h1 h2; exact ⟨h1, h2⟩
      have q4 : Bytes l4 ∧ (0 ≤ nx ∧ nx < 65536) := by have h1 := eFix_b (bad := b3) 2 q3.1; have h2 := eFix_lt (bad := b3) 2 q3.1; rw [e4] at h1 h2; exact ⟨h1, h2⟩
      have q5 : Bytes l5 ∧ (0 ≤ bt ∧ bt < 4294967296) := by have h1 := eFix_b (bad := b4) 4 q4.1; have h2 := eFix_lt (bad := b4) 4 q4.1; rw [e5] at h1 h2; exact ⟨h1, h2⟩
      have q6 : Bytes l6 ∧ (0 ≤ fl ∧ fl < 256) := by have := eByte_b (bad := b5) q5.1; rw [e6] at this; exact ⟨this.2, this.1⟩
      have len1 : l1.length ≤ q.length := by have := congrArg (fun y => y.2.1.length) e1; unfold eByte at this; split at this <;> simp at this <;> omega
      have lenf : ∀ (k : Nat) (l : List Int) (b : Bool), (eFix k l b).2.1.length ≤ l.length := fun k l b => by unfold eFix; split <;> simp
      have lenb : ∀ (l : List Int) (b : Bool), (eByte l b).2.1.length ≤ l.length := fun l b => by unfold eByte; split <;> simp
      have hl6 : l6.length ≤ 100000 := by
        have z2 := lenf 2 l1 b1
        have z3 := lenf 2 l2 b2
        have z4 := lenf 2 l3 b3
        have z5 := lenf 4 l4 b4
        have z6 := lenb l5 b5
        rw [e2] at z2; rw [e3] at z3; rw [e4] at z4; rw [e5] at z5; rw [e6] at z6
        simp only at z2 z3 z4 z5 z6
        have := HQN.out; omega
      have HBND := Aside0.mk (And.intro q1.2 (And.intro q2.2 (And.intro q3.2 (And.intro q4.2 (And.intro q5.2 q6.2)))))
      have K1 := Aside0.mk (fun (X : World) (hx : Ey X ge BB q false) => ebyte_any ge BB q false X hx)
      have K2 := Aside0.mk (fun (X : World) (hx : Ey X ge BB l1 b1) => ehalf_any ge BB l1 b1 X hx q1.1)
      have K3 := Aside0.mk (fun (X : World) (hx : Ey X ge BB l2 b2) => ehalf_any ge BB l2 b2 X hx q2.1)
      have K4 := Aside0.mk (fun (X : World) (hx : Ey X ge BB l3 b3) => ehalf_any ge BB l3 b3 X hx q3.1)
      have K5 := Aside0.mk (fun (X : World) (hx : Ey X ge BB l4 b4) => eword_any ge BB l4 b4 X hx q4.1)
      have K6 := Aside0.mk (fun (X : World) (hx : Ey X ge BB l5 b5) => ebyte_any ge BB l5 b5 X hx)
      have K7 := Aside0.mk (fun (X : World) (hx : Ey X ge BB l6 b6) => eblob_any ge BB l6 b6 64 X hx q6.1 (by omega) (by omega))
      rw [e1] at K1
      rw [e2] at K2
      rw [e3] at K3
      rw [e4] at K4
      rw [e5] at K5
      rw [e6] at K6
      rw [e7] at K7
      have HAB := Aside0.mk (and_b fl q6.2)
      have HDB : Aside0 (Bytes D) := ⟨by have := eblob_bytes 64 (by decide) l6 b6 q6.1; rw [e7] at this; exact this⟩
      clear e1 e2 e3 e4 e5 e6 e7 q1 q2 q3 q4 q5 q6 len1 lenf lenb hl6
      go_wp2_with fail
      refine (K1.out _ HE3.out).mono ?_
      rintro e w4 ⟨rfl, he4⟩
      have H4 := Aside0.mk (H3.out.eyeL he4 (Nat.le_of_lt HGE.out.1) (fun p hp => by obtain rfl := List.mem_singleton.1 hp; exact Nat.ne_of_lt HGE.out.1))
      have HE4 := Aside0.mk he4.1
      have HSZn : Aside0 (w3.heap.size ≤ w4.heap.size) := ⟨he4.2.1.1⟩
      clear he4 H3 HE3 K1
      have HSZ := HSZn
      clear HSZn
      go_wp2_with fail
      refine (K2.out _ HE4.out).mono ?_
      rintro e w5 ⟨rfl, he5⟩
      have H5 := Aside0.mk (H4.out.eyeL he5 (Nat.le_of_lt HGE.out.1) (fun p hp => by obtain rfl := List.mem_singleton.1 hp; exact Nat.ne_of_lt HGE.out.1))
      have HE5 := Aside0.mk he5.1
      have HSZn : Aside0 (w3.heap.size ≤ w5.heap.size) := ⟨Nat.le_trans HSZ.out he5.2.1.1⟩
      clear he5 H4 HE4 K2 HSZ
      have HSZ := HSZn
      clear HSZn
      go_wp2_with fail
      refine (K3.out _ HE5.out).mono ?_
      rintro e w6 ⟨rfl, he6⟩
      have H6 := Aside0.mk (H5.out.eyeL he6 (Nat.le_of_lt HGE.out.1) (fun p hp => by obtain rfl := List.mem_singleton.1 hp; exact Nat.ne_of_lt HGE.out.1))
      have HE6 := Aside0.mk he6.1
      have HSZn : Aside0 (w3.heap.size ≤ w6.heap.size) := ⟨Nat.le_trans HSZ.out he6.2.1.1⟩
      clear he6 H5 HE5 K3 HSZ
      have HSZ := HSZn
      clear HSZn
      go_wp2_with fail
      refine (K4.out _ HE6.out).mono ?_
      rintro e w7 ⟨rfl, he7⟩
      have H7 := Aside0.mk (H6.out.eyeL he7 (Nat.le_of_lt HGE.out.1) (fun p hp => by obtain rfl := List.mem_singleton.1 hp; exact Nat.ne_of_lt HGE.out.1))
      have HE7 := Aside0.mk he7.1
      have HSZn : Aside0 (w3.heap.size ≤ w7.heap.size) := ⟨Nat.le_trans HSZ.out he7.2.1.1⟩
      clear he7 H6 HE6 K4 HSZ
      have HSZ := HSZn
      clear HSZn
      go_wp2_with fail
      refine (K5.out _ HE7.out).mono ?_
      rintro e w8 ⟨rfl, he8⟩
      have H8 := Aside0.mk (H7.out.eyeL he8 (Nat.le_of_lt HGE.out.1) (fun p hp => by obtain rfl := List.mem_singleton.1 hp; exact Nat.ne_of_lt HGE.out.1))
      have HE8 := Aside0.mk he8.1
      have HS8 : Aside0 (ge < w8.heap.size ∧ BB ≤ w8.heap.size) := ⟨Nat.lt_of_lt_of_le (Nat.lt_of_lt_of_le HGE.out.2.1 HGE.out.2.2) (Nat.le_trans HSZ.out he8.2.1.1), Nat.le_trans (Nat.le_trans HGE.out.2.2 HSZ.out) he8.2.1.1⟩
      have HSZn : Aside0 (w3.heap.size ≤ w8.heap.size) := ⟨Nat.le_trans HSZ.out he8.2.1.1⟩
      clear he8 H7 HE7 K5 HSZ
      have HSZ := HSZn
      clear HSZn
      obtain ⟨g8, hg8⟩ : ∃ g8, w8.heap.size = g8 := ⟨_, rfl⟩
      have H9 := Aside0.mk (H8.out.allocAt (.cells #[.int .u16 ep, .int .u16 sq, .int .u16 nx, .int .u32 bt, .bool false, .bool false, .bool false, .slice none 0 0] 72) g8 hg8)
      have HE9 := Aside0.mk (HE8.out.below ((below_alloc (Below.refl w8.heap.size w8) (.cells #[.int .u16 ep, .int .u16 sq, .int .u16 nx, .int .u32 bt, .bool false, .bool false, .bool false, .slice none 0 0] 72)).mono HS8.out.2) HS8.out.2)
      have HG8 : Aside0 (ge < g8 ∧ B < g8 ∧ BB ≤ g8) := ⟨by rw [← hg8]; exact HS8.out.1, by have := HGE.out.1; have := HS8.out.1; omega, by rw [← hg8]; exact HS8.out.2⟩
      clear H8 HE8 HS8 HSZ
      go_wp2_with fail
      generalize w8.alloc (.cells #[.int .u16 ep, .int .u16 sq, .int .u16 nx, .int .u32 bt, .bool false, .bool false, .bool false, .slice none 0 0] 72) = W9 at *
      clear hg8
      refine (K6.out _ HE9.out).mono ?_
      rintro e w10 ⟨rfl, he10⟩
      have H10 := Aside0.mk (H9.out.eyeL he10 (Nat.le_of_lt HGE.out.1) (fun p hp => by
        simp only [List.mem_cons, List.not_mem_nil, or_false] at hp
        rcases hp with rfl | rfl
        · exact Nat.ne_of_gt HG8.out.1
        · exact Nat.ne_of_lt HGE.out.1))
      have HE10 := Aside0.mk he10.1
      clear he10 H9 HE9 K6
      have c4 := blk_cell (H10.out.get (i := 0) rfl) 4
      have c5 := blk_cell (H10.out.get (i := 0) rfl) 5
      have c6 := blk_cell (H10.out.get (i := 0) rfl) 6
      have f4 := blk_frozen (H10.out.get (i := 0) rfl) 4
      have f5 := blk_frozen (H10.out.get (i := 0) rfl) 5
      have f6 := blk_frozen (H10.out.get (i := 0) rfl) 6
      obtain ⟨a1, a2, a4⟩ := HAB.out
      go_wp2_with fail
      clear c4 c5 c6 f4 f5 f6
      try rw [a1]
      try rw [a2]
      try rw [a4]
      clear a1 a2 a4 HAB
      have H11 := Aside0.mk (((H10.out.setCell (i := 0) rfl 4 (.bool (b1F fl))).setCell (i := 0) rfl 5 (.bool (b2F fl))).setCell (i := 0) rfl 6 (.bool (b4F fl)))
      have HE11 := Aside0.mk (HE10.out.below ((((Below.refl BB w10).setCell (p := ⟨g8, 4, none⟩) HG8.out.2.2 (.bool (b1F fl))).setCell (p := ⟨g8, 5, none⟩) HG8.out.2.2 (.bool (b2F fl))).setCell (p := ⟨g8, 6, none⟩) HG8.out.2.2 (.bool (b4F fl))) (Nat.le_trans HG8.out.2.2 (Nat.le_of_lt (H10.out.lt (i := 0) rfl))))
      clear H10 HE10
      generalize ((w10.setCell ⟨g8, 4, none⟩ (.bool (b1F fl))).setCell ⟨g8, 5, none⟩ (.bool (b2F fl))).setCell ⟨g8, 6, none⟩ (.bool (b4F fl)) = W11 at *
      have H12 : Aside0 (Hp B w00 W11 [(g8, .cells #[.int .u16 ep, .int .u16 sq, .int .u16 nx, .int .u32 bt, .bool (b1F fl), .bool (b2F fl), .bool (b4F fl), .slice none 0 0] 72 (0, 0)), (B, .cells #[.int .u16 0, .int .u16 0, .int .u16 0, .int .u32 0, .bool false, .bool false, .bool false, .slice none 0 0] 72 (0, 0))] []) := ⟨H11.out⟩
      clear H11
      refine (K7.out _ HE11.out).mono ?_
      rintro e w13 ⟨w12, vo, rfl, he12, hD, hb13⟩
      have H13 := Aside0.mk (H12.out.eyeL he12 (Nat.le_of_lt HGE.out.1) (fun p hp => by
        simp only [List.mem_cons, List.not_mem_nil, or_false] at hp
        rcases hp with rfl | rfl
        · exact Nat.ne_of_gt HG8.out.1
        · exact Nat.ne_of_lt HGE.out.1))
      have HE13 := Aside0.mk he12.1
      have HSB : Aside0 (BB ≤ w12.heap.size) := ⟨Nat.le_trans HG8.out.2.2 (Nat.le_of_lt (H13.out.lt (i := 0) rfl))⟩
      obtain ⟨Ad, cd, rfl, hcd, _⟩ := Kd.R_reads hD
      have H14 := Aside0.mk (H13.out.row hb13 hD)
      have HE14 := Aside0.mk (HE13.out.below (hb13.mono HSB.out) HSB.out)
      obtain ⟨dn, hdn⟩ : ∃ dn, D.length = dn := ⟨_, rfl⟩
      rw [hdn] at H14 hcd
      rw [hdn]
      have HDN := Aside0.mk (And.intro hdn hcd)
      clear he12 hD hb13 hcd hdn H12 HE11 H13 HE13 K7 HSB
      have c7 := blk_cell (H14.out.get (i := 0) rfl) 7
      have f7 := blk_frozen (H14.out.get (i := 0) rfl) 7
      go_wp2_with fail
      clear c7 f7
      have H15 := Aside0.mk (H14.out.setCell (i := 0) rfl 7 (.slice Ad dn cd))
      have HE15 := Aside0.mk (HE14.out.below ((Below.refl BB w13).setCell (p := ⟨g8, 7, none⟩) HG8.out.2.2 (.slice Ad dn cd)) (Nat.le_trans HG8.out.2.2 (Nat.le_of_lt (H14.out.lt (i := 0) rfl))))
      clear H14 HE14
      generalize w13.setCell ⟨g8, 7, none⟩ (.slice Ad dn cd) = W15 at *
      have H16 : Aside0 (Hp B w00 W15 [(g8, .cells #[.int .u16 ep, .int .u16 sq, .int .u16 nx, .int .u32 bt, .bool (b1F fl), .bool (b2F fl), .bool (b4F fl), .slice Ad dn cd] 72 (0, 0)), (B, .cells #[.int .u16 0, .int .u16 0, .int .u16 0, .int .u32 0, .bool false, .bool false, .bool false, .slice none 0 0] 72 (0, 0))] [fun w => (Kd.int .u8).R 5 w B (fun _ => True) (.slice Ad dn cd) D]) := ⟨H15.out⟩
      clear H15
      have HFR : Aside0 (∀ z, (Kd.int .u8).R 5 z B (fun _ => True) (.slice Ad dn cd) D → FrC z ep sq nx bt (b1F fl) (b2F fl) (b4F fl) D (.agg #[.int .u16 ep, .int .u16 sq, .int .u16 nx, .int .u32 bt, .bool (b1F fl), .bool (b2F fl), .bool (b4F fl), .slice Ad dn cd])) := ⟨fun z hz => ⟨Ad, cd, by rw [HDN.out.1], by rw [HDN.out.1]; exact HDN.out.2, by rw [HDN.out.1]; exact (Ru_C hz).2.2⟩⟩
      have HGD : Aside0 ((eyeF q).good p = (decide (¬ (b7 = true ∨ 0 < l7.length)) && (decide (mg = 86) && (rightF sq dn (b1F fl) (b2F fl) (b4F fl) && decide (fBytes ep.toNat sq.toNat nx.toNat bt.toNat (b1F fl) (b2F fl) (b4F fl) D = p))))) := ⟨by rw [HX.out]; unfold ERes.good; rw [← HDN.out.1]⟩
      refine (done_any ge BB l7 b7 W15 HE15.out).mono ?_
      rintro e w16 ⟨rfl, rfl⟩
      clear HE15
      by_cases hd : b7 = true ∨ 0 < l7.length
      · rw [if_pos hd]
        have HBAD : Aside0 (parseF p = badF 2) := ⟨by rw [HPQ.out, if_neg (by rw [HGD.out, decide_eq_false (fun h => h hd)]; simp)]⟩
        clear hd
        go_wp2_with (first | (refine wpList_store_row rfl 72 (.tmp 2) (.tmp 70) rfl B #[.int .u16 0, .int .u16 0, .int .u16 0, .int .u32 0, .bool false, .bool false, .bool false, .slice none 0 0] rfl rfl 72 _ (H16.out.get (i := 1) rfl) (frame_info _ _ _ _ _ _ _ _) rfl (by simp [Value.oneCell']) ?_))
        have H9 := Aside0.mk (H16.out.setRow (i := 1) rfl #[.int .u16 0, .int .u16 0, .int .u16 0, .int .u32 0, .bool false, .bool false, .bool false, .slice none 0 0])
        refine bodyPost_ret (results_ct rfl _ _ B _ #[.int .u16 0, .int .u16 0, .int .u16 0, .int .u32 0, .bool false, .bool false, .bool false, .slice none 0 0] (0, 0) _ rfl (H9.out.get (i := 1) rfl) Try.underlying72 rfl (frame_info _ _ _ _ _ _ _ _)) rfl ?_
        exact ⟨FParseR.of HBAD.out (FrC_zero _), H9.out.bel⟩
      · rw [if_neg hd]
        have HD1 := Aside0.mk hd
        clear hd
        by_cases hm : mg = 86
        · subst hm
          go_wp2_with (first | (refine wpList_load_row_g 72 (.tmp 8) rfl g8 rfl rfl 72 _ (0, 0) _ (H16.out.get (i := 0) rfl) Try.underlying72 rfl (frame_info _ _ _ _ _ _ _ _) ?_))
          refine (fright_any ep sq nx bt (b1F fl) (b2F fl) (b4F fl) D _ _ (HFR.out _ (H16.out.fact (i := 0) rfl))).mono ?_
          rintro e w17 ⟨rfl, hb17⟩
          have H17 := Aside0.mk (H16.out.call hb17)
          rw [HDN.out.1]
          clear hb17 H16
          obtain ⟨ρ, hρ⟩ : ∃ ρ, rightF sq dn (b1F fl) (b2F fl) (b4F fl) = ρ := ⟨_, rfl⟩
          have HRH := Aside0.mk hρ
          rw [hρ]
          clear hρ
          cases ρ with
          | false =>
            have HBAD : Aside0 (parseF p = badF 2) := ⟨by rw [HPQ.out, if_neg (by rw [HGD.out, HRH.out]; simp)]⟩
            go_wp2_with (first | (refine wpList_store_row rfl 72 (.tmp 2) (.tmp 70) rfl B #[.int .u16 0, .int .u16 0, .int .u16 0, .int .u32 0, .bool false, .bool false, .bool false, .slice none 0 0] rfl rfl 72 _ (H17.out.get (i := 1) rfl) (frame_info _ _ _ _ _ _ _ _) rfl (by simp [Value.oneCell']) ?_))
            have H9 := Aside0.mk (H17.out.setRow (i := 1) rfl #[.int .u16 0, .int .u16 0, .int .u16 0, .int .u32 0, .bool false, .bool false, .bool false, .slice none 0 0])
            refine bodyPost_ret (results_ct rfl _ _ B _ #[.int .u16 0, .int .u16 0, .int .u16 0, .int .u32 0, .bool false, .bool false, .bool false, .slice none 0 0] (0, 0) _ rfl (H9.out.get (i := 1) rfl) Try.underlying72 rfl (frame_info _ _ _ _ _ _ _ _)) rfl ?_
            exact ⟨FParseR.of HBAD.out (FrC_zero _), H9.out.bel⟩
          | true =>
            obtain ⟨epn, rfl⟩ : ∃ x : Nat, ep = (x : Int) := ⟨ep.toNat, by have := HBND.out; omega⟩
            obtain ⟨sqn, rfl⟩ : ∃ x : Nat, sq = (x : Int) := ⟨sq.toNat, by have := HBND.out; omega⟩
            obtain ⟨nxn, rfl⟩ : ∃ x : Nat, nx = (x : Int) := ⟨nx.toNat, by have := HBND.out; omega⟩
            obtain ⟨btn, rfl⟩ : ∃ x : Nat, bt = (x : Int) := ⟨bt.toNat, by have := HBND.out; omega⟩
            have KFB := Aside0.mk (fun (z : World) (h : FrC z epn sqn nxn btn (b1F fl) (b2F fl) (b4F fl) D (.agg #[.int .u16 epn, .int .u16 sqn, .int .u16 nxn, .int .u32 btn, .bool (b1F fl), .bool (b2F fl), .bool (b4F fl), .slice Ad dn cd])) => fbytes_any epn sqn nxn btn (b1F fl) (b2F fl) (b4F fl) D _ z h (by have := HBND.out; omega) HDB.out)
            obtain ⟨fb, hfb⟩ : ∃ fb, fBytes epn sqn nxn btn (b1F fl) (b2F fl) (b4F fl) D = fb := ⟨_, rfl⟩
            have HGD2 : Aside0 ((eyeF q).good p = decide (fb = p)) := ⟨by
              rw [HGD.out, HRH.out, decide_eq_true HD1.out]
              simp only [Int.toNat_natCast, hfb]
              simp⟩
            have HFBB : Aside0 (Bytes fb) := ⟨by rw [← hfb]; exact fBytes_bytes _ _ _ _ _ _ _ D HDB.out⟩
            rw [hfb] at KFB
            clear hfb HGD
            go_wp2_with (first | (refine wpList_load_row_g 72 (.tmp 8) rfl g8 rfl rfl 72 _ (0, 0) _ (H17.out.get (i := 0) rfl) Try.underlying72 rfl (frame_info _ _ _ _ _ _ _ _) ?_))
            refine (KFB.out _ (HFR.out _ (H17.out.fact (i := 0) rfl))).mono ?_
            rintro e w18 ⟨v18, rfl, hv18, hb18⟩
            have H18 := Aside0.mk (H17.out.row hb18 hv18)
            obtain ⟨Af, cf, rfl, hcf, _⟩ := Kd.R_reads hv18
            obtain ⟨fn, hfn⟩ : ∃ fn, fb.length = fn := ⟨_, rfl⟩
            rw [hfn] at H18 hcf
            rw [hfn]
            have HCF := Aside0.mk hcf
            clear hv18 hb18 hcf H17 KFB hfn
            obtain ⟨γ, hγ⟩ : ∃ γ : Bool, γ = true ↔ fb = p := ⟨decide (fb = p), decide_eq_true_iff⟩
            have HGM := Aside0.mk hγ
            go_wp2_with fail
            refine (bequalG_any Af A fn n cf c fb p _ (Ru_C (H18.out.fact (i := 0) rfl)).2.2 HCF.out (HF.out _ H18.out.bel) HN.out.2.1 HFBB.out HBP.out γ hγ).mono ?_
            rintro e w19 ⟨rfl, hb19⟩
            have H19 := Aside0.mk (H18.out.call hb19)
            clear hb19 H18 hγ
            cases γ with
            | false =>
              have HBAD : Aside0 (parseF p = badF 2) := ⟨by rw [HPQ.out, if_neg (by rw [HGD2.out]; simp only [decide_eq_true_iff]; intro h; have := HGM.out.2 h; cases this)]⟩
              go_wp2_with (first | (refine wpList_store_row rfl 72 (.tmp 2) (.tmp 70) rfl B #[.int .u16 0, .int .u16 0, .int .u16 0, .int .u32 0, .bool false, .bool false, .bool false, .slice none 0 0] rfl rfl 72 _ (H19.out.get (i := 1) rfl) (frame_info _ _ _ _ _ _ _ _) rfl (by simp [Value.oneCell']) ?_))
              have H9 := Aside0.mk (H19.out.setRow (i := 1) rfl #[.int .u16 0, .int .u16 0, .int .u16 0, .int .u32 0, .bool false, .bool false, .bool false, .slice none 0 0])
              refine bodyPost_ret (results_ct rfl _ _ B _ #[.int .u16 0, .int .u16 0, .int .u16 0, .int .u32 0, .bool false, .bool false, .bool false, .slice none 0 0] (0, 0) _ rfl (H9.out.get (i := 1) rfl) Try.underlying72 rfl (frame_info _ _ _ _ _ _ _ _)) rfl ?_
              exact ⟨FParseR.of HBAD.out (FrC_zero _), H9.out.bel⟩
            | true =>
              have HOKP : Aside0 (parseF p = ⟨0, epn, sqn, nxn, btn, b1F fl, b2F fl, b4F fl, D⟩) := ⟨by rw [HPQ.out, if_pos (by rw [HGD2.out]; exact decide_eq_true (HGM.out.1 rfl)), HX.out]⟩
              go_wp2_with (first | (refine wpList_load_row_g 72 (.tmp 8) rfl g8 rfl rfl 72 _ (0, 0) _ (H19.out.get (i := 0) rfl) Try.underlying72 rfl (frame_info _ _ _ _ _ _ _ _) ?_) | (refine wpList_store_row rfl 72 (.tmp 2) (.tmp 71) rfl B #[.int .u16 epn, .int .u16 sqn, .int .u16 nxn, .int .u32 btn, .bool (b1F fl), .bool (b2F fl), .bool (b4F fl), .slice Ad dn cd] rfl rfl 72 _ (H19.out.get (i := 1) rfl) (frame_info _ _ _ _ _ _ _ _) rfl (by simp [Value.oneCell']) ?_))
              have H20 := Aside0.mk (H19.out.setRow (i := 1) rfl #[.int .u16 epn, .int .u16 sqn, .int .u16 nxn, .int .u32 btn, .bool (b1F fl), .bool (b2F fl), .bool (b4F fl), .slice Ad dn cd])
              refine bodyPost_ret (results_ct rfl _ _ B _ #[.int .u16 epn, .int .u16 sqn, .int .u16 nxn, .int .u32 btn, .bool (b1F fl), .bool (b2F fl), .bool (b4F fl), .slice Ad dn cd] (0, 0) _ rfl (H20.out.get (i := 1) rfl) Try.underlying72 rfl (frame_info _ _ _ _ _ _ _ _)) rfl ?_
              exact ⟨FParseR.of HOKP.out (HFR.out _ (H20.out.fact (i := 1) rfl)), H20.out.bel⟩
        · have HBAD : Aside0 (parseF p = badF 2) := ⟨by rw [HPQ.out, if_neg (by rw [HGD.out, decide_eq_false hm]; simp)]⟩
          go_wp2_with (first | (refine wpList_store_row rfl 72 (.tmp 2) (.tmp 70) rfl B #[.int .u16 0, .int .u16 0, .int .u16 0, .int .u32 0, .bool false, .bool false, .bool false, .slice none 0 0] rfl rfl 72 _ (H16.out.get (i := 1) rfl) (frame_info _ _ _ _ _ _ _ _) rfl (by simp [Value.oneCell']) ?_))
          have H9 := Aside0.mk (H16.out.setRow (i := 1) rfl #[.int .u16 0, .int .u16 0, .int .u16 0, .int .u32 0, .bool false, .bool false, .bool false, .slice none 0 0])
          refine bodyPost_ret (results_ct rfl _ _ B _ #[.int .u16 0, .int .u16 0, .int .u16 0, .int .u32 0, .bool false, .bool false, .bool false, .slice none 0 0] (0, 0) _ rfl (H9.out.get (i := 1) rfl) Try.underlying72 rfl (frame_info _ _ _ _ _ _ _ _)) rfl ?_
          exact ⟨FParseR.of HBAD.out (FrC_zero _), H9.out.bel⟩
end Go.Proofs.Yticpjidcgaaldaa

namespace Go.Proofs.Yticpjidcgaaldaa
open Go.RowKit Go.Proofs.YticpjidcgaaldaaW.PrintWords Go.Proofs.YticpjidcgaaldaaW.PrintLast Go.Proofs.YticpjidcgaaldaaW.PrintMore
set_option linter.unusedVariables false
set_option linter.unusedSimpArgs false

structure S70 where
  f0 : Int
  f1 : Int
def k70 : Kd S70 := Kd.iso (Kd.pair (Kd.int .u16) (Kd.int .u32)) (fun x : S70 => (x.f0, x.f1))
structure S72 where
  f0 : Int
  f1 : Int
  f2 : S70
  f3 : Bool
  f4 : Bool
  f5 : Bool
  f6 : List Int
def k72 : Kd S72 := Kd.iso (Kd.pair (Kd.int .u16) (Kd.pair (Kd.int .u16) (Kd.pair k70 (Kd.pair Kd.bool (Kd.pair Kd.bool (Kd.pair Kd.bool (Kd.slice 5 (Kd.int .u8)))))))) (fun x : S72 => (x.f0, x.f1, x.f2, x.f3, x.f4, x.f5, x.f6))
def OkFr (x : S72) : Prop := (Lit.int .u16 x.f0).wf = true ∧ (Lit.int .u16 x.f1).wf = true ∧ ((Lit.int .u16 x.f2.f0).wf = true ∧ (Lit.int .u32 x.f2.f1).wf = true) ∧ True ∧ True ∧ True ∧ ∀ y ∈ x.f6, (Lit.int .u8 y).wf = true
theorem frame_in {w : World} {x : S72} {cs : List Value} (h : k72.K w x cs) : FrC w x.f0 x.f1 x.f2.f0 x.f2.f1 x.f3 x.f4 x.f5 x.f6 (.agg cs.toArray) := by
  obtain ⟨_, _, rfl, rfl, _, _, rfl, rfl, _, _, rfl, ⟨_, _, rfl, rfl, rfl⟩, _, _, rfl, rfl, _, _, rfl, rfl, _, _, rfl, rfl, ⟨A, c, rfl, h1, h2⟩⟩ := h
  exact ⟨A, c, rfl, h1, h2⟩
theorem flagsF_inj (a b c a' b' c' : Bool) : flagsF a b c = flagsF a' b' c' ↔ a = a' ∧ b = b' ∧ c = c' := by
  cases a <;> cases b <;> cases c <;> cases a' <;> cases b' <;> cases c' <;> decide
theorem fBytes_no {ep sq nx bt : Nat} {fi la al : Bool} {D : List Int} (h : rightF sq D.length fi la al = false) : fBytes ep sq nx bt fi la al D = [] := by unfold fBytes; rw [if_neg (by rw [h]; decide)]
theorem fBytes_len {ep sq nx bt : Nat} {fi la al : Bool} {D : List Int} (h : rightF sq D.length fi la al = true) : (fBytes ep sq nx bt fi la al D).length = 17 + D.length := by
  unfold fBytes; rw [if_pos h, sealL_len, fBody_len]; omega
end Go.Proofs.Yticpjidcgaaldaa

namespace Go.Proofs.Yticpjidcgaaldaa
open Go.RowKit Go.Proofs.YticpjidcgaaldaaW.PrintWords Go.Proofs.YticpjidcgaaldaaW.PrintLast Go.Proofs.YticpjidcgaaldaaW.PrintMore
set_option linter.unusedVariables false
set_option linter.unusedSimpArgs false

set_option maxRecDepth 100000 in
set_option maxHeartbeats 16000000 in
theorem fsame_any (ep sq nx bt ep' sq' nx' bt' : Int) (fi la al fi' la' al' : Bool) (D D' : List Int) (v u : Value) (w00 : World) (hv : FrC w00 ep sq nx bt fi la al D v) (hu : FrC w00 ep' sq' nx' bt' fi' la' al' D' u) (hD : Bytes D) (hD' : Bytes D') (β : Bool) (hβ : β = true ↔ ep = ep' ∧ sq = sq' ∧ nx = nx' ∧ bt = bt' ∧ (fi = fi' ∧ la = la' ∧ al = al') ∧ D = D') :
    Calls Try.prog 33 #[v, u] w00 fun e w' => e = .returned (.bool β) ∧ Below w00.heap.size w00 w' := by
  have HBE := Aside0.mk hβ
  have KF := Aside0.mk (fun (z : World) (h : Below w00.heap.size w00 z) => flags_any ep sq nx bt fi la al D v z (hv.below h))
  have KG := Aside0.mk (fun (z : World) (h : Below w00.heap.size w00 z) => flags_any ep' sq' nx' bt' fi' la' al' D' u z (hu.below h))
  obtain ⟨A, c, rfl, h2, h3⟩ := hv
  obtain ⟨A', c', rfl, k2, k3⟩ := hu
  obtain ⟨γ, hγ⟩ : ∃ γ : Bool, γ = true ↔ D = D' := ⟨decide (D = D'), decide_eq_true_iff⟩
  have HGM := Aside0.mk hγ
  have KE := Aside0.mk (fun (z : World) (h : Below w00.heap.size w00 z) => bequalG_any A A' D.length D'.length c c' D D' z (Kd.C_below h3 h) h2 (Kd.C_below k3 h) k2 hD hD' γ hγ)
  have H0 := Aside0.mk (((Hp.start w00).alloc (.cells #[.int .u16 ep, .int .u16 sq, .int .u16 nx, .int .u32 bt, .bool fi, .bool la, .bool al, .slice A D.length c] 72)).allocAt (.cells #[.int .u16 ep', .int .u16 sq', .int .u16 nx', .int .u32 bt', .bool fi', .bool la', .bool al', .slice A' D'.length c'] 72) (w00.heap.size + 1) (by simp))
  clear h2 h3 k2 k3 hD hD' hβ hγ
  obtain ⟨n, hn⟩ : ∃ n, D.length = n := ⟨_, rfl⟩
  obtain ⟨n', hn'⟩ : ∃ n, D'.length = n := ⟨_, rfl⟩
  rw [hn] at KF
  rw [hn'] at KG
  rw [hn, hn'] at KE H0
  rw [hn, hn']
  clear hn hn'
  obtain ⟨fl, hfl⟩ : ∃ x, flagsF fi la al = x := ⟨_, rfl⟩
  obtain ⟨fl', hfl'⟩ : ∃ x, flagsF fi' la' al' = x := ⟨_, rfl⟩
  have HFL := Aside0.mk (flagsF_inj fi la al fi' la' al')
  rw [hfl] at KF HFL
  rw [hfl'] at KG HFL
  clear hfl hfl'
  go_enter Try.func33, Try.ntmps33
  go_wp2_with fail
  generalize (w00.alloc (.cells #[.int .u16 ep, .int .u16 sq, .int .u16 nx, .int .u32 bt, .bool fi, .bool la, .bool al, .slice A n c] 72)).alloc (.cells #[.int .u16 ep', .int .u16 sq', .int .u16 nx', .int .u32 bt', .bool fi', .bool la', .bool al', .slice A' n' c'] 72) = W at *
  obtain ⟨gd, hgd⟩ : ∃ gd, w00.heap.size = gd := ⟨_, rfl⟩
  rw [hgd] at H0 KF KG KE
  rw [hgd]
  have HGD := Aside0.mk hgd
  clear hgd
  have HA : Aside0 (∀ z, Below W.heap.size W z → z.heap[gd]? = some (.cells #[.int .u16 ep, .int .u16 sq, .int .u16 nx, .int .u32 bt, .bool fi, .bool la, .bool al, .slice A n c] 72 (0, 0))) := ⟨fun z hz => (hz.block gd (H0.out.lt (i := 1) rfl)).trans (H0.out.get (i := 1) rfl)⟩
  have HB : Aside0 (∀ z, Below W.heap.size W z → z.heap[gd + 1]? = some (.cells #[.int .u16 ep', .int .u16 sq', .int .u16 nx', .int .u32 bt', .bool fi', .bool la', .bool al', .slice A' n' c'] 72 (0, 0))) := ⟨fun z hz => (hz.block (gd + 1) (H0.out.lt (i := 0) rfl)).trans (H0.out.get (i := 0) rfl)⟩
  have HBW : Aside0 (∀ z, Below W.heap.size W z → Below gd w00 z) := ⟨fun z hz => H0.out.bel.trans (hz.mono H0.out.le)⟩
  obtain ⟨c0, h0⟩ : ∃ b, (ep == ep') = b := ⟨_, rfl⟩
  obtain ⟨b1, h1⟩ : ∃ b, (sq == sq') = b := ⟨_, rfl⟩
  obtain ⟨b2, h2⟩ : ∃ b, (nx == nx' && bt == bt') = b := ⟨_, rfl⟩
  obtain ⟨b3, h3⟩ : ∃ b, (fl == fl') = b := ⟨_, rfl⟩
  have HC4 : Aside0 (((((c0 && b1) && b2) && b3) && γ) = β) := ⟨by
    rw [Bool.eq_iff_iff, HBE.out, ← h0, ← h1, ← h2, ← h3]
    simp only [Bool.and_eq_true, beq_iff_eq, HGM.out, HFL.out]
    constructor
    · rintro ⟨⟨⟨⟨a, b⟩, c, d⟩, e⟩, f⟩; exact ⟨a, b, c, d, e, f⟩
    · rintro ⟨a, b, c, d, e, f⟩; exact ⟨⟨⟨⟨a, b⟩, c, d⟩, e⟩, f⟩⟩
  obtain ⟨c1, q1⟩ : ∃ b, (c0 && b1) = b := ⟨_, rfl⟩
  rw [q1] at HC4
  obtain ⟨c2, q2⟩ : ∃ b, (c1 && b2) = b := ⟨_, rfl⟩
  rw [q2] at HC4
  obtain ⟨c3, q3⟩ : ∃ b, (c2 && b3) = b := ⟨_, rfl⟩
  rw [q3] at HC4
  have HC0 := Aside0.mk h0
  have HB1 := Aside0.mk h1
  have HB2 := Aside0.mk h2
  have HB3 := Aside0.mk h3
  have HC1 := Aside0.mk q1
  have HC2 := Aside0.mk q2
  have HC3 := Aside0.mk q3
  clear h0 h1 h2 h3 q1 q2 q3
  refine region_grown (W := W)
    [fun (w : World) (v : Value) => v = .pointer (some ⟨gd, 0, none⟩),
     fun (w : World) (v : Value) => v = .int .u16 ep,
     fun (w : World) (v : Value) => v = .pointer (some ⟨gd + 1, 0, none⟩),
     fun (w : World) (v : Value) => v = .int .u16 ep',
     fun (w : World) (v : Value) => v = .bool c0,
     fun (w : World) (v : Value) => v = .bool c0,
     fun (w : World) (v : Value) => v = (if c0 = true then .pointer (some ⟨gd, 1, none⟩) else undef),
     fun (w : World) (v : Value) => v = (if c0 = true then .int .u16 sq else undef),
     fun (w : World) (v : Value) => v = (if c0 = true then .pointer (some ⟨gd + 1, 1, none⟩) else undef),
     fun (w : World) (v : Value) => v = (if c0 = true then .int .u16 sq' else undef),
     fun (w : World) (v : Value) => v = (if c0 = true then .bool b1 else undef),
     fun (w : World) (v : Value) => v = .bool c1,
     fun (w : World) (v : Value) => v = .bool c1,
     fun (w : World) (v : Value) => v = (if c1 = true then .pointer (some ⟨gd, 2, none⟩) else undef),
     fun (w : World) (v : Value) => v = (if c1 = true then .agg #[.int .u16 nx, .int .u32 bt] else undef),
     fun (w : World) (v : Value) => v = (if c1 = true then .pointer (some ⟨gd + 1, 2, none⟩) else undef),
     fun (w : World) (v : Value) => v = (if c1 = true then .agg #[.int .u16 nx', .int .u32 bt'] else undef),
     fun (w : World) (v : Value) => v = (if c1 = true then .bool b2 else undef),
     fun (w : World) (v : Value) => v = .bool c2,
     fun (w : World) (v : Value) => v = .bool c2,
     fun (w : World) (v : Value) => v = (if c2 = true then .agg #[.int .u16 ep, .int .u16 sq, .int .u16 nx, .int .u32 bt, .bool fi, .bool la, .bool al, .slice A n c] else undef),
     fun (w : World) (v : Value) => v = (if c2 = true then .int .u8 fl else undef),
     fun (w : World) (v : Value) => v = (if c2 = true then .agg #[.int .u16 ep', .int .u16 sq', .int .u16 nx', .int .u32 bt', .bool fi', .bool la', .bool al', .slice A' n' c'] else undef),
     fun (w : World) (v : Value) => v = (if c2 = true then .int .u8 fl' else undef),
     fun (w : World) (v : Value) => v = (if c2 = true then .bool b3 else undef),
     fun (w : World) (v : Value) => v = .bool c3,
     fun (w : World) (v : Value) => v = .bool c3,
     fun (w : World) (v : Value) => v = (if c3 = true then .pointer (some ⟨gd, 7, none⟩) else undef),
     fun (w : World) (v : Value) => v = (if c3 = true then .slice A n c else undef),
     fun (w : World) (v : Value) => v = (if c3 = true then .pointer (some ⟨gd + 1, 7, none⟩) else undef),
     fun (w : World) (v : Value) => v = (if c3 = true then .slice A' n' c' else undef),
     fun (w : World) (v : Value) => v = (if c3 = true then .bool γ else undef),
     fun (w : World) (v : Value) => v = .bool β,
     fun (w : World) (v : Value) => v = .bool β]
    (fun j => if j = 5 then some c0 else if j = 12 then some c1 else if j = 19 then some c2 else if j = 26 then some c3 else none)
    [(0, some 5), (1, some 6), (2, some 7), (3, some 8), (4, some 9), (5, some 10), (6, some 11), (7, some 12), (8, some 13), (9, some 14), (10, some 15), (11, some 16), (12, some 17), (13, some 18), (14, some 19), (15, some 20), (16, some 21), (17, some 22), (18, some 23), (19, some 24), (20, some 25), (21, some 26), (22, some 27), (23, some 28), (24, some 29), (25, some 30), (26, some 31), (27, some 32), (28, some 33), (29, some 34), (30, some 35), (31, some 36), (32, some 37), (33, some 4)]
    [5, 12, 19, 26]
    (by kernel_rfl) (by kernel_rfl) (by kernel_rfl) (by kernel_rfl) ?r1_1g ?r1_1s ⟨?r1_1o0, ?r1_1o1, ?r1_1o2, ?r1_1o3, ?r1_1o4, ?r1_1o5, ?r1_1o6, ?r1_1o7, ?r1_1o8, ?r1_1o9, ?r1_1o10, ?r1_1o11, ?r1_1o12, ?r1_1o13, ?r1_1o14, ?r1_1o15, ?r1_1o16, ?r1_1o17, ?r1_1o18, ?r1_1o19, ?r1_1o20, ?r1_1o21, ?r1_1o22, ?r1_1o23, ?r1_1o24, ?r1_1o25, ?r1_1o26, ?r1_1o27, ?r1_1o28, ?r1_1o29, ?r1_1o30, ?r1_1o31, ?r1_1o32, ?r1_1o33, trivial⟩ ?r1_1e
  case r1_1g =>
    intro j hj w v hv
    simp only [List.mem_cons, List.not_mem_nil, or_false] at hj
    rcases hj with rfl | rfl | rfl | rfl
    · have hv' : v = .bool c0 := hv; rw [hv']; rfl
    · have hv' : v = .bool c1 := hv; rw [hv']; rfl
    · have hv' : v = .bool c2 := hv; rw [hv']; rfl
    · have hv' : v = .bool c3 := hv; rw [hv']; rfl
  case r1_1s =>
    refine ⟨(fun w w' v hb h => h), (fun w w' v hb h => h), (fun w w' v hb h => h), (fun w w' v hb h => h), (fun w w' v hb h => h), (fun w w' v hb h => h), (fun w w' v hb h => h), (fun w w' v hb h => h), (fun w w' v hb h => h), (fun w w' v hb h => h), (fun w w' v hb h => h), (fun w w' v hb h => h), (fun w w' v hb h => h), (fun w w' v hb h => h), (fun w w' v hb h => h), (fun w w' v hb h => h), (fun w w' v hb h => h), (fun w w' v hb h => h), (fun w w' v hb h => h), (fun w w' v hb h => h), (fun w w' v hb h => h), (fun w w' v hb h => h), (fun w w' v hb h => h), (fun w w' v hb h => h), (fun w w' v hb h => h), (fun w w' v hb h => h), (fun w w' v hb h => h), (fun w w' v hb h => h), (fun w w' v hb h => h), (fun w w' v hb h => h), (fun w w' v hb h => h), (fun w w' v hb h => h), (fun w w' v hb h => h), (fun w w' v hb h => h), trivial⟩
  case r1_1o0 =>
    intro vs w hb hV
    rw [if_pos (by first | kernel_rfl | rfl)]
    generalize hρ : rho _ _ _ vs = ρ
    have e2 : ρ (.tmp 2) = .pointer (some ⟨gd, 0, none⟩) := by rw [← hρ]; kernel_rfl
    clear hρ hV
    refine runs_val (v := .pointer (some ⟨gd, 0, none⟩)) (w' := w) ?_ ⟨Below.refl _ _, rfl⟩
    go_simp <;> (first | exact IntWalk.u64_in _ (by omega) | exact IntWalk.u32_in _ (by omega) | exact IntWalk.u16_in _ (by omega) | exact IntWalk.u8_in _ (by omega) | exact IntWalk.i64_in _ (by omega) | skip)
  case r1_1o1 =>
    intro vs w hb hV
    rw [if_pos (by first | kernel_rfl | rfl)]
    generalize hρ : rho _ _ _ vs = ρ
    have d5 : (vs 0) = .pointer (some ⟨gd, 0, none⟩) := hV 0 (by first | kernel_rfl | rfl)
    have e5 : ρ (.tmp 5) = vs 0 := by rw [← hρ]; kernel_rfl
    rw [d5] at e5; clear d5
    clear hρ hV
    have c0 := blk_cell (HA.out w hb) 0
    refine runs_val (v := .int .u16 ep) (w' := w) ?_ ⟨Below.refl _ _, rfl⟩
    go_simp
  case r1_1o2 =>
    intro vs w hb hV
    rw [if_pos (by first | kernel_rfl | rfl)]
    generalize hρ : rho _ _ _ vs = ρ
    have e3 : ρ (.tmp 3) = .pointer (some ⟨gd + 1, 0, none⟩) := by rw [← hρ]; kernel_rfl
    clear hρ hV
    refine runs_val (v := .pointer (some ⟨gd + 1, 0, none⟩)) (w' := w) ?_ ⟨Below.refl _ _, rfl⟩
    go_simp <;> (first | exact IntWalk.u64_in _ (by omega) | exact IntWalk.u32_in _ (by omega) | exact IntWalk.u16_in _ (by omega) | exact IntWalk.u8_in _ (by omega) | exact IntWalk.i64_in _ (by omega) | skip)
  case r1_1o3 =>
    intro vs w hb hV
    rw [if_pos (by first | kernel_rfl | rfl)]
    generalize hρ : rho _ _ _ vs = ρ
    have d7 : (vs 2) = .pointer (some ⟨gd + 1, 0, none⟩) := hV 2 (by first | kernel_rfl | rfl)
    have e7 : ρ (.tmp 7) = vs 2 := by rw [← hρ]; kernel_rfl
    rw [d7] at e7; clear d7
    clear hρ hV
    have c0 := blk_cell (HB.out w hb) 0
    refine runs_val (v := .int .u16 ep') (w' := w) ?_ ⟨Below.refl _ _, rfl⟩
    go_simp
  case r1_1o4 =>
    intro vs w hb hV
    rw [if_pos (by first | kernel_rfl | rfl)]
    generalize hρ : rho _ _ _ vs = ρ
    have d6 : (vs 1) = .int .u16 ep := hV 1 (by first | kernel_rfl | rfl)
    have e6 : ρ (.tmp 6) = vs 1 := by rw [← hρ]; kernel_rfl
    rw [d6] at e6; clear d6
    have d8 : (vs 3) = .int .u16 ep' := hV 3 (by first | kernel_rfl | rfl)
    have e8 : ρ (.tmp 8) = vs 3 := by rw [← hρ]; kernel_rfl
    rw [d8] at e8; clear d8
    clear hρ hV
    have hh := HC0.out
    refine runs_val (v := .bool c0) (w' := w) ?_ ⟨Below.refl _ _, rfl⟩
    rw [← hh]
    go_simp
  case r1_1o5 =>
    intro vs w hb hV
    rw [if_pos (by first | kernel_rfl | rfl)]
    generalize hρ : rho _ _ _ vs = ρ
    have d9 : (vs 4) = .bool c0 := hV 4 (by first | kernel_rfl | rfl)
    have e9 : ρ (.tmp 9) = vs 4 := by rw [← hρ]; kernel_rfl
    clear hρ hV
    refine runs_val (v := vs 4) (w' := w) ?_ ⟨Below.refl _ _, d9⟩
    go_simp
  case r1_1o6 =>
    intro vs w hb hV
    cases c0 with
    | false => (rw [if_neg (fun h => absurd (show false = true from h) Bool.false_ne_true)]) <;> exact rfl
    | true =>
      rw [if_pos (by first | kernel_rfl | rfl)]
      generalize hρ : rho _ _ _ vs = ρ
      have e2 : ρ (.tmp 2) = .pointer (some ⟨gd, 0, none⟩) := by rw [← hρ]; kernel_rfl
      clear hρ hV
      refine runs_val (v := .pointer (some ⟨gd, 1, none⟩)) (w' := w) ?_ ⟨Below.refl _ _, rfl⟩
      go_simp <;> (first | exact IntWalk.u64_in _ (by omega) | exact IntWalk.u32_in _ (by omega) | exact IntWalk.u16_in _ (by omega) | exact IntWalk.u8_in _ (by omega) | exact IntWalk.i64_in _ (by omega) | skip)
  case r1_1o7 =>
    intro vs w hb hV
    cases c0 with
    | false => (rw [if_neg (fun h => absurd (show false = true from h) Bool.false_ne_true)]) <;> exact rfl
    | true =>
      rw [if_pos (by first | kernel_rfl | rfl)]
      generalize hρ : rho _ _ _ vs = ρ
      have d11 : (vs 6) = .pointer (some ⟨gd, 1, none⟩) := hV 6 (by first | kernel_rfl | rfl)
      have e11 : ρ (.tmp 11) = vs 6 := by rw [← hρ]; kernel_rfl
      rw [d11] at e11; clear d11
      clear hρ hV
      have c0 := blk_cell (HA.out w hb) 1
      refine runs_val (v := .int .u16 sq) (w' := w) ?_ ⟨Below.refl _ _, rfl⟩
      go_simp
  case r1_1o8 =>
    intro vs w hb hV
    cases c0 with
    | false => (rw [if_neg (fun h => absurd (show false = true from h) Bool.false_ne_true)]) <;> exact rfl
    | true =>
      rw [if_pos (by first | kernel_rfl | rfl)]
      generalize hρ : rho _ _ _ vs = ρ
      have e3 : ρ (.tmp 3) = .pointer (some ⟨gd + 1, 0, none⟩) := by rw [← hρ]; kernel_rfl
      clear hρ hV
      refine runs_val (v := .pointer (some ⟨gd + 1, 1, none⟩)) (w' := w) ?_ ⟨Below.refl _ _, rfl⟩
      go_simp <;> (first | exact IntWalk.u64_in _ (by omega) | exact IntWalk.u32_in _ (by omega) | exact IntWalk.u16_in _ (by omega) | exact IntWalk.u8_in _ (by omega) | exact IntWalk.i64_in _ (by omega) | skip)
  case r1_1o9 =>
    intro vs w hb hV
    cases c0 with
    | false => (rw [if_neg (fun h => absurd (show false = true from h) Bool.false_ne_true)]) <;> exact rfl
    | true =>
      rw [if_pos (by first | kernel_rfl | rfl)]
      generalize hρ : rho _ _ _ vs = ρ
      have d13 : (vs 8) = .pointer (some ⟨gd + 1, 1, none⟩) := hV 8 (by first | kernel_rfl | rfl)
      have e13 : ρ (.tmp 13) = vs 8 := by rw [← hρ]; kernel_rfl
      rw [d13] at e13; clear d13
      clear hρ hV
      have c0 := blk_cell (HB.out w hb) 1
      refine runs_val (v := .int .u16 sq') (w' := w) ?_ ⟨Below.refl _ _, rfl⟩
      go_simp
  case r1_1o10 =>
    intro vs w hb hV
    cases c0 with
    | false => (rw [if_neg (fun h => absurd (show false = true from h) Bool.false_ne_true)]) <;> exact rfl
    | true =>
      rw [if_pos (by first | kernel_rfl | rfl)]
      generalize hρ : rho _ _ _ vs = ρ
      have d12 : (vs 7) = .int .u16 sq := hV 7 (by first | kernel_rfl | rfl)
      have e12 : ρ (.tmp 12) = vs 7 := by rw [← hρ]; kernel_rfl
      rw [d12] at e12; clear d12
      have d14 : (vs 9) = .int .u16 sq' := hV 9 (by first | kernel_rfl | rfl)
      have e14 : ρ (.tmp 14) = vs 9 := by rw [← hρ]; kernel_rfl
      rw [d14] at e14; clear d14
      clear hρ hV
      have hh := HB1.out
      refine runs_val (v := .bool b1) (w' := w) ?_ ⟨Below.refl _ _, rfl⟩
      rw [← hh]
      go_simp
  case r1_1o11 =>
    intro vs w hb hV
    rw [if_pos (by first | kernel_rfl | rfl)]
    generalize hρ : rho _ _ _ vs = ρ
    have d10 : (vs 5) = .bool c0 := hV 5 (by first | kernel_rfl | rfl)
    have e10 : ρ (.tmp 10) = vs 5 := by rw [← hρ]; kernel_rfl
    rw [d10] at e10; clear d10
    have d15 : (vs 10) = (if c0 = true then .bool b1 else undef) := hV 10 (by first | kernel_rfl | rfl)
    have e15 : ρ (.tmp 15) = vs 10 := by rw [← hρ]; kernel_rfl
    rw [d15] at e15; clear d15
    have econ : ∀ v : Value, ρ (.const v) = v := fun v => by rw [← hρ]; rfl
    clear hρ hV
    have hh := HC1.out
    cases c0 <;> simp only [if_true, if_false, Bool.false_eq_true, Bool.true_and, Bool.false_and] at e15 hh <;> subst hh <;> refine runs_val (v := _) (w' := w) ?_ ⟨Below.refl _ _, rfl⟩ <;> go_simp
  case r1_1o12 =>
    intro vs w hb hV
    rw [if_pos (by first | kernel_rfl | rfl)]
    generalize hρ : rho _ _ _ vs = ρ
    have d16 : (vs 11) = .bool c1 := hV 11 (by first | kernel_rfl | rfl)
    have e16 : ρ (.tmp 16) = vs 11 := by rw [← hρ]; kernel_rfl
    clear hρ hV
    refine runs_val (v := vs 11) (w' := w) ?_ ⟨Below.refl _ _, d16⟩
    go_simp
  case r1_1o13 =>
    intro vs w hb hV
    cases c1 with
    | false => (rw [if_neg (fun h => absurd (show false = true from h) Bool.false_ne_true)]) <;> exact rfl
    | true =>
      rw [if_pos (by first | kernel_rfl | rfl)]
      generalize hρ : rho _ _ _ vs = ρ
      have e2 : ρ (.tmp 2) = .pointer (some ⟨gd, 0, none⟩) := by rw [← hρ]; kernel_rfl
      clear hρ hV
      refine runs_val (v := .pointer (some ⟨gd, 2, none⟩)) (w' := w) ?_ ⟨Below.refl _ _, rfl⟩
      go_simp <;> (first | exact IntWalk.u64_in _ (by omega) | exact IntWalk.u32_in _ (by omega) | exact IntWalk.u16_in _ (by omega) | exact IntWalk.u8_in _ (by omega) | exact IntWalk.i64_in _ (by omega) | skip)
  case r1_1o14 =>
    intro vs w hb hV
    cases c1 with
    | false => (rw [if_neg (fun h => absurd (show false = true from h) Bool.false_ne_true)]) <;> exact rfl
    | true =>
      rw [if_pos (by first | kernel_rfl | rfl)]
      generalize hρ : rho _ _ _ vs = ρ
      have d18 : (vs 13) = .pointer (some ⟨gd, 2, none⟩) := hV 13 (by first | kernel_rfl | rfl)
      have e18 : ρ (.tmp 18) = vs 13 := by rw [← hρ]; kernel_rfl
      rw [d18] at e18; clear d18
      clear hρ hV
      have c0 := blk_cell (HA.out w hb) 2
      have c1 := blk_cell (HA.out w hb) 3
      refine runs_val (v := .agg #[.int .u16 nx, .int .u32 bt]) (w' := w) ?_ ⟨Below.refl _ _, rfl⟩
      go_simp
  case r1_1o15 =>
    intro vs w hb hV
    cases c1 with
    | false => (rw [if_neg (fun h => absurd (show false = true from h) Bool.false_ne_true)]) <;> exact rfl
    | true =>
      rw [if_pos (by first | kernel_rfl | rfl)]
      generalize hρ : rho _ _ _ vs = ρ
      have e3 : ρ (.tmp 3) = .pointer (some ⟨gd + 1, 0, none⟩) := by rw [← hρ]; kernel_rfl
      clear hρ hV
      refine runs_val (v := .pointer (some ⟨gd + 1, 2, none⟩)) (w' := w) ?_ ⟨Below.refl _ _, rfl⟩
      go_simp <;> (first | exact IntWalk.u64_in _ (by omega) | exact IntWalk.u32_in _ (by omega) | exact IntWalk.u16_in _ (by omega) | exact IntWalk.u8_in _ (by omega) | exact IntWalk.i64_in _ (by omega) | skip)
  case r1_1o16 =>
    intro vs w hb hV
    cases c1 with
    | false => (rw [if_neg (fun h => absurd (show false = true from h) Bool.false_ne_true)]) <;> exact rfl
    | true =>
      rw [if_pos (by first | kernel_rfl | rfl)]
      generalize hρ : rho _ _ _ vs = ρ
      have d20 : (vs 15) = .pointer (some ⟨gd + 1, 2, none⟩) := hV 15 (by first | kernel_rfl | rfl)
      have e20 : ρ (.tmp 20) = vs 15 := by rw [← hρ]; kernel_rfl
      rw [d20] at e20; clear d20
      clear hρ hV
      have c0 := blk_cell (HB.out w hb) 2
      have c1 := blk_cell (HB.out w hb) 3
      refine runs_val (v := .agg #[.int .u16 nx', .int .u32 bt']) (w' := w) ?_ ⟨Below.refl _ _, rfl⟩
      go_simp
  case r1_1o17 =>
    intro vs w hb hV
    cases c1 with
    | false => (rw [if_neg (fun h => absurd (show false = true from h) Bool.false_ne_true)]) <;> exact rfl
    | true =>
      rw [if_pos (by first | kernel_rfl | rfl)]
      generalize hρ : rho _ _ _ vs = ρ
      have d19 : (vs 14) = .agg #[.int .u16 nx, .int .u32 bt] := hV 14 (by first | kernel_rfl | rfl)
      have e19 : ρ (.tmp 19) = vs 14 := by rw [← hρ]; kernel_rfl
      rw [d19] at e19; clear d19
      have d21 : (vs 16) = .agg #[.int .u16 nx', .int .u32 bt'] := hV 16 (by first | kernel_rfl | rfl)
      have e21 : ρ (.tmp 21) = vs 16 := by rw [← hρ]; kernel_rfl
      rw [d21] at e21; clear d21
      clear hρ hV
      have hh := HB2.out
      refine runs_val (v := .bool b2) (w' := w) ?_ ⟨Below.refl _ _, rfl⟩
      go_simp
      rw [← hh]
      by_cases q0 : nx = nx' <;> by_cases q1 : bt = bt' <;> simp [q0, q1]
  case r1_1o18 =>
    intro vs w hb hV
    rw [if_pos (by first | kernel_rfl | rfl)]
    generalize hρ : rho _ _ _ vs = ρ
    have d17 : (vs 12) = .bool c1 := hV 12 (by first | kernel_rfl | rfl)
    have e17 : ρ (.tmp 17) = vs 12 := by rw [← hρ]; kernel_rfl
    rw [d17] at e17; clear d17
    have d22 : (vs 17) = (if c1 = true then .bool b2 else undef) := hV 17 (by first | kernel_rfl | rfl)
    have e22 : ρ (.tmp 22) = vs 17 := by rw [← hρ]; kernel_rfl
    rw [d22] at e22; clear d22
    have econ : ∀ v : Value, ρ (.const v) = v := fun v => by rw [← hρ]; rfl
    clear hρ hV
    have hh := HC2.out
    cases c1 <;> simp only [if_true, if_false, Bool.false_eq_true, Bool.true_and, Bool.false_and] at e22 hh <;> subst hh <;> refine runs_val (v := _) (w' := w) ?_ ⟨Below.refl _ _, rfl⟩ <;> go_simp
  case r1_1o19 =>
    intro vs w hb hV
    rw [if_pos (by first | kernel_rfl | rfl)]
    generalize hρ : rho _ _ _ vs = ρ
    have d23 : (vs 18) = .bool c2 := hV 18 (by first | kernel_rfl | rfl)
    have e23 : ρ (.tmp 23) = vs 18 := by rw [← hρ]; kernel_rfl
    clear hρ hV
    refine runs_val (v := vs 18) (w' := w) ?_ ⟨Below.refl _ _, d23⟩
    go_simp
  case r1_1o20 =>
    intro vs w hb hV
    cases c2 with
    | false => (rw [if_neg (fun h => absurd (show false = true from h) Bool.false_ne_true)]) <;> exact rfl
    | true =>
      rw [if_pos (by first | kernel_rfl | rfl)]
      generalize hρ : rho _ _ _ vs = ρ
      have e2 : ρ (.tmp 2) = .pointer (some ⟨gd, 0, none⟩) := by rw [← hρ]; kernel_rfl
      clear hρ hV
      exact runs_load 72 (.tmp 2) rfl gd e2 72 #[.int .u16 ep, .int .u16 sq, .int .u16 nx, .int .u32 bt, .bool fi, .bool la, .bool al, .slice A n c] (0, 0) _ (HA.out w hb) Try.underlying72 rfl (frame_info _ _ _ _ _ _ _ _) ⟨Below.refl _ _, rfl⟩
  case r1_1o21 =>
    intro vs w hb hV
    cases c2 with
    | false => (rw [if_neg (fun h => absurd (show false = true from h) Bool.false_ne_true)]) <;> exact rfl
    | true =>
      rw [if_pos (by first | kernel_rfl | rfl)]
      generalize hρ : rho _ _ _ vs = ρ
      have d25 : (vs 20) = .agg #[.int .u16 ep, .int .u16 sq, .int .u16 nx, .int .u32 bt, .bool fi, .bool la, .bool al, .slice A n c] := hV 20 (by first | kernel_rfl | rfl)
      have e25 : ρ (.tmp 25) = vs 20 := by rw [← hρ]; kernel_rfl
      rw [d25] at e25; clear d25
      have ef60 : ρ (.func 60) = .func (.func 60) #[] #[] := by rw [← hρ]; rfl
      clear hρ hV
      refine runs_call (f := 60) (args := #[.agg #[.int .u16 ep, .int .u16 sq, .int .u16 nx, .int .u32 bt, .bool fi, .bool la, .bool al, .slice A n c]]) (w' := w) ?_ ?_
      · go_simp
      · refine (KF.out w (HBW.out w hb)).mono ?_
        rintro e w5 ⟨rfl, hb5⟩
        exact ⟨_, rfl, hb5, rfl⟩
  case r1_1o22 =>
    intro vs w hb hV
    cases c2 with
    | false => (rw [if_neg (fun h => absurd (show false = true from h) Bool.false_ne_true)]) <;> exact rfl
    | true =>
      rw [if_pos (by first | kernel_rfl | rfl)]
      generalize hρ : rho _ _ _ vs = ρ
      have e3 : ρ (.tmp 3) = .pointer (some ⟨gd + 1, 0, none⟩) := by rw [← hρ]; kernel_rfl
      clear hρ hV
      exact runs_load 72 (.tmp 3) rfl (gd + 1) e3 72 #[.int .u16 ep', .int .u16 sq', .int .u16 nx', .int .u32 bt', .bool fi', .bool la', .bool al', .slice A' n' c'] (0, 0) _ (HB.out w hb) Try.underlying72 rfl (frame_info _ _ _ _ _ _ _ _) ⟨Below.refl _ _, rfl⟩
  case r1_1o23 =>
    intro vs w hb hV
    cases c2 with
    | false => (rw [if_neg (fun h => absurd (show false = true from h) Bool.false_ne_true)]) <;> exact rfl
    | true =>
      rw [if_pos (by first | kernel_rfl | rfl)]
      generalize hρ : rho _ _ _ vs = ρ
      have d27 : (vs 22) = .agg #[.int .u16 ep', .int .u16 sq', .int .u16 nx', .int .u32 bt', .bool fi', .bool la', .bool al', .slice A' n' c'] := hV 22 (by first | kernel_rfl | rfl)
      have e27 : ρ (.tmp 27) = vs 22 := by rw [← hρ]; kernel_rfl
      rw [d27] at e27; clear d27
      have ef60 : ρ (.func 60) = .func (.func 60) #[] #[] := by rw [← hρ]; rfl
      clear hρ hV
      refine runs_call (f := 60) (args := #[.agg #[.int .u16 ep', .int .u16 sq', .int .u16 nx', .int .u32 bt', .bool fi', .bool la', .bool al', .slice A' n' c']]) (w' := w) ?_ ?_
      · go_simp
      · refine (KG.out w (HBW.out w hb)).mono ?_
        rintro e w5 ⟨rfl, hb5⟩
        exact ⟨_, rfl, hb5, rfl⟩
  case r1_1o24 =>
    intro vs w hb hV
    cases c2 with
    | false => (rw [if_neg (fun h => absurd (show false = true from h) Bool.false_ne_true)]) <;> exact rfl
    | true =>
      rw [if_pos (by first | kernel_rfl | rfl)]
      generalize hρ : rho _ _ _ vs = ρ
      have d26 : (vs 21) = .int .u8 fl := hV 21 (by first | kernel_rfl | rfl)
      have e26 : ρ (.tmp 26) = vs 21 := by rw [← hρ]; kernel_rfl
      rw [d26] at e26; clear d26
      have d28 : (vs 23) = .int .u8 fl' := hV 23 (by first | kernel_rfl | rfl)
      have e28 : ρ (.tmp 28) = vs 23 := by rw [← hρ]; kernel_rfl
      rw [d28] at e28; clear d28
      clear hρ hV
      have hh := HB3.out
      refine runs_val (v := .bool b3) (w' := w) ?_ ⟨Below.refl _ _, rfl⟩
      rw [← hh]
      go_simp
  case r1_1o25 =>
    intro vs w hb hV
    rw [if_pos (by first | kernel_rfl | rfl)]
    generalize hρ : rho _ _ _ vs = ρ
    have d24 : (vs 19) = .bool c2 := hV 19 (by first | kernel_rfl | rfl)
    have e24 : ρ (.tmp 24) = vs 19 := by rw [← hρ]; kernel_rfl
    rw [d24] at e24; clear d24
    have d29 : (vs 24) = (if c2 = true then .bool b3 else undef) := hV 24 (by first | kernel_rfl | rfl)
    have e29 : ρ (.tmp 29) = vs 24 := by rw [← hρ]; kernel_rfl
    rw [d29] at e29; clear d29
    have econ : ∀ v : Value, ρ (.const v) = v := fun v => by rw [← hρ]; rfl
    clear hρ hV
    have hh := HC3.out
    cases c2 <;> simp only [if_true, if_false, Bool.false_eq_true, Bool.true_and, Bool.false_and] at e29 hh <;> subst hh <;> refine runs_val (v := _) (w' := w) ?_ ⟨Below.refl _ _, rfl⟩ <;> go_simp
  case r1_1o26 =>
    intro vs w hb hV
    rw [if_pos (by first | kernel_rfl | rfl)]
    generalize hρ : rho _ _ _ vs = ρ
    have d30 : (vs 25) = .bool c3 := hV 25 (by first | kernel_rfl | rfl)
    have e30 : ρ (.tmp 30) = vs 25 := by rw [← hρ]; kernel_rfl
    clear hρ hV
    refine runs_val (v := vs 25) (w' := w) ?_ ⟨Below.refl _ _, d30⟩
    go_simp
  case r1_1o27 =>
    intro vs w hb hV
    cases c3 with
    | false => (rw [if_neg (fun h => absurd (show false = true from h) Bool.false_ne_true)]) <;> exact rfl
    | true =>
      rw [if_pos (by first | kernel_rfl | rfl)]
      generalize hρ : rho _ _ _ vs = ρ
      have e2 : ρ (.tmp 2) = .pointer (some ⟨gd, 0, none⟩) := by rw [← hρ]; kernel_rfl
      clear hρ hV
      refine runs_val (v := .pointer (some ⟨gd, 7, none⟩)) (w' := w) ?_ ⟨Below.refl _ _, rfl⟩
      go_simp <;> (first | exact IntWalk.u64_in _ (by omega) | exact IntWalk.u32_in _ (by omega) | exact IntWalk.u16_in _ (by omega) | exact IntWalk.u8_in _ (by omega) | exact IntWalk.i64_in _ (by omega) | skip)
  case r1_1o28 =>
    intro vs w hb hV
    cases c3 with
    | false => (rw [if_neg (fun h => absurd (show false = true from h) Bool.false_ne_true)]) <;> exact rfl
    | true =>
      rw [if_pos (by first | kernel_rfl | rfl)]
      generalize hρ : rho _ _ _ vs = ρ
      have d32 : (vs 27) = .pointer (some ⟨gd, 7, none⟩) := hV 27 (by first | kernel_rfl | rfl)
      have e32 : ρ (.tmp 32) = vs 27 := by rw [← hρ]; kernel_rfl
      rw [d32] at e32; clear d32
      clear hρ hV
      have c0 := blk_cell (HA.out w hb) 7
      refine runs_val (v := .slice A n c) (w' := w) ?_ ⟨Below.refl _ _, rfl⟩
      go_simp
  case r1_1o29 =>
    intro vs w hb hV
    cases c3 with
    | false => (rw [if_neg (fun h => absurd (show false = true from h) Bool.false_ne_true)]) <;> exact rfl
    | true =>
      rw [if_pos (by first | kernel_rfl | rfl)]
      generalize hρ : rho _ _ _ vs = ρ
      have e3 : ρ (.tmp 3) = .pointer (some ⟨gd + 1, 0, none⟩) := by rw [← hρ]; kernel_rfl
      clear hρ hV
      refine runs_val (v := .pointer (some ⟨gd + 1, 7, none⟩)) (w' := w) ?_ ⟨Below.refl _ _, rfl⟩
      go_simp <;> (first | exact IntWalk.u64_in _ (by omega) | exact IntWalk.u32_in _ (by omega) | exact IntWalk.u16_in _ (by omega) | exact IntWalk.u8_in _ (by omega) | exact IntWalk.i64_in _ (by omega) | skip)
  case r1_1o30 =>
    intro vs w hb hV
    cases c3 with
    | false => (rw [if_neg (fun h => absurd (show false = true from h) Bool.false_ne_true)]) <;> exact rfl
    | true =>
      rw [if_pos (by first | kernel_rfl | rfl)]
      generalize hρ : rho _ _ _ vs = ρ
      have d34 : (vs 29) = .pointer (some ⟨gd + 1, 7, none⟩) := hV 29 (by first | kernel_rfl | rfl)
      have e34 : ρ (.tmp 34) = vs 29 := by rw [← hρ]; kernel_rfl
      rw [d34] at e34; clear d34
      clear hρ hV
      have c0 := blk_cell (HB.out w hb) 7
      refine runs_val (v := .slice A' n' c') (w' := w) ?_ ⟨Below.refl _ _, rfl⟩
      go_simp
  case r1_1o31 =>
    intro vs w hb hV
    cases c3 with
    | false => (rw [if_neg (fun h => absurd (show false = true from h) Bool.false_ne_true)]) <;> exact rfl
    | true =>
      rw [if_pos (by first | kernel_rfl | rfl)]
      generalize hρ : rho _ _ _ vs = ρ
      have d33 : (vs 28) = .slice A n c := hV 28 (by first | kernel_rfl | rfl)
      have e33 : ρ (.tmp 33) = vs 28 := by rw [← hρ]; kernel_rfl
      rw [d33] at e33; clear d33
      have d35 : (vs 30) = .slice A' n' c' := hV 30 (by first | kernel_rfl | rfl)
      have e35 : ρ (.tmp 35) = vs 30 := by rw [← hρ]; kernel_rfl
      rw [d35] at e35; clear d35
      have ef66 : ρ (.func 66) = .func (.func 66) #[] #[] := by rw [← hρ]; rfl
      clear hρ hV
      refine runs_call (f := 66) (args := #[.slice A n c, .slice A' n' c']) (w' := w) ?_ ?_
      · go_simp
      · refine (KE.out w (HBW.out w hb)).mono ?_
        rintro e w5 ⟨rfl, hb5⟩
        exact ⟨_, rfl, hb5, rfl⟩
  case r1_1o32 =>
    intro vs w hb hV
    rw [if_pos (by first | kernel_rfl | rfl)]
    generalize hρ : rho _ _ _ vs = ρ
    have d31 : (vs 26) = .bool c3 := hV 26 (by first | kernel_rfl | rfl)
    have e31 : ρ (.tmp 31) = vs 26 := by rw [← hρ]; kernel_rfl
    rw [d31] at e31; clear d31
    have d36 : (vs 31) = (if c3 = true then .bool γ else undef) := hV 31 (by first | kernel_rfl | rfl)
    have e36 : ρ (.tmp 36) = vs 31 := by rw [← hρ]; kernel_rfl
    rw [d36] at e36; clear d36
    have econ : ∀ v : Value, ρ (.const v) = v := fun v => by rw [← hρ]; rfl
    clear hρ hV
    have hh := HC4.out
    cases c3 <;> simp only [if_true, if_false, Bool.false_eq_true, Bool.true_and, Bool.false_and] at e36 hh <;> subst hh <;> refine runs_val (v := _) (w' := w) ?_ ⟨Below.refl _ _, rfl⟩ <;> go_simp
  case r1_1o33 =>
    intro vs w hb hV
    rw [if_pos (by first | kernel_rfl | rfl)]
    generalize hρ : rho _ _ _ vs = ρ
    have d37 : (vs 32) = .bool β := hV 32 (by first | kernel_rfl | rfl)
    have e37 : ρ (.tmp 37) = vs 32 := by rw [← hρ]; kernel_rfl
    clear hρ hV
    refine runs_val (v := vs 32) (w' := w) ?_ ⟨Below.refl _ _, d37⟩
    go_simp
  case r1_1e =>
    intro vs W2 hb2 hV
    have d5 : (vs 0) = .pointer (some ⟨gd, 0, none⟩) := hV 0 (Nat.le_of_ble_eq_true rfl)
    have d6 : (vs 1) = .int .u16 ep := hV 1 (Nat.le_of_ble_eq_true rfl)
    have d7 : (vs 2) = .pointer (some ⟨gd + 1, 0, none⟩) := hV 2 (Nat.le_of_ble_eq_true rfl)
    have d8 : (vs 3) = .int .u16 ep' := hV 3 (Nat.le_of_ble_eq_true rfl)
    have d9 : (vs 4) = .bool c0 := hV 4 (Nat.le_of_ble_eq_true rfl)
    have d10 : (vs 5) = .bool c0 := hV 5 (Nat.le_of_ble_eq_true rfl)
    have d16 : (vs 11) = .bool c1 := hV 11 (Nat.le_of_ble_eq_true rfl)
    have d17 : (vs 12) = .bool c1 := hV 12 (Nat.le_of_ble_eq_true rfl)
    have d23 : (vs 18) = .bool c2 := hV 18 (Nat.le_of_ble_eq_true rfl)
    have d24 : (vs 19) = .bool c2 := hV 19 (Nat.le_of_ble_eq_true rfl)
    have d30 : (vs 25) = .bool c3 := hV 25 (Nat.le_of_ble_eq_true rfl)
    have d31 : (vs 26) = .bool c3 := hV 26 (Nat.le_of_ble_eq_true rfl)
    have d37 : (vs 32) = .bool β := hV 32 (Nat.le_of_ble_eq_true rfl)
    have d4 : (vs 33) = .bool β := hV 33 (Nat.le_of_ble_eq_true rfl)
    clear hV
    simp only [putAll]
    rw [d5, d6, d7, d8, d9, d10, d16, d17, d23, d24, d30, d31, d37, d4]
    clear d5 d6 d7 d8 d9 d10 d16 d17 d23 d24 d30 d31 d37 d4
    generalize vs 6 = vN6
    generalize vs 7 = vN7
    generalize vs 8 = vN8
    generalize vs 9 = vN9
    generalize vs 10 = vN10
    generalize vs 13 = vN13
    generalize vs 14 = vN14
    generalize vs 15 = vN15
    generalize vs 16 = vN16
    generalize vs 17 = vN17
    generalize vs 20 = vN20
    generalize vs 21 = vN21
    generalize vs 22 = vN22
    generalize vs 23 = vN23
    generalize vs 24 = vN24
    generalize vs 27 = vN27
    generalize vs 28 = vN28
    generalize vs 29 = vN29
    generalize vs 30 = vN30
    generalize vs 31 = vN31
    clear vs
    simp only [Act.put, List.setIfInBounds_toArray, List.set_cons_zero, List.set_cons_succ]
    have HBF := Aside0.mk (HBW.out _ hb2)
    clear hb2
    go_wp2_with fail
    go_ret
    rw [HGD.out]
    exact ⟨rfl, HBF.out⟩
end Go.Proofs.Yticpjidcgaaldaa

namespace Go.Proofs.Yticpjidcgaaldaa
open Go.RowKit Go.Proofs.YticpjidcgaaldaaW.PrintWords Go.Proofs.YticpjidcgaaldaaW.PrintLast Go.Proofs.YticpjidcgaaldaaW.PrintMore
set_option linter.unusedVariables false
set_option linter.unusedSimpArgs false

def rBody (ep sq nx bt : Nat) (fi la al : Bool) (D : List Int) : List Int := fHead ep sq nx bt (flagsF fi la al) (D.length % 256) ++ D
theorem rBody_small (ep sq nx bt : Nat) (fi la al : Bool) (D : List Int) (h : D.length ≤ 64) : rBody ep sq nx bt fi la al D = fBody ep sq nx bt fi la al D := by
  unfold rBody fBody; rw [Nat.mod_eq_of_lt (by omega)]
def rEp (p : List Int) : Int := leN ((p.drop 1).take 2)
def rSq (p : List Int) : Int := leN ((p.drop 3).take 2)
def rNx (p : List Int) : Int := leN ((p.drop 5).take 2)
def rBt (p : List Int) : Int := leN ((p.drop 7).take 4)
def rFl (p : List Int) : Int := p.getD 11 0
def rDa (p : List Int) : List Int := ((p.take (p.length - 4)).drop 13).take 1000
def rGood (p : List Int) : Bool := rightF (rSq p) (rDa p).length (b1F (rFl p)) (b2F (rFl p)) (b4F (rFl p)) && decide (sealL (rBody (rEp p).toNat (rSq p).toNat (rNx p).toNat (rBt p).toNat (b1F (rFl p)) (b2F (rFl p)) (b4F (rFl p)) (rDa p)) = p)
def rparseF (p : List Int) : FRes :=
  if p.length < 4 then badF 2 else if sealedB p = false then badF 5 else if p.length < 17 then badF 2 else
    if rGood p = true then ⟨0, rEp p, rSq p, rNx p, rBt p, b1F (rFl p), b2F (rFl p), b4F (rFl p), rDa p⟩ else badF 2
theorem take2_low (x k : Nat) (a l : List Int) (n : Nat) (ha : a.length = n) (hx : x < 256 ^ k) : leN (((a ++ (lowN x k ++ l)).drop n).take k) = x := by
  rw [List.drop_left' ha, List.take_left' (lowN_length _ _), leN_low k x hx]
theorem fields_back (ep sq nx bt : Nat) (fi la al : Bool) (D : List Int) (he : ep < 65536 ∧ sq < 65536 ∧ nx < 65536 ∧ bt < 4294967296) (hD : D.length ≤ 64) (p : List Int) (hp : sealL (fBody ep sq nx bt fi la al D) = p) :
    rEp p = ep ∧ rSq p = sq ∧ rNx p = nx ∧ rBt p = bt ∧ rFl p = flagsF fi la al ∧ rDa p = D ∧ p.length = 17 + D.length := by
  have hl : p.length = 17 + D.length := by rw [← hp, sealL_len, fBody_len]; omega
  have hbd : p.take (p.length - 4) = fBody ep sq nx bt fi la al D := by rw [← hp]; exact sealL_take _
  have e1 : p = [86] ++ (lowN ep 2 ++ (lowN sq 2 ++ (lowN nx 2 ++ (lowN bt 4 ++ ([flagsF fi la al] ++ ([(D.length : Int)] ++ (D ++ tailL (sumN tab (fBody ep sq nx bt fi la al D))))))))) := by
    rw [← hp]; unfold sealL; conv => lhs; lhs; unfold fBody fHead
    simp
  refine ⟨?_, ?_, ?_, ?_, ?_, ?_, hl⟩
  · unfold rEp; rw [e1]; exact take2_low ep 2 _ _ 1 rfl (by omega)
  · unfold rSq; rw [e1, ← List.append_assoc]; exact take2_low sq 2 _ _ 3 (by simp [lowN_length]) (by omega)
  · unfold rNx; rw [e1, ← List.append_assoc, ← List.append_assoc]; exact take2_low nx 2 _ _ 5 (by simp [lowN_length]) (by omega)
  · unfold rBt; rw [e1, ← List.append_assoc, ← List.append_assoc, ← List.append_assoc]; exact take2_low bt 4 _ _ 7 (by simp [lowN_length]) (by omega)
  · unfold rFl
    rw [e1, ← List.append_assoc, ← List.append_assoc, ← List.append_assoc, ← List.append_assoc, List.getD_eq_getElem?_getD, List.getElem?_append_right (by simp [lowN_length])]
    simp [lowN_length]
  · unfold rDa
    rw [hbd]
    unfold fBody
    rw [List.drop_left' (fHead_len _ _ _ _ _ _), List.take_of_length_le (by omega)]
theorem rparse_back (ep sq nx bt : Nat) (fi la al : Bool) (D : List Int) (he : ep < 65536 ∧ sq < 65536 ∧ nx < 65536 ∧ bt < 4294967296) (hr : rightF sq D.length fi la al = true) (p : List Int) (hp : fBytes ep sq nx bt fi la al D = p) :
    rparseF p = ⟨0, ep, sq, nx, bt, fi, la, al, D⟩ := by
  have hs : sealL (fBody ep sq nx bt fi la al D) = p := by rw [← hp]; unfold fBytes; rw [if_pos hr]
  obtain ⟨k1, k2, k3, k4, k5, k6, k7⟩ := fields_back ep sq nx bt fi la al D he (rightF_le hr) p hs
  obtain ⟨f1, f2, f3⟩ := flags_b fi la al
  have hsd : sealedB p = true := by rw [← hs]; exact sealL_sealed _
  have hg : rGood p = true := by
    unfold rGood
    rw [k1, k2, k3, k4, k5, k6, f1, f2, f3, hr]
    simp only [Int.toNat_natCast, Bool.true_and, decide_eq_true_eq]
    rw [rBody_small _ _ _ _ _ _ _ _ (rightF_le hr)]
    exact hs
  unfold rparseF
  rw [if_neg (by omega), if_neg (by rw [hsd]; decide), if_neg (by omega), if_pos hg, k1, k2, k3, k4, k5, k6, f1, f2, f3]
def IsF (p : List Int) : Prop := ∃ (ep sq nx bt : Nat) (fi la al : Bool) (D : List Int), (ep < 65536 ∧ sq < 65536 ∧ nx < 65536 ∧ bt < 4294967296) ∧ rightF sq D.length fi la al = true ∧ fBytes ep sq nx bt fi la al D = p
theorem good_isF {q p : List Int} (hq : Bytes q) (h : (eyeF q).good p = true) : IsF p := by
  unfold ERes.good at h
  simp only [Bool.and_eq_true, decide_eq_true_eq] at h
  obtain ⟨_, _, h3, h4⟩ := h
  have q1 : Bytes (eByte q false).2.1 := (eByte_b hq).2
  have q2 := eFix_b (bad := (eByte q false).2.2) 2 q1
  have b2 := eFix_lt (bad := (eByte q false).2.2) 2 q1
  have q3 := eFix_b (bad := (eFix 2 (eByte q false).2.1 (eByte q false).2.2).2.2) 2 q2
  have b3 := eFix_lt (bad := (eFix 2 (eByte q false).2.1 (eByte q false).2.2).2.2) 2 q2
  have b4 := eFix_lt (bad := (eFix 2 (eFix 2 (eByte q false).2.1 (eByte q false).2.2).2.1 (eFix 2 (eByte q false).2.1 (eByte q false).2.2).2.2).2.2) 2 q3
  have q4 := eFix_b (bad := (eFix 2 (eFix 2 (eByte q false).2.1 (eByte q false).2.2).2.1 (eFix 2 (eByte q false).2.1 (eByte q false).2.2).2.2).2.2) 2 q3
  have b5 := eFix_lt (bad := (eFix 2 (eFix 2 (eFix 2 (eByte q false).2.1 (eByte q false).2.2).2.1 (eFix 2 (eByte q false).2.1 (eByte q false).2.2).2.2).2.1 (eFix 2 (eFix 2 (eByte q false).2.1 (eByte q false).2.2).2.1 (eFix 2 (eByte q false).2.1 (eByte q false).2.2).2.2).2.2).2.2) 4 q4
  change 0 ≤ (eyeF q).ep ∧ (eyeF q).ep < 256 ^ 2 at b2
  change 0 ≤ (eyeF q).sq ∧ (eyeF q).sq < 256 ^ 2 at b3
  change 0 ≤ (eyeF q).nx ∧ (eyeF q).nx < 256 ^ 2 at b4
  change 0 ≤ (eyeF q).bt ∧ (eyeF q).bt < 256 ^ 4 at b5
  refine ⟨_, _, _, _, _, _, _, _, ⟨by omega, by omega, by omega, by omega⟩, ?_, h4⟩
  rw [Int.toNat_of_nonneg b3.1]; exact h3
theorem rgood_isF {p : List Int} (hp : Bytes p) (h : rGood p = true) : IsF p := by
  unfold rGood at h
  simp only [Bool.and_eq_true, decide_eq_true_eq] at h
  obtain ⟨h3, h4⟩ := h
  have lt2 : ∀ k : Nat, 0 ≤ leN ((p.drop k).take 2) ∧ leN ((p.drop k).take 2) < 65536 := fun k => by
    have h1 := leN_bd ((hp.drop k).take 2)
    have h2 : ((p.drop k).take 2).length ≤ 2 := List.length_take_le _ _
    have h3 : (256 : Int) ^ ((p.drop k).take 2).length ≤ 256 ^ 2 := by
      have := Int.ofNat_le.2 (Nat.pow_le_pow_right (n := 256) (by decide) h2)
      rwa [Int.natCast_pow, Int.natCast_pow] at this
    have h4 : (256 : Int) ^ 2 = 65536 := by decide
    rw [h4] at h3
    exact ⟨h1.1, by have := h1.2; omega⟩
  have b1 := lt2 1
  have b3 := lt2 3
  have b5 := lt2 5
  have b7 : U32 (leN ((p.drop 7).take 4)) := leN4 (hp.drop 7)
  unfold U32 at b7
  have hl := rightF_le h3
  rw [rBody_small _ _ _ _ _ _ _ _ hl] at h4
  refine ⟨(rEp p).toNat, (rSq p).toNat, (rNx p).toNat, (rBt p).toNat, b1F (rFl p), b2F (rFl p), b4F (rFl p), rDa p, ?_, ?_, ?_⟩
  · unfold rEp rSq rNx rBt; omega
  · rw [Int.toNat_of_nonneg (by unfold rSq; omega)]; exact h3
  · unfold fBytes
    rw [if_pos (by rw [Int.toNat_of_nonneg (by unfold rSq; omega)]; exact h3)]
    exact h4
theorem rparse_eq (p : List Int) (hp : Bytes p) : rparseF p = parseF p := by
  by_cases hF : IsF p
  · obtain ⟨ep, sq, nx, bt, fi, la, al, D, he, hr, hb⟩ := hF
    rw [rparse_back ep sq nx bt fi la al D he hr p hb, ← hb, parseF_back ep sq nx bt fi la al D he hr]
  · unfold rparseF parseF
    by_cases h4 : p.length < 4
    · rw [if_pos h4, if_pos h4]
    · rw [if_neg h4, if_neg h4]
      by_cases hs : sealedB p = false
      · rw [if_pos hs, if_pos hs]
      · rw [if_neg hs, if_neg hs]
        have n1 : ¬ rGood p = true := fun h => hF (rgood_isF hp h)
        have n2 : ¬ (eyeF (p.take (p.length - 4))).good p = true := fun h => hF (good_isF (hp.take _) h)
        simp only [if_neg n2]
        rw [if_neg n1]
        split <;> rfl
end Go.Proofs.Yticpjidcgaaldaa

namespace Go.Proofs.Yticpjidcgaaldaa
open Go.RowKit Go.Proofs.YticpjidcgaaldaaW.PrintWords Go.Proofs.YticpjidcgaaldaaW.PrintLast Go.Proofs.YticpjidcgaaldaaW.PrintMore
attribute [local go_sem] max2_int min2_int max_two min_two max_three min_three max_four min_four   -- for this text's walks alone
set_option linter.unusedVariables false
set_option linter.unusedSimpArgs false

def hoodwinkref11_flags.j0 : Nat → Int → Int → Int → Int → Int → Bool → Bool → Bool → List Int → Option (Int)
  | 0, _, _, _, _, _, _, _, _, _ => none
  | k + 1, x3, x139000, x139001, x139002, x139003, x139004, x139005, x139006, x139007 => if x139005 = true then (if x139006 = true then (some ((((x3 + 2) % 256) + 4) % 256)) else (some ((x3 + 2) % 256))) else (if x139006 = true then (some ((x3 + 4) % 256)) else (some x3))
def hoodwinkref11_flags.f (k : Nat) (a0_0 : Int) (a0_1 : Int) (a0_2 : Int) (a0_3 : Int) (a0_4 : Bool) (a0_5 : Bool) (a0_6 : Bool) (l0_7 : List Int) : Option (Int) := if a0_4 = true then (hoodwinkref11_flags.j0 k (0 + 1) a0_0 a0_1 a0_2 a0_3 a0_4 a0_5 a0_6 l0_7) else (hoodwinkref11_flags.j0 k 0 a0_0 a0_1 a0_2 a0_3 a0_4 a0_5 a0_6 l0_7)
theorem hoodwinkref11_flags.mono_l : ∀ k, (∀ y0 y1 y2 y3 y4 y5 y6 y7 y8, LeO (hoodwinkref11_flags.j0 k y0 y1 y2 y3 y4 y5 y6 y7 y8) (hoodwinkref11_flags.j0 (k + 1) y0 y1 y2 y3 y4 y5 y6 y7 y8))
  | 0 => fun _ _ _ _ _ _ _ _ _ r h => by simp [hoodwinkref11_flags.j0] at h
  | k + 1 => by
    have ih0 := hoodwinkref11_flags.mono_l k
    · intro y0 y1 y2 y3 y4 y5 y6 y7 y8
      unfold hoodwinkref11_flags.j0
      repeat' first
      | (with_reducible exact ih0 _ _ _ _ _ _ _ _ _)
      | (with_reducible exact LeO.refl _)
      | (with_reducible exact LeO.none _)
      | (with_reducible refine LeO.ite ?_ ?_)
      | (with_reducible refine LeO.bind ?_ (fun _ => ?_))
      | exact ih0 _ _ _ _ _ _ _ _ _
      | exact LeO.none _
      | refine LeO.ite ?_ ?_
      | refine LeO.bind ?_ (fun _ => ?_)
theorem hoodwinkref11_flags.mono : ∀ a0 a1 a2 a3 a4 a5 a6 a7 k, LeO (hoodwinkref11_flags.f k a0 a1 a2 a3 a4 a5 a6 a7) (hoodwinkref11_flags.f (k + 1) a0 a1 a2 a3 a4 a5 a6 a7) := by
  intro a0 a1 a2 a3 a4 a5 a6 a7 k
  have ih0 := hoodwinkref11_flags.mono_l k
  unfold hoodwinkref11_flags.f
  repeat' first
      | (with_reducible exact ih0 _ _ _ _ _ _ _ _ _)
      | (with_reducible exact LeO.refl _)
      | (with_reducible exact LeO.none _)
      | (with_reducible refine LeO.ite ?_ ?_)
      | (with_reducible refine LeO.bind ?_ (fun _ => ?_))
      | exact ih0 _ _ _ _ _ _ _ _ _
      | exact LeO.none _
      | refine LeO.ite ?_ ?_
      | refine LeO.bind ?_ (fun _ => ?_)
set_option maxHeartbeats 8000000 in
set_option maxRecDepth 100000 in
theorem hoodwinkref11_flags.calls (k : Nat) (a0_0 : Int) (a0_1 : Int) (a0_2 : Int) (a0_3 : Int) (a0_4 : Bool) (a0_5 : Bool) (a0_6 : Bool) (A0_7 : Option Addr) (c0_7 : Nat) (l0_7 : List Int) (r : Int) (w : World) (hr0_7 : Kd.C (Kd.int .u8) w A0_7 l0_7.length l0_7) (hc0_7 : l0_7.length ≤ c0_7) (h : hoodwinkref11_flags.f k a0_0 a0_1 a0_2 a0_3 a0_4 a0_5 a0_6 l0_7 = some r) :
    Calls Try.prog 67 #[.agg #[.int .u16 a0_0, .int .u16 a0_1, .int .u16 a0_2, .int .u32 a0_3, .bool a0_4, .bool a0_5, .bool a0_6, .slice A0_7 l0_7.length c0_7]] w fun e w' => e = .returned (.int .u8 r) ∧ Below w.heap.size w w' := by
  have hu79 := Try.underlying79
  have HR0_7 := Aside0.mk hr0_7
  have HC0_7 := Aside0.mk hc0_7
  clear hr0_7 hc0_7
  have HB := Aside0.mk (Below.refl w.heap.size w)
  have H : (if a0_4 = true then (hoodwinkref11_flags.j0 k (0 + 1) a0_0 a0_1 a0_2 a0_3 a0_4 a0_5 a0_6 l0_7) else (hoodwinkref11_flags.j0 k 0 a0_0 a0_1 a0_2 a0_3 a0_4 a0_5 a0_6 l0_7)) = some r := h
  clear h
  have HC2 := Aside0.mk H
  clear H
  go_enter Try.func67, Try.ntmps67
  go_upto_if 5 with (first | ((with_reducible refine gate_dst (N := 1) rfl ?_); refine box_event ?hg (N := 1) ?hd (cs := #[.int .u16 a0_0, .int .u16 a0_1, .int .u16 a0_2, .int .u32 a0_3, .bool a0_4, .bool a0_5, .bool a0_6, .slice A0_7 l0_7.length c0_7]) (t := 79) ?hr ?_; (case hd => rfl); (case hg => rfl); (case hr => first | (go_simp; done) | (go_simp; rfl)); intro gb138 hg w3 hbox hb; have n0_ := Aside0.mk (below_step (by repeat (first | (with_reducible first | exact HB.out | apply below_alloc | apply pw_below_drewN | apply below_drew1) | exact HB.out)) hb); have n1_ := Aside0.mk (hbox); have n2_ := Aside0.mk ((by rw [hg]; exact (below_size (by repeat (first | (with_reducible first | exact HB.out | apply below_alloc | apply pw_below_drewN | apply below_drew1) | exact HB.out))) : w.heap.size ≤ gb138)); have n3_ := Aside0.mk ((by rw [hg]; exact (below_size (by repeat (first | (with_reducible first | exact HB.out | apply below_alloc | apply pw_below_drewN | apply below_drew1) | exact HB.out))) : w.heap.size ≤ gb138)); clear HB; have HB := n0_; have BK138 := n1_; have GW138 := n2_; have GE138 := n3_; clear n0_ n1_ n2_ n3_; clear hb hbox hg; have hcz4_0 : w3.cell? ⟨gb138, 0, none⟩ = some (.int .u16 a0_0) := (blk_cell BK138.out 0).trans rfl; have hcz4_1 : w3.cell? ⟨gb138, 1, none⟩ = some (.int .u16 a0_1) := (blk_cell BK138.out 1).trans rfl; have hcz4_2 : w3.cell? ⟨gb138, 2, none⟩ = some (.int .u16 a0_2) := (blk_cell BK138.out 2).trans rfl; have hcz4_3 : w3.cell? ⟨gb138, 3, none⟩ = some (.int .u32 a0_3) := (blk_cell BK138.out 3).trans rfl; have hcz4_4 : w3.cell? ⟨gb138, 4, none⟩ = some (.bool a0_4) := (blk_cell BK138.out 4).trans rfl; have hcz4_5 : w3.cell? ⟨gb138, 5, none⟩ = some (.bool a0_5) := (blk_cell BK138.out 5).trans rfl; have hcz4_6 : w3.cell? ⟨gb138, 6, none⟩ = some (.bool a0_6) := (blk_cell BK138.out 6).trans rfl; have hcz4_7 : w3.cell? ⟨gb138, 7, none⟩ = some (.slice A0_7 l0_7.length c0_7) := (blk_cell BK138.out 7).trans rfl; have hfz4_0 := blk_frozen BK138.out 0; have hfz4_1 := blk_frozen BK138.out 1; have hfz4_2 := blk_frozen BK138.out 2; have hfz4_3 := blk_frozen BK138.out 3; have hfz4_4 := blk_frozen BK138.out 4; have hfz4_5 := blk_frozen BK138.out 5; have hfz4_6 := blk_frozen BK138.out 6; have hfz4_7 := blk_frozen BK138.out 7))
  (try simp only [Act.put, List.setIfInBounds_toArray, List.set_cons_zero, List.set_cons_succ])
  go_cut [3] (fun v3 wc => ∃ (kq : Nat) (x3_1 : Int), v3 = .int .u8 x3_1 ∧ Aside0 (hoodwinkref11_flags.j0 kq x3_1 a0_0 a0_1 a0_2 a0_3 a0_4 a0_5 a0_6 l0_7 = some r) ∧ Aside0 (kq ≤ k) ∧ Aside0 (wc.heap[gb138]? = some (.cells #[.int .u16 a0_0, .int .u16 a0_1, .int .u16 a0_2, .int .u32 a0_3, .bool a0_4, .bool a0_5, .bool a0_6, (.slice A0_7 l0_7.length c0_7)] 79 (0, 0))) ∧ Aside0 (Below w.heap.size w wc))
  case first =>
    have H := HC2.out
    clear HC2
    by_cases c5 : a0_4 = true
    · subst c5
      have H1 : (hoodwinkref11_flags.j0 k (0 + 1) a0_0 a0_1 a0_2 a0_3 true a0_5 a0_6 l0_7) = some r := by rw [if_pos rfl] at H; exact H
      clear H
      have H := H1
      clear H1
      have H' := Aside0.mk H
      clear H
      go_wp2
      go_meet
      case rel => exact ⟨_, (0 + 1), (by first | rfl | (simp; done) | (simp [*]; done)), H', ⟨by first | omega | exact Nat.le_refl _⟩, ⟨by (with_reducible repeat (first | refine blk_drewN ?_ _ | refine blk_drew ?_ | refine blk_alloc ?_ _)); exact BK138.out⟩, ⟨by repeat (first | (with_reducible first | exact HB.out | apply below_alloc | apply pw_below_drewN | apply below_drew1 | refine below_set ?_ GE138.out) | exact HB.out)⟩⟩
    · replace c5 := Bool.eq_false_iff.mpr c5
      subst c5
      have H1 : (hoodwinkref11_flags.j0 k 0 a0_0 a0_1 a0_2 a0_3 false a0_5 a0_6 l0_7) = some r := by rw [if_neg (show ¬ (false = true) by decide)] at H; exact H
      clear H
      have H := H1
      clear H1
      have H' := Aside0.mk H
      clear H
      go_wp2
      go_meet
      case rel => exact ⟨_, (0), (by first | rfl | (simp; done) | (simp [*]; done)), H', ⟨by first | omega | exact Nat.le_refl _⟩, ⟨by (with_reducible repeat (first | refine blk_drewN ?_ _ | refine blk_drew ?_ | refine blk_alloc ?_ _)); exact BK138.out⟩, ⟨by repeat (first | (with_reducible first | exact HB.out | apply below_alloc | apply pw_below_drewN | apply below_drew1 | refine below_set ?_ GE138.out) | exact HB.out)⟩⟩
  case rest =>
    clear HC2
    try clear p2
    try clear c5
    try clear hcz4_0
    try clear hcz4_1
    try clear hcz4_2
    try clear hcz4_3
    try clear hcz4_4
    try clear hcz4_5
    try clear hcz4_6
    try clear hcz4_7
    try clear hfz4_0
    try clear hfz4_1
    try clear hfz4_2
    try clear hfz4_3
    try clear hfz4_4
    try clear hfz4_5
    try clear hfz4_6
    try clear hfz4_7
    obtain ⟨kq, x3_1, rfl, HA, HJ1, BK138, HB⟩ := hcut
    cases kq with
    | zero => exact absurd HA.out (by simp [hoodwinkref11_flags.j0])
    | succ kj1 =>
      have H := HA.out
      clear HA
      simp only [hoodwinkref11_flags.j0] at H
      by_cases c6 : a0_5 = true
      · subst c6
        have H1 : (if a0_6 = true then (some ((((x3_1 + 2) % 256) + 4) % 256)) else (some ((x3_1 + 2) % 256))) = some r := by rw [if_pos rfl] at H; exact H
        clear H
        have H := H1
        clear H1
        by_cases c7 : a0_6 = true
        · subst c7
          have H1 : (some ((((x3_1 + 2) % 256) + 4) % 256)) = some r := by rw [if_pos rfl] at H; exact H
          clear H
          have H := H1
          clear H1
          obtain rfl := Option.some.inj H
          have hcz8_0 : wc.cell? ⟨gb138, 0, none⟩ = some (.int .u16 a0_0) := (blk_cell BK138.out 0).trans rfl
          have hcz8_1 : wc.cell? ⟨gb138, 1, none⟩ = some (.int .u16 a0_1) := (blk_cell BK138.out 1).trans rfl
          have hcz8_2 : wc.cell? ⟨gb138, 2, none⟩ = some (.int .u16 a0_2) := (blk_cell BK138.out 2).trans rfl
          have hcz8_3 : wc.cell? ⟨gb138, 3, none⟩ = some (.int .u32 a0_3) := (blk_cell BK138.out 3).trans rfl
          have hcz8_4 : wc.cell? ⟨gb138, 4, none⟩ = some (.bool a0_4) := (blk_cell BK138.out 4).trans rfl
          have hcz8_5 : wc.cell? ⟨gb138, 5, none⟩ = some (.bool true) := (blk_cell BK138.out 5).trans rfl
          have hcz8_6 : wc.cell? ⟨gb138, 6, none⟩ = some (.bool true) := (blk_cell BK138.out 6).trans rfl
          have hcz8_7 : wc.cell? ⟨gb138, 7, none⟩ = some (.slice A0_7 l0_7.length c0_7) := (blk_cell BK138.out 7).trans rfl
          have hfz8_0 := blk_frozen BK138.out 0
          have hfz8_1 := blk_frozen BK138.out 1
          have hfz8_2 := blk_frozen BK138.out 2
          have hfz8_3 := blk_frozen BK138.out 3
          have hfz8_4 := blk_frozen BK138.out 4
          have hfz8_5 := blk_frozen BK138.out 5
          have hfz8_6 := blk_frozen BK138.out 6
          have hfz8_7 := blk_frozen BK138.out 7
          go_wp2
          go_ret
          exact ⟨by first | rfl | (simp [errW_none, errW_some] <;> rfl) | (simp [*, errW_none, errW_some] <;> rfl), by repeat (first | (with_reducible first | exact HB.out | apply below_alloc | apply pw_below_drewN | apply below_drew1 | refine below_set ?_ GE138.out) | exact HB.out)⟩
        · replace c7 := Bool.eq_false_iff.mpr c7
          subst c7
          have H1 : (some ((x3_1 + 2) % 256)) = some r := by rw [if_neg (show ¬ (false = true) by decide)] at H; exact H
          clear H
          have H := H1
          clear H1
          obtain rfl := Option.some.inj H
          have hcz9_0 : wc.cell? ⟨gb138, 0, none⟩ = some (.int .u16 a0_0) := (blk_cell BK138.out 0).trans rfl
          have hcz9_1 : wc.cell? ⟨gb138, 1, none⟩ = some (.int .u16 a0_1) := (blk_cell BK138.out 1).trans rfl
          have hcz9_2 : wc.cell? ⟨gb138, 2, none⟩ = some (.int .u16 a0_2) := (blk_cell BK138.out 2).trans rfl
          have hcz9_3 : wc.cell? ⟨gb138, 3, none⟩ = some (.int .u32 a0_3) := (blk_cell BK138.out 3).trans rfl
          have hcz9_4 : wc.cell? ⟨gb138, 4, none⟩ = some (.bool a0_4) := (blk_cell BK138.out 4).trans rfl
          have hcz9_5 : wc.cell? ⟨gb138, 5, none⟩ = some (.bool true) := (blk_cell BK138.out 5).trans rfl
          have hcz9_6 : wc.cell? ⟨gb138, 6, none⟩ = some (.bool false) := (blk_cell BK138.out 6).trans rfl
          have hcz9_7 : wc.cell? ⟨gb138, 7, none⟩ = some (.slice A0_7 l0_7.length c0_7) := (blk_cell BK138.out 7).trans rfl
          have hfz9_0 := blk_frozen BK138.out 0
          have hfz9_1 := blk_frozen BK138.out 1
          have hfz9_2 := blk_frozen BK138.out 2
          have hfz9_3 := blk_frozen BK138.out 3
          have hfz9_4 := blk_frozen BK138.out 4
          have hfz9_5 := blk_frozen BK138.out 5
          have hfz9_6 := blk_frozen BK138.out 6
          have hfz9_7 := blk_frozen BK138.out 7
          go_wp2
          go_ret
          exact ⟨by first | rfl | (simp [errW_none, errW_some] <;> rfl) | (simp [*, errW_none, errW_some] <;> rfl), by repeat (first | (with_reducible first | exact HB.out | apply below_alloc | apply pw_below_drewN | apply below_drew1 | refine below_set ?_ GE138.out) | exact HB.out)⟩
      · replace c6 := Bool.eq_false_iff.mpr c6
        subst c6
        have H1 : (if a0_6 = true then (some ((x3_1 + 4) % 256)) else (some x3_1)) = some r := by rw [if_neg (show ¬ (false = true) by decide)] at H; exact H
        clear H
        have H := H1
        clear H1
        by_cases c10 : a0_6 = true
        · subst c10
          have H1 : (some ((x3_1 + 4) % 256)) = some r := by rw [if_pos rfl] at H; exact H
          clear H
          have H := H1
          clear H1
          obtain rfl := Option.some.inj H
          have hcz11_0 : wc.cell? ⟨gb138, 0, none⟩ = some (.int .u16 a0_0) := (blk_cell BK138.out 0).trans rfl
          have hcz11_1 : wc.cell? ⟨gb138, 1, none⟩ = some (.int .u16 a0_1) := (blk_cell BK138.out 1).trans rfl
          have hcz11_2 : wc.cell? ⟨gb138, 2, none⟩ = some (.int .u16 a0_2) := (blk_cell BK138.out 2).trans rfl
          have hcz11_3 : wc.cell? ⟨gb138, 3, none⟩ = some (.int .u32 a0_3) := (blk_cell BK138.out 3).trans rfl
          have hcz11_4 : wc.cell? ⟨gb138, 4, none⟩ = some (.bool a0_4) := (blk_cell BK138.out 4).trans rfl
          have hcz11_5 : wc.cell? ⟨gb138, 5, none⟩ = some (.bool false) := (blk_cell BK138.out 5).trans rfl
          have hcz11_6 : wc.cell? ⟨gb138, 6, none⟩ = some (.bool true) := (blk_cell BK138.out 6).trans rfl
          have hcz11_7 : wc.cell? ⟨gb138, 7, none⟩ = some (.slice A0_7 l0_7.length c0_7) := (blk_cell BK138.out 7).trans rfl
          have hfz11_0 := blk_frozen BK138.out 0
          have hfz11_1 := blk_frozen BK138.out 1
          have hfz11_2 := blk_frozen BK138.out 2
          have hfz11_3 := blk_frozen BK138.out 3
          have hfz11_4 := blk_frozen BK138.out 4
          have hfz11_5 := blk_frozen BK138.out 5
          have hfz11_6 := blk_frozen BK138.out 6
          have hfz11_7 := blk_frozen BK138.out 7
          go_wp2
          go_ret
          exact ⟨by first | rfl | (simp [errW_none, errW_some] <;> rfl) | (simp [*, errW_none, errW_some] <;> rfl), by repeat (first | (with_reducible first | exact HB.out | apply below_alloc | apply pw_below_drewN | apply below_drew1 | refine below_set ?_ GE138.out) | exact HB.out)⟩
        · replace c10 := Bool.eq_false_iff.mpr c10
          subst c10
          have H1 : (some x3_1) = some r := by rw [if_neg (show ¬ (false = true) by decide)] at H; exact H
          clear H
          have H := H1
          clear H1
          obtain rfl := Option.some.inj H
          have hcz12_0 : wc.cell? ⟨gb138, 0, none⟩ = some (.int .u16 a0_0) := (blk_cell BK138.out 0).trans rfl
          have hcz12_1 : wc.cell? ⟨gb138, 1, none⟩ = some (.int .u16 a0_1) := (blk_cell BK138.out 1).trans rfl
          have hcz12_2 : wc.cell? ⟨gb138, 2, none⟩ = some (.int .u16 a0_2) := (blk_cell BK138.out 2).trans rfl
          have hcz12_3 : wc.cell? ⟨gb138, 3, none⟩ = some (.int .u32 a0_3) := (blk_cell BK138.out 3).trans rfl
          have hcz12_4 : wc.cell? ⟨gb138, 4, none⟩ = some (.bool a0_4) := (blk_cell BK138.out 4).trans rfl
          have hcz12_5 : wc.cell? ⟨gb138, 5, none⟩ = some (.bool false) := (blk_cell BK138.out 5).trans rfl
          have hcz12_6 : wc.cell? ⟨gb138, 6, none⟩ = some (.bool false) := (blk_cell BK138.out 6).trans rfl
          have hcz12_7 : wc.cell? ⟨gb138, 7, none⟩ = some (.slice A0_7 l0_7.length c0_7) := (blk_cell BK138.out 7).trans rfl
          have hfz12_0 := blk_frozen BK138.out 0
          have hfz12_1 := blk_frozen BK138.out 1
          have hfz12_2 := blk_frozen BK138.out 2
          have hfz12_3 := blk_frozen BK138.out 3
          have hfz12_4 := blk_frozen BK138.out 4
          have hfz12_5 := blk_frozen BK138.out 5
          have hfz12_6 := blk_frozen BK138.out 6
          have hfz12_7 := blk_frozen BK138.out 7
          go_wp2
          go_ret
          exact ⟨by first | rfl | (simp [errW_none, errW_some] <;> rfl) | (simp [*, errW_none, errW_some] <;> rfl), by repeat (first | (with_reducible first | exact HB.out | apply below_alloc | apply pw_below_drewN | apply below_drew1 | refine below_set ?_ GE138.out) | exact HB.out)⟩

def hoodwinkref11_Right.f (k : Nat) (a0_0 : Int) (a0_1 : Int) (a0_2 : Int) (a0_3 : Int) (a0_4 : Bool) (a0_5 : Bool) (a0_6 : Bool) (l0_7 : List Int) : Option (Bool) := if (l0_7.length : Int) ≤ 64 then (if a0_6 = true then (if a0_1 = 0 then (if (l0_7.length : Int) = 0 then ((hoodwinkref11_flags.f k a0_0 a0_1 a0_2 a0_3 a0_4 a0_5 a0_6 l0_7).bind fun t140 => (some (t140 == 4))) else (some false)) else (some false)) else (some true)) else (some false)
theorem hoodwinkref11_Right.mono : ∀ a0 a1 a2 a3 a4 a5 a6 a7 k, LeO (hoodwinkref11_Right.f k a0 a1 a2 a3 a4 a5 a6 a7) (hoodwinkref11_Right.f (k + 1) a0 a1 a2 a3 a4 a5 a6 a7) := by
  intro a0 a1 a2 a3 a4 a5 a6 a7 k
  unfold hoodwinkref11_Right.f
  repeat' first
      | (with_reducible exact hoodwinkref11_flags.mono _ _ _ _ _ _ _ _ _)
      | (with_reducible exact LeO.refl _)
      | (with_reducible exact LeO.none _)
      | (with_reducible refine LeO.ite ?_ ?_)
      | (with_reducible refine LeO.bind ?_ (fun _ => ?_))
      | exact hoodwinkref11_flags.mono _ _ _ _ _ _ _ _ _
      | exact LeO.none _
      | refine LeO.ite ?_ ?_
      | refine LeO.bind ?_ (fun _ => ?_)
set_option maxHeartbeats 8000000 in
set_option maxRecDepth 100000 in
theorem hoodwinkref11_Right.calls (k : Nat) (a0_0 : Int) (a0_1 : Int) (a0_2 : Int) (a0_3 : Int) (a0_4 : Bool) (a0_5 : Bool) (a0_6 : Bool) (A0_7 : Option Addr) (c0_7 : Nat) (l0_7 : List Int) (r : Bool) (w : World) (hr0_7 : Kd.C (Kd.int .u8) w A0_7 l0_7.length l0_7) (hc0_7 : l0_7.length ≤ c0_7) (h : hoodwinkref11_Right.f k a0_0 a0_1 a0_2 a0_3 a0_4 a0_5 a0_6 l0_7 = some r) :
    Calls Try.prog 30 #[.agg #[.int .u16 a0_0, .int .u16 a0_1, .int .u16 a0_2, .int .u32 a0_3, .bool a0_4, .bool a0_5, .bool a0_6, .slice A0_7 l0_7.length c0_7]] w fun e w' => e = .returned (.bool r) ∧ Below w.heap.size w w' := by
  have hu79 := Try.underlying79
  have HR0_7 := Aside0.mk hr0_7
  have HC0_7 := Aside0.mk hc0_7
  clear hr0_7 hc0_7
  have HB := Aside0.mk (Below.refl w.heap.size w)
  have H : (if (l0_7.length : Int) ≤ 64 then (if a0_6 = true then (if a0_1 = 0 then (if (l0_7.length : Int) = 0 then ((hoodwinkref11_flags.f k a0_0 a0_1 a0_2 a0_3 a0_4 a0_5 a0_6 l0_7).bind fun t140 => (some (t140 == 4))) else (some false)) else (some false)) else (some true)) else (some false)) = some r := h
  clear h
  by_cases c2 : (l0_7.length : Int) ≤ 64
  · rw [if_pos c2] at H
    have c2b0 : decide ((l0_7.length : Int) ≤ 64) = true := decide_eq_true c2
    have c2b1 : decide (l0_7.length ≤ 64) = true := decide_eq_true (by omega)
    clear c2
    by_cases c3 : a0_6 = true
    · subst c3
      have H1 : (if a0_1 = 0 then (if (l0_7.length : Int) = 0 then ((hoodwinkref11_flags.f k a0_0 a0_1 a0_2 a0_3 a0_4 a0_5 true l0_7).bind fun t140 => (some (t140 == 4))) else (some false)) else (some false)) = some r := by rw [if_pos rfl] at H; exact H
      clear H
      have H := H1
      clear H1
      by_cases c4 : a0_1 = 0
      · rw [if_pos c4] at H
        have c4b0 : (a0_1 == 0) = true := beq_iff_eq.mpr c4
        have c4b1 : (a0_1 != 0) = false := bne_eq_false_iff_eq.mpr c4
        clear c4
        by_cases c5 : (l0_7.length : Int) = 0
        · rw [if_pos c5] at H
          have c5b0 : ((l0_7.length : Int) == 0) = true := beq_iff_eq.mpr c5
          have c5b1 : ((l0_7.length : Int) != 0) = false := bne_eq_false_iff_eq.mpr c5
          clear c5
          replace H := Option.bind_eq_some_iff.mp H
          obtain ⟨t140, A60, H⟩ := H
          replace H : (some (t140 == 4)) = some r := H
          have A6 := Aside0.mk A60
          clear A60
          obtain rfl := Option.some.inj H
          go_enter Try.func30, Try.ntmps30
          go_wp2_with (first | ((with_reducible refine gate_dst (N := 1) rfl ?_); (try (refine gate_guard (by rfl) ?_; dsimp only)); refine box_event ?hg (N := 1) ?hd (cs := #[.int .u16 a0_0, .int .u16 a0_1, .int .u16 a0_2, .int .u32 a0_3, .bool a0_4, .bool a0_5, .bool true, .slice A0_7 l0_7.length c0_7]) (t := 79) ?hr ?_; (case hd => rfl); (case hg => rfl); (case hr => first | (go_simp; done) | (go_simp; rfl)); intro gb139 hg w7 hbox hb; have n0_ := Aside0.mk (below_step (by repeat (first | (with_reducible first | exact HB.out | apply below_alloc | apply pw_below_drewN | apply below_drew1) | exact HB.out)) hb); have n1_ := Aside0.mk (hbox); have n2_ := Aside0.mk ((by rw [hg]; exact (below_size (by repeat (first | (with_reducible first | exact HB.out | apply below_alloc | apply pw_below_drewN | apply below_drew1) | exact HB.out))) : w.heap.size ≤ gb139)); have n3_ := Aside0.mk ((by rw [hg]; exact (below_size (by repeat (first | (with_reducible first | exact HB.out | apply below_alloc | apply pw_below_drewN | apply below_drew1) | exact HB.out))) : w.heap.size ≤ gb139)); clear HB; have HB := n0_; have BK139 := n1_; have GW139 := n2_; have GE139 := n3_; clear n0_ n1_ n2_ n3_; clear hb hbox hg; have hcz8_0 : w7.cell? ⟨gb139, 0, none⟩ = some (.int .u16 a0_0) := (blk_cell BK139.out 0).trans rfl; have hcz8_1 : w7.cell? ⟨gb139, 1, none⟩ = some (.int .u16 a0_1) := (blk_cell BK139.out 1).trans rfl; have hcz8_2 : w7.cell? ⟨gb139, 2, none⟩ = some (.int .u16 a0_2) := (blk_cell BK139.out 2).trans rfl; have hcz8_3 : w7.cell? ⟨gb139, 3, none⟩ = some (.int .u32 a0_3) := (blk_cell BK139.out 3).trans rfl; have hcz8_4 : w7.cell? ⟨gb139, 4, none⟩ = some (.bool a0_4) := (blk_cell BK139.out 4).trans rfl; have hcz8_5 : w7.cell? ⟨gb139, 5, none⟩ = some (.bool a0_5) := (blk_cell BK139.out 5).trans rfl; have hcz8_6 : w7.cell? ⟨gb139, 6, none⟩ = some (.bool true) := (blk_cell BK139.out 6).trans rfl; have hcz8_7 : w7.cell? ⟨gb139, 7, none⟩ = some (.slice A0_7 l0_7.length c0_7) := (blk_cell BK139.out 7).trans rfl; have hfz8_0 := blk_frozen BK139.out 0; have hfz8_1 := blk_frozen BK139.out 1; have hfz8_2 := blk_frozen BK139.out 2; have hfz8_3 := blk_frozen BK139.out 3; have hfz8_4 := blk_frozen BK139.out 4; have hfz8_5 := blk_frozen BK139.out 5; have hfz8_6 := blk_frozen BK139.out 6; have hfz8_7 := blk_frozen BK139.out 7) | (go_at_call 67; (with_reducible refine (hoodwinkref11_flags.calls k a0_0 a0_1 a0_2 a0_3 a0_4 a0_5 true _ _ l0_7 t140 _ ?side1 ?side2 A6.out).mono ?_); (case side1 => repeat (first | exact (Kd.C_below HR0_7.out HB.out) | (with_reducible refine Kd.C_alloc ?_ _) | (with_reducible refine Kd.C_drewN ?_ _) | (with_reducible refine Kd.C_drew ?_))); (case side2 => exact HC0_7.out); rintro e w9 ⟨rfl, hb⟩; have n0_ := Aside0.mk (blk_below (g := gb139) (o := .cells #[.int .u16 a0_0, .int .u16 a0_1, .int .u16 a0_2, .int .u32 a0_3, .bool a0_4, .bool a0_5, .bool true, .slice A0_7 l0_7.length c0_7] 79 (0, 0)) (by (with_reducible repeat (first | refine blk_drewN ?_ _ | refine blk_drew ?_ | refine blk_alloc ?_ _)); exact BK139.out) hb); have n1_ := Aside0.mk (below_step (by repeat (first | (with_reducible first | exact HB.out | apply below_alloc | apply pw_below_drewN | apply below_drew1 | refine below_set ?_ GE139.out) | exact HB.out)) hb); clear BK139; clear HB; have BK139 := n0_; have HB := n1_; clear n0_ n1_; (try clear hb); (try clear hb2); (try clear hk); (try clear hi)))
          go_ret
          exact ⟨by first | rfl | (simp [errW_none, errW_some] <;> rfl) | (simp [*, errW_none, errW_some] <;> rfl), by repeat (first | (with_reducible first | exact HB.out | apply below_alloc | apply pw_below_drewN | apply below_drew1 | refine below_set ?_ GE139.out) | exact HB.out)⟩
        · rw [if_neg c5] at H
          have c5b0 : ((l0_7.length : Int) == 0) = false := beq_eq_false_iff_ne.mpr c5
          have c5b1 : ((l0_7.length : Int) != 0) = true := bne_iff_ne.mpr c5
          have c5b2 : ¬ (l0_7 = []) := fun h_ => c5 (by rw [h_]; rfl)
          obtain rfl := Option.some.inj H
          go_enter Try.func30, Try.ntmps30
          go_wp2_with (first | ((with_reducible refine gate_dst (N := 1) rfl ?_); (try (refine gate_guard (by rfl) ?_; dsimp only)); refine box_event ?hg (N := 1) ?hd (cs := #[.int .u16 a0_0, .int .u16 a0_1, .int .u16 a0_2, .int .u32 a0_3, .bool a0_4, .bool a0_5, .bool true, .slice A0_7 l0_7.length c0_7]) (t := 79) ?hr ?_; (case hd => rfl); (case hg => rfl); (case hr => first | (go_simp; done) | (go_simp; rfl)); intro gb139 hg w10 hbox hb; have n0_ := Aside0.mk (below_step (by repeat (first | (with_reducible first | exact HB.out | apply below_alloc | apply pw_below_drewN | apply below_drew1) | exact HB.out)) hb); have n1_ := Aside0.mk (hbox); have n2_ := Aside0.mk ((by rw [hg]; exact (below_size (by repeat (first | (with_reducible first | exact HB.out | apply below_alloc | apply pw_below_drewN | apply below_drew1) | exact HB.out))) : w.heap.size ≤ gb139)); have n3_ := Aside0.mk ((by rw [hg]; exact (below_size (by repeat (first | (with_reducible first | exact HB.out | apply below_alloc | apply pw_below_drewN | apply below_drew1) | exact HB.out))) : w.heap.size ≤ gb139)); clear HB; have HB := n0_; have BK139 := n1_; have GW139 := n2_; have GE139 := n3_; clear n0_ n1_ n2_ n3_; clear hb hbox hg; have hcz11_0 : w10.cell? ⟨gb139, 0, none⟩ = some (.int .u16 a0_0) := (blk_cell BK139.out 0).trans rfl; have hcz11_1 : w10.cell? ⟨gb139, 1, none⟩ = some (.int .u16 a0_1) := (blk_cell BK139.out 1).trans rfl; have hcz11_2 : w10.cell? ⟨gb139, 2, none⟩ = some (.int .u16 a0_2) := (blk_cell BK139.out 2).trans rfl; have hcz11_3 : w10.cell? ⟨gb139, 3, none⟩ = some (.int .u32 a0_3) := (blk_cell BK139.out 3).trans rfl; have hcz11_4 : w10.cell? ⟨gb139, 4, none⟩ = some (.bool a0_4) := (blk_cell BK139.out 4).trans rfl; have hcz11_5 : w10.cell? ⟨gb139, 5, none⟩ = some (.bool a0_5) := (blk_cell BK139.out 5).trans rfl; have hcz11_6 : w10.cell? ⟨gb139, 6, none⟩ = some (.bool true) := (blk_cell BK139.out 6).trans rfl; have hcz11_7 : w10.cell? ⟨gb139, 7, none⟩ = some (.slice A0_7 l0_7.length c0_7) := (blk_cell BK139.out 7).trans rfl; have hfz11_0 := blk_frozen BK139.out 0; have hfz11_1 := blk_frozen BK139.out 1; have hfz11_2 := blk_frozen BK139.out 2; have hfz11_3 := blk_frozen BK139.out 3; have hfz11_4 := blk_frozen BK139.out 4; have hfz11_5 := blk_frozen BK139.out 5; have hfz11_6 := blk_frozen BK139.out 6; have hfz11_7 := blk_frozen BK139.out 7))
          go_ret
          exact ⟨by first | rfl | (simp [errW_none, errW_some] <;> rfl) | (simp [*, errW_none, errW_some] <;> rfl), by repeat (first | (with_reducible first | exact HB.out | apply below_alloc | apply pw_below_drewN | apply below_drew1 | refine below_set ?_ GE139.out) | exact HB.out)⟩
      · rw [if_neg c4] at H
        have c4b0 : (a0_1 == 0) = false := beq_eq_false_iff_ne.mpr c4
        have c4b1 : (a0_1 != 0) = true := bne_iff_ne.mpr c4
        obtain rfl := Option.some.inj H
        go_enter Try.func30, Try.ntmps30
        go_wp2_with (first | ((with_reducible refine gate_dst (N := 1) rfl ?_); (try (refine gate_guard (by rfl) ?_; dsimp only)); refine box_event ?hg (N := 1) ?hd (cs := #[.int .u16 a0_0, .int .u16 a0_1, .int .u16 a0_2, .int .u32 a0_3, .bool a0_4, .bool a0_5, .bool true, .slice A0_7 l0_7.length c0_7]) (t := 79) ?hr ?_; (case hd => rfl); (case hg => rfl); (case hr => first | (go_simp; done) | (go_simp; rfl)); intro gb139 hg w12 hbox hb; have n0_ := Aside0.mk (below_step (by repeat (first | (with_reducible first | exact HB.out | apply below_alloc | apply pw_below_drewN | apply below_drew1) | exact HB.out)) hb); have n1_ := Aside0.mk (hbox); have n2_ := Aside0.mk ((by rw [hg]; exact (below_size (by repeat (first | (with_reducible first | exact HB.out | apply below_alloc | apply pw_below_drewN | apply below_drew1) | exact HB.out))) : w.heap.size ≤ gb139)); have n3_ := Aside0.mk ((by rw [hg]; exact (below_size (by repeat (first | (with_reducible first | exact HB.out | apply below_alloc | apply pw_below_drewN | apply below_drew1) | exact HB.out))) : w.heap.size ≤ gb139)); clear HB; have HB := n0_; have BK139 := n1_; have GW139 := n2_; have GE139 := n3_; clear n0_ n1_ n2_ n3_; clear hb hbox hg; have hcz13_0 : w12.cell? ⟨gb139, 0, none⟩ = some (.int .u16 a0_0) := (blk_cell BK139.out 0).trans rfl; have hcz13_1 : w12.cell? ⟨gb139, 1, none⟩ = some (.int .u16 a0_1) := (blk_cell BK139.out 1).trans rfl; have hcz13_2 : w12.cell? ⟨gb139, 2, none⟩ = some (.int .u16 a0_2) := (blk_cell BK139.out 2).trans rfl; have hcz13_3 : w12.cell? ⟨gb139, 3, none⟩ = some (.int .u32 a0_3) := (blk_cell BK139.out 3).trans rfl; have hcz13_4 : w12.cell? ⟨gb139, 4, none⟩ = some (.bool a0_4) := (blk_cell BK139.out 4).trans rfl; have hcz13_5 : w12.cell? ⟨gb139, 5, none⟩ = some (.bool a0_5) := (blk_cell BK139.out 5).trans rfl; have hcz13_6 : w12.cell? ⟨gb139, 6, none⟩ = some (.bool true) := (blk_cell BK139.out 6).trans rfl; have hcz13_7 : w12.cell? ⟨gb139, 7, none⟩ = some (.slice A0_7 l0_7.length c0_7) := (blk_cell BK139.out 7).trans rfl; have hfz13_0 := blk_frozen BK139.out 0; have hfz13_1 := blk_frozen BK139.out 1; have hfz13_2 := blk_frozen BK139.out 2; have hfz13_3 := blk_frozen BK139.out 3; have hfz13_4 := blk_frozen BK139.out 4; have hfz13_5 := blk_frozen BK139.out 5; have hfz13_6 := blk_frozen BK139.out 6; have hfz13_7 := blk_frozen BK139.out 7))
        go_ret
        exact ⟨by first | rfl | (simp [errW_none, errW_some] <;> rfl) | (simp [*, errW_none, errW_some] <;> rfl), by repeat (first | (with_reducible first | exact HB.out | apply below_alloc | apply pw_below_drewN | apply below_drew1 | refine below_set ?_ GE139.out) | exact HB.out)⟩
    · replace c3 := Bool.eq_false_iff.mpr c3
      subst c3
      have H1 : (some true) = some r := by rw [if_neg (show ¬ (false = true) by decide)] at H; exact H
      clear H
      have H := H1
      clear H1
      obtain rfl := Option.some.inj H
      go_enter Try.func30, Try.ntmps30
      go_wp2_with (first | ((with_reducible refine gate_dst (N := 1) rfl ?_); (try (refine gate_guard (by rfl) ?_; dsimp only)); refine box_event ?hg (N := 1) ?hd (cs := #[.int .u16 a0_0, .int .u16 a0_1, .int .u16 a0_2, .int .u32 a0_3, .bool a0_4, .bool a0_5, .bool false, .slice A0_7 l0_7.length c0_7]) (t := 79) ?hr ?_; (case hd => rfl); (case hg => rfl); (case hr => first | (go_simp; done) | (go_simp; rfl)); intro gb139 hg w14 hbox hb; have n0_ := Aside0.mk (below_step (by repeat (first | (with_reducible first | exact HB.out | apply below_alloc | apply pw_below_drewN | apply below_drew1) | exact HB.out)) hb); have n1_ := Aside0.mk (hbox); have n2_ := Aside0.mk ((by rw [hg]; exact (below_size (by repeat (first | (with_reducible first | exact HB.out | apply below_alloc | apply pw_below_drewN | apply below_drew1) | exact HB.out))) : w.heap.size ≤ gb139)); have n3_ := Aside0.mk ((by rw [hg]; exact (below_size (by repeat (first | (with_reducible first | exact HB.out | apply below_alloc | apply pw_below_drewN | apply below_drew1) | exact HB.out))) : w.heap.size ≤ gb139)); clear HB; have HB := n0_; have BK139 := n1_; have GW139 := n2_; have GE139 := n3_; clear n0_ n1_ n2_ n3_; clear hb hbox hg; have hcz15_0 : w14.cell? ⟨gb139, 0, none⟩ = some (.int .u16 a0_0) := (blk_cell BK139.out 0).trans rfl; have hcz15_1 : w14.cell? ⟨gb139, 1, none⟩ = some (.int .u16 a0_1) := (blk_cell BK139.out 1).trans rfl; have hcz15_2 : w14.cell? ⟨gb139, 2, none⟩ = some (.int .u16 a0_2) := (blk_cell BK139.out 2).trans rfl; have hcz15_3 : w14.cell? ⟨gb139, 3, none⟩ = some (.int .u32 a0_3) := (blk_cell BK139.out 3).trans rfl; have hcz15_4 : w14.cell? ⟨gb139, 4, none⟩ = some (.bool a0_4) := (blk_cell BK139.out 4).trans rfl; have hcz15_5 : w14.cell? ⟨gb139, 5, none⟩ = some (.bool a0_5) := (blk_cell BK139.out 5).trans rfl; have hcz15_6 : w14.cell? ⟨gb139, 6, none⟩ = some (.bool false) := (blk_cell BK139.out 6).trans rfl; have hcz15_7 : w14.cell? ⟨gb139, 7, none⟩ = some (.slice A0_7 l0_7.length c0_7) := (blk_cell BK139.out 7).trans rfl; have hfz15_0 := blk_frozen BK139.out 0; have hfz15_1 := blk_frozen BK139.out 1; have hfz15_2 := blk_frozen BK139.out 2; have hfz15_3 := blk_frozen BK139.out 3; have hfz15_4 := blk_frozen BK139.out 4; have hfz15_5 := blk_frozen BK139.out 5; have hfz15_6 := blk_frozen BK139.out 6; have hfz15_7 := blk_frozen BK139.out 7))
      go_ret
      exact ⟨by first | rfl | (simp [errW_none, errW_some] <;> rfl) | (simp [*, errW_none, errW_some] <;> rfl), by repeat (first | (with_reducible first | exact HB.out | apply below_alloc | apply pw_below_drewN | apply below_drew1 | refine below_set ?_ GE139.out) | exact HB.out)⟩
  · rw [if_neg c2] at H
    have c2b0 : decide ((l0_7.length : Int) ≤ 64) = false := decide_eq_false c2
    have c2b1 : decide (l0_7.length ≤ 64) = false := decide_eq_false (by omega)
    clear c2
    obtain rfl := Option.some.inj H
    go_enter Try.func30, Try.ntmps30
    go_wp2_with (first | ((with_reducible refine gate_dst (N := 1) rfl ?_); (try (refine gate_guard (by rfl) ?_; dsimp only)); refine box_event ?hg (N := 1) ?hd (cs := #[.int .u16 a0_0, .int .u16 a0_1, .int .u16 a0_2, .int .u32 a0_3, .bool a0_4, .bool a0_5, .bool a0_6, .slice A0_7 l0_7.length c0_7]) (t := 79) ?hr ?_; (case hd => rfl); (case hg => rfl); (case hr => first | (go_simp; done) | (go_simp; rfl)); intro gb139 hg w16 hbox hb; have n0_ := Aside0.mk (below_step (by repeat (first | (with_reducible first | exact HB.out | apply below_alloc | apply pw_below_drewN | apply below_drew1) | exact HB.out)) hb); have n1_ := Aside0.mk (hbox); have n2_ := Aside0.mk ((by rw [hg]; exact (below_size (by repeat (first | (with_reducible first | exact HB.out | apply below_alloc | apply pw_below_drewN | apply below_drew1) | exact HB.out))) : w.heap.size ≤ gb139)); have n3_ := Aside0.mk ((by rw [hg]; exact (below_size (by repeat (first | (with_reducible first | exact HB.out | apply below_alloc | apply pw_below_drewN | apply below_drew1) | exact HB.out))) : w.heap.size ≤ gb139)); clear HB; have HB := n0_; have BK139 := n1_; have GW139 := n2_; have GE139 := n3_; clear n0_ n1_ n2_ n3_; clear hb hbox hg; have hcz17_0 : w16.cell? ⟨gb139, 0, none⟩ = some (.int .u16 a0_0) := (blk_cell BK139.out 0).trans rfl; have hcz17_1 : w16.cell? ⟨gb139, 1, none⟩ = some (.int .u16 a0_1) := (blk_cell BK139.out 1).trans rfl; have hcz17_2 : w16.cell? ⟨gb139, 2, none⟩ = some (.int .u16 a0_2) := (blk_cell BK139.out 2).trans rfl; have hcz17_3 : w16.cell? ⟨gb139, 3, none⟩ = some (.int .u32 a0_3) := (blk_cell BK139.out 3).trans rfl; have hcz17_4 : w16.cell? ⟨gb139, 4, none⟩ = some (.bool a0_4) := (blk_cell BK139.out 4).trans rfl; have hcz17_5 : w16.cell? ⟨gb139, 5, none⟩ = some (.bool a0_5) := (blk_cell BK139.out 5).trans rfl; have hcz17_6 : w16.cell? ⟨gb139, 6, none⟩ = some (.bool a0_6) := (blk_cell BK139.out 6).trans rfl; have hcz17_7 : w16.cell? ⟨gb139, 7, none⟩ = some (.slice A0_7 l0_7.length c0_7) := (blk_cell BK139.out 7).trans rfl; have hfz17_0 := blk_frozen BK139.out 0; have hfz17_1 := blk_frozen BK139.out 1; have hfz17_2 := blk_frozen BK139.out 2; have hfz17_3 := blk_frozen BK139.out 3; have hfz17_4 := blk_frozen BK139.out 4; have hfz17_5 := blk_frozen BK139.out 5; have hfz17_6 := blk_frozen BK139.out 6; have hfz17_7 := blk_frozen BK139.out 7))
    go_ret
    exact ⟨by first | rfl | (simp [errW_none, errW_some] <;> rfl) | (simp [*, errW_none, errW_some] <;> rfl), by repeat (first | (with_reducible first | exact HB.out | apply below_alloc | apply pw_below_drewN | apply below_drew1 | refine below_set ?_ GE139.out) | exact HB.out)⟩

end Go.Proofs.Yticpjidcgaaldaa

namespace Go.Proofs.Yticpjidcgaaldaa
open Go.RowKit Go.Proofs.YticpjidcgaaldaaW.PrintWords Go.Proofs.YticpjidcgaaldaaW.PrintLast Go.Proofs.YticpjidcgaaldaaW.PrintMore
attribute [local go_sem] max2_int min2_int max_two min_two max_three min_three max_four min_four   -- for this text's walks alone
set_option linter.unusedVariables false
set_option linter.unusedSimpArgs false

end Go.Proofs.Yticpjidcgaaldaa

namespace Go.Proofs.Yticpjidcgaaldaa
open Go.RowKit Go.Proofs.YticpjidcgaaldaaW.PrintWords Go.Proofs.YticpjidcgaaldaaW.PrintLast Go.Proofs.YticpjidcgaaldaaW.PrintMore
set_option linter.unusedVariables false
set_option linter.unusedSimpArgs false

theorem val_tail {l : List Int} (hb : Bytes l) (hl : l.length = 4) {m : Nat} (h : m < 4294967296) : valN l = m ↔ l = tailL m := by
  match l, hl with
  | [a, b, c, d], _ =>
    have ha := hb a (by simp)
    have hb' := hb b (by simp)
    have hc := hb c (by simp)
    have hd := hb d (by simp)
    simp only [valN, tailL, List.cons.injEq, and_true]
    omega
end Go.Proofs.Yticpjidcgaaldaa

namespace Go.Proofs.Yticpjidcgaaldaa
open Go.RowKit Go.Proofs.YticpjidcgaaldaaW.PrintWords Go.Proofs.YticpjidcgaaldaaW.PrintLast Go.Proofs.YticpjidcgaaldaaW.PrintMore
set_option linter.unusedVariables false
set_option linter.unusedSimpArgs false

theorem leN_val : ∀ {l : List Int}, Bytes l → leN l = (valN l : Nat)
  | [], _ => rfl
  | b :: l, h => by
    have h1 := h b List.mem_cons_self
    have ih := leN_val (fun x hx => h x (List.mem_cons_of_mem _ hx) : Bytes l)
    show b + 256 * leN l = ((b.toNat + 256 * valN l : Nat) : Int)
    omega
theorem tailL_low {m : Nat} (h : m < 4294967296) : lowN m 4 = tailL m := by
  unfold tailL
  simp only [lowN]
  congr 1
  congr 1
  congr 1
  · omega
  · congr 1; omega
set_option maxRecDepth 100000 in
set_option maxHeartbeats 1000000 in
theorem refseal_any (A : Option Addr) (n c : Nat) (l : List Int) (w : World) (hr0 : (Kd.int .u8).C w A n l) (hc : n ≤ c) (hb : Bytes l) (hn : n ≤ 140737488351232) :
    Calls Try.prog 34 #[.slice A n c] w fun e w' => ∃ v, e = .returned v ∧ (Kd.int .u8).R 5 w' w.heap.size (fun _ => True) v (l ++ tailL (sumN tab l)) ∧ Below w.heap.size w w' := by
  have HR0 := Aside0.mk hr0
  have HBY := Aside0.mk hb
  have hln := hr0.1
  clear hr0 hb
  have hm := sumN_lt (l := l)
  go_enter Try.func34, Try.ntmps34
  go_wp2_with fail
  refine (refsum_any _ _ _ l _ HR0.out hc HBY.out (by omega)).mono ?_
  rintro e w1 ⟨rfl, hd1⟩
  have HB1 := Aside0.mk hd1.below
  have HC1 := Aside0.mk (Kd.C_below HR0.out hd1.below)
  clear hd1
  generalize hmm : sumN tab l = m at *
  have HM := Lib.hid hmm
  clear hmm
  go_wp2_with fail
  refine (low_any m 4 _ (by omega) (by omega)).mono ?_
  rintro e w2 ⟨v2, rfl, ho2, hb2⟩
  rw [tailL_low hm] at ho2
  have hl4 : (tailL m).length = 4 := rfl
  obtain ⟨Q, d, rfl, hd, hC2⟩ := Kd.R_reads ho2
  rw [hl4] at hC2 hd
  have HB2 := Aside0.mk (below_step HB1.out hb2)
  have HC2 := Aside0.mk hC2
  have HC1' := Aside0.mk (Kd.C_below HC1.out hb2)
  clear ho2 hb2 hC2 HC1 HB1
  rw [hl4]
  go_wp2_with fail
  refine (join_any _ _ _ [l, tailL m] _ (C_of_two (heap_alloc_new _ _) (Kd.C_alloc HC1'.out _) hc (Kd.C_alloc HC2.out _) hd) (Nat.le_refl _) (by simp [tailL]; omega)).mono ?_
  rintro e w3 ⟨v3, rfl, ho3, hb3⟩
  have hB3 := below_step (below_alloc HB2.out _) hb3
  have HB3 := Aside0.mk hB3
  have HO3 := Aside0.mk (Kd.R_lower ho3 (Nat.le_trans HB2.out.size (by simp)))
  clear ho3 hb3 hB3
  go_wp2
  go_ret
  exact ⟨_, rfl, by rw [HM.out]; simpa using HO3.out, HB3.out⟩

set_option maxRecDepth 100000 in
set_option maxHeartbeats 1000000 in
theorem refopen_any (β : Bool) (A : Option Addr) (n c : Nat) (l : List Int) (w : World) (hr0 : (Kd.int .u8).C w A n l) (hc : n ≤ c) (hb : Bytes l) (hn : n ≤ 140737488351232) (hn4 : 4 ≤ n) (hq : decide (l.drop (n - 4) = tailL (sumN tab (l.take (n - 4)))) = β) :
    Calls Try.prog 69 #[.slice A n c] w fun e w' => e = .returned (.bool β) ∧ Below w.heap.size w w' := by
  have HR0 := Aside0.mk hr0
  have hln := hr0.1
  obtain ⟨k, rfl⟩ : ∃ k, n = k + 4 := ⟨n - 4, by omega⟩
  rw [show k + 4 - 4 = k by omega] at *
  obtain ⟨A1, hq1, hC1⟩ := cut_lo (P := Try.prog) .u8 .i64 23 5 1 Try.underlying23 wx_info5 A (k + 4) c k (by omega) hc
  obtain ⟨hq2, hC2⟩ := cut_hi (P := Try.prog) .u8 .i64 23 5 1 Try.underlying23 wx_info5 A (k + 4) c k (by omega) hc
  have HC1 := Aside0.mk (hC1 w l hr0)
  have HC2 := Aside0.mk (hC2 w l hr0)
  rw [show k + 4 - k = 4 by omega] at HC1 hq1
  have hml := sumN_lt (l := l.take k)
  have hdl : (l.drop k).length = 4 := HC1.out.1
  have HBT := Aside0.mk (hb.take k)
  have HBD := Aside0.mk (hb.drop k)
  have hv : ((valN (l.drop k) : Int) == (sumN tab (l.take k) : Int)) = β := by
    rw [← hq, Bool.eq_iff_iff, beq_iff_eq, decide_eq_true_iff, ← val_tail (hb.drop k) hdl hml]
    omega
  have HV := Lib.hid hv
  clear hv hq hr0 hb hC1 hC2
  go_enter Try.func69, Try.ntmps69
  go_wp2_with fail
  try go_frame
  refine region_grown (W := w)
    [fun (w : World) (v : Value) => v = .int .i64 k,
     fun (w : World) (v : Value) => v = .bool true,
     fun (w : World) (v : Value) => v = .bool true,
     fun (w : World) (v : Value) => v = .slice A (k + 4) c,
     fun (w : World) (v : Value) => v = .int .i64 k,
     fun (w : World) (v : Value) => v = .slice A1 4 (c - k),
     fun (w : World) (v : Value) => v = .int .u64 (valN (l.drop k) : Nat),
     fun (w : World) (v : Value) => v = .slice A (k + 4) c,
     fun (w : World) (v : Value) => v = .int .i64 k,
     fun (w : World) (v : Value) => v = .slice A k c,
     fun (w : World) (v : Value) => v = .int .u32 (sumN tab (l.take k) : Nat),
     fun (w : World) (v : Value) => v = .int .u64 (sumN tab (l.take k) : Nat),
     fun (w : World) (v : Value) => v = .bool β,
     fun (w : World) (v : Value) => v = .bool β,
     fun (w : World) (v : Value) => v = .bool β]
    (fun j => if j = 2 then some true else none)
    [(0, some 7), (1, some 8), (2, some 9), (3, some 10), (4, some 11), (5, some 12), (6, some 13), (7, some 14), (8, some 15), (9, some 16), (10, some 17), (11, some 18), (12, some 19), (13, some 20), (14, some 2)]
    [2]
    (by kernel_rfl) (by kernel_rfl) (by kernel_rfl) (by kernel_rfl) ?r2_1g ?r2_1s ⟨?r2_1o0, ?r2_1o1, ?r2_1o2, ?r2_1o3, ?r2_1o4, ?r2_1o5, ?r2_1o6, ?r2_1o7, ?r2_1o8, ?r2_1o9, ?r2_1o10, ?r2_1o11, ?r2_1o12, ?r2_1o13, ?r2_1o14, trivial⟩ ?r2_1e
  case r2_1g =>
    intro j hj w v hv
    simp only [List.mem_cons, List.not_mem_nil, or_false] at hj
    rcases hj with rfl
    · have hv' : v = .bool true := hv; rw [hv']; rfl
  case r2_1s =>
    refine ⟨(fun w w' v hb h => h), (fun w w' v hb h => h), (fun w w' v hb h => h), (fun w w' v hb h => h), (fun w w' v hb h => h), (fun w w' v hb h => h), (fun w w' v hb h => h), (fun w w' v hb h => h), (fun w w' v hb h => h), (fun w w' v hb h => h), (fun w w' v hb h => h), (fun w w' v hb h => h), (fun w w' v hb h => h), (fun w w' v hb h => h), (fun w w' v hb h => h), trivial⟩
  case r2_1o0 =>
    intro vs w hb hV
    rw [if_pos (by kernel_rfl)]
    generalize hρ : rho _ _ _ vs = ρ
    have e3 : ρ (.tmp 3) = .int .i64 k := by rw [← hρ]; kernel_rfl
    clear hρ hV
    refine runs_val (v := .int .i64 k) (w' := w) ?_ ⟨Below.refl _ _, rfl⟩
    go_simp <;> (first | exact IntWalk.u64_in _ (by omega) | exact IntWalk.u32_in _ (by omega) | exact IntWalk.u16_in _ (by omega) | exact IntWalk.u8_in _ (by omega) | exact IntWalk.i64_in _ (by omega) | skip)
  case r2_1o1 =>
    intro vs w hb hV
    rw [if_pos (by kernel_rfl)]
    generalize hρ : rho _ _ _ vs = ρ
    have d7 : (vs 0) = .int .i64 k := hV 0 (by kernel_rfl)
    have e7 : ρ (.tmp 7) = vs 0 := by rw [← hρ]; kernel_rfl
    rw [d7] at e7; clear d7
    have econ : ∀ v : Value, ρ (.const v) = v := fun v => by rw [← hρ]; rfl
    clear hρ hV
    refine runs_val (v := .bool true) (w' := w) ?_ ⟨Below.refl _ _, rfl⟩
    go_simp <;> (first | exact IntWalk.u64_in _ (by omega) | exact IntWalk.u32_in _ (by omega) | exact IntWalk.u16_in _ (by omega) | exact IntWalk.u8_in _ (by omega) | exact IntWalk.i64_in _ (by omega) | skip)
  case r2_1o2 =>
    intro vs w hb hV
    rw [if_pos (by kernel_rfl)]
    generalize hρ : rho _ _ _ vs = ρ
    have d8 : (vs 1) = .bool true := hV 1 (by kernel_rfl)
    have e8 : ρ (.tmp 8) = vs 1 := by rw [← hρ]; kernel_rfl
    clear hρ hV
    refine runs_val (v := vs 1) (w' := w) ?_ ⟨Below.refl _ _, d8⟩
    go_simp
  case r2_1o3 =>
    intro vs w hb hV
    rw [if_pos (by kernel_rfl)]
    generalize hρ : rho _ _ _ vs = ρ
    have e0 : ρ (.tmp 0) = .slice A (k + 4) c := by rw [← hρ]; kernel_rfl
    clear hρ hV
    refine runs_val (v := .slice A (k + 4) c) (w' := w) ?_ ⟨Below.refl _ _, rfl⟩
    go_simp <;> (first | exact IntWalk.u64_in _ (by omega) | exact IntWalk.u32_in _ (by omega) | exact IntWalk.u16_in _ (by omega) | exact IntWalk.u8_in _ (by omega) | exact IntWalk.i64_in _ (by omega) | skip)
  case r2_1o4 =>
    intro vs w hb hV
    rw [if_pos (by kernel_rfl)]
    generalize hρ : rho _ _ _ vs = ρ
    have e3 : ρ (.tmp 3) = .int .i64 k := by rw [← hρ]; kernel_rfl
    clear hρ hV
    refine runs_val (v := .int .i64 k) (w' := w) ?_ ⟨Below.refl _ _, rfl⟩
    go_simp <;> (first | exact IntWalk.u64_in _ (by omega) | exact IntWalk.u32_in _ (by omega) | exact IntWalk.u16_in _ (by omega) | exact IntWalk.u8_in _ (by omega) | exact IntWalk.i64_in _ (by omega) | skip)
  case r2_1o5 =>
    intro vs w hb hV
    rw [if_pos (by kernel_rfl)]
    generalize hρ : rho _ _ _ vs = ρ
    have d10 : (vs 3) = .slice A (k + 4) c := hV 3 (by kernel_rfl)
    have e10 : ρ (.tmp 10) = vs 3 := by rw [← hρ]; kernel_rfl
    rw [d10] at e10; clear d10
    have d11 : (vs 4) = .int .i64 k := hV 4 (by kernel_rfl)
    have e11 : ρ (.tmp 11) = vs 4 := by rw [← hρ]; kernel_rfl
    rw [d11] at e11; clear d11
    clear hρ hV
    refine runs_val (v := .slice A1 4 (c - k)) (w' := w) ?_ ⟨Below.refl _ _, rfl⟩
    go_simp <;> (first | exact IntWalk.u64_in _ (by omega) | exact IntWalk.u32_in _ (by omega) | exact IntWalk.u16_in _ (by omega) | exact IntWalk.u8_in _ (by omega) | exact IntWalk.i64_in _ (by omega) | skip)
  case r2_1o6 =>
    intro vs w hb hV
    rw [if_pos (by kernel_rfl)]
    generalize hρ : rho _ _ _ vs = ρ
    have d12 : (vs 5) = .slice A1 4 (c - k) := hV 5 (by kernel_rfl)
    have e12 : ρ (.tmp 12) = vs 5 := by rw [← hρ]; kernel_rfl
    rw [d12] at e12; clear d12
    have ef51 : ρ (.func 51) = .func (.func 51) #[] #[] := by rw [← hρ]; rfl
    clear hρ hV
    refine runs_call (f := 51) (args := #[.slice A1 4 (c - k)]) (w' := w) ?_ ?_
    · go_simp
    · refine (value_any _ _ _ (l.drop k) _ (Kd.C_below HC1.out hb) (by omega) (by omega) HBD.out).mono ?_
      rintro e w5 ⟨rfl, hd5⟩
      exact ⟨_, rfl, hd5.below, congrArg (Value.int .u64) (leN_val HBD.out)⟩
  case r2_1o7 =>
    intro vs w hb hV
    rw [if_pos (by kernel_rfl)]
    generalize hρ : rho _ _ _ vs = ρ
    have e0 : ρ (.tmp 0) = .slice A (k + 4) c := by rw [← hρ]; kernel_rfl
    clear hρ hV
    refine runs_val (v := .slice A (k + 4) c) (w' := w) ?_ ⟨Below.refl _ _, rfl⟩
    go_simp <;> (first | exact IntWalk.u64_in _ (by omega) | exact IntWalk.u32_in _ (by omega) | exact IntWalk.u16_in _ (by omega) | exact IntWalk.u8_in _ (by omega) | exact IntWalk.i64_in _ (by omega) | skip)
  case r2_1o8 =>
    intro vs w hb hV
    rw [if_pos (by kernel_rfl)]
    generalize hρ : rho _ _ _ vs = ρ
    have e3 : ρ (.tmp 3) = .int .i64 k := by rw [← hρ]; kernel_rfl
    clear hρ hV
    refine runs_val (v := .int .i64 k) (w' := w) ?_ ⟨Below.refl _ _, rfl⟩
    go_simp <;> (first | exact IntWalk.u64_in _ (by omega) | exact IntWalk.u32_in _ (by omega) | exact IntWalk.u16_in _ (by omega) | exact IntWalk.u8_in _ (by omega) | exact IntWalk.i64_in _ (by omega) | skip)
  case r2_1o9 =>
    intro vs w hb hV
    rw [if_pos (by kernel_rfl)]
    generalize hρ : rho _ _ _ vs = ρ
    have d14 : (vs 7) = .slice A (k + 4) c := hV 7 (by kernel_rfl)
    have e14 : ρ (.tmp 14) = vs 7 := by rw [← hρ]; kernel_rfl
    rw [d14] at e14; clear d14
    have d15 : (vs 8) = .int .i64 k := hV 8 (by kernel_rfl)
    have e15 : ρ (.tmp 15) = vs 8 := by rw [← hρ]; kernel_rfl
    rw [d15] at e15; clear d15
    clear hρ hV
    refine runs_val (v := .slice A k c) (w' := w) ?_ ⟨Below.refl _ _, rfl⟩
    go_simp <;> (first | exact IntWalk.u64_in _ (by omega) | exact IntWalk.u32_in _ (by omega) | exact IntWalk.u16_in _ (by omega) | exact IntWalk.u8_in _ (by omega) | exact IntWalk.i64_in _ (by omega) | skip)
  case r2_1o10 =>
    intro vs w hb hV
    rw [if_pos (by kernel_rfl)]
    generalize hρ : rho _ _ _ vs = ρ
    have d16 : (vs 9) = .slice A k c := hV 9 (by kernel_rfl)
    have e16 : ρ (.tmp 16) = vs 9 := by rw [← hρ]; kernel_rfl
    rw [d16] at e16; clear d16
    have ef68 : ρ (.func 68) = .func (.func 68) #[] #[] := by rw [← hρ]; rfl
    clear hρ hV
    refine runs_call (f := 68) (args := #[.slice A k c]) (w' := w) ?_ ?_
    · go_simp
    · refine (refsum_any _ _ _ (l.take k) _ (Kd.C_below HC2.out hb) (by omega) HBT.out (by omega)).mono ?_
      rintro e w5 ⟨rfl, hd5⟩
      exact ⟨_, rfl, hd5.below, rfl⟩
  case r2_1o11 =>
    intro vs w hb hV
    rw [if_pos (by kernel_rfl)]
    generalize hρ : rho _ _ _ vs = ρ
    have d17 : (vs 10) = .int .u32 (sumN tab (l.take k) : Nat) := hV 10 (by kernel_rfl)
    have e17 : ρ (.tmp 17) = vs 10 := by rw [← hρ]; kernel_rfl
    rw [d17] at e17; clear d17
    clear hρ hV
    refine runs_val (v := .int .u64 (sumN tab (l.take k) : Nat)) (w' := w) ?_ ⟨Below.refl _ _, rfl⟩
    go_simp <;> (first | exact IntWalk.u64_in _ (by omega) | exact IntWalk.u32_in _ (by omega) | exact IntWalk.u16_in _ (by omega) | exact IntWalk.u8_in _ (by omega) | exact IntWalk.i64_in _ (by omega) | skip)
  case r2_1o12 =>
    intro vs w hb hV
    rw [if_pos (by kernel_rfl)]
    generalize hρ : rho _ _ _ vs = ρ
    have d13 : (vs 6) = .int .u64 (valN (l.drop k) : Nat) := hV 6 (by kernel_rfl)
    have e13 : ρ (.tmp 13) = vs 6 := by rw [← hρ]; kernel_rfl
    rw [d13] at e13; clear d13
    have d18 : (vs 11) = .int .u64 (sumN tab (l.take k) : Nat) := hV 11 (by kernel_rfl)
    have e18 : ρ (.tmp 18) = vs 11 := by rw [← hρ]; kernel_rfl
    rw [d18] at e18; clear d18
    clear hρ hV
    refine runs_val (v := .bool β) (w' := w) ?_ ⟨Below.refl _ _, rfl⟩
    rw [← HV.out]
    go_simp
  case r2_1o13 =>
    intro vs w hb hV
    rw [if_pos (by kernel_rfl)]
    generalize hρ : rho _ _ _ vs = ρ
    have d9 : (vs 2) = .bool true := hV 2 (by kernel_rfl)
    have e9 : ρ (.tmp 9) = vs 2 := by rw [← hρ]; kernel_rfl
    rw [d9] at e9; clear d9
    have d19 : (vs 12) = .bool β := hV 12 (by kernel_rfl)
    have e19 : ρ (.tmp 19) = vs 12 := by rw [← hρ]; kernel_rfl
    rw [d19] at e19; clear d19
    have econ : ∀ v : Value, ρ (.const v) = v := fun v => by rw [← hρ]; rfl
    clear hρ hV
    refine runs_val (v := .bool β) (w' := w) ?_ ⟨Below.refl _ _, rfl⟩
    go_simp <;> (first | exact IntWalk.u64_in _ (by omega) | exact IntWalk.u32_in _ (by omega) | exact IntWalk.u16_in _ (by omega) | exact IntWalk.u8_in _ (by omega) | exact IntWalk.i64_in _ (by omega) | skip)
  case r2_1o14 =>
    intro vs w hb hV
    rw [if_pos (by kernel_rfl)]
    generalize hρ : rho _ _ _ vs = ρ
    have d20 : (vs 13) = .bool β := hV 13 (by kernel_rfl)
    have e20 : ρ (.tmp 20) = vs 13 := by rw [← hρ]; kernel_rfl
    clear hρ hV
    refine runs_val (v := vs 13) (w' := w) ?_ ⟨Below.refl _ _, d20⟩
    go_simp
  case r2_1e =>
    intro vs W2 hb2 hV
    have d7 : (vs 0) = .int .i64 k := hV 0 (Nat.le_of_ble_eq_true rfl)
    have d8 : (vs 1) = .bool true := hV 1 (Nat.le_of_ble_eq_true rfl)
    have d9 : (vs 2) = .bool true := hV 2 (Nat.le_of_ble_eq_true rfl)
    have d10 : (vs 3) = .slice A (k + 4) c := hV 3 (Nat.le_of_ble_eq_true rfl)
    have d11 : (vs 4) = .int .i64 k := hV 4 (Nat.le_of_ble_eq_true rfl)
    have d12 : (vs 5) = .slice A1 4 (c - k) := hV 5 (Nat.le_of_ble_eq_true rfl)
    have d13 : (vs 6) = .int .u64 (valN (l.drop k) : Nat) := hV 6 (Nat.le_of_ble_eq_true rfl)
    have d14 : (vs 7) = .slice A (k + 4) c := hV 7 (Nat.le_of_ble_eq_true rfl)
    have d15 : (vs 8) = .int .i64 k := hV 8 (Nat.le_of_ble_eq_true rfl)
    have d16 : (vs 9) = .slice A k c := hV 9 (Nat.le_of_ble_eq_true rfl)
    have d17 : (vs 10) = .int .u32 (sumN tab (l.take k) : Nat) := hV 10 (Nat.le_of_ble_eq_true rfl)
    have d18 : (vs 11) = .int .u64 (sumN tab (l.take k) : Nat) := hV 11 (Nat.le_of_ble_eq_true rfl)
    have d19 : (vs 12) = .bool β := hV 12 (Nat.le_of_ble_eq_true rfl)
    have d20 : (vs 13) = .bool β := hV 13 (Nat.le_of_ble_eq_true rfl)
    have d2 : (vs 14) = .bool β := hV 14 (Nat.le_of_ble_eq_true rfl)
    clear hV
    simp only [putAll]
    rw [d7, d8, d9, d10, d11, d12, d13, d14, d15, d16, d17, d18, d19, d20, d2]
    clear d7 d8 d9 d10 d11 d12 d13 d14 d15 d16 d17 d18 d19 d20 d2
    clear vs
    simp only [Act.put, List.setIfInBounds_toArray, List.set_cons_zero, List.set_cons_succ]
    have HB2 := Aside0.mk hb2
    clear hb2
    go_wp2
    go_ret
    exact ⟨rfl, HB2.out⟩
end Go.Proofs.Yticpjidcgaaldaa

namespace Go.Proofs.Yticpjidcgaaldaa
open Go.RowKit Go.Proofs.YticpjidcgaaldaaW.PrintWords Go.Proofs.YticpjidcgaaldaaW.PrintLast Go.Proofs.YticpjidcgaaldaaW.PrintMore
set_option linter.unusedVariables false
set_option linter.unusedSimpArgs false

theorem rframe_info (a b c d e f g h : Value) : (Try.prog.info? 79).map (·.size) = some (#[a, b, c, d, e, f, g, h] : Array Value).size := by kernel_rfl
theorem zero_rframe (w : World) : (zeroValue 79).run Try.prog w = .ok (.agg #[.int .u16 0, .int .u16 0, .int .u16 0, .int .u32 0, .bool false, .bool false, .bool false, .slice none 0 0]) w := by kernel_rfl
theorem rflags_f (ep sq nx bt : Int) (fi la al : Bool) (D : List Int) : hoodwinkref11_flags.f 5 ep sq nx bt fi la al D = some (flagsF fi la al) := by cases fi <;> cases la <;> cases al <;> rfl
theorem rflags_any (ep sq nx bt : Int) (fi la al : Bool) (D : List Int) (v : Value) (w : World) (hv : FrC w ep sq nx bt fi la al D v) :
    Calls Try.prog 67 #[v] w fun e w' => e = .returned (.int .u8 (flagsF fi la al)) ∧ Below w.heap.size w w' := by
  obtain ⟨A, c, rfl, h2, h3⟩ := hv
  exact hoodwinkref11_flags.calls 5 ep sq nx bt fi la al A c D (flagsF fi la al) w h3 h2 (rflags_f ep sq nx bt fi la al D)
theorem rright11_any (ep sq nx bt : Int) (fi la al : Bool) (D : List Int) (v : Value) (w : World) (hv : FrC w ep sq nx bt fi la al D v) :
    Calls Try.prog 30 #[v] w fun e w' => e = .returned (.bool (rightF sq D.length fi la al)) ∧ Below w.heap.size w w' := by
  obtain ⟨A, c, rfl, h2, h3⟩ := hv
  refine hoodwinkref11_Right.calls 5 ep sq nx bt fi la al A c D _ w h3 h2 ?_
  unfold hoodwinkref11_Right.f
  rw [rflags_f]
  unfold rightF
  by_cases h64 : D.length ≤ 64
  · rw [if_pos (by omega)]
    cases al with
    | false => rw [if_neg (by decide), if_neg (by decide), decide_eq_true h64]
    | true =>
      rw [if_pos rfl, if_pos rfl]
      by_cases h0 : sq = 0
      · rw [if_pos h0, decide_eq_true h0]
        by_cases h1 : D.length = 0
        · rw [if_pos (by omega), decide_eq_true h1]
          cases fi <;> cases la <;> rfl
        · rw [if_neg (by omega), decide_eq_false h1]; rfl
      · rw [if_neg h0, decide_eq_false h0]; rfl
  · rw [if_neg (by omega)]
    cases al with
    | false => rw [if_neg (by decide), decide_eq_false h64]
    | true => rw [if_pos rfl, decide_eq_false (p := D.length = 0) (by omega)]; simp
set_option maxRecDepth 100000 in
set_option maxHeartbeats 4000000 in
theorem own11_any (ep sq nx bt : Int) (fi la al : Bool) (D : List Int) (v : Value) (w00 : World) (hv : FrC w00 ep sq nx bt fi la al D v) :
    Calls Try.prog 31 #[v] w00 fun e w' => ∃ v', e = .returned v' ∧ FrC w' ep sq nx bt fi la al D v' ∧ Below w00.heap.size w00 w' := by
  obtain ⟨A, c, rfl, h2, h3⟩ := hv
  have HF : Aside0 (∀ z, Below w00.heap.size w00 z → (Kd.int .u8).C z A D.length D) := ⟨fun z hz => Kd.C_below h3 hz⟩
  have H2 := Aside0.mk h2
  have H0 := Aside0.mk (((Hp.start w00).alloc (.cells #[.int .u16 ep, .int .u16 sq, .int .u16 nx, .int .u32 bt, .bool fi, .bool la, .bool al, .slice A D.length c] 72)).allocAt (.cells #[.int .u16 ep, .int .u16 sq, .int .u16 nx, .int .u32 bt, .bool fi, .bool la, .bool al, .slice A D.length c] 79) (w00.heap.size + 1) (by simp))
  obtain ⟨n, hn⟩ : ∃ n, D.length = n := ⟨_, rfl⟩
  rw [hn] at HF H2 H0
  rw [hn]
  have HN := Aside0.mk hn
  clear h2 h3 hn
  go_enter Try.func31, Try.ntmps31
  go_wp2_with fail
  refine bodyPost_ret (results_cell_row rfl _ _ (w00.heap.size + 1) _ #[.int .u16 ep, .int .u16 sq, .int .u16 nx, .int .u32 bt, .bool fi, .bool la, .bool al, .slice A n c] (0, 0) _ rfl (H0.out.get (i := 0) rfl) Try.underlying79 rfl (rframe_info _ _ _ _ _ _ _ _)) rfl ?_
  exact ⟨_, rfl, ⟨A, c, by rw [HN.out], by rw [HN.out]; exact H2.out, by rw [HN.out]; exact HF.out _ H0.out.bel⟩, H0.out.bel⟩
theorem C_of_seven {w : World} {g : Nat} {t : TypeId} {fr : Nat × Nat} {A1 A2 A3 A4 A5 A6 A7 : Option Addr} {n1 n2 n3 n4 n5 n6 n7 c1 c2 c3 c4 c5 c6 c7 : Nat} {x1 x2 x3 x4 x5 x6 x7 : List Int} (hg : w.heap[g]? = some (.cells #[.slice A1 n1 c1, .slice A2 n2 c2, .slice A3 n3 c3, .slice A4 n4 c4, .slice A5 n5 c5, .slice A6 n6 c6, .slice A7 n7 c7] t fr))
    (h1 : (Kd.int .u8).C w A1 n1 x1) (k1 : n1 ≤ c1) (h2 : (Kd.int .u8).C w A2 n2 x2) (k2 : n2 ≤ c2) (h3 : (Kd.int .u8).C w A3 n3 x3) (k3 : n3 ≤ c3) (h4 : (Kd.int .u8).C w A4 n4 x4) (k4 : n4 ≤ c4) (h5 : (Kd.int .u8).C w A5 n5 x5) (k5 : n5 ≤ c5) (h6 : (Kd.int .u8).C w A6 n6 x6) (k6 : n6 ≤ c6) (h7 : (Kd.int .u8).C w A7 n7 x7) (k7 : n7 ≤ c7) :
    (Kd.slice 5 (Kd.int .u8)).C w (some ⟨g, 0, none⟩) 7 [x1, x2, x3, x4, x5, x6, x7] := by
  obtain rfl := h1.1
  obtain rfl := h2.1
  obtain rfl := h3.1
  obtain rfl := h4.1
  obtain rfl := h5.1
  obtain rfl := h6.1
  obtain rfl := h7.1
  refine C_of_rows hg rfl (by omega) fun j p hj => ?_
  match j with
  | 0 => obtain rfl : x1 = p := by simpa using hj
         exact ⟨A1, c1, rfl, k1, h1⟩
  | 1 => obtain rfl : x2 = p := by simpa using hj
         exact ⟨A2, c2, rfl, k2, h2⟩
  | 2 => obtain rfl : x3 = p := by simpa using hj
         exact ⟨A3, c3, rfl, k3, h3⟩
  | 3 => obtain rfl : x4 = p := by simpa using hj
         exact ⟨A4, c4, rfl, k4, h4⟩
  | 4 => obtain rfl : x5 = p := by simpa using hj
         exact ⟨A5, c5, rfl, k5, h5⟩
  | 5 => obtain rfl : x6 = p := by simpa using hj
         exact ⟨A6, c6, rfl, k6, h6⟩
  | 6 => obtain rfl : x7 = p := by simpa using hj
         exact ⟨A7, c7, rfl, k7, h7⟩
  | j + 7 => simp at hj

set_option maxRecDepth 100000 in
set_option maxHeartbeats 16000000 in
theorem rbytes11_any (ep sq nx bt : Nat) (fi la al : Bool) (D : List Int) (v : Value) (w00 : World) (hv : FrC w00 ep sq nx bt fi la al D v) (he : ep < 65536 ∧ sq < 65536 ∧ nx < 65536 ∧ bt < 4294967296) (hD : Bytes D) (hl : D.length ≤ 1000) :
    Calls Try.prog 32 #[v] w00 fun e w' => ∃ v', e = .returned v' ∧ BvC w' (sealL (rBody ep sq nx bt fi la al D)) v' ∧ Below w00.heap.size w00 w' := by
  have KF := Aside0.mk (fun (z : World) (h : Below w00.heap.size w00 z) => rflags_any ep sq nx bt fi la al D v z (hv.below h))
  obtain ⟨A, c, rfl, h2, h3⟩ := hv
  have HF : Aside0 (∀ z, Below w00.heap.size w00 z → (Kd.int .u8).C z A D.length D) := ⟨fun z hz => Kd.C_below h3 hz⟩
  have HE := Aside0.mk he
  have HDB : Aside0 (Bytes (rBody ep sq nx bt fi la al D)) := ⟨(fHead_bytes _ _ _ _ _ _ _ _ (Nat.mod_lt _ (by decide))).append hD⟩
  obtain ⟨fl, hfl⟩ : ∃ fl, flagsF fi la al = fl := ⟨_, rfl⟩
  obtain ⟨bo, hbo⟩ : ∃ b, rBody ep sq nx bt fi la al D = b := ⟨_, rfl⟩
  obtain ⟨n, hn⟩ : ∃ n, D.length = n := ⟨_, rfl⟩
  obtain ⟨y8, hy8⟩ : ∃ y8 : Nat, n % 256 = y8 := ⟨_, rfl⟩
  have HBO : Aside0 (bo = [86] ++ lowN ep 2 ++ lowN sq 2 ++ lowN nx 2 ++ lowN bt 4 ++ [fl] ++ [(y8 : Int)] ++ D) := ⟨by rw [← hbo]; unfold rBody fHead; rw [hfl, hn, hy8]⟩
  rw [hfl, hn] at KF
  rw [hn] at HF h2 hl
  rw [hbo] at HDB
  rw [hbo, hn]
  have HC := Aside0.mk (And.intro h2 hl)
  have IX : Aside0 (IntKind.u8.wrap (n : Int) = (y8 : Int)) := ⟨by rw [IntKind.wrap_u8]; omega⟩
  have HNL : Aside0 (bo.length ≤ 2000) := ⟨by rw [HBO.out]; simp only [List.length_append, lowN_length, List.length_cons, List.length_nil, hn]; omega⟩
  obtain ⟨B, hB⟩ : ∃ B, w00.heap.size = B := ⟨_, rfl⟩
  rw [hB] at KF HF
  have H0 := Aside0.mk ((Hp.start w00).allocAt (.cells #[.int .u16 ep, .int .u16 sq, .int .u16 nx, .int .u32 bt, .bool fi, .bool la, .bool al, .slice A n c] 79) B hB)
  rw [hB] at H0
  rw [hB]
  clear he hD h2 h3 hl hfl hbo hn hy8
  go_enter Try.func32, Try.ntmps32
  go_wp2_with fail
  generalize w00.alloc (.cells #[.int .u16 ep, .int .u16 sq, .int .u16 nx, .int .u32 bt, .bool fi, .bool la, .bool al, .slice A n c] 79) = W at *
  have HLG : Aside0 (∀ z, Below W.heap.size W z → z.heap[B]? = some (.cells #[.int .u16 ep, .int .u16 sq, .int .u16 nx, .int .u32 bt, .bool fi, .bool la, .bool al, .slice A n c] 79 (0, 0))) := ⟨fun z hz => (hz.block B (H0.out.lt (i := 0) rfl)).trans (H0.out.get (i := 0) rfl)⟩
  have HW0 : Aside0 (∀ z, Below W.heap.size W z → Below B w00 z) := ⟨fun z hz => H0.out.bel.trans (hz.mono H0.out.le)⟩
  clear hB
  refine region_grown (W := W)
    [fun (w : World) (v : Value) => ∃ A, v = .slice A 1 1 ∧ (Kd.int .u8).C w A 1 [86],
     fun (w : World) (v : Value) => v = .pointer (some ⟨B, 0, none⟩),
     fun (w : World) (v : Value) => v = .int .u16 ep,
     fun (w : World) (v : Value) => v = .int .u64 ep,
     fun (w : World) (v : Value) => ∃ A c, v = .slice A 2 c ∧ 2 ≤ c ∧ (Kd.int .u8).C w A 2 (lowN ep 2),
     fun (w : World) (v : Value) => v = .pointer (some ⟨B, 1, none⟩),
     fun (w : World) (v : Value) => v = .int .u16 sq,
     fun (w : World) (v : Value) => v = .int .u64 sq,
     fun (w : World) (v : Value) => ∃ A c, v = .slice A 2 c ∧ 2 ≤ c ∧ (Kd.int .u8).C w A 2 (lowN sq 2),
     fun (w : World) (v : Value) => v = .pointer (some ⟨B, 2, none⟩),
     fun (w : World) (v : Value) => v = .int .u16 nx,
     fun (w : World) (v : Value) => v = .int .u64 nx,
     fun (w : World) (v : Value) => ∃ A c, v = .slice A 2 c ∧ 2 ≤ c ∧ (Kd.int .u8).C w A 2 (lowN nx 2),
     fun (w : World) (v : Value) => v = .pointer (some ⟨B, 3, none⟩),
     fun (w : World) (v : Value) => v = .int .u32 bt,
     fun (w : World) (v : Value) => v = .int .u64 bt,
     fun (w : World) (v : Value) => ∃ A c, v = .slice A 4 c ∧ 4 ≤ c ∧ (Kd.int .u8).C w A 4 (lowN bt 4),
     fun (w : World) (v : Value) => v = .agg #[.int .u16 ep, .int .u16 sq, .int .u16 nx, .int .u32 bt, .bool fi, .bool la, .bool al, .slice A n c],
     fun (w : World) (v : Value) => v = .int .u8 fl,
     fun (w : World) (v : Value) => v = .pointer (some ⟨B, 7, none⟩),
     fun (w : World) (v : Value) => v = .slice A n c,
     fun (w : World) (v : Value) => v = .int .i64 n,
     fun (w : World) (v : Value) => v = .int .u8 (y8 : Int),
     fun (w : World) (v : Value) => ∃ A, v = .slice A 2 2 ∧ (Kd.int .u8).C w A 2 [fl, (y8 : Int)],
     fun (w : World) (v : Value) => v = .pointer (some ⟨B, 7, none⟩),
     fun (w : World) (v : Value) => v = .slice A n c,
     fun (w : World) (v : Value) => ∃ A, v = .slice A 7 7 ∧ (Kd.slice 5 (Kd.int .u8)).C w A 7 [[86], lowN ep 2, lowN sq 2, lowN nx 2, lowN bt 4, [fl, (y8 : Int)], D],
     fun (w : World) (v : Value) => BvC w bo v,
     fun (w : World) (v : Value) => BvC w (sealL bo) v,
     fun (w : World) (v : Value) => BvC w (sealL bo) v]
    (fun j =>  none)
    [(0, some 3), (1, some 4), (2, some 5), (3, some 6), (4, some 7), (5, some 8), (6, some 9), (7, some 10), (8, some 11), (9, some 12), (10, some 13), (11, some 14), (12, some 15), (13, some 16), (14, some 17), (15, some 18), (16, some 19), (17, some 20), (18, some 21), (19, some 22), (20, some 23), (21, some 24), (22, some 25), (23, some 26), (24, some 27), (25, some 28), (26, some 29), (27, some 30), (28, some 31), (29, some 2)]
    []
    (by kernel_rfl) (by kernel_rfl) (by kernel_rfl) (by kernel_rfl) ?r1_1g ?r1_1s ⟨?r1_1o0, ?r1_1o1, ?r1_1o2, ?r1_1o3, ?r1_1o4, ?r1_1o5, ?r1_1o6, ?r1_1o7, ?r1_1o8, ?r1_1o9, ?r1_1o10, ?r1_1o11, ?r1_1o12, ?r1_1o13, ?r1_1o14, ?r1_1o15, ?r1_1o16, ?r1_1o17, ?r1_1o18, ?r1_1o19, ?r1_1o20, ?r1_1o21, ?r1_1o22, ?r1_1o23, ?r1_1o24, ?r1_1o25, ?r1_1o26, ?r1_1o27, ?r1_1o28, ?r1_1o29, trivial⟩ ?r1_1e
  case r1_1g =>
    intro j hj; cases hj
  case r1_1s =>
    refine ⟨(fun w w' v hb h => let ⟨A, h1, h2⟩ := h; ⟨A, h1, Kd.C_below h2 hb⟩), (fun w w' v hb h => h), (fun w w' v hb h => h), (fun w w' v hb h => h), (fun w w' v hb h => let ⟨A, c, h1, h2, h3⟩ := h; ⟨A, c, h1, h2, Kd.C_below h3 hb⟩), (fun w w' v hb h => h), (fun w w' v hb h => h), (fun w w' v hb h => h), (fun w w' v hb h => let ⟨A, c, h1, h2, h3⟩ := h; ⟨A, c, h1, h2, Kd.C_below h3 hb⟩), (fun w w' v hb h => h), (fun w w' v hb h => h), (fun w w' v hb h => h), (fun w w' v hb h => let ⟨A, c, h1, h2, h3⟩ := h; ⟨A, c, h1, h2, Kd.C_below h3 hb⟩), (fun w w' v hb h => h), (fun w w' v hb h => h), (fun w w' v hb h => h), (fun w w' v hb h => let ⟨A, c, h1, h2, h3⟩ := h; ⟨A, c, h1, h2, Kd.C_below h3 hb⟩), (fun w w' v hb h => h), (fun w w' v hb h => h), (fun w w' v hb h => h), (fun w w' v hb h => h), (fun w w' v hb h => h), (fun w w' v hb h => h), (fun w w' v hb h => let ⟨A, h1, h2⟩ := h; ⟨A, h1, Kd.C_below h2 hb⟩), (fun w w' v hb h => h), (fun w w' v hb h => h), (fun w w' v hb h => let ⟨A, h1, h2⟩ := h; ⟨A, h1, Kd.C_below h2 hb⟩), (fun w w' v hb h => h.below hb), (fun w w' v hb h => h.below hb), (fun w w' v hb h => h.below hb), trivial⟩
  case r1_1o0 =>
    intro vs w hb hV
    rw [if_pos (by first | kernel_rfl | rfl)]
    generalize hρ : rho _ _ _ vs = ρ
    have econ : ∀ v : Value, ρ (.const v) = v := fun v => by rw [← hρ]; rfl
    clear hρ hV
    refine runs_val (v := .slice (some ⟨w.heap.size, 0, none⟩) 1 1) (w' := w.alloc (.cells #[.int .u8 86] 5)) ?_ ⟨below_alloc (Below.refl _ _) _, _, rfl, C_of_block (heap_alloc_new _ _) ⟨rfl, rfl, by omega⟩⟩
    go_simp
  case r1_1o1 =>
    intro vs w hb hV
    rw [if_pos (by first | kernel_rfl | rfl)]
    generalize hρ : rho _ _ _ vs = ρ
    have e1 : ρ (.tmp 1) = .pointer (some ⟨B, 0, none⟩) := by rw [← hρ]; kernel_rfl
    clear hρ hV
    refine runs_val (v := .pointer (some ⟨B, 0, none⟩)) (w' := w) ?_ ⟨Below.refl _ _, rfl⟩
    go_simp <;> (first | exact IntWalk.u64_in _ (by omega) | exact IntWalk.u32_in _ (by omega) | exact IntWalk.u16_in _ (by omega) | exact IntWalk.u8_in _ (by omega) | exact IntWalk.i64_in _ (by omega) | skip)
  case r1_1o2 =>
    intro vs w hb hV
    rw [if_pos (by first | kernel_rfl | rfl)]
    generalize hρ : rho _ _ _ vs = ρ
    have d4 : (vs 1) = .pointer (some ⟨B, 0, none⟩) := hV 1 (by first | kernel_rfl | rfl)
    have e4 : ρ (.tmp 4) = vs 1 := by rw [← hρ]; kernel_rfl
    rw [d4] at e4; clear d4
    clear hρ hV
    have c0 := blk_cell (HLG.out w hb) 0
    refine runs_val (v := .int .u16 ep) (w' := w) ?_ ⟨Below.refl _ _, rfl⟩
    go_simp
  case r1_1o3 =>
    intro vs w hb hV
    rw [if_pos (by first | kernel_rfl | rfl)]
    generalize hρ : rho _ _ _ vs = ρ
    have d5 : (vs 2) = .int .u16 ep := hV 2 (by first | kernel_rfl | rfl)
    have e5 : ρ (.tmp 5) = vs 2 := by rw [← hρ]; kernel_rfl
    rw [d5] at e5; clear d5
    clear hρ hV
    have hx := HE.out
    refine runs_val (v := .int .u64 ep) (w' := w) ?_ ⟨Below.refl _ _, rfl⟩
    go_simp
    exact IntWalk.u64_in _ (by omega)
  case r1_1o4 =>
    intro vs w hb hV
    rw [if_pos (by first | kernel_rfl | rfl)]
    generalize hρ : rho _ _ _ vs = ρ
    have d6 : (vs 3) = .int .u64 ep := hV 3 (by first | kernel_rfl | rfl)
    have e6 : ρ (.tmp 6) = vs 3 := by rw [← hρ]; kernel_rfl
    rw [d6] at e6; clear d6
    have ef48 : ρ (.func 48) = .func (.func 48) #[] #[] := by rw [← hρ]; rfl
    have econ : ∀ v : Value, ρ (.const v) = v := fun v => by rw [← hρ]; rfl
    clear hρ hV
    have hx := HE.out
    refine runs_call (f := 48) (args := #[.int .u64 ep, .int .i64 2]) (w' := w) ?_ ?_
    · go_simp
    · refine (low_any ep 2 w (by omega) (by omega)).mono ?_
      rintro e w5 ⟨v, rfl, hv, hb5⟩
      obtain ⟨A1, c1, e1, e2, e3⟩ := Kd.R_reads hv
      rw [lowN_length] at e1 e2 e3
      exact ⟨_, rfl, hb5, A1, c1, e1, e2, e3⟩
  case r1_1o5 =>
    intro vs w hb hV
    rw [if_pos (by first | kernel_rfl | rfl)]
    generalize hρ : rho _ _ _ vs = ρ
    have e1 : ρ (.tmp 1) = .pointer (some ⟨B, 0, none⟩) := by rw [← hρ]; kernel_rfl
    clear hρ hV
    refine runs_val (v := .pointer (some ⟨B, 1, none⟩)) (w' := w) ?_ ⟨Below.refl _ _, rfl⟩
    go_simp <;> (first | exact IntWalk.u64_in _ (by omega) | exact IntWalk.u32_in _ (by omega) | exact IntWalk.u16_in _ (by omega) | exact IntWalk.u8_in _ (by omega) | exact IntWalk.i64_in _ (by omega) | skip)
  case r1_1o6 =>
    intro vs w hb hV
    rw [if_pos (by first | kernel_rfl | rfl)]
    generalize hρ : rho _ _ _ vs = ρ
    have d8 : (vs 5) = .pointer (some ⟨B, 1, none⟩) := hV 5 (by first | kernel_rfl | rfl)
    have e8 : ρ (.tmp 8) = vs 5 := by rw [← hρ]; kernel_rfl
    rw [d8] at e8; clear d8
    clear hρ hV
    have c0 := blk_cell (HLG.out w hb) 1
    refine runs_val (v := .int .u16 sq) (w' := w) ?_ ⟨Below.refl _ _, rfl⟩
    go_simp
  case r1_1o7 =>
    intro vs w hb hV
    rw [if_pos (by first | kernel_rfl | rfl)]
    generalize hρ : rho _ _ _ vs = ρ
    have d9 : (vs 6) = .int .u16 sq := hV 6 (by first | kernel_rfl | rfl)
    have e9 : ρ (.tmp 9) = vs 6 := by rw [← hρ]; kernel_rfl
    rw [d9] at e9; clear d9
    clear hρ hV
    have hx := HE.out
    refine runs_val (v := .int .u64 sq) (w' := w) ?_ ⟨Below.refl _ _, rfl⟩
    go_simp
    exact IntWalk.u64_in _ (by omega)
  case r1_1o8 =>
    intro vs w hb hV
    rw [if_pos (by first | kernel_rfl | rfl)]
    generalize hρ : rho _ _ _ vs = ρ
    have d10 : (vs 7) = .int .u64 sq := hV 7 (by first | kernel_rfl | rfl)
    have e10 : ρ (.tmp 10) = vs 7 := by rw [← hρ]; kernel_rfl
    rw [d10] at e10; clear d10
    have ef48 : ρ (.func 48) = .func (.func 48) #[] #[] := by rw [← hρ]; rfl
    have econ : ∀ v : Value, ρ (.const v) = v := fun v => by rw [← hρ]; rfl
    clear hρ hV
    have hx := HE.out
    refine runs_call (f := 48) (args := #[.int .u64 sq, .int .i64 2]) (w' := w) ?_ ?_
    · go_simp
    · refine (low_any sq 2 w (by omega) (by omega)).mono ?_
      rintro e w5 ⟨v, rfl, hv, hb5⟩
      obtain ⟨A1, c1, e1, e2, e3⟩ := Kd.R_reads hv
      rw [lowN_length] at e1 e2 e3
      exact ⟨_, rfl, hb5, A1, c1, e1, e2, e3⟩
  case r1_1o9 =>
    intro vs w hb hV
    rw [if_pos (by first | kernel_rfl | rfl)]
    generalize hρ : rho _ _ _ vs = ρ
    have e1 : ρ (.tmp 1) = .pointer (some ⟨B, 0, none⟩) := by rw [← hρ]; kernel_rfl
    clear hρ hV
    refine runs_val (v := .pointer (some ⟨B, 2, none⟩)) (w' := w) ?_ ⟨Below.refl _ _, rfl⟩
    go_simp <;> (first | exact IntWalk.u64_in _ (by omega) | exact IntWalk.u32_in _ (by omega) | exact IntWalk.u16_in _ (by omega) | exact IntWalk.u8_in _ (by omega) | exact IntWalk.i64_in _ (by omega) | skip)
  case r1_1o10 =>
    intro vs w hb hV
    rw [if_pos (by first | kernel_rfl | rfl)]
    generalize hρ : rho _ _ _ vs = ρ
    have d12 : (vs 9) = .pointer (some ⟨B, 2, none⟩) := hV 9 (by first | kernel_rfl | rfl)
    have e12 : ρ (.tmp 12) = vs 9 := by rw [← hρ]; kernel_rfl
    rw [d12] at e12; clear d12
    clear hρ hV
    have c0 := blk_cell (HLG.out w hb) 2
    refine runs_val (v := .int .u16 nx) (w' := w) ?_ ⟨Below.refl _ _, rfl⟩
    go_simp
  case r1_1o11 =>
    intro vs w hb hV
    rw [if_pos (by first | kernel_rfl | rfl)]
    generalize hρ : rho _ _ _ vs = ρ
    have d13 : (vs 10) = .int .u16 nx := hV 10 (by first | kernel_rfl | rfl)
    have e13 : ρ (.tmp 13) = vs 10 := by rw [← hρ]; kernel_rfl
    rw [d13] at e13; clear d13
    clear hρ hV
    have hx := HE.out
    refine runs_val (v := .int .u64 nx) (w' := w) ?_ ⟨Below.refl _ _, rfl⟩
    go_simp
    exact IntWalk.u64_in _ (by omega)
  case r1_1o12 =>
    intro vs w hb hV
    rw [if_pos (by first | kernel_rfl | rfl)]
    generalize hρ : rho _ _ _ vs = ρ
    have d14 : (vs 11) = .int .u64 nx := hV 11 (by first | kernel_rfl | rfl)
    have e14 : ρ (.tmp 14) = vs 11 := by rw [← hρ]; kernel_rfl
    rw [d14] at e14; clear d14
    have ef48 : ρ (.func 48) = .func (.func 48) #[] #[] := by rw [← hρ]; rfl
    have econ : ∀ v : Value, ρ (.const v) = v := fun v => by rw [← hρ]; rfl
    clear hρ hV
    have hx := HE.out
    refine runs_call (f := 48) (args := #[.int .u64 nx, .int .i64 2]) (w' := w) ?_ ?_
    · go_simp
    · refine (low_any nx 2 w (by omega) (by omega)).mono ?_
      rintro e w5 ⟨v, rfl, hv, hb5⟩
      obtain ⟨A1, c1, e1, e2, e3⟩ := Kd.R_reads hv
      rw [lowN_length] at e1 e2 e3
      exact ⟨_, rfl, hb5, A1, c1, e1, e2, e3⟩
  case r1_1o13 =>
    intro vs w hb hV
    rw [if_pos (by first | kernel_rfl | rfl)]
    generalize hρ : rho _ _ _ vs = ρ
    have e1 : ρ (.tmp 1) = .pointer (some ⟨B, 0, none⟩) := by rw [← hρ]; kernel_rfl
    clear hρ hV
    refine runs_val (v := .pointer (some ⟨B, 3, none⟩)) (w' := w) ?_ ⟨Below.refl _ _, rfl⟩
    go_simp <;> (first | exact IntWalk.u64_in _ (by omega) | exact IntWalk.u32_in _ (by omega) | exact IntWalk.u16_in _ (by omega) | exact IntWalk.u8_in _ (by omega) | exact IntWalk.i64_in _ (by omega) | skip)
  case r1_1o14 =>
    intro vs w hb hV
    rw [if_pos (by first | kernel_rfl | rfl)]
    generalize hρ : rho _ _ _ vs = ρ
    have d16 : (vs 13) = .pointer (some ⟨B, 3, none⟩) := hV 13 (by first | kernel_rfl | rfl)
    have e16 : ρ (.tmp 16) = vs 13 := by rw [← hρ]; kernel_rfl
    rw [d16] at e16; clear d16
    clear hρ hV
    have c0 := blk_cell (HLG.out w hb) 3
    refine runs_val (v := .int .u32 bt) (w' := w) ?_ ⟨Below.refl _ _, rfl⟩
    go_simp
  case r1_1o15 =>
    intro vs w hb hV
    rw [if_pos (by first | kernel_rfl | rfl)]
    generalize hρ : rho _ _ _ vs = ρ
    have d17 : (vs 14) = .int .u32 bt := hV 14 (by first | kernel_rfl | rfl)
    have e17 : ρ (.tmp 17) = vs 14 := by rw [← hρ]; kernel_rfl
    rw [d17] at e17; clear d17
    clear hρ hV
    have hx := HE.out
    refine runs_val (v := .int .u64 bt) (w' := w) ?_ ⟨Below.refl _ _, rfl⟩
    go_simp
    exact IntWalk.u64_in _ (by omega)
  case r1_1o16 =>
    intro vs w hb hV
    rw [if_pos (by first | kernel_rfl | rfl)]
    generalize hρ : rho _ _ _ vs = ρ
    have d18 : (vs 15) = .int .u64 bt := hV 15 (by first | kernel_rfl | rfl)
    have e18 : ρ (.tmp 18) = vs 15 := by rw [← hρ]; kernel_rfl
    rw [d18] at e18; clear d18
    have ef48 : ρ (.func 48) = .func (.func 48) #[] #[] := by rw [← hρ]; rfl
    have econ : ∀ v : Value, ρ (.const v) = v := fun v => by rw [← hρ]; rfl
    clear hρ hV
    have hx := HE.out
    refine runs_call (f := 48) (args := #[.int .u64 bt, .int .i64 4]) (w' := w) ?_ ?_
    · go_simp
    · refine (low_any bt 4 w (by omega) (by omega)).mono ?_
      rintro e w5 ⟨v, rfl, hv, hb5⟩
      obtain ⟨A1, c1, e1, e2, e3⟩ := Kd.R_reads hv
      rw [lowN_length] at e1 e2 e3
      exact ⟨_, rfl, hb5, A1, c1, e1, e2, e3⟩
  case r1_1o17 =>
    intro vs w hb hV
    rw [if_pos (by first | kernel_rfl | rfl)]
    generalize hρ : rho _ _ _ vs = ρ
    have e1 : ρ (.tmp 1) = .pointer (some ⟨B, 0, none⟩) := by rw [← hρ]; kernel_rfl
    clear hρ hV
    exact runs_load 79 (.tmp 1) rfl B e1 79 #[.int .u16 ep, .int .u16 sq, .int .u16 nx, .int .u32 bt, .bool fi, .bool la, .bool al, .slice A n c] (0, 0) _ (HLG.out w hb) Try.underlying79 rfl (rframe_info _ _ _ _ _ _ _ _) ⟨Below.refl _ _, rfl⟩
  case r1_1o18 =>
    intro vs w hb hV
    rw [if_pos (by first | kernel_rfl | rfl)]
    generalize hρ : rho _ _ _ vs = ρ
    have d20 : (vs 17) = .agg #[.int .u16 ep, .int .u16 sq, .int .u16 nx, .int .u32 bt, .bool fi, .bool la, .bool al, .slice A n c] := hV 17 (by first | kernel_rfl | rfl)
    have e20 : ρ (.tmp 20) = vs 17 := by rw [← hρ]; kernel_rfl
    rw [d20] at e20; clear d20
    have ef67 : ρ (.func 67) = .func (.func 67) #[] #[] := by rw [← hρ]; rfl
    clear hρ hV
    refine runs_call (f := 67) (args := #[.agg #[.int .u16 ep, .int .u16 sq, .int .u16 nx, .int .u32 bt, .bool fi, .bool la, .bool al, .slice A n c]]) (w' := w) ?_ ?_
    · go_simp
    · refine (KF.out w (HW0.out w hb)).mono ?_
      rintro e w5 ⟨rfl, hb5⟩
      exact ⟨_, rfl, hb5, rfl⟩
  case r1_1o19 =>
    intro vs w hb hV
    rw [if_pos (by first | kernel_rfl | rfl)]
    generalize hρ : rho _ _ _ vs = ρ
    have e1 : ρ (.tmp 1) = .pointer (some ⟨B, 0, none⟩) := by rw [← hρ]; kernel_rfl
    clear hρ hV
    refine runs_val (v := .pointer (some ⟨B, 7, none⟩)) (w' := w) ?_ ⟨Below.refl _ _, rfl⟩
    go_simp <;> (first | exact IntWalk.u64_in _ (by omega) | exact IntWalk.u32_in _ (by omega) | exact IntWalk.u16_in _ (by omega) | exact IntWalk.u8_in _ (by omega) | exact IntWalk.i64_in _ (by omega) | skip)
  case r1_1o20 =>
    intro vs w hb hV
    rw [if_pos (by first | kernel_rfl | rfl)]
    generalize hρ : rho _ _ _ vs = ρ
    have d22 : (vs 19) = .pointer (some ⟨B, 7, none⟩) := hV 19 (by first | kernel_rfl | rfl)
    have e22 : ρ (.tmp 22) = vs 19 := by rw [← hρ]; kernel_rfl
    rw [d22] at e22; clear d22
    clear hρ hV
    have c0 := blk_cell (HLG.out w hb) 7
    refine runs_val (v := .slice A n c) (w' := w) ?_ ⟨Below.refl _ _, rfl⟩
    go_simp
  case r1_1o21 =>
    intro vs w hb hV
    rw [if_pos (by first | kernel_rfl | rfl)]
    generalize hρ : rho _ _ _ vs = ρ
    have d23 : (vs 20) = .slice A n c := hV 20 (by first | kernel_rfl | rfl)
    have e23 : ρ (.tmp 23) = vs 20 := by rw [← hρ]; kernel_rfl
    rw [d23] at e23; clear d23
    clear hρ hV
    refine runs_val (v := .int .i64 n) (w' := w) ?_ ⟨Below.refl _ _, rfl⟩
    go_simp <;> (first | exact IntWalk.u64_in _ (by omega) | exact IntWalk.u32_in _ (by omega) | exact IntWalk.u16_in _ (by omega) | exact IntWalk.u8_in _ (by omega) | exact IntWalk.i64_in _ (by omega) | skip)
  case r1_1o22 =>
    intro vs w hb hV
    rw [if_pos (by first | kernel_rfl | rfl)]
    generalize hρ : rho _ _ _ vs = ρ
    have d24 : (vs 21) = .int .i64 n := hV 21 (by first | kernel_rfl | rfl)
    have e24 : ρ (.tmp 24) = vs 21 := by rw [← hρ]; kernel_rfl
    rw [d24] at e24; clear d24
    clear hρ hV
    have ix := IX.out
    refine runs_val (v := .int .u8 (y8 : Int)) (w' := w) ?_ ⟨Below.refl _ _, rfl⟩
    rw [← ix]
    clear ix
    go_simp
  case r1_1o23 =>
    intro vs w hb hV
    rw [if_pos (by first | kernel_rfl | rfl)]
    generalize hρ : rho _ _ _ vs = ρ
    have d21 : (vs 18) = .int .u8 fl := hV 18 (by first | kernel_rfl | rfl)
    have e21 : ρ (.tmp 21) = vs 18 := by rw [← hρ]; kernel_rfl
    rw [d21] at e21; clear d21
    have d25 : (vs 22) = .int .u8 (y8 : Int) := hV 22 (by first | kernel_rfl | rfl)
    have e25 : ρ (.tmp 25) = vs 22 := by rw [← hρ]; kernel_rfl
    rw [d25] at e25; clear d25
    clear hρ hV
    refine runs_val (v := .slice (some ⟨w.heap.size, 0, none⟩) 2 2) (w' := w.alloc (.cells #[.int .u8 fl, .int .u8 (y8 : Int)] 5)) ?_ ⟨below_alloc (Below.refl _ _) _, _, rfl, C_of_block (heap_alloc_new _ _) ⟨rfl, rfl, by omega⟩⟩
    go_simp
  case r1_1o24 =>
    intro vs w hb hV
    rw [if_pos (by first | kernel_rfl | rfl)]
    generalize hρ : rho _ _ _ vs = ρ
    have e1 : ρ (.tmp 1) = .pointer (some ⟨B, 0, none⟩) := by rw [← hρ]; kernel_rfl
    clear hρ hV
    refine runs_val (v := .pointer (some ⟨B, 7, none⟩)) (w' := w) ?_ ⟨Below.refl _ _, rfl⟩
    go_simp <;> (first | exact IntWalk.u64_in _ (by omega) | exact IntWalk.u32_in _ (by omega) | exact IntWalk.u16_in _ (by omega) | exact IntWalk.u8_in _ (by omega) | exact IntWalk.i64_in _ (by omega) | skip)
  case r1_1o25 =>
    intro vs w hb hV
    rw [if_pos (by first | kernel_rfl | rfl)]
    generalize hρ : rho _ _ _ vs = ρ
    have d27 : (vs 24) = .pointer (some ⟨B, 7, none⟩) := hV 24 (by first | kernel_rfl | rfl)
    have e27 : ρ (.tmp 27) = vs 24 := by rw [← hρ]; kernel_rfl
    rw [d27] at e27; clear d27
    clear hρ hV
    have c0 := blk_cell (HLG.out w hb) 7
    refine runs_val (v := .slice A n c) (w' := w) ?_ ⟨Below.refl _ _, rfl⟩
    go_simp
  case r1_1o26 =>
    intro vs w hb hV
    rw [if_pos (by first | kernel_rfl | rfl)]
    generalize hρ : rho _ _ _ vs = ρ
    have d3 : (fun (w : World) (v : Value) => ∃ A, v = .slice A 1 1 ∧ (Kd.int .u8).C w A 1 [86]) w (vs 0) := hV 0 (by first | kernel_rfl | rfl)
    have e3 : ρ (.tmp 3) = vs 0 := by rw [← hρ]; kernel_rfl
    obtain ⟨B1, h1, hC1⟩ := d3
    have d7 : (fun (w : World) (v : Value) => ∃ A c, v = .slice A 2 c ∧ 2 ≤ c ∧ (Kd.int .u8).C w A 2 (lowN ep 2)) w (vs 4) := hV 4 (by first | kernel_rfl | rfl)
    have e7 : ρ (.tmp 7) = vs 4 := by rw [← hρ]; kernel_rfl
    obtain ⟨B2, b2, h2, hb2, hC2⟩ := d7
    have d11 : (fun (w : World) (v : Value) => ∃ A c, v = .slice A 2 c ∧ 2 ≤ c ∧ (Kd.int .u8).C w A 2 (lowN sq 2)) w (vs 8) := hV 8 (by first | kernel_rfl | rfl)
    have e11 : ρ (.tmp 11) = vs 8 := by rw [← hρ]; kernel_rfl
    obtain ⟨B3, b3, h3, hb3, hC3⟩ := d11
    have d15 : (fun (w : World) (v : Value) => ∃ A c, v = .slice A 2 c ∧ 2 ≤ c ∧ (Kd.int .u8).C w A 2 (lowN nx 2)) w (vs 12) := hV 12 (by first | kernel_rfl | rfl)
    have e15 : ρ (.tmp 15) = vs 12 := by rw [← hρ]; kernel_rfl
    obtain ⟨B4, b4, h4, hb4, hC4⟩ := d15
    have d19 : (fun (w : World) (v : Value) => ∃ A c, v = .slice A 4 c ∧ 4 ≤ c ∧ (Kd.int .u8).C w A 4 (lowN bt 4)) w (vs 16) := hV 16 (by first | kernel_rfl | rfl)
    have e19 : ρ (.tmp 19) = vs 16 := by rw [← hρ]; kernel_rfl
    obtain ⟨B5, b5, h5, hb5, hC5⟩ := d19
    have d26 : (fun (w : World) (v : Value) => ∃ A, v = .slice A 2 2 ∧ (Kd.int .u8).C w A 2 [fl, (y8 : Int)]) w (vs 23) := hV 23 (by first | kernel_rfl | rfl)
    have e26 : ρ (.tmp 26) = vs 23 := by rw [← hρ]; kernel_rfl
    obtain ⟨B6, h6, hC6⟩ := d26
    have d28 : (vs 25) = .slice A n c := hV 25 (by first | kernel_rfl | rfl)
    have e28 : ρ (.tmp 28) = vs 25 := by rw [← hρ]; kernel_rfl
    rw [d28] at e28; clear d28
    clear hρ hV
    rw [h1] at e3
    rw [h2] at e7
    rw [h3] at e11
    rw [h4] at e15
    rw [h5] at e19
    rw [h6] at e26
    refine runs_val (v := .slice (some ⟨w.heap.size, 0, none⟩) 7 7) (w' := w.alloc (.cells #[.slice B1 1 1, .slice B2 2 b2, .slice B3 2 b3, .slice B4 2 b4, .slice B5 4 b5, .slice B6 2 2, .slice A n c] 23)) ?_ ⟨below_alloc (Below.refl _ _) _, _, rfl, C_of_seven (heap_alloc_new _ _) (Kd.C_alloc hC1 _) (by omega) (Kd.C_alloc hC2 _) hb2 (Kd.C_alloc hC3 _) hb3 (Kd.C_alloc hC4 _) hb4 (Kd.C_alloc hC5 _) hb5 (Kd.C_alloc hC6 _) (by omega) (Kd.C_alloc (HF.out w (HW0.out w hb)) _) HC.out.1⟩
    go_simp
  case r1_1o27 =>
    intro vs w hb hV
    rw [if_pos (by first | kernel_rfl | rfl)]
    generalize hρ : rho _ _ _ vs = ρ
    have d29 : (fun (w : World) (v : Value) => ∃ A, v = .slice A 7 7 ∧ (Kd.slice 5 (Kd.int .u8)).C w A 7 [[86], lowN ep 2, lowN sq 2, lowN nx 2, lowN bt 4, [fl, (y8 : Int)], D]) w (vs 26) := hV 26 (by first | kernel_rfl | rfl)
    have e29 : ρ (.tmp 29) = vs 26 := by rw [← hρ]; kernel_rfl
    obtain ⟨B9, h9, hC9⟩ := d29
    have ef21 : ρ (.func 21) = .func (.func 21) #[] #[] := by rw [← hρ]; rfl
    clear hρ hV
    rw [h9] at e29
    refine runs_call (f := 21) (args := #[.slice B9 7 7]) (w' := w) ?_ ?_
    · go_simp
    · have he : [[86], lowN ep 2, lowN sq 2, lowN nx 2, lowN bt 4, [fl, (y8 : Int)], D].flatten = bo := by rw [HBO.out]; simp
      refine (join_any B9 7 7 _ w hC9 (by omega) (by rw [he]; have := HNL.out; omega)).mono ?_
      rintro e w5 ⟨v, rfl, hv, hb5⟩
      rw [he] at hv
      exact ⟨_, rfl, hb5, BvC.of_R hv⟩
  case r1_1o28 =>
    intro vs w hb hV
    rw [if_pos (by first | kernel_rfl | rfl)]
    generalize hρ : rho _ _ _ vs = ρ
    have d30 : (fun (w : World) (v : Value) => BvC w bo v) w (vs 27) := hV 27 (by first | kernel_rfl | rfl)
    have e30 : ρ (.tmp 30) = vs 27 := by rw [← hρ]; kernel_rfl
    obtain ⟨B0, b0, h0, hb0, hC0⟩ := d30
    have ef34 : ρ (.func 34) = .func (.func 34) #[] #[] := by rw [← hρ]; rfl
    clear hρ hV
    rw [h0] at e30
    refine runs_call (f := 34) (args := #[.slice B0 bo.length b0]) (w' := w) ?_ ?_
    · go_simp
    · refine (refseal_any B0 bo.length b0 bo w hC0 hb0 HDB.out (by have := HNL.out; omega)).mono ?_
      rintro e w5 ⟨v, rfl, hv, hb5⟩
      exact ⟨_, rfl, hb5, BvC.of_R hv⟩
  case r1_1o29 =>
    intro vs w hb hV
    rw [if_pos (by first | kernel_rfl | rfl)]
    generalize hρ : rho _ _ _ vs = ρ
    have d31 : (fun (w : World) (v : Value) => BvC w (sealL bo) v) w (vs 28) := hV 28 (by first | kernel_rfl | rfl)
    have e31 : ρ (.tmp 31) = vs 28 := by rw [← hρ]; kernel_rfl
    clear hρ hV
    refine runs_val (v := vs 28) (w' := w) ?_ ⟨Below.refl _ _, d31⟩
    go_simp
  case r1_1e =>
    intro vs W2 hb2 hV
    have d3 : (fun (w : World) (v : Value) => ∃ A, v = .slice A 1 1 ∧ (Kd.int .u8).C w A 1 [86]) W2 (vs 0) := hV 0 (Nat.le_of_ble_eq_true rfl)
    have d4 : (vs 1) = .pointer (some ⟨B, 0, none⟩) := hV 1 (Nat.le_of_ble_eq_true rfl)
    have d5 : (vs 2) = .int .u16 ep := hV 2 (Nat.le_of_ble_eq_true rfl)
    have d6 : (vs 3) = .int .u64 ep := hV 3 (Nat.le_of_ble_eq_true rfl)
    have d7 : (fun (w : World) (v : Value) => ∃ A c, v = .slice A 2 c ∧ 2 ≤ c ∧ (Kd.int .u8).C w A 2 (lowN ep 2)) W2 (vs 4) := hV 4 (Nat.le_of_ble_eq_true rfl)
    have d8 : (vs 5) = .pointer (some ⟨B, 1, none⟩) := hV 5 (Nat.le_of_ble_eq_true rfl)
    have d9 : (vs 6) = .int .u16 sq := hV 6 (Nat.le_of_ble_eq_true rfl)
    have d10 : (vs 7) = .int .u64 sq := hV 7 (Nat.le_of_ble_eq_true rfl)
    have d11 : (fun (w : World) (v : Value) => ∃ A c, v = .slice A 2 c ∧ 2 ≤ c ∧ (Kd.int .u8).C w A 2 (lowN sq 2)) W2 (vs 8) := hV 8 (Nat.le_of_ble_eq_true rfl)
    have d12 : (vs 9) = .pointer (some ⟨B, 2, none⟩) := hV 9 (Nat.le_of_ble_eq_true rfl)
    have d13 : (vs 10) = .int .u16 nx := hV 10 (Nat.le_of_ble_eq_true rfl)
    have d14 : (vs 11) = .int .u64 nx := hV 11 (Nat.le_of_ble_eq_true rfl)
    have d15 : (fun (w : World) (v : Value) => ∃ A c, v = .slice A 2 c ∧ 2 ≤ c ∧ (Kd.int .u8).C w A 2 (lowN nx 2)) W2 (vs 12) := hV 12 (Nat.le_of_ble_eq_true rfl)
    have d16 : (vs 13) = .pointer (some ⟨B, 3, none⟩) := hV 13 (Nat.le_of_ble_eq_true rfl)
    have d17 : (vs 14) = .int .u32 bt := hV 14 (Nat.le_of_ble_eq_true rfl)
    have d18 : (vs 15) = .int .u64 bt := hV 15 (Nat.le_of_ble_eq_true rfl)
    have d19 : (fun (w : World) (v : Value) => ∃ A c, v = .slice A 4 c ∧ 4 ≤ c ∧ (Kd.int .u8).C w A 4 (lowN bt 4)) W2 (vs 16) := hV 16 (Nat.le_of_ble_eq_true rfl)
    have d20 : (vs 17) = .agg #[.int .u16 ep, .int .u16 sq, .int .u16 nx, .int .u32 bt, .bool fi, .bool la, .bool al, .slice A n c] := hV 17 (Nat.le_of_ble_eq_true rfl)
    have d21 : (vs 18) = .int .u8 fl := hV 18 (Nat.le_of_ble_eq_true rfl)
    have d22 : (vs 19) = .pointer (some ⟨B, 7, none⟩) := hV 19 (Nat.le_of_ble_eq_true rfl)
    have d23 : (vs 20) = .slice A n c := hV 20 (Nat.le_of_ble_eq_true rfl)
    have d24 : (vs 21) = .int .i64 n := hV 21 (Nat.le_of_ble_eq_true rfl)
    have d25 : (vs 22) = .int .u8 (y8 : Int) := hV 22 (Nat.le_of_ble_eq_true rfl)
    have d26 : (fun (w : World) (v : Value) => ∃ A, v = .slice A 2 2 ∧ (Kd.int .u8).C w A 2 [fl, (y8 : Int)]) W2 (vs 23) := hV 23 (Nat.le_of_ble_eq_true rfl)
    have d27 : (vs 24) = .pointer (some ⟨B, 7, none⟩) := hV 24 (Nat.le_of_ble_eq_true rfl)
    have d28 : (vs 25) = .slice A n c := hV 25 (Nat.le_of_ble_eq_true rfl)
    have d29 : (fun (w : World) (v : Value) => ∃ A, v = .slice A 7 7 ∧ (Kd.slice 5 (Kd.int .u8)).C w A 7 [[86], lowN ep 2, lowN sq 2, lowN nx 2, lowN bt 4, [fl, (y8 : Int)], D]) W2 (vs 26) := hV 26 (Nat.le_of_ble_eq_true rfl)
    have d30 : (fun (w : World) (v : Value) => BvC w bo v) W2 (vs 27) := hV 27 (Nat.le_of_ble_eq_true rfl)
    have d31 : (fun (w : World) (v : Value) => BvC w (sealL bo) v) W2 (vs 28) := hV 28 (Nat.le_of_ble_eq_true rfl)
    have d2 : (fun (w : World) (v : Value) => BvC w (sealL bo) v) W2 (vs 29) := hV 29 (Nat.le_of_ble_eq_true rfl)
    clear hV
    simp only [putAll]
    rw [d4, d5, d6, d8, d9, d10, d12, d13, d14, d16, d17, d18, d20, d21, d22, d23, d24, d25, d27, d28]
    clear d4 d5 d6 d8 d9 d10 d12 d13 d14 d16 d17 d18 d20 d21 d22 d23 d24 d25 d27 d28
    generalize vs 0 = v3 at *
    generalize vs 4 = v7 at *
    generalize vs 8 = v11 at *
    generalize vs 12 = v15 at *
    generalize vs 16 = v19 at *
    generalize vs 23 = v26 at *
    generalize vs 26 = v29 at *
    generalize vs 27 = v30 at *
    generalize vs 28 = v31 at *
    generalize vs 29 = v2 at *
    clear vs
    simp only [Act.put, List.setIfInBounds_toArray, List.set_cons_zero, List.set_cons_succ]
    clear d3 d7 d11 d15 d19 d26 d29 d30 d31
    have HB2 := Aside0.mk (HW0.out _ hb2)
    go_wp2_with fail
    go_ret
    exact ⟨_, rfl, d2, HB2.out⟩
end Go.Proofs.Yticpjidcgaaldaa
