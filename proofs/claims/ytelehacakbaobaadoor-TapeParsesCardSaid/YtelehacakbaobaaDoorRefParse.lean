/- What ref28.Parse comes to, at any line. (Written by genrefjoin.py.) -/
import Derived.Test.YtelehacakbaobaaDoorRefParse1
import Derived.Test.YtelehacakbaobaaDoorRefParse2
import Derived.Test.YtelehacakbaobaaDoorRefParse3
import Derived.Test.YtelehacakbaobaaDoorRefParse4
import Derived.Test.YtelehacakbaobaaDoorRefParse5
import Derived.Test.YtelehacakbaobaaDoorRefParse6
import Derived.Test.YtelehacakbaobaaDoorRefParse7
import Derived.Test.YtelehacakbaobaaDoorRefNone
namespace Go.Proofs.YtelehacakbaobaaDoor
open Go.RowKit
set_option linter.unusedVariables false
set_option linter.unusedSimpArgs false

theorem fin_no (a : TAct) (ok : Bool) (h : ok = false) : fin a ok = none := by unfold fin; rw [if_neg (by rw [h]; simp)]
theorem fin_bad (a : TAct) (ok : Bool) (h : lineErr a ≠ 0) : fin a ok = none := by unfold fin; rw [if_neg (fun hh => h hh.2)]
theorem fin_yes (a : TAct) (ok : Bool) (h : ok = true) (h2 : lineErr a = 0) : fin a ok = some a := by unfold fin; rw [if_pos ⟨h, h2⟩]
theorem ref_kind_1 (s : Bs) (hs : s.length ≤ 100000) (hw : cutWord s = wordOf 1) (w : World) : Calls Tryd.prog 10 #[.string ⟨s.toArray⟩] w fun e w' => e = refAns (rp1 s) ∧ Below w.heap.size w w' := by
  rcases hsp : splitN 3 s with _ | ⟨x0, _ | ⟨nm, _ | ⟨tx, _ | ⟨y_, r_⟩⟩⟩⟩
  · rw [show rp1 s = none by unfold rp1; rw [hsp]]; exact ref_parse_1s s hs hw (by rw [hsp]; simp) w
  · rw [show rp1 s = none by unfold rp1; rw [hsp]]; exact ref_parse_1s s hs hw (by rw [hsp]; simp) w
  · rw [show rp1 s = none by unfold rp1; rw [hsp]]; exact ref_parse_1s s hs hw (by rw [hsp]; simp) w
  · unfold rp1; rw [hsp]; dsimp only
    cases hqt : uqOk tx with
    | false => rw [fin_no _ _ (by simp)]; exact ref_parse_1f0 s hs hw x0 nm tx hsp hqt w
    | true =>
      by_cases hk : lineErr ⟨1, nm, 0, 0, (uq tx), 0, 0, 0, 0⟩ = 0
      · rw [fin_yes _ _ (by simp) hk]; exact ref_parse_1z s hs hw x0 nm tx hsp hqt hk w
      · rw [fin_bad _ _ hk]; exact ref_parse_1nz s hs hw x0 nm tx hsp hqt hk w
  · rw [show rp1 s = none by unfold rp1; rw [hsp]]; exact ref_parse_1s s hs hw (by rw [hsp]; simp) w
theorem ref_kind_2 (s : Bs) (hs : s.length ≤ 100000) (hw : cutWord s = wordOf 2) (w : World) : Calls Tryd.prog 10 #[.string ⟨s.toArray⟩] w fun e w' => e = refAns (rp2 s) ∧ Below w.heap.size w w' := by
  rcases hsp : splitN 5 s with _ | ⟨x0, _ | ⟨nm, _ | ⟨f0, _ | ⟨o0, _ | ⟨tx, _ | ⟨y_, r_⟩⟩⟩⟩⟩⟩
  · rw [show rp2 s = none by unfold rp2; rw [hsp]]; exact ref_parse_2s s hs hw (by rw [hsp]; simp) w
  · rw [show rp2 s = none by unfold rp2; rw [hsp]]; exact ref_parse_2s s hs hw (by rw [hsp]; simp) w
  · rw [show rp2 s = none by unfold rp2; rw [hsp]]; exact ref_parse_2s s hs hw (by rw [hsp]; simp) w
  · rw [show rp2 s = none by unfold rp2; rw [hsp]]; exact ref_parse_2s s hs hw (by rw [hsp]; simp) w
  · rw [show rp2 s = none by unfold rp2; rw [hsp]]; exact ref_parse_2s s hs hw (by rw [hsp]; simp) w
  · unfold rp2; rw [hsp]; dsimp only
    cases hqt : uqOk tx with
    | false => rw [fin_no _ _ (by simp)]; exact ref_parse_2f0 s hs hw x0 nm f0 o0 tx hsp hqt w
    | true =>
      cases hq0 : nok f0 with
      | false => rw [fin_no _ _ (by simp)]; exact ref_parse_2f1 s hs hw x0 nm f0 o0 tx hsp hqt hq0 w
      | true =>
        cases hq1 : nok o0 with
        | false => rw [fin_no _ _ (by simp)]; exact ref_parse_2f2 s hs hw x0 nm f0 o0 tx hsp hqt hq0 hq1 w
        | true =>
          by_cases hk : lineErr ⟨2, nm, (nv f0), (nv o0), (uq tx), 0, 0, 0, 0⟩ = 0
          · rw [fin_yes _ _ (by simp) hk]; exact ref_parse_2z s hs hw x0 nm f0 o0 tx hsp hqt hq0 hq1 hk w
          · rw [fin_bad _ _ hk]; exact ref_parse_2nz s hs hw x0 nm f0 o0 tx hsp hqt hq0 hq1 hk w
  · rw [show rp2 s = none by unfold rp2; rw [hsp]]; exact ref_parse_2s s hs hw (by rw [hsp]; simp) w
theorem ref_kind_3 (s : Bs) (hs : s.length ≤ 100000) (hw : cutWord s = wordOf 3) (w : World) : Calls Tryd.prog 10 #[.string ⟨s.toArray⟩] w fun e w' => e = refAns (rp34 3 s) ∧ Below w.heap.size w w' := by
  rcases hsp : splitN 9 s with _ | ⟨x0, _ | ⟨nm, _ | ⟨y_, r_⟩⟩⟩
  · rw [show rp34 3 s = none by unfold rp34; rw [hsp]]; exact ref_parse_3s s hs hw (by rw [hsp]; simp) w
  · rw [show rp34 3 s = none by unfold rp34; rw [hsp]]; exact ref_parse_3s s hs hw (by rw [hsp]; simp) w
  · unfold rp34; rw [hsp]; dsimp only
    by_cases hk : lineErr ⟨3, nm, 0, 0, [], 0, 0, 0, 0⟩ = 0
    · rw [fin_yes _ _ (by simp) hk]; exact ref_parse_3z s hs hw x0 nm hsp  hk w
    · rw [fin_bad _ _ hk]; exact ref_parse_3nz s hs hw x0 nm hsp  hk w
  · rw [show rp34 3 s = none by unfold rp34; rw [hsp]]; exact ref_parse_3s s hs hw (by rw [hsp]; simp) w
theorem ref_kind_4 (s : Bs) (hs : s.length ≤ 100000) (hw : cutWord s = wordOf 4) (w : World) : Calls Tryd.prog 10 #[.string ⟨s.toArray⟩] w fun e w' => e = refAns (rp34 4 s) ∧ Below w.heap.size w w' := by
  rcases hsp : splitN 9 s with _ | ⟨x0, _ | ⟨nm, _ | ⟨y_, r_⟩⟩⟩
  · rw [show rp34 4 s = none by unfold rp34; rw [hsp]]; exact ref_parse_4s s hs hw (by rw [hsp]; simp) w
  · rw [show rp34 4 s = none by unfold rp34; rw [hsp]]; exact ref_parse_4s s hs hw (by rw [hsp]; simp) w
  · unfold rp34; rw [hsp]; dsimp only
    by_cases hk : lineErr ⟨4, nm, 0, 0, [], 0, 0, 0, 0⟩ = 0
    · rw [fin_yes _ _ (by simp) hk]; exact ref_parse_4z s hs hw x0 nm hsp  hk w
    · rw [fin_bad _ _ hk]; exact ref_parse_4nz s hs hw x0 nm hsp  hk w
  · rw [show rp34 4 s = none by unfold rp34; rw [hsp]]; exact ref_parse_4s s hs hw (by rw [hsp]; simp) w
theorem ref_kind_5 (s : Bs) (hs : s.length ≤ 100000) (hw : cutWord s = wordOf 5) (w : World) : Calls Tryd.prog 10 #[.string ⟨s.toArray⟩] w fun e w' => e = refAns (rp5 s) ∧ Below w.heap.size w w' := by
  rcases hsp : splitN 9 s with _ | ⟨x0, _ | ⟨nm, _ | ⟨u0, _ | ⟨y_, r_⟩⟩⟩⟩
  · rw [show rp5 s = none by unfold rp5; rw [hsp]]; exact ref_parse_5s s hs hw (by rw [hsp]; simp) w
  · rw [show rp5 s = none by unfold rp5; rw [hsp]]; exact ref_parse_5s s hs hw (by rw [hsp]; simp) w
  · rw [show rp5 s = none by unfold rp5; rw [hsp]]; exact ref_parse_5s s hs hw (by rw [hsp]; simp) w
  · unfold rp5; rw [hsp]; dsimp only
    cases hq0 : nok u0 with
    | false => rw [fin_no _ _ (by simp)]; exact ref_parse_5f0 s hs hw x0 nm u0 hsp hq0 w
    | true =>
      by_cases hk : lineErr ⟨5, nm, 0, 0, [], (nv u0), 0, 0, 0⟩ = 0
      · rw [fin_yes _ _ (by simp) hk]; exact ref_parse_5z s hs hw x0 nm u0 hsp hq0 hk w
      · rw [fin_bad _ _ hk]; exact ref_parse_5nz s hs hw x0 nm u0 hsp hq0 hk w
  · rw [show rp5 s = none by unfold rp5; rw [hsp]]; exact ref_parse_5s s hs hw (by rw [hsp]; simp) w
theorem ref_kind_6 (s : Bs) (hs : s.length ≤ 100000) (hw : cutWord s = wordOf 6) (w : World) : Calls Tryd.prog 10 #[.string ⟨s.toArray⟩] w fun e w' => e = refAns (rp6 s) ∧ Below w.heap.size w w' := by
  rcases hsp : splitN 9 s with _ | ⟨x0, _ | ⟨u0, _ | ⟨u1, _ | ⟨u2, _ | ⟨y_, r_⟩⟩⟩⟩⟩
  · rw [show rp6 s = none by unfold rp6; rw [hsp]]; exact ref_parse_6s s hs hw (by rw [hsp]; simp) w
  · rw [show rp6 s = none by unfold rp6; rw [hsp]]; exact ref_parse_6s s hs hw (by rw [hsp]; simp) w
  · rw [show rp6 s = none by unfold rp6; rw [hsp]]; exact ref_parse_6s s hs hw (by rw [hsp]; simp) w
  · rw [show rp6 s = none by unfold rp6; rw [hsp]]; exact ref_parse_6s s hs hw (by rw [hsp]; simp) w
  · unfold rp6; rw [hsp]; dsimp only
    cases hq0 : nok u0 with
    | false => rw [fin_no _ _ (by simp)]; exact ref_parse_6f0 s hs hw x0 u0 u1 u2 hsp hq0 w
    | true =>
      cases hq1 : nok u1 with
      | false => rw [fin_no _ _ (by simp)]; exact ref_parse_6f1 s hs hw x0 u0 u1 u2 hsp hq0 hq1 w
      | true =>
        cases hq2 : nok u2 with
        | false => rw [fin_no _ _ (by simp)]; exact ref_parse_6f2 s hs hw x0 u0 u1 u2 hsp hq0 hq1 hq2 w
        | true =>
          by_cases hk : lineErr ⟨6, [], 0, 0, [], 0, (nv u0), (nv u1), (nv u2)⟩ = 0
          · rw [fin_yes _ _ (by simp) hk]; exact ref_parse_6z s hs hw x0 u0 u1 u2 hsp hq0 hq1 hq2 hk w
          · rw [fin_bad _ _ hk]; exact ref_parse_6nz s hs hw x0 u0 u1 u2 hsp hq0 hq1 hq2 hk w
  · rw [show rp6 s = none by unfold rp6; rw [hsp]]; exact ref_parse_6s s hs hw (by rw [hsp]; simp) w
theorem ref_kind_7 (s : Bs) (hs : s.length ≤ 100000) (hw : cutWord s = wordOf 7) (w : World) : Calls Tryd.prog 10 #[.string ⟨s.toArray⟩] w fun e w' => e = refAns (rp7 s) ∧ Below w.heap.size w w' := by
  unfold rp7
  by_cases h7 : s = wordOf 7
  · rw [if_pos h7]
    by_cases hk : lineErr ⟨7, [], 0, 0, [], 0, 0, 0, 0⟩ = 0
    · rw [fin_yes _ _ rfl hk]; exact ref_parse_7z s hs hw h7 hk w
    · rw [fin_bad _ _ hk]; exact ref_parse_7nz s hs hw h7 hk w
  · rw [if_neg h7]; exact ref_parse_7s s hs hw h7 w
theorem ref_parse_any (s : Bs) (hs : s.length ≤ 100000) (w : World) : Calls Tryd.prog 10 #[.string ⟨s.toArray⟩] w fun e w' => e = refAns (parse s) ∧ Below w.heap.size w w' := by
  rw [← refParse_eq s hs]
  unfold refParse
  by_cases k1 : cutWord s = wordOf 1
  · rw [if_pos k1]; exact ref_kind_1 s hs k1 w
  by_cases k2 : cutWord s = wordOf 2
  · rw [if_neg k1, if_pos k2]; exact ref_kind_2 s hs k2 w
  by_cases k3 : cutWord s = wordOf 3
  · rw [if_neg k1, if_neg k2, if_pos k3]; exact ref_kind_3 s hs k3 w
  by_cases k4 : cutWord s = wordOf 4
  · rw [if_neg k1, if_neg k2, if_neg k3, if_pos k4]; exact ref_kind_4 s hs k4 w
  by_cases k5 : cutWord s = wordOf 5
  · rw [if_neg k1, if_neg k2, if_neg k3, if_neg k4, if_pos k5]; exact ref_kind_5 s hs k5 w
  by_cases k6 : cutWord s = wordOf 6
  · rw [if_neg k1, if_neg k2, if_neg k3, if_neg k4, if_neg k5, if_pos k6]; exact ref_kind_6 s hs k6 w
  by_cases k7 : cutWord s = wordOf 7
  · rw [if_neg k1, if_neg k2, if_neg k3, if_neg k4, if_neg k5, if_neg k6, if_pos k7]; exact ref_kind_7 s hs k7 w
  rw [if_neg k1, if_neg k2, if_neg k3, if_neg k4, if_neg k5, if_neg k6, if_neg k7]
  exact ref_parse_none s hs k1 k2 k3 k4 k5 k6 k7 w
end Go.Proofs.YtelehacakbaobaaDoor
