/-
Part of the words that the laws of this seat are proved with: no statement of its own, no conditions.
-/
import Derived.Test.YtaeejbmbkejjiaaGreatDoorZ1
set_option linter.unusedVariables false
set_option linter.unusedSimpArgs false
namespace Go.GV
def Shs.RepR (w : World) (Z : Nat → Prop) (s : Shs) (y : s.T.D) (v : Value) (bs : List Nat) : Prop := ∃ vs, v = resVal vs ∧ s.RepA w Z y vs bs
def ResOK (D : FnD) (w : World) (Z : Nat → Prop) (y : D.res.T.D) (v : Value) (bs : List Nat) : Prop :=
 if D.opt = true then (D.res.T.nilB y = true ∧ v = .pointer none ∧ bs = []) ∨ (D.res.T.nilB y = false ∧ ∃ v0, D.res.RepA w Z y [v0, v] bs) else D.res.RepR w Z y v bs
def Back (D : FnD) (w : World) (Z : Nat → Prop) (args : List Value) (bs : List Nat) (r : (D.res.T.app D.par.inout.T).D) (v : Value) (w' : World) : Prop :=
 ∃ (Z' : Nat → Prop) (bsR bsI : List Nat), Frm (· ∈ bs) w w' ∧ (∀ b, Z' b → b < w'.heap.size ∧ (b < w.heap.size → Z b ∨ b ∈ bs)) ∧
  ResOK D w' Z' (D.res.T.fst D.par.inout.T r) v bsR ∧ D.par.inout.RepA w' Z' (D.res.T.snd D.par.inout.T r) (D.par.io args) bsI ∧
  (bsI ++ bsR).Nodup ∧ (∀ b ∈ bsI ++ bsR, ¬ Z' b ∧ (b < w.heap.size → b ∈ bs)) ∧ (D.idn = true → ∃ bx, D.par.inout.Bx w (D.par.io args) bx ∧ D.par.inout.Bx w' (D.par.io args) bx)
section
variable {P : Program} {E : Env} {w0 w w' : World} {M Z0 Z Z' : Nat → Prop} {γ γ' : Nat → Value} {ob : List (Nat × Ob)} {s s2 : St} {a : Act} {D : FnD}
mutual
theorem Sh.Rep.more (hz : ∀ k, Z k → Z' k) : ∀ {s : Sh} {x : s.T.D} {cs : List Value} {bs : List Nat}, s.Rep w Z x cs bs → s.Rep w Z' x cs bs
 | .val t, _, _, _, h => ⟨Ty.Rep.stay (Stay.more w hz) h.1, h.2⟩
 | .own _ t, _, _, _, ⟨v, us, e, h1, h2, h3⟩ => ⟨v, us, e, h1, RepL.imp (fun _ _ h => Ty.Rep.stay (Stay.more w hz) h) h2, h3⟩
 | .mv _ t, _, _, _, ⟨v, us, e, h1, h2, h3⟩ => ⟨v, us, e, h1, RepL.imp (fun _ _ h => Ty.Rep.stay (Stay.more w hz) h) h2, h3⟩
 | .box _ sh, _, _, _, ⟨g, cur, bs', e, h1, h2, h3⟩ => ⟨g, cur, bs', e, h1, Shs.Rep.more hz (s := sh) h2, h3⟩
 | .fn _ sh, _, _, _, ⟨ps, e, hk, h⟩ => ⟨ps, e, hk, Shs.Rep.more hz (s := sh) h⟩
 | .rcd sh, _, _, _, ⟨hf, h⟩ => ⟨hf, Shs.Rep.more hz (s := sh) h⟩
theorem Shs.Rep.more (hz : ∀ k, Z k → Z' k) : ∀ {s : Shs} {x : s.T.D} {cs : List Value} {bs : List Nat}, s.Rep w Z x cs bs → s.Rep w Z' x cs bs
 | .nil, _, _, _, h => h
 | .cons s l, _, _, _, ⟨a, b, c, d, e1, e2, h1, h2⟩ => ⟨a, b, c, d, e1, e2, Sh.Rep.more hz h1, Shs.Rep.more hz h2⟩
end
theorem Shs.RepA.more (hz : ∀ k, Z k → Z' k) : ∀ {s : Shs} {x : s.T.D} {vs : List Value} {bs : List Nat}, s.RepA w Z x vs bs → s.RepA w Z' x vs bs
 | .nil, _, _, _, h => h
 | .cons s l, _, _, _, ⟨v, vs', c, d, e1, e2, ⟨cs, h0, h1⟩, h2⟩ => ⟨v, vs', c, d, e1, e2, ⟨cs, h0, Sh.Rep.more hz h1⟩, Shs.RepA.more hz h2⟩
theorem own_len {e : TypeId} {z n n' : Nat} {v : Value} {cs cs' : List Value} (h : w.ownsRow 0 e z v n cs) (h' : w'.ownsRow 0 e z v n' cs') : n = n' := by
 rcases h.2 with ⟨e1, e2⟩ | ⟨_, _, _, e1, _⟩ <;> rcases h'.2 with ⟨e3, e4⟩ | ⟨_, _, _, e3, _⟩ <;> rw [e1] at e3 <;> cases e3 <;> first | rfl | (rw [e2, e4])
theorem res_slot {cs : List (Bool × List Lf)} {vs : List Value} {y : Slot} (hy : (match cs with | [] => .lf .u | [c] => slotOf c | _ => .tp cs) = y)
  (h : All2 (fun (y : Bool × List Lf) v => if y.1 = true then ∃ cs, v = .agg cs ∧ All2 (LfOK w Z γ) y.2 cs.toList else ∃ d, y.2 = [d] ∧ LfOK w Z γ d v) cs vs) : SlotOK w Z γ ob y (resVal vs) := by
 subst hy
 cases cs with
 | nil => trivial
 | cons c cs =>
  cases vs with
  | nil => exact h.elim
  | cons v vs =>
   cases cs with
   | nil =>
    cases vs with
    | nil => exact slotOf_ok h.1
    | cons _ _ => exact h.2.elim
   | cons c2 cs =>
    cases vs with
    | nil => exact h.2.elim
    | cons v2 vs => exact ⟨_, rfl, by simpa using h⟩
theorem back_core {s1 : St} {ns : List Nat} {args : List Value} {tm : Array Value} {Zc : Nat → Prop} {res : Shs} {xr : res.T.D} {xi : D.par.inout.T.D} {fl : Bool} (hi : Inv w0 M Z0 w Z γ s1.ob) (hs : SlotsOK w Z γ s1.ob s1.sl tm) (hb : 1000 ≤ s1.b)
  (hfl : fl = false → res.vr = false ∧ D.par.inout.vr = false) (hzc : ∀ k, Zc k → Z k ∨ (fl = false ∧ k < w.heap.size))
  (hkinds : All2 (KOK s1.ob) D.par.kinds ns) (htop : D.par.TopA args (ns.map γ)) (hrn : nodupB (renew (D.par.keep ns) D.nst) = true)
  (hrk : renewOK (s1.withOb (delAll s1.ob ns)) (D.par.keep ns) D.nst = true) {d : Option Nat}
  {c1 : List Lf} {back : List (Nat × Ob)} {rest1 : List Nat} {cs : List (Bool × List Lf)} {new : List (Nat × Ob)} {rest2 : List Nat}
  (hm1 : D.par.inout.mk (renew (D.par.keep ns) D.nst) xi = some (c1, back, rest1)) (hm2 : res.mkA (from_ (s1.id d) 8) xr = some (cs, new, rest2))
  (hnew : (new.all fun y => (s1.withOb (delAll s1.ob ns)).fresh y.1 && !((renew (D.par.keep ns) D.nst).any (Nat.beq y.1))) = true)
  {Z' : Nat → Prop} {bsR bsI : List Nat} {vs : List Value} (hfrm : Frm (· ∈ blks (ns.map γ)) w w') (hz' : ∀ b, Z' b → b < w'.heap.size ∧ (b < w.heap.size → Zc b ∨ b ∈ blks (ns.map γ)))
  (hres : res.RepA w' Z' xr vs bsR) (hio : D.par.inout.RepA w' Z' xi (D.par.io args) bsI) (hnd : (bsI ++ bsR).Nodup) (hex : ∀ b ∈ bsI ++ bsR, ¬ Z' b ∧ (b < w.heap.size → b ∈ blks (ns.map γ))) (hidn : D.idn = true → ∃ bx, D.par.inout.Bx w (D.par.io args) bx ∧ D.par.inout.Bx w' (D.par.io args) bx) (hbx0 : ∃ bx, D.par.inout.Bx w (D.par.io args) bx ∧ (pickB D.par.inout.bxs (D.par.keep ns)).map γ = bx.map ptrV) :
  ∃ Zn γn, Inv w0 M Z0 w' Zn γn (putAll (delAll s1.ob ns) (back ++ new)) ∧ All2 (fun (y : Bool × List Lf) v => if y.1 = true then ∃ cs, v = .agg cs ∧ All2 (LfOK w' Zn γn) y.2 cs.toList else ∃ d, y.2 = [d] ∧ LfOK w' Zn γn d v) cs vs ∧
   SlotsOK w' Zn γn (putAll (delAll s1.ob ns) (back ++ new)) s1.sl tm ∧ ∀ n, n < 1000 → γn n = γ n := by
    obtain ⟨l, hl⟩ : ∃ l, back ++ new = l := ⟨_, rfl⟩
    rw [hl]
    obtain ⟨Zn, hZ, hZn, hres', hio'⟩ : ∃ Zn : Nat → Prop, (∀ k, Z k → Zn k) ∧ (∀ k, Zn k → Z k ∨ (Z' k ∧ (k < w.heap.size → Z k ∨ k ∈ blks (ns.map γ)))) ∧
      res.RepA w' Zn xr vs bsR ∧ D.par.inout.RepA w' Zn xi (D.par.io args) bsI := by
     cases hrows : fl with
     | true =>
      refine ⟨fun k => Z k ∨ Z' k, fun k h => .inl h, fun k h => h.imp id fun hk => ⟨hk, fun hlt => ?_⟩, Shs.RepA.more (fun k h => .inr h) hres, Shs.RepA.more (fun k h => .inr h) hio⟩
      rcases (hz' k hk).2 hlt with h1 | h1
      ·rcases hzc k h1 with h2 | ⟨h2, _⟩
       ·exact .inl h2
       ·rw [hrows] at h2; cases h2
      ·exact .inr h1
     | false =>
      have hrows := hfl hrows
      exact ⟨Z, fun _ h => h, fun _ h => .inl h, Shs.RepA.norow hrows.1 hres, Shs.RepA.norow hrows.2 hio⟩
    obtain ⟨used, us, e1, hu1, hu2, hu3, hu4, hu5, hu6⟩ := mks_ok (io_rep hio') hm1
    obtain ⟨used2, us2, e2, hr1, hr2, hr3, hr4, hr5⟩ := mkA_ok hres' hm2
    have hlive := kok_live hkinds
    have hbs : ∀ b ∈ blks (ns.map γ), ∃ n ∈ ns, (∃ o, look s1.ob n = some o) ∧ blkV (γ n) = some b := fun b hb => by
     obtain ⟨n, hn, hb⟩ := mem_blks.1 hb
     exact ⟨n, hn, hlive n hn, hb⟩
    have hbsZ : ∀ b ∈ blks (ns.map γ), ¬ Z b ∧ (b < w0.heap.size → M b) := fun b hb => by
     obtain ⟨n, _, ⟨o, ho⟩, hb⟩ := hbs b hb
     exact hi.own n o b ho hb
    have hnewn : ∀ n ∈ used2, (s1.withOb (delAll s1.ob ns)).fresh n = true ∧ n ∉ used := by
     intro n hn
     rw [← hr3] at hn
     obtain ⟨p, hp, rfl⟩ := List.mem_map.1 hn
     have := List.all_eq_true.1 hnew p hp
     simp only [Bool.and_eq_true, Bool.not_eq_true', List.any_eq_false] at this
     exact ⟨this.1, fun h => this.2 p.1 (by rw [e1]; exact List.mem_append_left _ h) (beqt.2 rfl)⟩
    have hnd1 : used.Nodup := by
     have := nodupB_ok hrn
     rw [e1] at this
     exact (List.nodup_append.1 this).1
    have hnd2 : used2.Nodup := by
     have := from_nodup 8 (s1.id d)
     rw [e2] at this
     exact (List.nodup_append.1 this).1
    have hndn : (used ++ used2).Nodup := List.nodup_append.2 ⟨hnd1, hnd2, fun x hx y hy e => (hnewn y hy).2 (e ▸ hx)⟩
    have hmap := upds_in γ (vs := us ++ us2) hndn (by simp [hu1, hr1])
    obtain ⟨γn, hγn⟩ : ∃ γn, γn = upds γ (used ++ used2) (us ++ us2) := ⟨_, rfl⟩
    rw [← hγn] at hmap
    have hout : ∀ n, n ∉ used ++ used2 → γn n = γ n := fun n hn => by rw [hγn]; exact upds_out γ _ _ n hn
    have hmap' := hmap
    rw [List.map_append] at hmap'
    obtain ⟨hmap1, hmap2⟩ := List.append_inj hmap' (by simp [hu1])
    have hkk := keep_kinds hkinds
    have hlenk : (D.par.keep ns).length = D.nst.length := by rw [← All2.length hkk, kindss_len, nst_len]
    have htop' := io_top htop
    rw [← keep_map] at htop'
    have hid : 1000 ≤ s1.id d := by unfold St.id; split <;> omega
    have hpos : ∀ (i n : Nat), used[i]? = some n → ((s1.withOb (delAll s1.ob ns)).fresh n = true ∧ 1000 ≤ n) ∨ ((D.par.keep ns)[i]? = some n ∧ γn n = γ n) := by
     intro i n hn
     have h1 : (renew (D.par.keep ns) D.nst)[i]? = some n := by
      rw [e1, List.getElem?_append_left (List.getElem?_eq_some_iff.1 hn).1]
      exact hn
     rcases renew_get hlenk h1 with ⟨m, h2, h3, h4⟩ | ⟨h2, h3⟩
     ·subst h4
      exact .inl ⟨renewOK_get hrk h2 h3, by omega⟩
     ·refine .inr ⟨h2, ?_⟩
      have h5 : us[i]? = some (γn n) := by rw [← hmap1, List.getElem?_map, hn]; rfl
      have h6 : ((D.par.keep ns).map γ)[i]? = some (γ n) := by rw [List.getElem?_map, h2]; rfl
      by_cases hid' : D.idn = true
      ·have hni : D.nst = nstL (D.par.inout.nest false) D.par.inout.bxs := if_pos hid'
       have hkl : (D.par.keep ns).length = D.par.inout.cnt := by rw [← All2.length hkk, kindss_len]
       cases hbi : D.par.inout.bxs[i]? with
       | none =>
        have q1 := List.getElem?_eq_none_iff.1 hbi
        have q2 := (List.getElem?_eq_some_iff.1 h2).1
        rw [bxss_len] at q1
        omega
       | some bi =>
        cases bi with
        | false =>
         rw [hni] at h3
         have h4 := tops_eq hu5 htop' i (nstL_get h3 hbi)
         rw [h5, h6] at h4
         exact Option.some.inj h4
        | true =>
         obtain ⟨bx, q1, q2⟩ := hidn hid'
         obtain ⟨bx0, q3, q4⟩ := hbx0
         obtain ⟨q5, bx1, q6, q7⟩ := mks_bx hm1 (hu6 γn hmap1).1 (hu6 γn hmap1).2
         have e3 := bxs_eq q1 q3
         have e4 := bxs_eq q2 q6
         subst e3
         rw [← e4, ← q4, hu3] at q7
         exact pickB_get (by rw [bxss_len, ← hu3, List.length_map, q5]) (by rw [bxss_len, hkl]) q7 hbi hn h2
      ·have h4 := tops_eq hu5 htop' i (by unfold FnD.nst at h3; rw [if_neg hid'] at h3; exact h3)
       rw [h5, h6] at h4
       exact Option.some.inj h4
    have claim : ∀ n ∈ used ++ used2, ((s1.withOb (delAll s1.ob ns)).fresh n = true ∧ 1000 ≤ n) ∨ γn n = γ n := by
     intro n hn
     rcases List.mem_append.1 hn with hn | hn
     ·obtain ⟨i, hi⟩ := List.getElem?_of_mem hn
      exact (hpos i n hi).imp id And.right
     ·refine .inl ⟨(hnewn n hn).1, Nat.le_trans hid (from_mem 8 _ n ?_)⟩
      rw [e2]
      exact List.mem_append_left _ hn
    have hnot : ∀ n, (s1.withOb (delAll s1.ob ns)).fresh n = false → γn n = γ n := by
     intro n hn
     by_cases hm : n ∈ used ++ used2
     ·rcases claim n hm with h | h
      ·rw [hn] at h; cases h.1
      ·exact h
     ·exact hout n hm
    have hlk : ∀ n o, look (putAll (delAll s1.ob ns) l) n = some o → ((n, o) ∈ back ++ new ∧ n ∈ used ++ used2) ∨ (n ∉ used ++ used2 ∧ n ∉ ns ∧ look s1.ob n = some o ∧ look (delAll s1.ob ns) n = some o) := by
     intro n o h
     rw [← hl] at h
     rcases mem_putAll h with h | ⟨h1, h2⟩
     ·refine .inl ⟨h, ?_⟩
      rw [← hu3, ← hr3, ← List.map_append]
      exact List.mem_map.2 ⟨_, h, rfl⟩
     ·rw [List.map_append, hu3, hr3] at h1
      obtain ⟨h3, h4⟩ := look_delAll h2
      exact .inr ⟨h1, h3, h4, h2⟩
    have hobs : ∀ n o, (n, o) ∈ back ++ new → ObOK w' Zn γn n o := fun n o h =>
     (List.mem_append.1 h).elim ((hu6 γn hmap1).2 n o) ((hr5 γn hmap2).2 n o)
    have hex' : ∀ n ∈ used ++ used2, ∀ b, blkV (γn n) = some b → b ∈ bsI ++ bsR := by
     intro n hn b hb
     have : b ∈ blks ((used ++ used2).map γn) := mem_blks.2 ⟨n, hn, hb⟩
     rwa [hmap, blks_append, hu2, hr2] at this
    have hdisj' : ∀ n ∈ used ++ used2, ∀ m ∈ used ++ used2, ∀ b, blkV (γn n) = some b → blkV (γn m) = some b → n = m := fun n hn m hm b h1 h2 =>
     blks_disj (l := used ++ used2) (by rw [hmap, blks_append, hu2, hr2]; exact hnd) n m b hn hm h1 h2
    have hold : ∀ n o b, look s1.ob n = some o → n ∉ ns → blkV (γ n) = some b → b < w.heap.size ∧ b ∉ blks (ns.map γ) := by
     intro n o b h1 h2 h3
     refine ⟨ob_lt (hi.obs n o h1) h3, fun hb => ?_⟩
     obtain ⟨m, hm, ⟨o', ho'⟩, hb'⟩ := hbs b hb
     exact h2 (hi.disj n m o o' b h1 ho' h3 hb' ▸ hm)
    have hst : Stay w w' Z Zn := Stay.of_block fun k hk => ⟨hZ k hk, hfrm.block k (hi.zlt k hk) fun hb => (hbsZ k hb).1 hk⟩
    refine ⟨Zn, γn, ⟨hi.frm.trans hfrm fun k hk hb => (hbsZ k hb).2 hk, ?_, ?_, ?_, ?_, ?_⟩, ?_, ⟨hs.len, fun i => ?_⟩, ?_⟩
    ·intro b hb
     rcases hZn b hb with h | ⟨h, _⟩
     ·exact Nat.lt_of_lt_of_le (hi.zlt b h) hfrm.size
     ·exact (hz' b h).1
    ·intro b hb hlt
     rcases hZn b hb with h | ⟨_, h⟩
     ·exact hi.zold b h hlt
     ·rcases h (Nat.lt_of_lt_of_le hlt hi.frm.size) with h | h
      ·exact hi.zold b h hlt
      ·exact .inr ((hbsZ b h).2 hlt)
    ·intro n o h
     rcases hlk n o h with ⟨h1, _⟩ | ⟨h1, h2, h3, h4⟩
     ·exact hobs n o h1
     ·have h5 := hi.obs n o h3
      refine h5.keep hst (fun k hk => hfrm.block k (hold n o k h3 h2 hk).1 (hold n o k h3 h2 hk).2) (hout n h1) fun m hm => hnot m ?_
      cases hf : (s1.withOb (delAll s1.ob ns)).fresh m with
      | false => rfl
      | true => rw [(fresh_ob (s := s1.withOb (delAll s1.ob ns)) hf h4).2] at hm; cases hm
    ·intro n m o o' b h h' hb1 hb2
     rcases hlk n o h with ⟨_, h1⟩ | ⟨h1, h2, h3, _⟩ <;> rcases hlk m o' h' with ⟨_, h1'⟩ | ⟨h1', h2', h3', _⟩
     ·exact hdisj' n h1 m h1' b hb1 hb2
     ·exfalso
      rw [hout m h1'] at hb2
      have h5 := hold m o' b h3' h2' hb2
      exact h5.2 ((hex b (hex' n h1 b hb1)).2 h5.1)
     ·exfalso
      rw [hout n h1] at hb1
      have h5 := hold n o b h3 h2 hb1
      exact h5.2 ((hex b (hex' m h1' b hb2)).2 h5.1)
     ·rw [hout n h1] at hb1
      rw [hout m h1'] at hb2
      exact hi.disj n m o o' b h3 h3' hb1 hb2
    ·intro n o b h hb1
     rcases hlk n o h with ⟨_, h1⟩ | ⟨h1, h2, h3, _⟩
     ·have h5 := hex b (hex' n h1 b hb1)
      refine ⟨fun hz => ?_, fun hlt => (hbsZ b (h5.2 (Nat.lt_of_lt_of_le hlt hi.frm.size))).2 hlt⟩
      rcases hZn b hz with h6 | ⟨h6, _⟩
      ·exact (hbsZ b (h5.2 (hi.zlt b h6))).1 h6
      ·exact h5.1 h6
     ·rw [hout n h1] at hb1
      have h5 := hold n o b h3 h2 hb1
      refine ⟨fun hz => ?_, (hi.own n o b h3 hb1).2⟩
      rcases hZn b hz with h6 | ⟨_, h6⟩
      ·exact (hi.own n o b h3 hb1).1 h6
      ·rcases h6 h5.1 with h7 | h7
       ·exact (hi.own n o b h3 hb1).1 h7
       ·exact h5.2 h7
    ·exact (hr5 γn hmap2).1
    ·refine SlotOK.keep hst (hs.ok i) fun n hn => ?_
     have hf : (s1.withOb (delAll s1.ob ns)).fresh n = false := by
      cases hf : (s1.withOb (delAll s1.ob ns)).fresh n with
      | false => rfl
      | true =>
       have := fresh_sl (s := s1.withOb (delAll s1.ob ns)) (i := i) hf
       simp only [St.withOb] at this
       rw [this] at hn
       cases hn
     refine ⟨hnot n hf, fun E t xs h => ?_⟩
     rcases hlk n _ h with ⟨h1, _⟩ | ⟨_, _, h3, _⟩
     ·rcases List.mem_append.1 h1 with h1 | h1
      ·have hob := hobs n _ (List.mem_append_left _ h1)
       obtain ⟨j, hj⟩ := List.getElem?_of_mem h1
       have hju : used[j]? = some n := by rw [← hu3, List.getElem?_map, hj]; rfl
       rcases hpos j n hju with ⟨h4, _⟩ | ⟨h4, h5⟩
       ·rw [h4] at hf; cases hf
       ·have hkl : j < D.par.inout.kinds.length := by rw [All2.length hu4]; exact (List.getElem?_eq_some_iff.1 hj).1
        have hk1 := All2.get j _ _ hu4 (List.getElem?_eq_getElem hkl) hj
        have hk2 := All2.get j _ _ hkk (List.getElem?_eq_getElem hkl) h4
        cases hkd : D.par.inout.kinds[j] with
        | none => rw [hkd] at hk1; obtain ⟨T, l', e3⟩ := hk1; cases e3
        | some kd =>
         obtain ⟨E', t'⟩ := kd
         rw [hkd] at hk1 hk2
         obtain ⟨xs', e3⟩ := hk1
         obtain ⟨ys, e4⟩ := hk2
         cases e3
         refine ⟨E, ys, e4, ?_⟩
         obtain ⟨cs1, h7, _⟩ := hi.obs n _ e4
         obtain ⟨cs2, h8, _⟩ := hob
         rw [h5] at h8
         exact own_len h7 h8
      ·exfalso
       have h4 : n ∈ used2 := by rw [← hr3]; exact List.mem_map.2 ⟨_, h1, rfl⟩
       rw [(hnewn n h4).1] at hf
       cases hf
     ·exact ⟨E, xs, h3, rfl⟩
    ·intro n hn
     by_cases hm : n ∈ used ++ used2
     ·rcases claim n hm with h | h
      ·omega
      ·exact h
     ·exact hout n hm
theorem back_ok {s1 : St} {ns : List Nat} {args : List Value} {tm : Array Value} {Zc : Nat → Prop} (hi : Inv w0 M Z0 w Z γ s1.ob) (hs : SlotsOK w Z γ s1.ob s1.sl tm) (hb : 1000 ≤ s1.b)
  (hzc : ∀ k, Zc k → Z k ∨ ((D.res.vr || D.par.inout.vr) = false ∧ k < w.heap.size))
  (hkinds : All2 (KOK s1.ob) D.par.kinds ns) (htop : D.par.TopA args (ns.map γ)) (hrn : nodupB (renew (D.par.keep ns) D.nst) = true)
  (hrk : renewOK (s1.withOb (delAll s1.ob ns)) (D.par.keep ns) D.nst = true) {d : Option Nat} {r : (D.res.T.app D.par.inout.T).D} {y : Slot} {l : List (Nat × Ob)}
  (hbk : backAny D (s1.withOb (delAll s1.ob ns)) (s1.id d) (renew (D.par.keep ns) D.nst) r = some (y, l)) (hbx0 : ∃ bx, D.par.inout.Bx w (D.par.io args) bx ∧ (pickB D.par.inout.bxs (D.par.keep ns)).map γ = bx.map ptrV) {v : Value} (h : Back D w Zc args (blks (ns.map γ)) r v w') :
  ∃ Zn γn, Inv w0 M Z0 w' Zn γn (putAll (delAll s1.ob ns) l) ∧ SlotOK w' Zn γn (putAll (delAll s1.ob ns) l) y v ∧ SlotsOK w' Zn γn (putAll (delAll s1.ob ns) l) s1.sl tm ∧ ∀ n, n < 1000 → γn n = γ n := by
 have hfl : (D.res.vr || D.par.inout.vr) = false → D.res.vr = false ∧ D.par.inout.vr = false := by
  intro h
  rw [Bool.or_eq_false_iff] at h
  exact h
 obtain ⟨Z', bsR, bsI, hfrm, hz', hres, hio, hnd, hex, hidn⟩ := h
 unfold backAny at hbk
 unfold ResOK at hres
 split at hbk
 ·rename_i ho
  rw [if_pos ho] at hres
  unfold backN at hbk
  split at hbk
  ·cases hbk
  ·rename_i c1 back rest1 hm1
   rcases hres with ⟨hn, rfl, rfl⟩ | ⟨hn, v0, hres⟩
   ·rw [hn] at hbk
    cases hbk
    have := back_core (d := d) (res := .nil) (xr := ()) (cs := []) (new := []) (vs := []) hi hs hb (fun h => ⟨rfl, (hfl h).2⟩) hzc hkinds htop hrn hrk hm1 rfl rfl hfrm hz' ⟨rfl, rfl⟩ hio (by simpa using hnd) (by simpa using hex) hidn hbx0
    rw [List.append_nil] at this
    obtain ⟨Zn, γn, h1, _, h3, h4⟩ := this
    exact ⟨Zn, γn, h1, rfl, h3, h4⟩
   ·rw [hn] at hbk
    simp only [cond_false] at hbk
    split at hbk
    ·rename_i c0 c new rest2 hm2
     split at hbk
     ·rename_i hnew
      cases hbk
      obtain ⟨Zn, γn, h1, h2, h3, h4⟩ := back_core (d := d) hi hs hb hfl hzc hkinds htop hrn hrk hm1 hm2 hnew hfrm hz' hres hio hnd hex hidn hbx0
      exact ⟨Zn, γn, h1, slotOf_ok h2.2.1, h3, h4⟩
     ·cases hbk
    ·cases hbk
 ·rename_i ho
  rw [if_neg ho] at hres
  obtain ⟨vs, hv, hres⟩ := hres
  unfold backOf at hbk
  split at hbk
  ·cases hbk
  ·rename_i c1 back rest1 hm1
   split at hbk
   ·cases hbk
   ·rename_i cs new rest2 hm2
    split at hbk
    ·rename_i hnew
     simp only [Option.some.injEq, Prod.mk.injEq] at hbk
     obtain ⟨hy, rfl⟩ := hbk
     obtain ⟨Zn, γn, h1, h2, h3, h4⟩ := back_core (d := d) hi hs hb hfl hzc hkinds htop hrn hrk hm1 hm2 hnew hfrm hz' hres hio hnd hex hidn hbx0
     exact ⟨Zn, γn, h1, by rw [hv]; exact res_slot hy h2, h3, h4⟩
    ·cases hbk
theorem id_b {s s' : St} (h : s'.b = s.b) (d : Option Nat) : s'.id d = s.id d := by unfold St.id; rw [h]
theorem isNil_eq {α : Type} {l : List α} (h : isNil l = true) : l = [] := by cases l <;> first | rfl | cases h
theorem callD_ok {d : Option Nat} {xs : List Operand} {as0 caps : List Slot} {x : D.par.T.D} {k : (D.res.T.app D.par.inout.T).D → Option (Slot × List (Nat × Ob))} (h : callD D s d xs as0 caps = some (s2, x, k))
  (hi : Inv w0 M Z0 w Z γ s.ob) (hs : SlotsOK w Z γ s.ob s.sl a.tmps) (hb : 1000 ≤ s.b) {cs : List Nat} (hcaps : caps = cs.map fun b => .lf (.p b 0)) (hcs : ∀ b ∈ cs, ∃ g, γ b = .pointer (some ⟨g, 0, none⟩)) :
  ∃ (Zc : Nat → Prop) (bs : List Nat), D.par.RepA w Zc x (xs.map a.eval ++ cs.map γ) bs ∧ bs.Nodup ∧ (∀ b ∈ bs, ¬ Zc b ∧ b < w.heap.size ∧ (b < w0.heap.size → M b)) ∧ (∀ b, Zc b → b < w.heap.size) ∧ s2.b = s.b ∧
   ∀ r y l v w', k r = some (y, l) → Back D w Zc (xs.map a.eval ++ cs.map γ) bs r v w' →
    ∃ Zn γn, Inv w0 M Z0 w' Zn γn (putAll s2.ob l) ∧ SlotOK w' Zn γn (putAll s2.ob l) y v ∧ SlotsOK w' Zn γn (putAll s2.ob l) s2.sl a.tmps ∧ ∀ n, n < 1000 → γn n = γ n := by
 unfold callD at h
 obtain ⟨s1, hs1⟩ : ∃ s1, s1 = (if (D.res.vr || D.par.inout.vr) = true then s.frzAll (D.par.valsA s.ob (as0 ++ caps)) else s) := ⟨_, rfl⟩
 simp only [← hs1] at h
 obtain ⟨Z1, _, hi1, hsl1, hb1⟩ : ∃ Z1, (∀ k, Z k → Z1 k) ∧ Inv w0 M Z0 w Z1 γ s1.ob ∧ SlotsOK w Z1 γ s1.ob s1.sl a.tmps ∧ s1.b = s.b := by
  rw [hs1]
  split
  ·obtain ⟨Z1, h1, h2, h3⟩ := frzAll_ok (D.par.valsA s.ob (as0 ++ caps)) hi hs
   exact ⟨Z1, h1, h2, h3, frzAll_b _ _⟩
  ·exact ⟨Z, fun _ h => h, hi, hs, rfl⟩
 split at h
 ·cases h
 ·rename_i as has
  split at h
  ·cases h
  ·rename_i x' ns hta
   split at h
   ·rename_i hnd
    split at h
    ·rename_i hok
     cases h
     simp only [Bool.and_eq_true, Bool.or_eq_true, Bool.not_eq_true'] at hok
     obtain ⟨⟨hrn, hrk⟩, hrows⟩ := hok
     have hcapsv : All2 (SlotOK w Z1 γ s1.ob) caps (cs.map γ) := by
      subst hcaps
      clear has hta hnd hrn hrk hrows hs1
      induction cs with
      | nil => trivial
      | cons b cs ih =>
       obtain ⟨g, hg⟩ := hcs b List.mem_cons_self
       exact ⟨⟨g, hg, hg⟩, ih fun b hb => hcs b (List.mem_cons_of_mem _ hb)⟩
     have hargs := All2.append (cellsOf_ok has hsl1) hcapsv
     let Zc : Nat → Prop := fun k => Z1 k ∨ ∃ r ∈ rowNames (D.par.valsA s1.ob (as ++ caps)), (look s1.ob r).isSome = true ∧ blkV (γ r) = some k
     obtain ⟨hrep, hkinds, htop⟩ := takeA_ok (Z' := Zc) hi1.obs (fun k hk => .inl hk) hta hargs fun r hr hl k hk => .inr ⟨r, hr, hl, hk⟩
     have hlive := kok_live hkinds
     have hnd' := nodupB_ok hnd
     obtain ⟨hnd1, _, hnd2⟩ := List.nodup_append.1 hnd'
     refine ⟨Zc, _, hrep, blks_nodup hnd1 fun n m b hn hm h1 h2 => ?_, ?_, ?_, hb1, ?_⟩
     ·obtain ⟨o, ho⟩ := hlive n hn
      obtain ⟨o', ho'⟩ := hlive m hm
      exact hi1.disj n m o o' b ho ho' h1 h2
     ·intro b hb
      obtain ⟨n, hn, hbn⟩ := mem_blks.1 hb
      obtain ⟨o, ho⟩ := hlive n hn
      refine ⟨?_, ob_lt (hi1.obs n o ho) hbn, (hi1.own n o b ho hbn).2⟩
      rintro (hz | ⟨r, hr, hrl, hrb⟩)
      ·exact (hi1.own n o b ho hbn).1 hz
      ·obtain ⟨o', ho'⟩ := Option.isSome_iff_exists.1 hrl
       have := hi1.disj n r o o' b ho ho' hbn hrb
       subst this
       exact hnd2 n hn n (mem_dedup _ [] (.inr hr)) rfl
     ·rintro b (hz | ⟨r, hr, hrl, hrb⟩)
      ·exact hi1.zlt b hz
      ·obtain ⟨o', ho'⟩ := Option.isSome_iff_exists.1 hrl
       exact ob_lt (hi1.obs r o' ho') hrb
     ·intro r y l v w' hk hbk
      have hbx0 : ∃ bx, D.par.inout.Bx w (D.par.io (xs.map a.eval ++ cs.map γ)) bx ∧ (pickB D.par.inout.bxs (D.par.keep ns)).map γ = bx.map ptrV := by
       obtain ⟨bx, g1, g2⟩ := takeA_bx hi1.obs hta hargs
       exact io_bx g1 g2 (by rw [← All2.length hkinds, kindss_len])
      refine back_ok (d := d) (tm := a.tmps) hi1 hsl1 (by rw [hb1]; exact hb) ?_ hkinds htop hrn hrk (by rw [id_b hb1]; exact hk) hbx0 hbk
      rintro k (hz | ⟨r', hr, hrl, hrb⟩)
      ·exact .inl hz
      ·rcases hrows with hrows | hrows
       ·obtain ⟨o', ho'⟩ := Option.isSome_iff_exists.1 hrl
        exact .inr ⟨hrows, ob_lt (hi1.obs r' o' ho') hrb⟩
       ·rw [isNil_eq hrows] at hr
        cases hr
    ·cases h
   ·cases h
end
end Go.GV
