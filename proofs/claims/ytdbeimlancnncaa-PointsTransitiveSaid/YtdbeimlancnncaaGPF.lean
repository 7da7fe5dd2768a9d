/- Lemmas and contracts of functions, several texts in one: RW PB PC. -/
import Derived.Test.YtdbeimlancnncaaGI
import Derived.Test.YtdbeimlancnncaaGPA
import Derived.Test.YtdbeimlancnncaaGPE
import Derived.Test.YtdbeimlancnncaaGY
/- Rows of one's own described anew: what their cells hold is frozen. -/
namespace Go.Proofs.Ytdbeimlancnncaa
open Go.RowKit
set_option linter.unusedVariables false
set_option linter.unusedSimpArgs false
theorem FrzL.len {H H' : Heap} : ∀ {ds es : List D}, FrzL H H' ds es → ds.length = es.length
  | [], [], _ => rfl
  | d :: ds, e :: es, h => by rw [List.length_cons, List.length_cons, FrzL.len h.2]
  | [], _ :: _, h => h.elim
  | _ :: _, [], h => h.elim
theorem FrzL.at {H H' : Heap} {w : World} (hH : HOk w H') {b : Nat} : ∀ {ds es : List D} {o : Nat}, FrzL H H' ds es → cellsAt w H'.others b o ds → cellsAt w H.others b o es
  | [], [], _, _, h => by simp only [cellsAt] at h ⊢
  | d :: ds, e :: es, o, hv, h => by
    simp only [cellsAt] at h ⊢
    obtain ⟨⟨u, h1, h2, h3⟩, h4⟩ := h
    exact ⟨⟨u, h1, h2, hv.1 w u hH h3⟩, FrzL.at hH hv.2 h4⟩
  | [], _ :: _, _, hv, _ => hv.elim
  | _ :: _, [], _, hv, _ => hv.elim
def FrzR (H H' : Heap) : List (List D) → List (List D) → Prop
  | [], [] => True
  | d :: ds, e :: es => FrzL H H' d e ∧ FrzR H H' ds es
  | _, _ => False
theorem FrzR.len {H H' : Heap} : ∀ {ds es : List (List D)}, FrzR H H' ds es → ds.length = es.length
  | [], [], _ => rfl
  | d :: ds, e :: es, h => by rw [List.length_cons, List.length_cons, FrzR.len h.2]
  | [], _ :: _, h => h.elim
  | _ :: _, [], h => h.elim
theorem FrzR.at {H H' : Heap} {w : World} (hH : HOk w H') {b sz : Nat} : ∀ {ds es : List (List D)} {o : Nat}, FrzR H H' ds es → rowsAt w H'.others b sz o ds → rowsAt w H.others b sz o es
  | [], [], _, _, h => by simp only [rowsAt] at h ⊢
  | d :: ds, e :: es, o, hv, h => by
    simp only [rowsAt] at h ⊢
    exact ⟨hv.1.len ▸ h.1, hv.1.at hH h.2.1, FrzR.at hH hv.2 h.2.2⟩
  | [], _ :: _, _, hv, _ => hv.elim
  | _ :: _, [], _, hv, _ => hv.elim
theorem frzl_same {H0 H' : Heap} (hd : Dom H0 H') : ∀ ds : List D, FrzL H0 H' ds ds
  | [] => trivial
  | _ :: ds => ⟨frz_same hd, frzl_same hd ds⟩
theorem frzr_same {H0 H' : Heap} (hd : Dom H0 H') : ∀ ds : List (List D), FrzR H0 H' ds ds
  | [] => trivial
  | d :: ds => ⟨frzl_same hd d, frzr_same hd ds⟩
theorem frzr_append {H0 H' : Heap} : ∀ {a a' b b' : List (List D)}, FrzR H0 H' a a' → FrzR H0 H' b b' → FrzR H0 H' (a ++ b) (a' ++ b')
  | [], [], _, _, _, h => h
  | d :: ds, e :: es, _, _, h, h2 => ⟨h.1, frzr_append h.2 h2⟩
  | [], _ :: _, _, _, h, _ => h.elim
  | _ :: _, [], _, _, h, _ => h.elim
theorem HOk.redescR {H0 H' : Heap} {w : World} (hd : Dom H0 H') (hH : HOk w H')
    (h : ∀ b x, H0 b = some x → H' b = some x ∨ ∃ t o sz els els', H' b = some (.row t o sz els) ∧ x = .row t o sz els' ∧ FrzR H0 H' els els') : HOk w H0 := fun b x hb => by
  rcases h b x hb with h | ⟨t, o, sz, els, els', h1, rfl, h2⟩
  · exact (ev_dom hd w).objAt rfl (hH b x h)
  · obtain ⟨cs, fr, e1, e2, e3, e4⟩ := hH b _ h1
    exact ⟨cs, fr, e1, e2, by rw [← h2.len]; exact e3, h2.at hH e4⟩
theorem W_redesc {cx : Cx} {c : Code} {Q : Exit → St → Prop} {s : St} (H0 : Heap) (hd : Dom H0 s.H)
    (h : ∀ b x, H0 b = some x → s.H b = some x ∨ ∃ t o sz els els', s.H b = some (.row t o sz els) ∧ x = .row t o sz els' ∧ FrzR H0 s.H els els') (hk : W cx c Q (s.withH H0)) : W cx c Q s := fun a w m =>
  hk a w ⟨m.n, m.df, fun t => D.is_keep (ev_dom hd w).kept _ (m.fr t), HOk.redescR hd m.H h, m.ev.trans (ev_dom hd w)⟩
/-- What a row holds is frozen with it. -/
theorem frz_rows {H H' : Heap} {b o sz n : Nat} {ty : TypeId} {els els' : List (List D)} (hd : Dom H H') (hb : H' b = some (.row ty o sz els)) (h0 : H b = none) (hn : n = els.length) (hr : FrzR H (H'.del b) els els') : Frz H H' (.os b o sz 0 n) (.seq sz els') := fun w v hH hv => by
  subst hn
  have h1 := frz_is hH hb (k := 0) (by omega) hv
  rw [List.drop_zero, List.take_length] at h1
  have hH2 : HOk w (H'.del b) := hH.less (fun c x hc => by
    by_cases e : c = b
    · rw [e, Heap.del_same] at hc; cases hc
    · rwa [Heap.del_ne e] at hc)
  simp only [D.is] at h1 ⊢
  obtain ⟨A, c, rfl, e1, e2⟩ := h1
  refine ⟨A, c, by rw [hr.len], by rw [← hr.len]; exact e1, ?_⟩
  rcases e2 with e2 | ⟨b2, o2, e3, e4, e5, e6⟩
  · left
    have := hr.len
    rw [e2] at this
    exact List.eq_nil_of_length_eq_zero this.symm
  · refine .inr ⟨b2, o2, e3, ?_, e5, hr.at hH2 e6⟩
    by_cases e : b2 = b
    · rw [e]; exact h0
    · refine hd b2 ?_
      have : (H'.del b) b2 = none := e4
      rwa [Heap.del_ne e] at this
end Go.Proofs.Ytdbeimlancnncaa
/- The laws of chapter 11: the body that they build. -/
namespace Go.Proofs.Ytdbeimlancnncaa
open Go.RowKit
set_option linter.unusedVariables false
set_option maxRecDepth 100000
set_option linter.unusedSimpArgs false
def zSt : List D := [i64 0, i64 0, .val (.slice none 0 0), i64 0, i64 0, i64 0, .val (.bool false), i64 0, .val (.slice none 0 0), .val (.slice none 0 0), i64 0]
def mkB (x : UInt8 × List Int) : GBlk := ⟨List.replicate x.1.toNat zSt, i64 0, x.2, .val (.slice none 0 0), i64 0, .val (.slice none 0 0), .val (.string ByteArray.empty)⟩
def mkBd (G : List (UInt8 × List Int)) : GBdy := ⟨.val (.string ByteArray.empty), .val (.slice none 0 0), .val (.slice none 0 0), .val (.slice none 0 0), .val (.slice none 0 0), i64 0, G.map mkB⟩
def grD (x : UInt8 × List Int) : List D := [.val (.int .u8 x.1.toNat), .seq 1 (x.2.map iD)]
def szB (x : UInt8 × List Int) : Nat := x.1.toNat + 1 + min x.2.length 500
def szG : List (UInt8 × List Int) → Nat
  | [] => 0
  | x :: G => szB x + szG G
theorem szG_append : ∀ (G G' : List (UInt8 × List Int)), szG (G ++ G') = szG G + szG G'
  | [], G' => by simp [szG]
  | x :: G, G' => by simp only [List.cons_append, szG]; rw [szG_append G G']; omega
theorem szG_take {G : List (UInt8 × List Int)} {i : Nat} (h : i < G.length) : szG (G.take (i + 1)) = szG (G.take i) + szB G[i] := by
  rw [List.take_succ_eq_append_getElem h, szG_append]; simp [szG]
theorem szG_le {G : List (UInt8 × List Int)} (i : Nat) : szG (G.take i) ≤ szG G := by
  have := szG_append (G.take i) (G.drop i)
  rw [List.take_append_drop] at this
  omega
theorem len_szG : ∀ G : List (UInt8 × List Int), G.length ≤ szG G
  | [] => by simp [szG]
  | x :: G => by have := len_szG G; simp only [List.length_cons, szG, szB]; omega
theorem mk_cnt (G : List (UInt8 × List Int)) : cntG (mkBd G).g ≤ szG G := by
  unfold mkBd GBdy.g
  simp only
  induction G with
  | nil => simp [cntG]
  | cons x G ih =>
    simp only [List.map_cons, cntG, szG, szB, mkB, List.length_replicate] at ih ⊢
    omega
theorem mk_tg {G : List (UInt8 × List Int)} (h : szG G ≤ 150) : ∀ x ∈ (mkBd G).bl, x.tg.length ≤ 1000000 := by
  intro x hx
  obtain ⟨y, hy, rfl⟩ := List.mem_map.1 (show x ∈ G.map mkB from hx)
  obtain ⟨i, hi, rfl⟩ := List.getElem_of_mem hy
  have h1 := szG_take hi
  have h2 := szG_le (G := G) (i + 1)
  unfold szB at h1
  show G[i].2.length ≤ _
  omega
/-- The cells of a block as it is made: its statements are a row of one's own. -/
def zBd (x : D) : List D := [.val (.string ByteArray.empty), .val (.slice none 0 0), .val (.slice none 0 0), .val (.slice none 0 0), .val (.slice none 0 0), i64 0, x]
def BdI (G : List (UInt8 × List Int)) (H : Heap) (c2 c4 : Nat) (i : Nat) (s : St) : Prop :=
  s.df = [] ∧ s.fr 2 = .ep c2 0 7 0 0 ∧ s.fr 4 = .ep c4 0 7 0 0 ∧ s.fr 5 = i64 (szG (G.take i)) ∧ s.fr 9 = .seq 2 (G.map grD) ∧ s.fr 10 = i64 G.length ∧ s.fr 11 = i64 i ∧ H.le s.H ∧ s.H c2 = some (.row 32 0 7 [zBd (.val (.slice none 0 0))]) ∧ szG (G.take i) ≤ 150 ∧
    ∃ x ob, s.H c4 = some (.row 32 0 7 [zBd x]) ∧ Gl H 58 7 ((G.take i).map fun y => gbkD (mkB y)) x s.H ob ∧ ob ≠ some c2 ∧ ob ≠ some c4
set_option maxHeartbeats 1000000 in
theorem body_N (G : List (UInt8 × List Int)) (H : Heap) (hl : G.length ≤ 140737488351232) (har : ∀ x ∈ G, x.2.length ≤ 140737488351232) : Does Try.prog 9 [.agg [.seq 2 (G.map grD)]] H fun d H' => d = (if szG G ≤ 150 then .tup [.agg (gbdD (mkBd G)), i64 1] else .tup [.agg (zBd (.val (.slice none 0 0))), i64 0]) ∧ H = H' := by
  refine Does.frz (K := fun d => d = (if szG G ≤ 150 then .tup [.agg (gbdD (mkBd G)), i64 1] else .tup [.agg (zBd (.val (.slice none 0 0))), i64 0])) ?_
  have hgl : (List.map grD G).length = G.length := List.length_map _
  refine does_of _ _ Try.func9 rfl rfl Try.ntmps9 Try.results9 (by simp only [List.length_cons, List.length_nil]; omega) fun w0 Q hret => ?_
  (have fs := @i64.eq_1; (repeat (first | refine hGx _ ?_ | refine hNx _ ?_ | refine W_skip ?_ | refine W_exit ?_ | refine W_ret ?_ | refine W_label ?_ | refine W_scope ?_ | refine W_block ?_ | refine W_seq ?_ | ((first | refine tS fun N hNx => ?_ | refine WL_gE rfl rfl (by kernel_rfl) (by kernel_rfl) fun G hGx => ?_ | refine vcOpsS_sound (by kernel_rfl) ?_ | refine W_ifE fun A B hAx hBx => ?_); refine evT ?_; (first | refine hGx _ ?_ | refine hNx _ ?_ | refine hAx ?_ | refine hBx ?_ | skip)))); (try clear fs))
  intro c1 hc1 c2 hc2
  have n21 : c2 ≠ c1 := (Heap.upd_none.1 hc2).1
  have hc20 : H c2 = none := (Heap.upd_none.1 hc2).2
  refine hNx _ ?_
  refine W_frzp 1 rfl ((Heap.upd_ne n21.symm).trans (Heap.upd_same _ _ _)) rfl ?_
  refine W_less (H.upd c2 (.row 32 0 7 [zBd (.val (.slice none 0 0))])) (fun x z hz => ?_) ?_
  · show (((H.upd c1 _).upd c2 _).del c1) x = _
    by_cases e2 : x = c2
    · subst e2
      rw [Heap.upd_same] at hz
      rw [Heap.del_ne n21, Heap.upd_same]
      exact hz
    rw [Heap.upd_ne e2] at hz
    have e1 : x ≠ c1 := fun e => by rw [e, hc1] at hz; cases hz
    rw [Heap.del_ne e1, Heap.upd_ne e2, Heap.upd_ne e1]
    exact hz
  simp only [St.frzp, List.drop]
  (have fs := @i64.eq_1; (repeat (first | refine hGx _ ?_ | refine hNx _ ?_ | refine W_skip ?_ | refine W_exit ?_ | refine W_ret ?_ | refine W_label ?_ | refine W_scope ?_ | refine W_block ?_ | refine W_seq ?_ | ((first | refine tS fun N hNx => ?_ | refine WL_gE rfl rfl (by kernel_rfl) (by kernel_rfl) fun G hGx => ?_ | refine vcOpsS_sound (by kernel_rfl) ?_ | refine W_ifE fun A B hAx hBx => ?_); refine evT ?_; (first | refine hGx _ ?_ | refine hNx _ ?_ | refine hAx ?_ | refine hBx ?_ | skip)))); (try clear fs))
  intro c4 hc4
  have n42 : c4 ≠ c2 := (Heap.upd_none.1 hc4).1
  have hc40 : H c4 = none := (Heap.upd_none.1 hc4).2
  refine hNx _ ?_
  (have fs := And.intro @i64.eq_1 hgl; (repeat (first | refine hGx _ ?_ | refine hNx _ ?_ | refine W_skip ?_ | refine W_exit ?_ | refine W_ret ?_ | refine W_label ?_ | refine W_scope ?_ | refine W_block ?_ | refine W_seq ?_ | ((first | refine tS fun N hNx => ?_ | refine WL_gE rfl rfl (by kernel_rfl) (by kernel_rfl) fun G hGx => ?_ | refine vcOpsS_sound (by kernel_rfl) ?_ | refine W_ifE fun A B hAx hBx => ?_); refine evT ?_; (first | refine hGx _ ?_ | refine hNx _ ?_ | refine hAx ?_ | refine hBx ?_ | skip)))); (try clear fs))
  refine W_loopN G.length (BdI G H c2 c4) ⟨rfl, rfl, rfl, rfl, rfl, rfl, rfl, Heap.le_put (Heap.le_put (Heap.le_refl _) hc20) hc40, (Heap.upd_ne n42.symm).trans (Heap.upd_same _ _ _), Nat.zero_le _, _, none, Heap.upd_same _ _ _, Gl.nil _ _ _ _, by simp, by simp⟩ ?_
  rintro i s hi ⟨hdf, f2, f4, f5, f9, f10, f11, hle, h2, hsz, xs, ob, h4, hg, hob2, hob4⟩
  have hx : (i : Int).toNat = i := Int.toNat_natCast _
  have h00 : (0 : Int) ≤ (i : Int) := Int.natCast_nonneg _
  by_cases hil : i < G.length
  case neg =>
    have q1 : ((i : Int) < (G.length : Int)) = False := eq_false (by omega)
    rw [List.take_of_length_le (by omega)] at hsz hg
    have e : G.map (fun y => gbkD (mkB y)) = (mkBd G).bl.map gbkD := by unfold mkBd; simp only [List.map_map]; rfl
    rw [e] at hg
    (have fs := And.intro f2 (And.intro f4 (And.intro f10 (And.intro f11 (And.intro @i64.eq_1 (And.intro q1 (And.intro h2 (And.intro h4 @zBd.eq_1))))))); (repeat (first | refine hGx _ ?_ | refine hNx _ ?_ | refine W_skip ?_ | refine W_exit ?_ | refine W_ret ?_ | refine W_label ?_ | refine W_scope ?_ | refine W_block ?_ | refine W_seq ?_ | ((first | refine tS fun N hNx => ?_ | refine WL_gE rfl rfl (by kernel_rfl) (by kernel_rfl) fun G hGx => ?_ | refine vcOpsS_sound (by kernel_rfl) ?_ | refine W_ifE fun A B hAx hBx => ?_); refine evT ?_; (first | refine hGx _ ?_ | refine hNx _ ?_ | refine hAx ?_ | refine hBx ?_ | skip)))); (try clear fs))
    (first | (show Q .ret _) | (show Q .normal _) | skip); refine hret _ _ (by first | exact .inr rfl | exact .inl rfl) (by first | rfl | assumption | (simp only [put_df, withH_df]; assumption)) ?_; have fs := f2; refine evT ?_; clear fs
    have hle2 : ∀ z, H.le (s.H.upd c2 z) := fun z => Heap.le_put hle hc20
    have hg2 : ∀ z, Gl H 58 7 ((mkBd G).bl.map gbkD) xs (s.H.upd c2 z) ob := fun z => hg.keep fun c h => Heap.upd_ne fun e => hob2 (by rw [h, e])
    refine ⟨_, Heap.le_refl _, hle2 _, .tup [.agg (gbdD (mkBd G)), i64 1], frz_tup (frz2 (frz_agg ⟨frz_refl (hle2 _), frz_refl (hle2 _), frz_refl (hle2 _), frz_refl (hle2 _), frz_refl (hle2 _), frz_refl (hle2 _), frz_gl (hle2 _) (hg2 _), trivial⟩) (frz_refl (hle2 _))), by rw [if_pos hsz]⟩
  have q1 : ((i : Int) < (G.length : Int)) = True := eq_true (by omega)
  have hil' : (i : Int) < (G.length : Int) := by omega
  have htk := szG_take hil
  have htl := szG_le (G := G) (i + 1)
  have hgi : (G.map grD)[i]? = some (grD G[i]) := by rw [List.getElem?_map, List.getElem?_eq_getElem hil]; rfl
  have htk2 := List.take_succ_eq_append_getElem hil
  have hlx := har G[i] (List.getElem_mem hil)
  obtain ⟨x, hxe⟩ : ∃ x, x = G[i] := ⟨_, rfl⟩
  rw [← hxe] at htk hgi htk2 hlx
  obtain ⟨u, tg⟩ := x
  have hu := u.toNat_lt
  have htgl : (List.map iD tg).length = tg.length := List.length_map _
  obtain ⟨m, hm⟩ : ∃ m : Int, m = min (tg.length : Int) 500 := ⟨_, rfl⟩
  have hm0 : 0 ≤ m ∧ m ≤ 500 := by omega
  have hszb : (szB (u, tg) : Int) = (u.toNat : Int) + 1 + m := by unfold szB; simp only; omega
  simp only [grD] at hgi
  have w1 : IntKind.i64.wrap (u.toNat : Int) = (u.toNat : Int) := by rw [wrap_i64_of (by omega)]
  have w2 : IntKind.i64.wrap ((u.toNat : Int) + 1) = (u.toNat : Int) + 1 := by rw [wrap_i64_of (by omega)]
  have w3 : IntKind.i64.wrap ((u.toNat : Int) + 1 + m) = (u.toNat : Int) + 1 + m := by rw [wrap_i64_of (by omega)]
  have w4 : IntKind.i64.wrap ((szG (G.take i) : Int) + ((u.toNat : Int) + 1 + m)) = (szG (G.take (i + 1)) : Int) := by rw [wrap_i64_of (by omega)]; omega
  (have fs := And.intro f9 (And.intro f10 (And.intro f11 (And.intro @i64.eq_1 (And.intro q1 (And.intro hgi (And.intro hx (And.intro h00 (And.intro hil' hgl)))))))); (repeat (first | refine hGx _ ?_ | refine hNx _ ?_ | refine W_skip ?_ | refine W_exit ?_ | refine W_ret ?_ | refine W_label ?_ | refine W_scope ?_ | refine W_block ?_ | refine W_seq ?_ | ((first | refine tS fun N hNx => ?_ | refine WL_gE rfl rfl (by kernel_rfl) (by kernel_rfl) fun G hGx => ?_ | refine vcOpsS_sound (by kernel_rfl) ?_ | refine W_ifE fun A B hAx hBx => ?_); refine evT ?_; (first | refine hGx _ ?_ | refine hNx _ ?_ | refine hAx ?_ | refine hBx ?_ | skip)))); (try clear fs))
  intro c7 hc7
  refine hNx _ ?_
  refine W_frzp 7 rfl (Heap.upd_same _ _ _) rfl ?_; simp only [St.frzp, put_H, wdf_H, withH_H, withH_put, wdf_withH, withH_withH, init_H, init_withH, Heap.del_upd_same, Heap.del_none hc7, withH_self]
  by_cases hbig : 150 < szG (G.take (i + 1))
  · have q2 : ((150 : Int) < (szG (G.take (i + 1)) : Int)) = True := eq_true (by omega)
    (have fs := And.intro f5 (And.intro f2 (And.intro @i64.eq_1 (And.intro w1 (And.intro w2 (And.intro w3 (And.intro w4 (And.intro @hm.symm (And.intro htgl (And.intro q2 (And.intro h2 @zBd.eq_1)))))))))); (repeat (first | refine hGx _ ?_ | refine hNx _ ?_ | refine W_skip ?_ | refine W_exit ?_ | refine W_ret ?_ | refine W_label ?_ | refine W_scope ?_ | refine W_block ?_ | refine W_seq ?_ | ((first | refine tS fun N hNx => ?_ | refine WL_gE rfl rfl (by kernel_rfl) (by kernel_rfl) fun G hGx => ?_ | refine vcOpsS_sound (by kernel_rfl) ?_ | refine W_ifE fun A B hAx hBx => ?_); refine evT ?_; (first | refine hGx _ ?_ | refine hNx _ ?_ | refine hAx ?_ | refine hBx ?_ | skip)))); (try clear fs))
    (first | (show Q .ret _) | (show Q .normal _) | skip); refine hret _ _ (by first | exact .inr rfl | exact .inl rfl) (by first | rfl | assumption | (simp only [put_df, withH_df]; assumption)) ?_; have fs := f2; refine evT ?_; clear fs
    have hle2 : ∀ z, H.le (s.H.upd c2 z) := fun z => Heap.le_put hle hc20
    refine ⟨_, Heap.le_refl _, hle2 _, _, frz_refl (hle2 _), by rw [if_neg (by omega)]; rfl⟩
  have q2 : ((150 : Int) < (szG (G.take (i + 1)) : Int)) = False := eq_false (by omega)
  (have fs := And.intro f5 (And.intro f2 (And.intro @i64.eq_1 (And.intro w1 (And.intro w2 (And.intro w3 (And.intro w4 (And.intro @hm.symm (And.intro htgl q2)))))))); (repeat (first | refine hGx _ ?_ | refine hNx _ ?_ | refine W_skip ?_ | refine W_exit ?_ | refine W_ret ?_ | refine W_label ?_ | refine W_scope ?_ | refine W_block ?_ | refine W_seq ?_ | ((first | refine tS fun N hNx => ?_ | refine WL_gE rfl rfl (by kernel_rfl) (by kernel_rfl) fun G hGx => ?_ | refine vcOpsS_sound (by kernel_rfl) ?_ | refine W_ifE fun A B hAx hBx => ?_); refine evT ?_; (first | refine hGx _ ?_ | refine hNx _ ?_ | refine hAx ?_ | refine hBx ?_ | skip)))); (try clear fs))
  have ha4 : ∀ b z, s.H b = none → (s.H.upd b z) c4 = some (.row 32 0 7 [zBd xs]) := fun b z hb => (Heap.upd_ne (Heap.ne_of h4 hb)).trans h4
  have ha2 : ∀ b z, s.H b = none → (s.H.upd b z) c2 = some (.row 32 0 7 [zBd (.val (.slice none 0 0))]) := fun b z hb => (Heap.upd_ne (Heap.ne_of h2 hb)).trans h2
  have htl2 := len_szG (G.take i)
  rw [List.length_take] at htl2
  refine W_wildE (fun _ => false) (fun _ => false) (fun _ _ _ _ => False) (fun _ _ _ _ _ => False) (by kernel_rfl) (by kernel_rfl) (by kernel_rfl) (by kernel_rfl) (by kernel_rfl) fun N hNx => ?_; refine vcWS_to ?_; have fs := And.intro f4 (And.intro @i64.eq_1 (And.intro h4 @zBd.eq_1)); refine evD ?_; (first | refine hGx _ ?_ | refine hNx _ ?_ | skip); (try clear fs)
  refine ⟨by omega, by omega, by omega, fun b3 hb3 => ?_⟩
  have hb30 : H b3 = none := Heap.none_of hle hb3
  refine apV_grow (e := 58) ty30 rfl ty30 rfl ty58 rfl (by decide) (Heap.le_put hle hb30) (hg.new hb3) (new := [[.os b3 0 11 0 u.toNat, i64 0, .seq 1 (tg.map iD), .val (.slice none 0 0), i64 0, .val (.slice none 0 0), .val (.string ByteArray.empty)]]) (by exact ⟨rfl, rfl⟩) (by rw [List.length_map, List.length_take]; show (_ + 1) * 128 ≤ _; omega) fun d H6 ob6 hg6 hle6 hp6 => ?_
  have k4 := hp6 c4 _ (ha4 b3 _ hb3) hob4
  have k2 := hp6 c2 _ (ha2 b3 _ hb3) hob2
  have hob3 : ob ≠ some b3 := fun e => by
    rcases hg with ⟨h, _⟩ | ⟨c, o, h, _, _, h5⟩
    · rw [h] at e; cases e
    · rw [h] at e; injection e with e; rw [e, hb3] at h5; cases h5
  have k3 := hp6 b3 _ (Heap.upd_same _ _ _) hob3
  have k41 := k4.1
  simp only [zBd] at k41
  obtain ⟨c', o', rfl, hob6, hc'0, hHc'⟩ : ∃ c o, d = .os c o 7 0 (i + 1) ∧ ob6 = some c ∧ H c = none ∧ H6 c = some (.row 58 o 7 (((G.take i).map fun y => gbkD (mkB y)) ++ [[.os b3 0 11 0 u.toNat, i64 0, .seq 1 (tg.map iD), .val (.slice none 0 0), i64 0, .val (.slice none 0 0), .val (.string ByteArray.empty)]])) := by
    rcases hg6 with ⟨_, _, h⟩ | ⟨c, o, h0, h1, h2, h3⟩
    · simp at h
    · exact ⟨c, o, by rw [h1, List.length_append, List.length_map, List.length_take, List.length_singleton, Nat.min_eq_left (by omega)], h0, h2, h3⟩
  have n34 : b3 ≠ c4 := fun e => by rw [e, h4] at hb3; cases hb3
  have nc3 : c' ≠ b3 := fun e => k3.2 (by rw [hob6, e])
  have nc4 : c' ≠ c4 := fun e => k4.2 (by rw [hob6, e])
  have nc2 : c' ≠ c2 := fun e => k2.2 (by rw [hob6, e])
  have n32 : b3 ≠ c2 := fun e => by rw [e, h2] at hb3; cases hb3
  (have fs := And.intro @i64.eq_1 k41; refine evT ?_; try clear fs); (first | refine hGx _ ?_ | refine hNx _ ?_ | skip)
  simp only [blockQ_n, thenQ_n]
  have w5 : IntKind.i64.wrap ((i : Int) + 1) = ((i + 1 : Nat) : Int) := by rw [wrap_i64_of (by omega)]; omega
  obtain ⟨HX, hHX⟩ : ∃ HX, HX = H6.upd c4 (.row 32 0 7 [zBd (.os c' o' 7 0 (i + 1))]) := ⟨_, rfl⟩
  have hX3 : HX b3 = some (.row 67 0 11 (List.replicate u.toNat zSt)) := by rw [hHX]; exact (Heap.upd_ne n34).trans k3.1
  have hXc : HX c' = some (.row 58 o' 7 (((G.take i).map fun y => gbkD (mkB y)) ++ [[.os b3 0 11 0 u.toNat, i64 0, .seq 1 (tg.map iD), .val (.slice none 0 0), i64 0, .val (.slice none 0 0), .val (.string ByteArray.empty)]])) := by rw [hHX]; exact (Heap.upd_ne nc4).trans hHc'
  obtain ⟨HY, hHY⟩ : ∃ HY, HY = (HX.del b3).upd c' (.row 58 o' 7 ((G.take (i + 1)).map fun y => gbkD (mkB y))) := ⟨_, rfl⟩
  have hdom : Dom HY HX := fun b hb => by
    have hb1 : b ≠ c' := fun e => by rw [e, hXc] at hb; cases hb
    rw [hHY, Heap.upd_ne hb1]
    by_cases e : b = b3
    · rw [e, Heap.del_same]
    · rw [Heap.del_ne e]; exact hb
  have hfr : FrzR HY HX (((G.take i).map fun y => gbkD (mkB y)) ++ [[.os b3 0 11 0 u.toNat, i64 0, .seq 1 (tg.map iD), .val (.slice none 0 0), i64 0, .val (.slice none 0 0), .val (.string ByteArray.empty)]]) ((G.take (i + 1)).map fun y => gbkD (mkB y)) := by
    rw [htk2, List.map_append]
    refine frzr_append (frzr_same hdom _) ⟨⟨?_, frzl_same hdom _⟩, trivial⟩
    have := frz_rowD (k := 0) (n := u.toNat) hdom hX3 (by rw [hHY, Heap.upd_ne nc3.symm, Heap.del_same]) (by rw [List.length_replicate]; omega)
    rw [List.drop_zero, List.take_of_length_le (Nat.le_of_eq List.length_replicate)] at this
    exact this
  have hrd : ∀ b x, HY b = some x → HX b = some x ∨ ∃ t o sz els els', HX b = some (.row t o sz els) ∧ x = .row t o sz els' ∧ FrzR HY HX els els' := fun b x hbx => by
    by_cases e : b = c'
    · subst e
      rw [hHY, Heap.upd_same] at hbx
      injection hbx with hbx
      exact .inr ⟨_, _, _, _, _, hXc, hbx.symm, hfr⟩
    · rw [hHY, Heap.upd_ne e] at hbx
      by_cases e3 : b = b3
      · rw [e3, Heap.del_same] at hbx; cases hbx
      · rw [Heap.del_ne e3] at hbx
        exact .inl hbx
  rw [hHX] at hdom hrd
  refine W_redesc HY hdom hrd ?_
  (have fs := And.intro f11 (And.intro @i64.eq_1 w5); (repeat (first | refine hGx _ ?_ | refine hNx _ ?_ | refine W_skip ?_ | refine W_exit ?_ | refine W_ret ?_ | refine W_label ?_ | refine W_scope ?_ | refine W_block ?_ | refine W_seq ?_ | ((first | refine tS fun N hNx => ?_ | refine WL_gE rfl rfl (by kernel_rfl) (by kernel_rfl) fun G hGx => ?_ | refine vcOpsS_sound (by kernel_rfl) ?_ | refine W_ifE fun A B hAx hBx => ?_); refine evT ?_; (first | refine hGx _ ?_ | refine hNx _ ?_ | refine hAx ?_ | refine hBx ?_ | skip)))); (try clear fs))
  refine ⟨hil, hdf, f2, f4, rfl, f9, f10, rfl, ?_, ?_, by omega, .os c' o' 7 0 (i + 1), some c', ?_, .inr ⟨c', o', rfl, ?_, hc'0, by rw [← Heap.upd_same (HX.del b3) c' (.row 58 o' 7 ((G.take (i + 1)).map fun y => gbkD (mkB y))), ← hHY]; rfl⟩, (fun e => nc2 (by injection e)), (fun e => nc4 (by injection e))⟩
  · intro b x hb
    have e1 : b ≠ c' := fun e => by rw [e, hc'0] at hb; cases hb
    have e2 : b ≠ b3 := fun e => by rw [e, hb30] at hb; cases hb
    have e3 : b ≠ c4 := fun e => by rw [e, hc40] at hb; cases hb
    show HY b = _
    rw [hHY, hHX, Heap.upd_ne e1, Heap.del_ne e2, Heap.upd_ne e3]
    exact hle6 b x hb
  · show HY c2 = _
    rw [hHY, hHX, Heap.upd_ne nc2.symm, Heap.del_ne n32.symm, Heap.upd_ne n42.symm]
    exact k2.1
  · show HY c4 = _
    rw [hHY, hHX, Heap.upd_ne nc4.symm, Heap.del_ne n34.symm, Heap.upd_same]
  · rw [List.length_map, List.length_take, Nat.min_eq_left (by omega)]
end Go.Proofs.Ytdbeimlancnncaa
/- The laws of chapter 11: the example of the chapter; arguments. -/
namespace Go.Proofs.Ytdbeimlancnncaa
open Go.RowKit
set_option linter.unusedVariables false
set_option maxRecDepth 100000
set_option linter.unusedSimpArgs false
theorem imp_rp {ds es : List D} (h : ImpL ds es) : Imp (.rp ds) (.rp es) := fun w S v hv => by
  simp only [D.is] at hv ⊢
  obtain ⟨b, o, h1, h2, h3, h4⟩ := hv
  exact ⟨b, o, h1, h2, h3, h.at h4⟩
def aB : GBdy := ⟨.val (.string ByteArray.empty), .val (.slice none 0 0), .val (.slice none 0 0), .val (.slice none 0 0), .val (.slice none 0 0), i64 0,
  [⟨[zSt], i64 0, [1], .val (.slice none 0 0), i64 0, .val (.slice none 0 0), .val (.string ByteArray.empty)⟩, ⟨[], i64 2, [], .val (.slice none 0 0), i64 0, .val (.slice none 0 0), .val (.string ByteArray.empty)⟩]⟩
def aG : Gr := [(1, [1]), (0, [])]
theorem aB_g : aB.g = aG := rfl
theorem aB_tg : ∀ x ∈ aB.bl, x.tg.length ≤ 1000000 := by
  intro x hx
  have : x ∈ [(⟨[zSt], i64 0, [1], .val (.slice none 0 0), i64 0, .val (.slice none 0 0), .val (.string ByteArray.empty)⟩ : GBlk), ⟨[], i64 2, [], .val (.slice none 0 0), i64 0, .val (.slice none 0 0), .val (.string ByteArray.empty)⟩] := hx
  simp only [List.mem_cons, List.mem_nil_iff, or_false] at this
  rcases this with rfl | rfl <;> decide
theorem aG0 : At aG 0 0 0 := ⟨by decide, by decide, rfl⟩
theorem aG1 : At aG 1 0 1 := ⟨by decide, by decide, rfl⟩
theorem aG2 : At aG 2 1 0 := ⟨by decide, by decide, rfl⟩
theorem aN0 : nxt aG 0 = [1] := nxt_in aG0 (by decide) (by decide)
theorem aN1 : nxt aG 1 = [2] := by
  refine strict_eq (nxt_strict _ _) (by simp) fun q => ?_
  rw [mem_nxt, fol_at aG1, List.mem_singleton]
  constructor
  · rintro ⟨_, ⟨h, _⟩ | ⟨_, t, ht, _, _, e⟩⟩
    · exact absurd (show 1 < 1 from h) (by decide)
    · have : t = 1 := by simpa [aG] using ht
      subst this
      exact e
  · intro e
    exact ⟨by decide, .inr ⟨rfl, 1, by decide, by decide, by decide, e⟩⟩
theorem aN2 : nxt aG 2 = [] := by
  refine strict_eq (nxt_strict _ _) (by simp) fun q => ?_
  rw [mem_nxt, fol_at aG2]
  constructor
  · rintro ⟨_, ⟨h, _⟩ | ⟨_, t, ht, _⟩⟩
    · exact absurd (show 0 < 0 from h) (by decide)
    · simp [aG] at ht
  · intro e; cases e
theorem aE : edgs aG = [(0, 1), (1, 2)] := by
  have h : ups (cntG aG) = [0, 1, 2] := by decide
  unfold edgs
  rw [h]
  simp only [List.flatMap_cons, List.flatMap_nil, aN0, aN1, aN2]
  rfl
theorem aR02 : reaB aG 0 2 = true := reaB_t.2 (.step (b := 1) (.one (mem_nxt.1 (by rw [aN0]; simp))) (mem_nxt.1 (by rw [aN1]; simp)))
theorem aR20 : reaB aG 2 0 = false := reaB_f.2 fun h => by
  have h2 : (0 : Int) ∈ ([] : List Int) := rea_closed (fun x hx => by have := mem_nxt.2 hx; rwa [aN2] at this) (by simp) h
  cases h2
theorem aI : idxD aB 1 0 = .tup [i64 2, .val (.bool true)] := by
  rw [idxD_t ⟨⟨by decide, by decide⟩, by decide, by decide⟩]; rfl
set_option maxHeartbeats 2000000 in
theorem alive11_at (H : Heap) : Does Try.prog 10 [] H fun d H' => d = .val (.bool true) ∧ H = H' := by
  have hc : cntG aB.g ≤ 1000000 := by decide
  have hta := aB_tg
  refine does_of _ _ Try.func10 rfl rfl Try.ntmps10 Try.results10 (by simp only [List.length_cons, List.length_nil]; omega) fun w0 Q hret => ?_
  (have fs := @i64.eq_1; (repeat (first | refine hGx _ ?_ | refine hNx _ ?_ | refine W_skip ?_ | refine W_exit ?_ | refine W_ret ?_ | refine W_label ?_ | refine W_scope ?_ | refine W_block ?_ | refine W_seq ?_ | ((first | refine tS fun N hNx => ?_ | refine WL_gE rfl rfl (by kernel_rfl) (by kernel_rfl) fun G hGx => ?_ | refine vcOpsS_sound (by kernel_rfl) ?_ | refine W_ifE fun A B hAx hBx => ?_); refine evT ?_; (first | refine hGx _ ?_ | refine hNx _ ?_ | refine hAx ?_ | refine hBx ?_ | skip)))); (try clear fs))
  intro c1 hc1
  refine hNx _ ?_
  refine W_frzp 1 rfl (Heap.upd_same _ _ _) rfl ?_; simp only [St.frzp, put_H, wdf_H, withH_H, withH_put, wdf_withH, withH_withH, init_H, init_withH, Heap.del_upd_same, Heap.del_none hc1, withH_self]
  refine W_as 1 (.rp (gbdD aB)) (fun w v hv => imp_rp ?_ _ _ _ hv) ?_
  · exact ⟨imp_refl _, imp_refl _, imp_refl _, imp_refl _, imp_refl _, imp_refl _, imp_seq ⟨impl_refl _, ⟨imp_nil, imp_refl _, imp_nil, imp_refl _, imp_refl _, imp_refl _, imp_refl _, trivial⟩, trivial⟩, trivial⟩
  simp only [gbdD]
  (have fs := @i64.eq_1; (repeat (first | refine hGx _ ?_ | refine hNx _ ?_ | refine W_skip ?_ | refine W_exit ?_ | refine W_ret ?_ | refine W_label ?_ | refine W_scope ?_ | refine W_block ?_ | refine W_seq ?_ | ((first | refine tS fun N hNx => ?_ | refine WL_gE rfl rfl (by kernel_rfl) (by kernel_rfl) fun G hGx => ?_ | refine vcOpsS_sound (by kernel_rfl) ?_ | refine W_ifE fun A B hAx hBx => ?_); refine evT ?_; (first | refine hGx _ ?_ | refine hNx _ ?_ | refine hAx ?_ | refine hBx ?_ | skip)))); (try clear fs))
  refine ((index_N aB 1 0 _ hc)).mono ?_; rintro d _ ⟨rfl, rfl⟩
  rw [aI]
  (have fs := @i64.eq_1; (repeat (first | refine hGx _ ?_ | refine hNx _ ?_ | refine W_skip ?_ | refine W_exit ?_ | refine W_ret ?_ | refine W_label ?_ | refine W_scope ?_ | refine W_block ?_ | refine W_seq ?_ | ((first | refine tS fun N hNx => ?_ | refine WL_gE rfl rfl (by kernel_rfl) (by kernel_rfl) fun G hGx => ?_ | refine vcOpsS_sound (by kernel_rfl) ?_ | refine W_ifE fun A B hAx hBx => ?_); refine evT ?_; (first | refine hGx _ ?_ | refine hNx _ ?_ | refine hAx ?_ | refine hBx ?_ | skip)))); (try clear fs))
  refine ((loc_N aB 1 _ hc (by decide))).mono ?_; rintro d _ ⟨rfl, rfl⟩
  rw [aB_g, locD_at aG1]
  (have fs := @i64.eq_1; (repeat (first | refine hGx _ ?_ | refine hNx _ ?_ | refine W_skip ?_ | refine W_exit ?_ | refine W_ret ?_ | refine W_label ?_ | refine W_scope ?_ | refine W_block ?_ | refine W_seq ?_ | ((first | refine tS fun N hNx => ?_ | refine WL_gE rfl rfl (by kernel_rfl) (by kernel_rfl) fun G hGx => ?_ | refine vcOpsS_sound (by kernel_rfl) ?_ | refine W_ifE fun A B hAx hBx => ?_); refine evT ?_; (first | refine hGx _ ?_ | refine hNx _ ?_ | refine hAx ?_ | refine hBx ?_ | skip)))); (try clear fs))
  refine ((count_N aB _ hc)).mono ?_; rintro d _ ⟨rfl, rfl⟩
  rw [aB_g, show cntG aG = 3 from rfl]
  (have fs := @i64.eq_1; refine evT ?_; try clear fs); (first | refine hGx _ ?_ | refine hNx _ ?_ | skip)
  (have fs := @i64.eq_1; (repeat (first | refine hGx _ ?_ | refine hNx _ ?_ | refine W_skip ?_ | refine W_exit ?_ | refine W_ret ?_ | refine W_label ?_ | refine W_scope ?_ | refine W_block ?_ | refine W_seq ?_ | ((first | refine tS fun N hNx => ?_ | refine WL_gE rfl rfl (by kernel_rfl) (by kernel_rfl) fun G hGx => ?_ | refine vcOpsS_sound (by kernel_rfl) ?_ | refine W_ifE fun A B hAx hBx => ?_); refine evT ?_; (first | refine hGx _ ?_ | refine hNx _ ?_ | refine hAx ?_ | refine hBx ?_ | skip)))); (try clear fs))
  refine ((edges_N aB _ hc hta)).mono ?_; rintro d _ ⟨rfl, rfl⟩
  rw [aB_g, aE]
  (have fs := @i64.eq_1; (repeat (first | refine hGx _ ?_ | refine hNx _ ?_ | refine W_skip ?_ | refine W_exit ?_ | refine W_ret ?_ | refine W_label ?_ | refine W_scope ?_ | refine W_block ?_ | refine W_seq ?_ | ((first | refine tS fun N hNx => ?_ | refine WL_gE rfl rfl (by kernel_rfl) (by kernel_rfl) fun G hGx => ?_ | refine vcOpsS_sound (by kernel_rfl) ?_ | refine W_ifE fun A B hAx hBx => ?_); refine evT ?_; (first | refine hGx _ ?_ | refine hNx _ ?_ | refine hAx ?_ | refine hBx ?_ | skip)))); (try clear fs))
  refine ((equalP_at _ [(0, 1), (1, 2)] [(0, 1), (1, 2)] (by decide))).mono ?_; rintro d _ ⟨rfl, rfl⟩
  rw [decide_eq_true rfl]
  (have fs := @i64.eq_1; (repeat (first | refine hGx _ ?_ | refine hNx _ ?_ | refine W_skip ?_ | refine W_exit ?_ | refine W_ret ?_ | refine W_label ?_ | refine W_scope ?_ | refine W_block ?_ | refine W_seq ?_ | ((first | refine tS fun N hNx => ?_ | refine WL_gE rfl rfl (by kernel_rfl) (by kernel_rfl) fun G hGx => ?_ | refine vcOpsS_sound (by kernel_rfl) ?_ | refine W_ifE fun A B hAx hBx => ?_); refine evT ?_; (first | refine hGx _ ?_ | refine hNx _ ?_ | refine hAx ?_ | refine hBx ?_ | skip)))); (try clear fs))
  refine ((pnext_N aB 0 _ hc (by decide) hta)).mono ?_; rintro d _ ⟨rfl, rfl⟩
  rw [aB_g, aN0]
  (have fs := @i64.eq_1; (repeat (first | refine hGx _ ?_ | refine hNx _ ?_ | refine W_skip ?_ | refine W_exit ?_ | refine W_ret ?_ | refine W_label ?_ | refine W_scope ?_ | refine W_block ?_ | refine W_seq ?_ | ((first | refine tS fun N hNx => ?_ | refine WL_gE rfl rfl (by kernel_rfl) (by kernel_rfl) fun G hGx => ?_ | refine vcOpsS_sound (by kernel_rfl) ?_ | refine W_ifE fun A B hAx hBx => ?_); refine evT ?_; (first | refine hGx _ ?_ | refine hNx _ ?_ | refine hAx ?_ | refine hBx ?_ | skip)))); (try clear fs))
  refine ((equalI_at _ [1] [1] (by decide))).mono ?_; rintro d _ ⟨rfl, rfl⟩
  rw [decide_eq_true rfl]
  (have fs := @i64.eq_1; (repeat (first | refine hGx _ ?_ | refine hNx _ ?_ | refine W_skip ?_ | refine W_exit ?_ | refine W_ret ?_ | refine W_label ?_ | refine W_scope ?_ | refine W_block ?_ | refine W_seq ?_ | ((first | refine tS fun N hNx => ?_ | refine WL_gE rfl rfl (by kernel_rfl) (by kernel_rfl) fun G hGx => ?_ | refine vcOpsS_sound (by kernel_rfl) ?_ | refine W_ifE fun A B hAx hBx => ?_); refine evT ?_; (first | refine hGx _ ?_ | refine hNx _ ?_ | refine hAx ?_ | refine hBx ?_ | skip)))); (try clear fs))
  refine ((reach_N aB 0 2 _ hc hta ⟨by decide, by decide⟩ ⟨by decide, by decide⟩)).mono ?_; rintro d _ ⟨rfl, rfl⟩
  rw [aB_g, aR02]
  (have fs := @i64.eq_1; (repeat (first | refine hGx _ ?_ | refine hNx _ ?_ | refine W_skip ?_ | refine W_exit ?_ | refine W_ret ?_ | refine W_label ?_ | refine W_scope ?_ | refine W_block ?_ | refine W_seq ?_ | ((first | refine tS fun N hNx => ?_ | refine WL_gE rfl rfl (by kernel_rfl) (by kernel_rfl) fun G hGx => ?_ | refine vcOpsS_sound (by kernel_rfl) ?_ | refine W_ifE fun A B hAx hBx => ?_); refine evT ?_; (first | refine hGx _ ?_ | refine hNx _ ?_ | refine hAx ?_ | refine hBx ?_ | skip)))); (try clear fs))
  refine ((reach_N aB 2 0 _ hc hta ⟨by decide, by decide⟩ ⟨by decide, by decide⟩)).mono ?_; rintro d _ ⟨rfl, rfl⟩
  rw [aB_g, aR20]
  (have fs := @i64.eq_1; (repeat (first | refine hGx _ ?_ | refine hNx _ ?_ | refine W_skip ?_ | refine W_exit ?_ | refine W_ret ?_ | refine W_label ?_ | refine W_scope ?_ | refine W_block ?_ | refine W_seq ?_ | ((first | refine tS fun N hNx => ?_ | refine WL_gE rfl rfl (by kernel_rfl) (by kernel_rfl) fun G hGx => ?_ | refine vcOpsS_sound (by kernel_rfl) ?_ | refine W_ifE fun A B hAx hBx => ?_); refine evT ?_; (first | refine hGx _ ?_ | refine hNx _ ?_ | refine hAx ?_ | refine hBx ?_ | skip)))); (try clear fs))
  (first | (show Q .ret _) | (show Q .normal _) | skip); refine hret _ _ (by first | exact .inr rfl | exact .inl rfl) (by first | rfl | assumption | (simp only [put_df, withH_df]; assumption)) ?_; have fs := @i64.eq_1; refine evT ?_; clear fs
  exact ⟨_, Heap.le_refl _, rfl⟩
end Go.Proofs.Ytdbeimlancnncaa
