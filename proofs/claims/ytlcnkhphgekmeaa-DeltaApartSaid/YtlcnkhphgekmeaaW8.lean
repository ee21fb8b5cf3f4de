/- Walks of the program's functions, printed. -/
import Derived.Test.YtlcnkhphgekmeaaWc
set_option linter.unusedSectionVars false
set_option linter.unusedVariables false
set_option linter.unusedSimpArgs false
namespace Go.Val
open Go.RowKit Go.Proofs

section
variable [NoDrw]

noncomputable def law09_DeltaApart (a0 : List ((List UInt8) × ByteArray)) (a1 : List ((List UInt8) × ByteArray × Bool)) (a2 : List ((List UInt8) × ByteArray × Bool)) : Option Bool :=
  (law09_shown).bind fun x1 =>
  (law09_cut a0).bind fun x4 =>
  (law09_changes a1).bind fun x7 =>
  (law09_changes a2).bind fun x10 =>
  (((
    whileO (V := (Int × (List ((List UInt8) × ByteArray × Bool)))) (O := (List ((List UInt8) × ByteArray × Bool))) (fun v1556 =>
      cond (decide (v1556.1 < (x10.length : Int))) (
        (((
          (((
            whileO (V := (Bool × Int)) (O := Bool) (fun v1821 =>
              cond (decide (v1821.2 < (x7.length : Int))) (
                (((
                  cond v1821.1 (
                    (gx x7 v1821.2).bind fun x1843 =>
                    (gx x10 v1556.1).bind fun x1846 =>
                    some (!(decide (x1843.1 = x1846.1)))
                  ) (
                    some false
                  )
                ) : Option Bool)).bind fun o1837 =>
                some (.inl (o1837, (IntKind.wrap .i64 (v1821.2 + 1))))
              ) (
                some (.inr v1821.1)
              )
            ) (true, 0)
          ) : Option Bool)).bind fun o1781 =>
          cond o1781 (
            (gx x10 v1556.1).bind fun x1854 =>
            (fits (v1556.2.length + ([x1854]).length) 48).bind fun _ =>
            some (v1556.2 ++ [x1854])
          ) (
            some v1556.2
          )
        ) : Option (List ((List UInt8) × ByteArray × Bool)))).bind fun o1711 =>
        some (.inl ((IntKind.wrap .i64 (v1556.1 + 1)), o1711))
      ) (
        some (.inr v1556.2)
      )
    ) (0, [])
  ) : Option (List ((List UInt8) × ByteArray × Bool)))).bind fun o937 =>
  (delta_Apply x4 x7).bind fun x1870 =>
  (delta_Apply x4 o937).bind fun x1873 =>
  (delta_Merge x4 x1870 x1873).bind fun x1876 =>
  (delta_Join ([x7, o937])).bind fun x1879 =>
  (delta_Apply x4 x1879).bind fun x1882 =>
  (ref09_Same x1876.1 x1882).bind fun x1885 =>
  (((
    cond x1 (
      cond x1885 (
        some (decide ((x1876.2.length : Int) = 0))
      ) (
        some false
      )
    ) (
      some false
    )
  ) : Option Bool)).bind fun o1894 =>
  some o1894

set_option maxRecDepth 100000 in
theorem law09_DeltaApart_ok {a0 : List ((List UInt8) × ByteArray)} {a1 : List ((List UInt8) × ByteArray × Bool)} {a2 : List ((List UInt8) × ByteArray × Bool)} {r : Bool} (h : law09_DeltaApart a0 a1 a2 = some r) : FnOk Try.prog 8 [.d (eSapiPair a0), .d (eSapiChange a1), .d (eSapiChange a2)] 0 (lk []) (fun rr oo => rr = .d (ebool r) ∧ oo = lk []) := by
  refine fnOk_of Try.func8 rfl rfl ?_
  unfold law09_DeltaApart at h
  refine cw_seq (cw_region (
    .cons (o_as rfl rfl .no rfl) <|
    .nil rfl
  ) ?_)
  obtain ⟨x1, hx2, h3⟩ := bind_some h
  refine cw_seq (cw_region (
    .cons (o_call rfl rfl .no Try.func10 rfl rfl (law09_shown_ok hx2) .nil trivial (.inl rfl)) <|
    .cons (o_as rfl rfl .no rfl) <|
    .nil rfl
  ) ?_)
  obtain ⟨x4, hx5, h6⟩ := bind_some h3
  refine cw_seq (cw_region (
    .cons (o_mv rfl rfl .no rfl) <|
    .cons (o_call rfl rfl .no Try.func11 rfl rfl (law09_cut_ok hx5) (.cons rfl .d .nil) ⟨trivial, trivial⟩ (.inl rfl)) <|
    .cons (o_as rfl rfl .no rfl) <|
    .nil rfl
  ) ?_)
  obtain ⟨x7, hx8, h9⟩ := bind_some h6
  refine cw_seq (cw_region (
    .cons (o_mv rfl rfl .no rfl) <|
    .cons (o_call rfl rfl .no Try.func20 rfl rfl (law09_changes_ok hx8) (.cons rfl .d .nil) ⟨trivial, trivial⟩ (.inl rfl)) <|
    .cons (o_as rfl rfl .no rfl) <|
    .nil rfl
  ) ?_)
  refine cw_seq (cw_region (
    .cons (o_as rfl rfl .no rfl) <|
    .nil rfl
  ) ?_)
  obtain ⟨x10, hx11, h12⟩ := bind_some h9
  refine cw_seq (cw_region (
    .cons (o_mv rfl rfl .no rfl) <|
    .cons (o_call rfl rfl .no Try.func20 rfl rfl (law09_changes_ok hx11) (.cons rfl .d .nil) ⟨trivial, trivial⟩ (.inl rfl)) <|
    .cons (o_as rfl rfl .no rfl) <|
    .nil rfl
  ) ?_)
  obtain ⟨o937, hj938, h939⟩ := bind_some h12
  refine cw_join (fun (z : (List ((List UInt8) × ByteArray × Bool))) => St.of [(0, .d (eSapiPair x4)), (1, .d (eSapiChange x7)), (7, .d (ebool x1)), (8, .arr 0 0)] [(0, .arr 0 26 (z.map eapiChange))]) (fun (z : (List ((List UInt8) × ByteArray × Bool))) => o937 = z) ?_ ?_
  · intro v1905 hv1906; subst hv1906
    refine cw_weak (weak_of (l := [(0, .d (eSapiPair x4)), (1, .d (eSapiChange x7)), (7, .d (ebool x1)), (8, .d (eSapiChange o937))]) (m := []) ⟨⟨_, rfl, .d rfl⟩, ⟨_, rfl, .d rfl⟩, ⟨_, rfl, .d rfl⟩, ⟨_, rfl, .frz rfl rfl rfl⟩, trivial⟩ trivial drop0) ?_
    obtain ⟨x1870, hx1871, h1872⟩ := bind_some h939
    obtain ⟨x1873, hx1874, h1875⟩ := bind_some h1872
    obtain ⟨x1876, hx1877, h1878⟩ := bind_some h1875
    refine cw_seq (cw_region (
      .cons (o_mv rfl rfl .no rfl) <|
      .cons (o_mv rfl rfl .no rfl) <|
      .cons (o_mv rfl rfl .no rfl) <|
      .cons (o_call rfl rfl .no Try.func17 rfl rfl (delta_Apply_ok hx1871) (.cons rfl .d (.cons rfl .d .nil)) ⟨trivial, trivial, trivial⟩ (.inl rfl)) <|
      .cons (o_mv rfl rfl .no rfl) <|
      .cons (o_mv rfl rfl .no rfl) <|
      .cons (o_call rfl rfl .no Try.func17 rfl rfl (delta_Apply_ok hx1874) (.cons rfl .d (.cons rfl .d .nil)) ⟨trivial, trivial, trivial⟩ (.inl rfl)) <|
      .cons (o_call rfl rfl .no Try.func18 rfl rfl (delta_Merge_ok hx1877) (.cons rfl .d (.cons rfl .d (.cons rfl .d .nil))) ⟨trivial, trivial, trivial, trivial⟩ (.inl rfl)) <|
      .cons (o_mv rfl rfl .no rfl) <|
      .cons (o_ext rfl rfl .no rfl rfl) <|
      .cons (o_ext rfl rfl .no rfl rfl) <|
      .cons (o_as rfl rfl .no rfl) <|
      .cons (o_as rfl rfl .no rfl) <|
      .nil rfl
    ) ?_)
    obtain ⟨x1879, hx1880, h1881⟩ := bind_some h1878
    obtain ⟨x1882, hx1883, h1884⟩ := bind_some h1881
    obtain ⟨x1885, hx1886, h1887⟩ := bind_some h1884
    refine cw_seq (cw_region (
      .cons (o_mv rfl rfl .no rfl) <|
      .cons (o_mv rfl rfl .no rfl) <|
      .cons (o_mv rfl rfl .no rfl) <|
      .cons (o_mv rfl rfl .no rfl) <|
      .cons (o_bsl (rows := ([x7, o937] : List (List ((List UInt8) × ByteArray × Bool))).map eSapiChange) rfl rfl .no (.cons rfl (.cons rfl .nil)) rfl sl49 sz34 ze34 rfl (map_sz siSapiChange) (by decide)) <|
      .cons (o_call rfl rfl .no Try.func25 rfl rfl (delta_Join_ok hx1880) (.cons rfl .d .nil) ⟨trivial, trivial⟩ (.inl rfl)) <|
      .cons (o_call rfl rfl .no Try.func17 rfl rfl (delta_Apply_ok hx1883) (.cons rfl .d (.cons rfl .d .nil)) ⟨trivial, trivial, trivial⟩ (.inl rfl)) <|
      .cons (o_call rfl rfl .no Try.func15 rfl rfl (ref09_Same_ok hx1886) (.cons rfl .d (.cons rfl .d .nil)) ⟨trivial, trivial, trivial⟩ (.inl rfl)) <|
      .cons (o_as rfl rfl .no rfl) <|
      .nil rfl
    ) ?_)
    obtain ⟨o1894, hj1895, h1896⟩ := bind_some h1887
    refine cw_join (fun (z : Bool) => St.of [(6, .d (ebool z))] []) (fun (z : Bool) => o1894 = z) ?_ ?_
    · intro v1903 hv1904; subst hv1904
      have heq := ((Option.some.inj h1896).symm).symm
      subst heq
      exact cw_weak (weak_of (l := [(6, .d (ebool o1894))]) (m := []) ⟨⟨_, rfl, .d rfl⟩, trivial⟩ trivial drop0) (cw_ret ⟨.inr rfl, _, res1 rfl rfl, rfl, rfl⟩)
    · skip
      rcases cond_some hj1895 with ⟨hc1897, h1898⟩ | ⟨hc1897, h1899⟩
      · skip
        rcases cond_some h1898 with ⟨hc1900, h1901⟩ | ⟨hc1900, h1902⟩
        · skip
          refine cw_region (
            .cons (o_mv rfl rfl .no rfl) <|
            .cons (o_mv rfl rfl .no rfl) <|
            .cons (o_mv rfl rfl (.yes rfl rfl hc1897) rfl) <|
            .cons (o_pickT rfl rfl .no rfl hc1897 rfl) <|
            .cons (o_mv rfl rfl .no rfl) <|
            .cons (o_mv rfl rfl (.yes rfl rfl hc1900) rfl) <|
            .cons (o_lenM (enc := eapiKey) (xs := x1876.2) rfl rfl (.yes rfl rfl hc1900) rfl sl40) <|
            .cons (o_bin rfl rfl (.yes rfl rfl hc1900) rfl rfl (b_eql _ _) rfl) <|
            .cons (o_pickT rfl rfl .no rfl hc1900 rfl) <|
            .cons (o_as rfl rfl .no rfl) <|
            .nil rfl
          ) ?_
          exact ⟨(decide ((x1876.2.length : Int) = 0)), (Option.some.inj h1901).symm, weak_of ⟨⟨_, rfl, .d rfl⟩, trivial⟩ trivial drop0⟩
        · skip
          refine cw_region (
            .cons (o_mv rfl rfl .no rfl) <|
            .cons (o_mv rfl rfl .no rfl) <|
            .cons (o_mv rfl rfl (.yes rfl rfl hc1897) rfl) <|
            .cons (o_pickT rfl rfl .no rfl hc1897 rfl) <|
            .cons (o_mv rfl rfl .no rfl) <|
            .cons (o_noT rfl rfl rfl rfl hc1900) <|
            .cons (o_noT rfl rfl rfl rfl hc1900) <|
            .cons (o_noT rfl rfl rfl rfl hc1900) <|
            .cons (o_pickF rfl rfl .no rfl hc1900 rfl) <|
            .cons (o_as rfl rfl .no rfl) <|
            .nil rfl
          ) ?_
          exact ⟨false, (Option.some.inj h1902).symm, weak_of ⟨⟨_, rfl, .d rfl⟩, trivial⟩ trivial drop0⟩
      · skip
        refine cw_region (
          .cons (o_mv rfl rfl .no rfl) <|
          .cons (o_mv rfl rfl .no rfl) <|
          .cons (o_noT rfl rfl rfl rfl hc1897) <|
          .cons (o_pickF rfl rfl .no rfl hc1897 rfl) <|
          .cons (o_mv rfl rfl .no rfl) <|
          .cons (o_noT rfl rfl rfl rfl rfl) <|
          .cons (o_noT rfl rfl rfl rfl rfl) <|
          .cons (o_noT rfl rfl rfl rfl rfl) <|
          .cons (o_pickF rfl rfl .no rfl rfl rfl) <|
          .cons (o_as rfl rfl .no rfl) <|
          .nil rfl
        ) ?_
        exact ⟨false, (Option.some.inj h1899).symm, weak_of ⟨⟨_, rfl, .d rfl⟩, trivial⟩ trivial drop0⟩
  · skip
    refine cw_seq (cw_region (
      .cons (o_as rfl rfl .no rfl) <|
      .nil rfl
    ) ?_)
    refine cw_block ?_
    refine cw_while (V := (Int × (List ((List UInt8) × ByteArray × Bool)))) (O := (List ((List UInt8) × ByteArray × Bool))) (fun (z : (Int × (List ((List UInt8) × ByteArray × Bool)))) => St.of [(0, .d (eSapiPair x4)), (1, .d (eSapiChange x7)), (2, .d (eSapiChange x10)), (7, .d (ebool x1)), (8, .arr 0 0), (9, .d (eint z.1))] [(0, .arr 0 26 (z.2.map eapiChange))]) hj938 (weak_of ⟨⟨_, rfl, .d rfl⟩, ⟨_, rfl, .d rfl⟩, ⟨_, rfl, .d rfl⟩, ⟨_, rfl, .d rfl⟩, ⟨_, rfl, .nila rfl rfl⟩, ⟨_, rfl, .d rfl⟩, trivial⟩ ⟨.nil rfl, trivial⟩ drop0) ?_
    intro v1556 x1557 hb1558 hx1559
    refine cw_seq ?_
    refine cw_seq (cw_region (
      .cons (o_mv rfl rfl .no rfl) <|
      .cons (o_mv rfl rfl .no rfl) <|
      .cons (o_lenM (enc := eapiChange) (xs := x10) rfl rfl .no rfl sl34) <|
      .cons (o_bin rfl rfl .no rfl rfl (b_lss _ _) rfl) <|
      .nil rfl
    ) ?_)
    rcases cond_some hb1558 with ⟨hc1560, h1561⟩ | ⟨hc1560, h1562⟩
    · refine cw_condT rfl hc1560 ?_
      refine cw_skip ?_
      obtain ⟨o1711, hj1712, h1713⟩ := bind_some h1561
      refine cw_join (fun (z : (List ((List UInt8) × ByteArray × Bool))) => St.of [(0, .d (eSapiPair x4)), (1, .d (eSapiChange x7)), (2, .d (eSapiChange x10)), (7, .d (ebool x1)), (8, .arr 0 0), (9, .d (eint v1556.1))] [(0, .arr 0 26 (z.map eapiChange))]) (fun (z : (List ((List UInt8) × ByteArray × Bool))) => o1711 = z) ?_ ?_
      · intro v1862 hv1863; subst hv1863
        refine cw_region (
          .cons (o_mv rfl rfl .no rfl) <|
          .cons (o_bin rfl rfl .no rfl rfl (b_add _ _) rfl) <|
          .cons (o_as rfl rfl .no rfl) <|
          .nil rfl
        ) ?_
        exact ⟨((IntKind.wrap .i64 (v1556.1 + 1)), o1711), (Option.some.inj h1713).symm, weak_of ⟨⟨_, rfl, .d rfl⟩, ⟨_, rfl, .d rfl⟩, ⟨_, rfl, .d rfl⟩, ⟨_, rfl, .d rfl⟩, ⟨_, rfl, .arr rfl rfl⟩, ⟨_, rfl, .d rfl⟩, trivial⟩ ⟨.arr rfl rfl, trivial⟩ drop0⟩
      · skip
        refine cw_block ?_
        refine cw_seq (cw_region (
          .cons (o_as rfl rfl .no rfl) <|
          .nil rfl
        ) ?_)
        obtain ⟨o1781, hj1782, h1783⟩ := bind_some hj1712
        refine cw_join (fun (z : Bool) => St.of [(0, .d (eSapiPair x4)), (1, .d (eSapiChange x7)), (2, .d (eSapiChange x10)), (7, .d (ebool x1)), (8, .arr 0 0), (9, .d (eint v1556.1)), (10, .d (ebool z))] [(0, .arr 0 26 (v1556.2.map eapiChange))]) (fun (z : Bool) => o1781 = z) ?_ ?_
        · intro v1860 hv1861; subst hv1861
          refine cw_seq (cw_region (
            .cons (o_mv rfl rfl .no rfl) <|
            .nil rfl
          ) ?_)
          rcases cond_some h1783 with ⟨hc1851, h1852⟩ | ⟨hc1851, h1853⟩
          · refine cw_condT rfl hc1851 ?_
            obtain ⟨x1854, hx1855, h1856⟩ := bind_some h1852
            have hx1855g := gx_some hx1855
            obtain ⟨x1857, hx1858, h1859⟩ := bind_some h1856
            have hx1858g := fits_some hx1858
            refine cw_region (
              .cons (o_mv rfl rfl .no rfl) <|
              .cons (o_mv rfl rfl .no rfl) <|
              .cons (o_mv rfl rfl .no rfl) <|
              .cons (o_ixM (enc := eapiChange) (xs := x10) rfl rfl .no rfl rfl sl34 sz38 hx1855g.1 hx1855g.2) <|
              .cons (o_ld rfl rfl .no rfl ta38 rfl rfl) <|
              .cons (o_bsl (rows := ([x1854] : List ((List UInt8) × ByteArray × Bool)).map eapiChange) rfl rfl .no (.cons rfl .nil) rfl sl34 sz38 ze38 rfl (map_sz siapiChange) (by decide)) <|
              .cons (o_appM (enc := eapiChange) (xs := v1556.2) (ys := [x1854]) rfl rfl .no rfl rfl rfl siapiChange sl34 sl34 sz38 by38 ze38 rfl (by decide) hx1858g) <|
              .cons (o_as rfl rfl .no rfl) <|
              .nil rfl
            ) ?_
            exact ⟨(v1556.2 ++ [x1854]), (Option.some.inj h1859).symm, weak_of ⟨⟨_, rfl, .d rfl⟩, ⟨_, rfl, .d rfl⟩, ⟨_, rfl, .d rfl⟩, ⟨_, rfl, .d rfl⟩, ⟨_, rfl, .arr rfl rfl⟩, ⟨_, rfl, .d rfl⟩, trivial⟩ ⟨.arr0 rfl rfl rfl, trivial⟩ drop0⟩
          · refine cw_condF rfl hc1851 ?_
            refine cw_skip ?_
            exact ⟨v1556.2, (Option.some.inj h1853).symm, weak_of ⟨⟨_, rfl, .d rfl⟩, ⟨_, rfl, .d rfl⟩, ⟨_, rfl, .d rfl⟩, ⟨_, rfl, .d rfl⟩, ⟨_, rfl, .arr rfl rfl⟩, ⟨_, rfl, .d rfl⟩, trivial⟩ ⟨.arr rfl rfl, trivial⟩ drop0⟩
        · skip
          refine cw_seq (cw_region (
            .cons (o_as rfl rfl .no rfl) <|
            .nil rfl
          ) ?_)
          refine cw_block ?_
          refine cw_while (V := (Bool × Int)) (O := Bool) (fun (z : (Bool × Int)) => St.of [(0, .d (eSapiPair x4)), (1, .d (eSapiChange x7)), (2, .d (eSapiChange x10)), (7, .d (ebool x1)), (8, .arr 0 0), (9, .d (eint v1556.1)), (10, .d (ebool z.1)), (11, .d (eint z.2))] [(0, .arr 0 26 (v1556.2.map eapiChange))]) hj1782 (weak_of ⟨⟨_, rfl, .d rfl⟩, ⟨_, rfl, .d rfl⟩, ⟨_, rfl, .d rfl⟩, ⟨_, rfl, .d rfl⟩, ⟨_, rfl, .arr rfl rfl⟩, ⟨_, rfl, .d rfl⟩, ⟨_, rfl, .d rfl⟩, ⟨_, rfl, .d rfl⟩, trivial⟩ ⟨.arr rfl rfl, trivial⟩ drop0) ?_
          intro v1821 x1822 hb1823 hx1824
          refine cw_seq ?_
          refine cw_seq (cw_region (
            .cons (o_mv rfl rfl .no rfl) <|
            .cons (o_mv rfl rfl .no rfl) <|
            .cons (o_lenM (enc := eapiChange) (xs := x7) rfl rfl .no rfl sl34) <|
            .cons (o_bin rfl rfl .no rfl rfl (b_lss _ _) rfl) <|
            .nil rfl
          ) ?_)
          rcases cond_some hb1823 with ⟨hc1825, h1826⟩ | ⟨hc1825, h1827⟩
          · refine cw_condT rfl hc1825 ?_
            refine cw_skip ?_
            refine cw_seq ?_
            refine cw_block ?_
            obtain ⟨o1837, hj1838, h1839⟩ := bind_some h1826
            refine cw_tail (fun (z : Bool) => St.of [(0, .d (eSapiPair x4)), (1, .d (eSapiChange x7)), (2, .d (eSapiChange x10)), (7, .d (ebool x1)), (8, .arr 0 0), (9, .d (eint v1556.1)), (10, .d (ebool z)), (11, .d (eint v1821.2))] [(0, .arr 0 26 (v1556.2.map eapiChange))]) (fun (z : Bool) => o1837 = z) ?_ ?_
            · intro v1849 hv1850; subst hv1850
              refine cw_region (
                .cons (o_mv rfl rfl .no rfl) <|
                .cons (o_bin rfl rfl .no rfl rfl (b_add _ _) rfl) <|
                .cons (o_as rfl rfl .no rfl) <|
                .nil rfl
              ) ?_
              exact ⟨(o1837, (IntKind.wrap .i64 (v1821.2 + 1))), (Option.some.inj h1839).symm, weak_of ⟨⟨_, rfl, .d rfl⟩, ⟨_, rfl, .d rfl⟩, ⟨_, rfl, .d rfl⟩, ⟨_, rfl, .d rfl⟩, ⟨_, rfl, .arr rfl rfl⟩, ⟨_, rfl, .d rfl⟩, ⟨_, rfl, .d rfl⟩, ⟨_, rfl, .d rfl⟩, trivial⟩ ⟨.arr rfl rfl, trivial⟩ drop0⟩
            · skip
              rcases cond_some hj1838 with ⟨hc1840, h1841⟩ | ⟨hc1840, h1842⟩
              · skip
                obtain ⟨x1843, hx1844, h1845⟩ := bind_some h1841
                have hx1844g := gx_some hx1844
                obtain ⟨x1846, hx1847, h1848⟩ := bind_some h1845
                have hx1847g := gx_some hx1847
                refine cw_region_any mixed (by kernel_rfl) (
                  .cons (o_mv rfl rfl .no rfl) <|
                  .cons (o_mv rfl rfl .no rfl) <|
                  .cons (o_mv rfl rfl (.yes rfl rfl hc1840) rfl) <|
                  .cons (o_mv rfl rfl (.yes rfl rfl hc1840) rfl) <|
                  .cons (o_ixM (enc := eapiChange) (xs := x7) rfl rfl (.yes rfl rfl hc1840) rfl rfl sl34 sz38 hx1844g.1 hx1844g.2) <|
                  .cons (o_fld rfl rfl (.yes rfl rfl hc1840) rfl fld38_0 (by decide) rfl rfl) <|
                  .cons (o_ld rfl rfl (.yes rfl rfl hc1840) rfl ta27 rfl rfl) <|
                  .cons (o_mv rfl rfl (.yes rfl rfl hc1840) rfl) <|
                  .cons (o_mv rfl rfl (.yes rfl rfl hc1840) rfl) <|
                  .cons (o_ixM (enc := eapiChange) (xs := x10) rfl rfl (.yes rfl rfl hc1840) rfl rfl sl34 sz38 hx1847g.1 hx1847g.2) <|
                  .cons (o_fld rfl rfl (.yes rfl rfl hc1840) rfl fld38_0 (by decide) rfl rfl) <|
                  .cons (o_ld rfl rfl (.yes rfl rfl hc1840) rfl ta27 rfl rfl) <|
                  .cons (o_ne rfl rfl (.yes rfl rfl hc1840) rfl rfl rfl rfl eg27 (.bs ar27 un5 sz5)) <|
                  .cons (o_pickT rfl rfl .no rfl hc1840 rfl) <|
                  .cons (o_as rfl rfl .no rfl) <|
                  .nil rfl
                ) (by kernel_rfl) ?_
                exact ⟨(!(decide (x1843.1 = x1846.1))), (Option.some.inj h1848).symm, weak_of ⟨⟨_, rfl, .d rfl⟩, ⟨_, rfl, .d rfl⟩, ⟨_, rfl, .d rfl⟩, ⟨_, rfl, .d rfl⟩, ⟨_, rfl, .arr rfl rfl⟩, ⟨_, rfl, .d rfl⟩, ⟨_, rfl, .d rfl⟩, ⟨_, rfl, .d rfl⟩, trivial⟩ ⟨.arr rfl rfl, trivial⟩ drop0⟩
              · skip
                refine cw_region_any mixed (by kernel_rfl) (
                  .cons (o_mv rfl rfl .no rfl) <|
                  .cons (o_mv rfl rfl .no rfl) <|
                  .cons (o_noT rfl rfl rfl rfl hc1840) <|
                  .cons (o_noT rfl rfl rfl rfl hc1840) <|
                  .cons (o_noT rfl rfl rfl rfl hc1840) <|
                  .cons (o_noT rfl rfl rfl rfl hc1840) <|
                  .cons (o_noT rfl rfl rfl rfl hc1840) <|
                  .cons (o_noT rfl rfl rfl rfl hc1840) <|
                  .cons (o_noT rfl rfl rfl rfl hc1840) <|
                  .cons (o_noT rfl rfl rfl rfl hc1840) <|
                  .cons (o_noT rfl rfl rfl rfl hc1840) <|
                  .cons (o_noT rfl rfl rfl rfl hc1840) <|
                  .cons (o_noT rfl rfl rfl rfl hc1840) <|
                  .cons (o_pickF rfl rfl .no rfl hc1840 rfl) <|
                  .cons (o_as rfl rfl .no rfl) <|
                  .nil rfl
                ) (by kernel_rfl) ?_
                exact ⟨false, (Option.some.inj h1842).symm, weak_of ⟨⟨_, rfl, .d rfl⟩, ⟨_, rfl, .d rfl⟩, ⟨_, rfl, .d rfl⟩, ⟨_, rfl, .d rfl⟩, ⟨_, rfl, .arr rfl rfl⟩, ⟨_, rfl, .d rfl⟩, ⟨_, rfl, .d rfl⟩, ⟨_, rfl, .d rfl⟩, trivial⟩ ⟨.arr rfl rfl, trivial⟩ drop0⟩
          · refine cw_condF rfl hc1825 ?_
            refine cw_exit ?_
            exact ⟨v1821.1, (hx1824 _ (Option.some.inj h1827).symm).symm, weak_of ⟨⟨_, rfl, .d rfl⟩, ⟨_, rfl, .d rfl⟩, ⟨_, rfl, .d rfl⟩, ⟨_, rfl, .d rfl⟩, ⟨_, rfl, .arr rfl rfl⟩, ⟨_, rfl, .d rfl⟩, ⟨_, rfl, .d rfl⟩, trivial⟩ ⟨.arr rfl rfl, trivial⟩ drop0⟩
    · refine cw_condF rfl hc1560 ?_
      refine cw_exit ?_
      exact ⟨v1556.2, (hx1559 _ (Option.some.inj h1562).symm).symm, weak_of ⟨⟨_, rfl, .d rfl⟩, ⟨_, rfl, .d rfl⟩, ⟨_, rfl, .d rfl⟩, ⟨_, rfl, .arr rfl rfl⟩, trivial⟩ ⟨.arr rfl rfl, trivial⟩ drop0⟩

end
end Go.Val
