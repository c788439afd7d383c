/- What the rows' list gives: the thirteen sentinels, at different places. -/
import Derived.Test.YtcalbpdcjklffaaDoorSeat
import Derived.Test.YtcalbpdcjklffaaDoorNum
namespace Go.Proofs.YtcalbpdcjklffaaDoor
open Go
theorem sent_of {W : World} {l : List (String × DataW Unit)} {name : String} {text : List UInt8} {g : Nat} (h : laidMet Tryd.prog l W) (i : Nat) (hi : l[i]? = some (name, .iface "*errors.errorString" (.ptr (.agg [.lit (.string text)]))))
    (hg : Tryd.prog.globalNamed name = some g) (hty : (Tryd.prog.globals[g]?).map (·.type) = some 24) : ∃ a, SentAt W g 146 a := sent_get h i hi errTypes hg hty
theorem gNameRange : Tryd.prog.globalNamed "postbag/api.ErrRange" = some 0 := by kernel_rfl
theorem gTypeRange : (Tryd.prog.globals[0]?).map (·.type) = some 24 := by kernel_rfl
theorem gNameForm : Tryd.prog.globalNamed "postbag/api.ErrForm" = some 2 := by kernel_rfl
theorem gTypeForm : (Tryd.prog.globals[2]?).map (·.type) = some 24 := by kernel_rfl
theorem gNameLong : Tryd.prog.globalNamed "postbag/api.ErrLong" = some 3 := by kernel_rfl
theorem gTypeLong : (Tryd.prog.globals[3]?).map (·.type) = some 24 := by kernel_rfl
theorem gNameName : Tryd.prog.globalNamed "postbag/api.ErrName" = some 4 := by kernel_rfl
theorem gTypeName : (Tryd.prog.globals[4]?).map (·.type) = some 24 := by kernel_rfl
theorem gNameNone : Tryd.prog.globalNamed "postbag/api.ErrNone" = some 5 := by kernel_rfl
theorem gTypeNone : (Tryd.prog.globals[5]?).map (·.type) = some 24 := by kernel_rfl
theorem gNameExists : Tryd.prog.globalNamed "postbag/api.ErrExists" = some 6 := by kernel_rfl
theorem gTypeExists : (Tryd.prog.globals[6]?).map (·.type) = some 24 := by kernel_rfl
theorem gNameQuota : Tryd.prog.globalNamed "postbag/api.ErrQuota" = some 7 := by kernel_rfl
theorem gTypeQuota : (Tryd.prog.globals[7]?).map (·.type) = some 24 := by kernel_rfl
theorem gNamePower : Tryd.prog.globalNamed "postbag/api.ErrPower" = some 8 := by kernel_rfl
theorem gTypePower : (Tryd.prog.globals[8]?).map (·.type) = some 24 := by kernel_rfl
theorem gNameState : Tryd.prog.globalNamed "postbag/api.ErrState" = some 9 := by kernel_rfl
theorem gTypeState : (Tryd.prog.globals[9]?).map (·.type) = some 24 := by kernel_rfl
theorem gNameSum : Tryd.prog.globalNamed "postbag/api.ErrSum" = some 10 := by kernel_rfl
theorem gTypeSum : (Tryd.prog.globals[10]?).map (·.type) = some 24 := by kernel_rfl
theorem gNameFull : Tryd.prog.globalNamed "postbag/api.ErrFull" = some 11 := by kernel_rfl
theorem gTypeFull : (Tryd.prog.globals[11]?).map (·.type) = some 24 := by kernel_rfl
theorem gNameDepth : Tryd.prog.globalNamed "postbag/api.ErrDepth" = some 12 := by kernel_rfl
theorem gTypeDepth : (Tryd.prog.globals[12]?).map (·.type) = some 24 := by kernel_rfl
theorem gNameUser : Tryd.prog.globalNamed "postbag/api.ErrUser" = some 13 := by kernel_rfl
theorem gTypeUser : (Tryd.prog.globals[13]?).map (·.type) = some 24 := by kernel_rfl
/-- the sentinels stand on the list from place k on, in the document's order -/
theorem errs_of {W : World} {l : List (String × DataW Unit)} (h : laidMet Tryd.prog l W) (k : Nat) (i0 : l[k + 0]? = some ("postbag/api.ErrRange", Rows.laid_postbag_api_ErrRange)) (i1 : l[k + 1]? = some ("postbag/api.ErrForm", Rows.laid_postbag_api_ErrForm)) (i2 : l[k + 2]? = some ("postbag/api.ErrLong", Rows.laid_postbag_api_ErrLong)) (i3 : l[k + 3]? = some ("postbag/api.ErrName", Rows.laid_postbag_api_ErrName)) (i4 : l[k + 4]? = some ("postbag/api.ErrNone", Rows.laid_postbag_api_ErrNone)) (i5 : l[k + 5]? = some ("postbag/api.ErrExists", Rows.laid_postbag_api_ErrExists)) (i6 : l[k + 6]? = some ("postbag/api.ErrQuota", Rows.laid_postbag_api_ErrQuota)) (i7 : l[k + 7]? = some ("postbag/api.ErrPower", Rows.laid_postbag_api_ErrPower)) (i8 : l[k + 8]? = some ("postbag/api.ErrState", Rows.laid_postbag_api_ErrState)) (i9 : l[k + 9]? = some ("postbag/api.ErrSum", Rows.laid_postbag_api_ErrSum)) (i10 : l[k + 10]? = some ("postbag/api.ErrFull", Rows.laid_postbag_api_ErrFull)) (i11 : l[k + 11]? = some ("postbag/api.ErrDepth", Rows.laid_postbag_api_ErrDepth)) (i12 : l[k + 12]? = some ("postbag/api.ErrUser", Rows.laid_postbag_api_ErrUser)) :
    ∃ a0 a1 a2 a3 a4 a5 a6 a7 a8 a9 a10 a11 a12, ErrsAt W a0 a1 a2 a3 a4 a5 a6 a7 a8 a9 a10 a11 a12 := by
  obtain ⟨a0, h0⟩ := sent_of h _ i0 gNameRange gTypeRange
  obtain ⟨a1, h1⟩ := sent_of h _ i1 gNameForm gTypeForm
  obtain ⟨a2, h2⟩ := sent_of h _ i2 gNameLong gTypeLong
  obtain ⟨a3, h3⟩ := sent_of h _ i3 gNameName gTypeName
  obtain ⟨a4, h4⟩ := sent_of h _ i4 gNameNone gTypeNone
  obtain ⟨a5, h5⟩ := sent_of h _ i5 gNameExists gTypeExists
  obtain ⟨a6, h6⟩ := sent_of h _ i6 gNameQuota gTypeQuota
  obtain ⟨a7, h7⟩ := sent_of h _ i7 gNamePower gTypePower
  obtain ⟨a8, h8⟩ := sent_of h _ i8 gNameState gTypeState
  obtain ⟨a9, h9⟩ := sent_of h _ i9 gNameSum gTypeSum
  obtain ⟨a10, h10⟩ := sent_of h _ i10 gNameFull gTypeFull
  obtain ⟨a11, h11⟩ := sent_of h _ i11 gNameDepth gTypeDepth
  obtain ⟨a12, h12⟩ := sent_of h _ i12 gNameUser gTypeUser
  exact ⟨a0, a1, a2, a3, a4, a5, a6, a7, a8, a9, a10, a11, a12, ⟨h0, h1, h2, h3, h4, h5, h6, h7, h8, h9, h10, h11, h12, (sent_ne h (k + 0) (k + 1) (by omega) i0 i1 errTypes gNameRange gTypeRange gNameForm gTypeForm h0 h1).symm, (sent_ne h (k + 0) (k + 3) (by omega) i0 i3 errTypes gNameRange gTypeRange gNameName gTypeName h0 h3).symm, (sent_ne h (k + 1) (k + 3) (by omega) i1 i3 errTypes gNameForm gTypeForm gNameName gTypeName h1 h3).symm, (sent_ne h (k + 2) (k + 3) (by omega) i2 i3 errTypes gNameLong gTypeLong gNameName gTypeName h2 h3).symm⟩⟩
end Go.Proofs.YtcalbpdcjklffaaDoor
