import Derived.Test.YtomcliklmfkaoaaProg
import Derived.KernelRfl
import Derived.Test.YtomcliklmfkaoaaAbOwn
open Go Ab Go.Proofs
namespace L15
set_option autoImplicit false
set_option linter.unusedSimpArgs false
set_option linter.unusedVariables false

theorem hmix : Try.prog.follows .mixedOrders = true := by kernel_rfl
-- t 1 func()
theorem tsz1 : tsz Try.prog 1 = some 1 := by kernel_rfl
theorem tby1 : tby Try.prog 1 = some 8 := by kernel_rfl
theorem tz1 : tzero Try.prog 1 = some (.nilFunc) := by kernel_rfl
theorem agg1 : aggB Try.prog 1 = some false := by simp [aggB, Try.underlying1]
attribute [go_sem] Try.underlying1 tsz1 tby1 tz1 agg1
-- t 2 int64
theorem tsz2 : tsz Try.prog 2 = some 1 := by kernel_rfl
theorem tby2 : tby Try.prog 2 = some 8 := by kernel_rfl
theorem tz2 : tzero Try.prog 2 = some (.int .i64 0) := by kernel_rfl
theorem agg2 : aggB Try.prog 2 = some false := by simp [aggB, Try.underlying2]
attribute [go_sem] Try.underlying2 tsz2 tby2 tz2 agg2
-- t 3 int
theorem tsz3 : tsz Try.prog 3 = some 1 := by kernel_rfl
theorem tby3 : tby Try.prog 3 = some 8 := by kernel_rfl
theorem tz3 : tzero Try.prog 3 = some (.int .i64 0) := by kernel_rfl
theorem agg3 : aggB Try.prog 3 = some false := by simp [aggB, Try.underlying3]
attribute [go_sem] Try.underlying3 tsz3 tby3 tz3 agg3
-- t 4 bool
theorem tsz4 : tsz Try.prog 4 = some 1 := by kernel_rfl
theorem tby4 : tby Try.prog 4 = some 1 := by kernel_rfl
theorem tz4 : tzero Try.prog 4 = some (.bool false) := by kernel_rfl
theorem agg4 : aggB Try.prog 4 = some false := by simp [aggB, Try.underlying4]
attribute [go_sem] Try.underlying4 tsz4 tby4 tz4 agg4
-- t 5 uint8
theorem tsz5 : tsz Try.prog 5 = some 1 := by kernel_rfl
theorem tby5 : tby Try.prog 5 = some 1 := by kernel_rfl
theorem tz5 : tzero Try.prog 5 = some (.int .u8 0) := by kernel_rfl
theorem agg5 : aggB Try.prog 5 = some false := by simp [aggB, Try.underlying5]
attribute [go_sem] Try.underlying5 tsz5 tby5 tz5 agg5
-- t 9 string
theorem tsz9 : tsz Try.prog 9 = some 1 := by kernel_rfl
theorem tby9 : tby Try.prog 9 = some 16 := by kernel_rfl
theorem tz9 : tzero Try.prog 9 = some (.string ⟨#[]⟩) := by kernel_rfl
theorem agg9 : aggB Try.prog 9 = some false := by simp [aggB, Try.underlying9]
theorem nI9 : noInt Try.prog 9 = true := by simp [noInt, Try.underlying9]
attribute [go_sem] Try.underlying9 tsz9 tby9 tz9 agg9 nI9
-- t 20 interface ()
theorem tsz20 : tsz Try.prog 20 = some 1 := by kernel_rfl
theorem tby20 : tby Try.prog 20 = some 16 := by kernel_rfl
theorem tz20 : tzero Try.prog 20 = some (.nilIface) := by kernel_rfl
theorem agg20 : aggB Try.prog 20 = some false := by simp [aggB, Try.underlying20]
attribute [go_sem] Try.underlying20 tsz20 tby20 tz20 agg20
-- t 21 int32
theorem tsz21 : tsz Try.prog 21 = some 1 := by kernel_rfl
theorem tby21 : tby Try.prog 21 = some 4 := by kernel_rfl
theorem tz21 : tzero Try.prog 21 = some (.int .i32 0) := by kernel_rfl
theorem agg21 : aggB Try.prog 21 = some false := by simp [aggB, Try.underlying21]
attribute [go_sem] Try.underlying21 tsz21 tby21 tz21 agg21
-- t 22 func() bool
theorem tsz22 : tsz Try.prog 22 = some 1 := by kernel_rfl
theorem tby22 : tby Try.prog 22 = some 8 := by kernel_rfl
theorem tz22 : tzero Try.prog 22 = some (.nilFunc) := by kernel_rfl
theorem agg22 : aggB Try.prog 22 = some false := by simp [aggB, Try.underlying22]
attribute [go_sem] Try.underlying22 tsz22 tby22 tz22 agg22
-- t 23 func(string, string) bool
theorem tsz23 : tsz Try.prog 23 = some 1 := by kernel_rfl
theorem tby23 : tby Try.prog 23 = some 8 := by kernel_rfl
theorem tz23 : tzero Try.prog 23 = some (.nilFunc) := by kernel_rfl
theorem agg23 : aggB Try.prog 23 = some false := by simp [aggB, Try.underlying23]
attribute [go_sem] Try.underlying23 tsz23 tby23 tz23 agg23
-- t 24 [2]string
theorem tsz24 : tsz Try.prog 24 = some 2 := by kernel_rfl
theorem tby24 : tby Try.prog 24 = some 32 := by kernel_rfl
theorem tz24 : tzero Try.prog 24 = some (.agg #[.string ⟨#[]⟩, .string ⟨#[]⟩]) := by kernel_rfl
theorem agg24 : aggB Try.prog 24 = some true := by simp [aggB, Try.underlying24]
attribute [go_sem] Try.underlying24 tsz24 tby24 tz24 agg24
-- t 25 api.Errno = gangway/api.Errno
theorem tsz25 : tsz Try.prog 25 = some 1 := by kernel_rfl
theorem tby25 : tby Try.prog 25 = some 8 := by kernel_rfl
theorem tz25 : tzero Try.prog 25 = some (.int .i64 0) := by kernel_rfl
theorem agg25 : aggB Try.prog 25 = some false := by simp [aggB, Try.underlying25]
attribute [go_sem] Try.underlying25 tsz25 tby25 tz25 agg25
-- t 26 func(string) api.Errno
theorem tsz26 : tsz Try.prog 26 = some 1 := by kernel_rfl
theorem tby26 : tby Try.prog 26 = some 8 := by kernel_rfl
theorem tz26 : tzero Try.prog 26 = some (.nilFunc) := by kernel_rfl
theorem agg26 : aggB Try.prog 26 = some false := by simp [aggB, Try.underlying26]
attribute [go_sem] Try.underlying26 tsz26 tby26 tz26 agg26
-- t 27 func([2]string, string, string) bool
theorem tsz27 : tsz Try.prog 27 = some 1 := by kernel_rfl
theorem tby27 : tby Try.prog 27 = some 8 := by kernel_rfl
theorem tz27 : tzero Try.prog 27 = some (.nilFunc) := by kernel_rfl
theorem agg27 : aggB Try.prog 27 = some false := by simp [aggB, Try.underlying27]
attribute [go_sem] Try.underlying27 tsz27 tby27 tz27 agg27
-- t 28 []uint8
theorem tsz28 : tsz Try.prog 28 = some 1 := by kernel_rfl
theorem tby28 : tby Try.prog 28 = some 24 := by kernel_rfl
theorem tz28 : tzero Try.prog 28 = some (.slice none 0 0) := by kernel_rfl
theorem agg28 : aggB Try.prog 28 = some false := by simp [aggB, Try.underlying28]
theorem nI28 : noInt Try.prog 28 = true := by simp [noInt, Try.underlying28]
attribute [go_sem] Try.underlying28 tsz28 tby28 tz28 agg28 nI28
-- t 29 func(string, uint8) bool
theorem tsz29 : tsz Try.prog 29 = some 1 := by kernel_rfl
theorem tby29 : tby Try.prog 29 = some 8 := by kernel_rfl
theorem tz29 : tzero Try.prog 29 = some (.nilFunc) := by kernel_rfl
theorem agg29 : aggB Try.prog 29 = some false := by simp [aggB, Try.underlying29]
attribute [go_sem] Try.underlying29 tsz29 tby29 tz29 agg29
-- t 30 []bool
theorem tsz30 : tsz Try.prog 30 = some 1 := by kernel_rfl
theorem tby30 : tby Try.prog 30 = some 24 := by kernel_rfl
theorem tz30 : tzero Try.prog 30 = some (.slice none 0 0) := by kernel_rfl
theorem agg30 : aggB Try.prog 30 = some false := by simp [aggB, Try.underlying30]
theorem nI30 : noInt Try.prog 30 = true := by simp [noInt, Try.underlying30]
attribute [go_sem] Try.underlying30 tsz30 tby30 tz30 agg30 nI30
-- t 31 func([]bool, string) bool
theorem tsz31 : tsz Try.prog 31 = some 1 := by kernel_rfl
theorem tby31 : tby Try.prog 31 = some 8 := by kernel_rfl
theorem tz31 : tzero Try.prog 31 = some (.nilFunc) := by kernel_rfl
theorem agg31 : aggB Try.prog 31 = some false := by simp [aggB, Try.underlying31]
attribute [go_sem] Try.underlying31 tsz31 tby31 tz31 agg31
-- t 33 func(string) (string, bool)
theorem tsz33 : tsz Try.prog 33 = some 1 := by kernel_rfl
theorem tby33 : tby Try.prog 33 = some 8 := by kernel_rfl
theorem tz33 : tzero Try.prog 33 = some (.nilFunc) := by kernel_rfl
theorem agg33 : aggB Try.prog 33 = some false := by simp [aggB, Try.underlying33]
attribute [go_sem] Try.underlying33 tsz33 tby33 tz33 agg33
-- t 34 []gangwayref15.Part
theorem tsz34 : tsz Try.prog 34 = some 1 := by kernel_rfl
theorem tby34 : tby Try.prog 34 = some 24 := by kernel_rfl
theorem tz34 : tzero Try.prog 34 = some (.slice none 0 0) := by kernel_rfl
theorem agg34 : aggB Try.prog 34 = some false := by simp [aggB, Try.underlying34]
theorem nI34 : noInt Try.prog 34 = true := by simp [noInt, Try.underlying34]
attribute [go_sem] Try.underlying34 tsz34 tby34 tz34 agg34 nI34
-- t 36 func(string) ([]gangwayref15.Part, int)
theorem tsz36 : tsz Try.prog 36 = some 1 := by kernel_rfl
theorem tby36 : tby Try.prog 36 = some 8 := by kernel_rfl
theorem tz36 : tzero Try.prog 36 = some (.nilFunc) := by kernel_rfl
theorem agg36 : aggB Try.prog 36 = some false := by simp [aggB, Try.underlying36]
attribute [go_sem] Try.underlying36 tsz36 tby36 tz36 agg36
-- t 37 func(string) bool
theorem tsz37 : tsz Try.prog 37 = some 1 := by kernel_rfl
theorem tby37 : tby Try.prog 37 = some 8 := by kernel_rfl
theorem tz37 : tzero Try.prog 37 = some (.nilFunc) := by kernel_rfl
theorem agg37 : aggB Try.prog 37 = some false := by simp [aggB, Try.underlying37]
attribute [go_sem] Try.underlying37 tsz37 tby37 tz37 agg37
-- t 38 []glob.part
theorem tsz38 : tsz Try.prog 38 = some 1 := by kernel_rfl
theorem tby38 : tby Try.prog 38 = some 24 := by kernel_rfl
theorem tz38 : tzero Try.prog 38 = some (.slice none 0 0) := by kernel_rfl
theorem agg38 : aggB Try.prog 38 = some false := by simp [aggB, Try.underlying38]
theorem nI38 : noInt Try.prog 38 = true := by simp [noInt, Try.underlying38]
attribute [go_sem] Try.underlying38 tsz38 tby38 tz38 agg38 nI38
-- t 40 func(string) ([]glob.part, api.Errno)
theorem tsz40 : tsz Try.prog 40 = some 1 := by kernel_rfl
theorem tby40 : tby Try.prog 40 = some 8 := by kernel_rfl
theorem tz40 : tzero Try.prog 40 = some (.nilFunc) := by kernel_rfl
theorem agg40 : aggB Try.prog 40 = some false := by simp [aggB, Try.underlying40]
attribute [go_sem] Try.underlying40 tsz40 tby40 tz40 agg40
-- t 41 [][2]uint8
theorem tsz41 : tsz Try.prog 41 = some 1 := by kernel_rfl
theorem tby41 : tby Try.prog 41 = some 24 := by kernel_rfl
theorem tz41 : tzero Try.prog 41 = some (.slice none 0 0) := by kernel_rfl
theorem agg41 : aggB Try.prog 41 = some false := by simp [aggB, Try.underlying41]
theorem nI41 : noInt Try.prog 41 = true := by simp [noInt, Try.underlying41]
attribute [go_sem] Try.underlying41 tsz41 tby41 tz41 agg41 nI41
-- t 42 struct ( kind int; ranges [][2]uint8; not bool )
theorem tsz42 : tsz Try.prog 42 = some 3 := by kernel_rfl
theorem tby42 : tby Try.prog 42 = some 40 := by kernel_rfl
theorem tz42 : tzero Try.prog 42 = some (.agg #[.int .i64 0, .slice none 0 0, .bool false]) := by kernel_rfl
theorem agg42 : aggB Try.prog 42 = some true := by simp [aggB, Try.underlying42]
attribute [go_sem] Try.underlying42 tsz42 tby42 tz42 agg42
-- t 43 glob.part = gangway/glob.part
theorem tsz43 : tsz Try.prog 43 = some 3 := by kernel_rfl
theorem tby43 : tby Try.prog 43 = some 40 := by kernel_rfl
theorem tz43 : tzero Try.prog 43 = some (.agg #[.int .i64 0, .slice none 0 0, .bool false]) := by kernel_rfl
theorem agg43 : aggB Try.prog 43 = some true := by simp [aggB, Try.underlying43]
attribute [go_sem] Try.underlying43 tsz43 tby43 tz43 agg43
-- t 44 func(uint8) bool
theorem tsz44 : tsz Try.prog 44 = some 1 := by kernel_rfl
theorem tby44 : tby Try.prog 44 = some 8 := by kernel_rfl
theorem tz44 : tzero Try.prog 44 = some (.nilFunc) := by kernel_rfl
theorem agg44 : aggB Try.prog 44 = some false := by simp [aggB, Try.underlying44]
attribute [go_sem] Try.underlying44 tsz44 tby44 tz44 agg44
-- t 45 [256]bool
theorem tsz45 : tsz Try.prog 45 = some 256 := by kernel_rfl
theorem tby45 : tby Try.prog 45 = some 256 := by kernel_rfl
theorem agg45 : aggB Try.prog 45 = some true := by simp [aggB, Try.underlying45]
attribute [go_sem] Try.underlying45 tsz45 tby45 agg45
-- t 46 struct ( Run bool; In [256]bool; Plain bool; Byte uint8 )
theorem tsz46 : tsz Try.prog 46 = some 259 := by kernel_rfl
theorem tby46 : tby Try.prog 46 = some 259 := by kernel_rfl
theorem agg46 : aggB Try.prog 46 = some true := by simp [aggB, Try.underlying46]
attribute [go_sem] Try.underlying46 tsz46 tby46 agg46
-- t 47 gangwayref15.Part = gangway/gangwayref15.Part
theorem tsz47 : tsz Try.prog 47 = some 259 := by kernel_rfl
theorem tby47 : tby Try.prog 47 = some 259 := by kernel_rfl
theorem agg47 : aggB Try.prog 47 = some true := by simp [aggB, Try.underlying47]
attribute [go_sem] Try.underlying47 tsz47 tby47 agg47
-- t 48 [2]uint8
theorem tsz48 : tsz Try.prog 48 = some 2 := by kernel_rfl
theorem tby48 : tby Try.prog 48 = some 2 := by kernel_rfl
theorem tz48 : tzero Try.prog 48 = some (.agg #[.int .u8 0, .int .u8 0]) := by kernel_rfl
theorem agg48 : aggB Try.prog 48 = some true := by simp [aggB, Try.underlying48]
attribute [go_sem] Try.underlying48 tsz48 tby48 tz48 agg48
-- t 50 func(string, int) (gangwayref15.Part, int, bool)
theorem tsz50 : tsz Try.prog 50 = some 1 := by kernel_rfl
theorem tby50 : tby Try.prog 50 = some 8 := by kernel_rfl
theorem tz50 : tzero Try.prog 50 = some (.nilFunc) := by kernel_rfl
theorem agg50 : aggB Try.prog 50 = some false := by simp [aggB, Try.underlying50]
attribute [go_sem] Try.underlying50 tsz50 tby50 tz50 agg50
-- t 52 func(string) (glob.part, string, bool)
theorem tsz52 : tsz Try.prog 52 = some 1 := by kernel_rfl
theorem tby52 : tby Try.prog 52 = some 8 := by kernel_rfl
theorem tz52 : tzero Try.prog 52 = some (.nilFunc) := by kernel_rfl
theorem agg52 : aggB Try.prog 52 = some false := by simp [aggB, Try.underlying52]
attribute [go_sem] Try.underlying52 tsz52 tby52 tz52 agg52
-- t 53 func() string
theorem tsz53 : tsz Try.prog 53 = some 1 := by kernel_rfl
theorem tby53 : tby Try.prog 53 = some 8 := by kernel_rfl
theorem tz53 : tzero Try.prog 53 = some (.nilFunc) := by kernel_rfl
theorem agg53 : aggB Try.prog 53 = some false := by simp [aggB, Try.underlying53]
attribute [go_sem] Try.underlying53 tsz53 tby53 tz53 agg53
-- t 59 func() int
theorem tsz59 : tsz Try.prog 59 = some 1 := by kernel_rfl
theorem tby59 : tby Try.prog 59 = some 8 := by kernel_rfl
theorem tz59 : tzero Try.prog 59 = some (.nilFunc) := by kernel_rfl
theorem agg59 : aggB Try.prog 59 = some false := by simp [aggB, Try.underlying59]
attribute [go_sem] Try.underlying59 tsz59 tby59 tz59 agg59
-- t 60 uint32
theorem tsz60 : tsz Try.prog 60 = some 1 := by kernel_rfl
theorem tby60 : tby Try.prog 60 = some 4 := by kernel_rfl
theorem tz60 : tzero Try.prog 60 = some (.int .u32 0) := by kernel_rfl
theorem agg60 : aggB Try.prog 60 = some false := by simp [aggB, Try.underlying60]
attribute [go_sem] Try.underlying60 tsz60 tby60 tz60 agg60
-- t 64 *uint8
theorem tsz64 : tsz Try.prog 64 = some 1 := by kernel_rfl
theorem tby64 : tby Try.prog 64 = some 8 := by kernel_rfl
theorem tz64 : tzero Try.prog 64 = some (.pointer none) := by kernel_rfl
theorem agg64 : aggB Try.prog 64 = some false := by simp [aggB, Try.underlying64]
attribute [go_sem] Try.underlying64 tsz64 tby64 tz64 agg64
end L15
