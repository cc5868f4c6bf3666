import Derived.Test.YtfdkdkhmblhehaaProg
import Derived.KernelRfl
import Derived.Test.YtfdkdkhmblhehaaAbOwn
open Go Ab Go.Proofs
namespace L01
set_option autoImplicit false
set_option linter.unusedSimpArgs false
set_option linter.unusedVariables false

theorem hmix : Try.prog.follows .mixedOrders = true := by kernel_rfl
-- t 1 func()
theorem tsz1 : tsz Try.prog 1 = some 1 := by kernel_rfl
theorem tby1 : tby Try.prog 1 = some 8 := by kernel_rfl
theorem tz1 : tzero Try.prog 1 = some (.nilFunc) := by kernel_rfl
theorem agg1 : aggB Try.prog 1 = some false := by simp [aggB, Try.underlying1]
attribute [go_sem] Try.underlying1 tsz1 tby1 tz1 agg1
-- t 2 int64
theorem tsz2 : tsz Try.prog 2 = some 1 := by kernel_rfl
theorem tby2 : tby Try.prog 2 = some 8 := by kernel_rfl
theorem tz2 : tzero Try.prog 2 = some (.int .i64 0) := by kernel_rfl
theorem agg2 : aggB Try.prog 2 = some false := by simp [aggB, Try.underlying2]
attribute [go_sem] Try.underlying2 tsz2 tby2 tz2 agg2
-- t 3 int
theorem tsz3 : tsz Try.prog 3 = some 1 := by kernel_rfl
theorem tby3 : tby Try.prog 3 = some 8 := by kernel_rfl
theorem tz3 : tzero Try.prog 3 = some (.int .i64 0) := by kernel_rfl
theorem agg3 : aggB Try.prog 3 = some false := by simp [aggB, Try.underlying3]
attribute [go_sem] Try.underlying3 tsz3 tby3 tz3 agg3
-- t 4 bool
theorem tsz4 : tsz Try.prog 4 = some 1 := by kernel_rfl
theorem tby4 : tby Try.prog 4 = some 1 := by kernel_rfl
theorem tz4 : tzero Try.prog 4 = some (.bool false) := by kernel_rfl
theorem agg4 : aggB Try.prog 4 = some false := by simp [aggB, Try.underlying4]
attribute [go_sem] Try.underlying4 tsz4 tby4 tz4 agg4
-- t 5 uint8
theorem tsz5 : tsz Try.prog 5 = some 1 := by kernel_rfl
theorem tby5 : tby Try.prog 5 = some 1 := by kernel_rfl
theorem tz5 : tzero Try.prog 5 = some (.int .u8 0) := by kernel_rfl
theorem agg5 : aggB Try.prog 5 = some false := by simp [aggB, Try.underlying5]
attribute [go_sem] Try.underlying5 tsz5 tby5 tz5 agg5
-- t 9 string
theorem tsz9 : tsz Try.prog 9 = some 1 := by kernel_rfl
theorem tby9 : tby Try.prog 9 = some 16 := by kernel_rfl
theorem tz9 : tzero Try.prog 9 = some (.string ⟨#[]⟩) := by kernel_rfl
theorem agg9 : aggB Try.prog 9 = some false := by simp [aggB, Try.underlying9]
theorem nI9 : noInt Try.prog 9 = true := by simp [noInt, Try.underlying9]
attribute [go_sem] Try.underlying9 tsz9 tby9 tz9 agg9 nI9
-- t 20 interface ()
theorem tsz20 : tsz Try.prog 20 = some 1 := by kernel_rfl
theorem tby20 : tby Try.prog 20 = some 16 := by kernel_rfl
theorem tz20 : tzero Try.prog 20 = some (.nilIface) := by kernel_rfl
theorem agg20 : aggB Try.prog 20 = some false := by simp [aggB, Try.underlying20]
attribute [go_sem] Try.underlying20 tsz20 tby20 tz20 agg20
-- t 21 int32
theorem tsz21 : tsz Try.prog 21 = some 1 := by kernel_rfl
theorem tby21 : tby Try.prog 21 = some 4 := by kernel_rfl
theorem tz21 : tzero Try.prog 21 = some (.int .i32 0) := by kernel_rfl
theorem agg21 : aggB Try.prog 21 = some false := by simp [aggB, Try.underlying21]
attribute [go_sem] Try.underlying21 tsz21 tby21 tz21 agg21
-- t 22 func() bool
theorem tsz22 : tsz Try.prog 22 = some 1 := by kernel_rfl
theorem tby22 : tby Try.prog 22 = some 8 := by kernel_rfl
theorem tz22 : tzero Try.prog 22 = some (.nilFunc) := by kernel_rfl
theorem agg22 : aggB Try.prog 22 = some false := by simp [aggB, Try.underlying22]
attribute [go_sem] Try.underlying22 tsz22 tby22 tz22 agg22
-- t 23 uint64
theorem tsz23 : tsz Try.prog 23 = some 1 := by kernel_rfl
theorem tby23 : tby Try.prog 23 = some 8 := by kernel_rfl
theorem tz23 : tzero Try.prog 23 = some (.int .u64 0) := by kernel_rfl
theorem agg23 : aggB Try.prog 23 = some false := by simp [aggB, Try.underlying23]
attribute [go_sem] Try.underlying23 tsz23 tby23 tz23 agg23
-- t 24 []uint8
theorem tsz24 : tsz Try.prog 24 = some 1 := by kernel_rfl
theorem tby24 : tby Try.prog 24 = some 24 := by kernel_rfl
theorem tz24 : tzero Try.prog 24 = some (.slice none 0 0) := by kernel_rfl
theorem agg24 : aggB Try.prog 24 = some false := by simp [aggB, Try.underlying24]
theorem nI24 : noInt Try.prog 24 = true := by simp [noInt, Try.underlying24]
attribute [go_sem] Try.underlying24 tsz24 tby24 tz24 agg24 nI24
-- t 25 func(uint64) []uint8
theorem tsz25 : tsz Try.prog 25 = some 1 := by kernel_rfl
theorem tby25 : tby Try.prog 25 = some 8 := by kernel_rfl
theorem tz25 : tzero Try.prog 25 = some (.nilFunc) := by kernel_rfl
theorem agg25 : aggB Try.prog 25 = some false := by simp [aggB, Try.underlying25]
attribute [go_sem] Try.underlying25 tsz25 tby25 tz25 agg25
-- t 27 func([]uint8) (uint64, bool)
theorem tsz27 : tsz Try.prog 27 = some 1 := by kernel_rfl
theorem tby27 : tby Try.prog 27 = some 8 := by kernel_rfl
theorem tz27 : tzero Try.prog 27 = some (.nilFunc) := by kernel_rfl
theorem agg27 : aggB Try.prog 27 = some false := by simp [aggB, Try.underlying27]
attribute [go_sem] Try.underlying27 tsz27 tby27 tz27 agg27
-- t 28 func(uint64, []uint8) bool
theorem tsz28 : tsz Try.prog 28 = some 1 := by kernel_rfl
theorem tby28 : tby Try.prog 28 = some 8 := by kernel_rfl
theorem tz28 : tzero Try.prog 28 = some (.nilFunc) := by kernel_rfl
theorem agg28 : aggB Try.prog 28 = some false := by simp [aggB, Try.underlying28]
attribute [go_sem] Try.underlying28 tsz28 tby28 tz28 agg28
-- t 29 []api.Field
theorem tsz29 : tsz Try.prog 29 = some 1 := by kernel_rfl
theorem tby29 : tby Try.prog 29 = some 24 := by kernel_rfl
theorem tz29 : tzero Try.prog 29 = some (.slice none 0 0) := by kernel_rfl
theorem agg29 : aggB Try.prog 29 = some false := by simp [aggB, Try.underlying29]
theorem nI29 : noInt Try.prog 29 = true := by simp [noInt, Try.underlying29]
attribute [go_sem] Try.underlying29 tsz29 tby29 tz29 agg29 nI29
-- t 30 func([]api.Field) bool
theorem tsz30 : tsz Try.prog 30 = some 1 := by kernel_rfl
theorem tby30 : tby Try.prog 30 = some 8 := by kernel_rfl
theorem tz30 : tzero Try.prog 30 = some (.nilFunc) := by kernel_rfl
theorem agg30 : aggB Try.prog 30 = some false := by simp [aggB, Try.underlying30]
attribute [go_sem] Try.underlying30 tsz30 tby30 tz30 agg30
-- t 31 func([]api.Field) []api.Field
theorem tsz31 : tsz Try.prog 31 = some 1 := by kernel_rfl
theorem tby31 : tby Try.prog 31 = some 8 := by kernel_rfl
theorem tz31 : tzero Try.prog 31 = some (.nilFunc) := by kernel_rfl
theorem agg31 : aggB Try.prog 31 = some false := by simp [aggB, Try.underlying31]
attribute [go_sem] Try.underlying31 tsz31 tby31 tz31 agg31
-- t 32 api.Errno = gangway/api.Errno
theorem tsz32 : tsz Try.prog 32 = some 1 := by kernel_rfl
theorem tby32 : tby Try.prog 32 = some 8 := by kernel_rfl
theorem tz32 : tzero Try.prog 32 = some (.int .i64 0) := by kernel_rfl
theorem agg32 : aggB Try.prog 32 = some false := by simp [aggB, Try.underlying32]
attribute [go_sem] Try.underlying32 tsz32 tby32 tz32 agg32
-- t 34 func([]api.Field) ([]uint8, api.Errno)
theorem tsz34 : tsz Try.prog 34 = some 1 := by kernel_rfl
theorem tby34 : tby Try.prog 34 = some 8 := by kernel_rfl
theorem tz34 : tzero Try.prog 34 = some (.nilFunc) := by kernel_rfl
theorem agg34 : aggB Try.prog 34 = some false := by simp [aggB, Try.underlying34]
attribute [go_sem] Try.underlying34 tsz34 tby34 tz34 agg34
-- t 36 func([]api.Field) ([]uint8, int)
theorem tsz36 : tsz Try.prog 36 = some 1 := by kernel_rfl
theorem tby36 : tby Try.prog 36 = some 8 := by kernel_rfl
theorem tz36 : tzero Try.prog 36 = some (.nilFunc) := by kernel_rfl
theorem agg36 : aggB Try.prog 36 = some false := by simp [aggB, Try.underlying36]
attribute [go_sem] Try.underlying36 tsz36 tby36 tz36 agg36
-- t 37 func([]api.Field, []api.Field) bool
theorem tsz37 : tsz Try.prog 37 = some 1 := by kernel_rfl
theorem tby37 : tby Try.prog 37 = some 8 := by kernel_rfl
theorem tz37 : tzero Try.prog 37 = some (.nilFunc) := by kernel_rfl
theorem agg37 : aggB Try.prog 37 = some false := by simp [aggB, Try.underlying37]
attribute [go_sem] Try.underlying37 tsz37 tby37 tz37 agg37
-- t 39 func([]uint8) ([]api.Field, api.Errno)
theorem tsz39 : tsz Try.prog 39 = some 1 := by kernel_rfl
theorem tby39 : tby Try.prog 39 = some 8 := by kernel_rfl
theorem tz39 : tzero Try.prog 39 = some (.nilFunc) := by kernel_rfl
theorem agg39 : aggB Try.prog 39 = some false := by simp [aggB, Try.underlying39]
attribute [go_sem] Try.underlying39 tsz39 tby39 tz39 agg39
-- t 41 func([]uint8) ([]api.Field, int)
theorem tsz41 : tsz Try.prog 41 = some 1 := by kernel_rfl
theorem tby41 : tby Try.prog 41 = some 8 := by kernel_rfl
theorem tz41 : tzero Try.prog 41 = some (.nilFunc) := by kernel_rfl
theorem agg41 : aggB Try.prog 41 = some false := by simp [aggB, Try.underlying41]
attribute [go_sem] Try.underlying41 tsz41 tby41 tz41 agg41
-- t 42 func([]api.Field)
theorem tsz42 : tsz Try.prog 42 = some 1 := by kernel_rfl
theorem tby42 : tby Try.prog 42 = some 8 := by kernel_rfl
theorem tz42 : tzero Try.prog 42 = some (.nilFunc) := by kernel_rfl
theorem agg42 : aggB Try.prog 42 = some false := by simp [aggB, Try.underlying42]
attribute [go_sem] Try.underlying42 tsz42 tby42 tz42 agg42
-- t 43 func([]uint8) bool
theorem tsz43 : tsz Try.prog 43 = some 1 := by kernel_rfl
theorem tby43 : tby Try.prog 43 = some 8 := by kernel_rfl
theorem tz43 : tzero Try.prog 43 = some (.nilFunc) := by kernel_rfl
theorem agg43 : aggB Try.prog 43 = some false := by simp [aggB, Try.underlying43]
attribute [go_sem] Try.underlying43 tsz43 tby43 tz43 agg43
-- t 44 func([]uint8, []uint8) bool
theorem tsz44 : tsz Try.prog 44 = some 1 := by kernel_rfl
theorem tby44 : tby Try.prog 44 = some 8 := by kernel_rfl
theorem tz44 : tzero Try.prog 44 = some (.nilFunc) := by kernel_rfl
theorem agg44 : aggB Try.prog 44 = some false := by simp [aggB, Try.underlying44]
attribute [go_sem] Try.underlying44 tsz44 tby44 tz44 agg44
-- t 45 struct ( Tag int; Value []uint8 )
theorem tsz45 : tsz Try.prog 45 = some 2 := by kernel_rfl
theorem tby45 : tby Try.prog 45 = some 32 := by kernel_rfl
theorem tz45 : tzero Try.prog 45 = some (.agg #[.int .i64 0, .slice none 0 0]) := by kernel_rfl
theorem agg45 : aggB Try.prog 45 = some true := by simp [aggB, Try.underlying45]
attribute [go_sem] Try.underlying45 tsz45 tby45 tz45 agg45
-- t 46 api.Field = gangway/api.Field
theorem tsz46 : tsz Try.prog 46 = some 2 := by kernel_rfl
theorem tby46 : tby Try.prog 46 = some 32 := by kernel_rfl
theorem tz46 : tzero Try.prog 46 = some (.agg #[.int .i64 0, .slice none 0 0]) := by kernel_rfl
theorem agg46 : aggB Try.prog 46 = some true := by simp [aggB, Try.underlying46]
attribute [go_sem] Try.underlying46 tsz46 tby46 tz46 agg46
-- t 47 func(int, []uint8, int) bool
theorem tsz47 : tsz Try.prog 47 = some 1 := by kernel_rfl
theorem tby47 : tby Try.prog 47 = some 8 := by kernel_rfl
theorem tz47 : tzero Try.prog 47 = some (.nilFunc) := by kernel_rfl
theorem agg47 : aggB Try.prog 47 = some false := by simp [aggB, Try.underlying47]
attribute [go_sem] Try.underlying47 tsz47 tby47 tz47 agg47
-- t 48 []int
theorem tsz48 : tsz Try.prog 48 = some 1 := by kernel_rfl
theorem tby48 : tby Try.prog 48 = some 24 := by kernel_rfl
theorem tz48 : tzero Try.prog 48 = some (.slice none 0 0) := by kernel_rfl
theorem agg48 : aggB Try.prog 48 = some false := by simp [aggB, Try.underlying48]
theorem nI48 : noInt Try.prog 48 = true := by simp [noInt, Try.underlying48]
attribute [go_sem] Try.underlying48 tsz48 tby48 tz48 agg48 nI48
-- t 49 [][]uint8
theorem tsz49 : tsz Try.prog 49 = some 1 := by kernel_rfl
theorem tby49 : tby Try.prog 49 = some 24 := by kernel_rfl
theorem tz49 : tzero Try.prog 49 = some (.slice none 0 0) := by kernel_rfl
theorem agg49 : aggB Try.prog 49 = some false := by simp [aggB, Try.underlying49]
theorem nI49 : noInt Try.prog 49 = true := by simp [noInt, Try.underlying49]
attribute [go_sem] Try.underlying49 tsz49 tby49 tz49 agg49 nI49
-- t 51 func([]uint8, []int) ([][]uint8, api.Errno)
theorem tsz51 : tsz Try.prog 51 = some 1 := by kernel_rfl
theorem tby51 : tby Try.prog 51 = some 8 := by kernel_rfl
theorem tz51 : tzero Try.prog 51 = some (.nilFunc) := by kernel_rfl
theorem agg51 : aggB Try.prog 51 = some false := by simp [aggB, Try.underlying51]
attribute [go_sem] Try.underlying51 tsz51 tby51 tz51 agg51
-- t 53 func([]uint8, []int) ([][]uint8, int)
theorem tsz53 : tsz Try.prog 53 = some 1 := by kernel_rfl
theorem tby53 : tby Try.prog 53 = some 8 := by kernel_rfl
theorem tz53 : tzero Try.prog 53 = some (.nilFunc) := by kernel_rfl
theorem agg53 : aggB Try.prog 53 = some false := by simp [aggB, Try.underlying53]
attribute [go_sem] Try.underlying53 tsz53 tby53 tz53 agg53
-- t 54 func([][]uint8, [][]uint8) bool
theorem tsz54 : tsz Try.prog 54 = some 1 := by kernel_rfl
theorem tby54 : tby Try.prog 54 = some 8 := by kernel_rfl
theorem tz54 : tzero Try.prog 54 = some (.nilFunc) := by kernel_rfl
theorem agg54 : aggB Try.prog 54 = some false := by simp [aggB, Try.underlying54]
attribute [go_sem] Try.underlying54 tsz54 tby54 tz54 agg54
-- t 55 func([]uint8, []int) bool
theorem tsz55 : tsz Try.prog 55 = some 1 := by kernel_rfl
theorem tby55 : tby Try.prog 55 = some 8 := by kernel_rfl
theorem tz55 : tzero Try.prog 55 = some (.nilFunc) := by kernel_rfl
theorem agg55 : aggB Try.prog 55 = some false := by simp [aggB, Try.underlying55]
attribute [go_sem] Try.underlying55 tsz55 tby55 tz55 agg55
-- t 56 uint
theorem tsz56 : tsz Try.prog 56 = some 1 := by kernel_rfl
theorem tby56 : tby Try.prog 56 = some 8 := by kernel_rfl
theorem tz56 : tzero Try.prog 56 = some (.int .u64 0) := by kernel_rfl
theorem agg56 : aggB Try.prog 56 = some false := by simp [aggB, Try.underlying56]
attribute [go_sem] Try.underlying56 tsz56 tby56 tz56 agg56
-- t 57 func([]uint8)
theorem tsz57 : tsz Try.prog 57 = some 1 := by kernel_rfl
theorem tby57 : tby Try.prog 57 = some 8 := by kernel_rfl
theorem tz57 : tzero Try.prog 57 = some (.nilFunc) := by kernel_rfl
theorem agg57 : aggB Try.prog 57 = some false := by simp [aggB, Try.underlying57]
attribute [go_sem] Try.underlying57 tsz57 tby57 tz57 agg57
-- t 58 func(int, []uint8) []uint8
theorem tsz58 : tsz Try.prog 58 = some 1 := by kernel_rfl
theorem tby58 : tby Try.prog 58 = some 8 := by kernel_rfl
theorem tz58 : tzero Try.prog 58 = some (.nilFunc) := by kernel_rfl
theorem agg58 : aggB Try.prog 58 = some false := by simp [aggB, Try.underlying58]
attribute [go_sem] Try.underlying58 tsz58 tby58 tz58 agg58
-- t 59 func([]uint8) []uint8
theorem tsz59 : tsz Try.prog 59 = some 1 := by kernel_rfl
theorem tby59 : tby Try.prog 59 = some 8 := by kernel_rfl
theorem tz59 : tzero Try.prog 59 = some (.nilFunc) := by kernel_rfl
theorem agg59 : aggB Try.prog 59 = some false := by simp [aggB, Try.underlying59]
attribute [go_sem] Try.underlying59 tsz59 tby59 tz59 agg59
-- t 60 func([]api.Field, []int, func(api.Field, int) bool) bool
theorem tsz60 : tsz Try.prog 60 = some 1 := by kernel_rfl
theorem tby60 : tby Try.prog 60 = some 8 := by kernel_rfl
theorem tz60 : tzero Try.prog 60 = some (.nilFunc) := by kernel_rfl
theorem agg60 : aggB Try.prog 60 = some false := by simp [aggB, Try.underlying60]
attribute [go_sem] Try.underlying60 tsz60 tby60 tz60 agg60
-- t 61 func(api.Field, int) bool
theorem tsz61 : tsz Try.prog 61 = some 1 := by kernel_rfl
theorem tby61 : tby Try.prog 61 = some 8 := by kernel_rfl
theorem tz61 : tzero Try.prog 61 = some (.nilFunc) := by kernel_rfl
theorem agg61 : aggB Try.prog 61 = some false := by simp [aggB, Try.underlying61]
attribute [go_sem] Try.underlying61 tsz61 tby61 tz61 agg61
-- t 62 func() string
theorem tsz62 : tsz Try.prog 62 = some 1 := by kernel_rfl
theorem tby62 : tby Try.prog 62 = some 8 := by kernel_rfl
theorem tz62 : tzero Try.prog 62 = some (.nilFunc) := by kernel_rfl
theorem agg62 : aggB Try.prog 62 = some false := by simp [aggB, Try.underlying62]
attribute [go_sem] Try.underlying62 tsz62 tby62 tz62 agg62
-- t 68 func() int
theorem tsz68 : tsz Try.prog 68 = some 1 := by kernel_rfl
theorem tby68 : tby Try.prog 68 = some 8 := by kernel_rfl
theorem tz68 : tzero Try.prog 68 = some (.nilFunc) := by kernel_rfl
theorem agg68 : aggB Try.prog 68 = some false := by simp [aggB, Try.underlying68]
attribute [go_sem] Try.underlying68 tsz68 tby68 tz68 agg68
-- t 69 uint32
theorem tsz69 : tsz Try.prog 69 = some 1 := by kernel_rfl
theorem tby69 : tby Try.prog 69 = some 4 := by kernel_rfl
theorem tz69 : tzero Try.prog 69 = some (.int .u32 0) := by kernel_rfl
theorem agg69 : aggB Try.prog 69 = some false := by simp [aggB, Try.underlying69]
attribute [go_sem] Try.underlying69 tsz69 tby69 tz69 agg69
-- t 73 *uint8
theorem tsz73 : tsz Try.prog 73 = some 1 := by kernel_rfl
theorem tby73 : tby Try.prog 73 = some 8 := by kernel_rfl
theorem tz73 : tzero Try.prog 73 = some (.pointer none) := by kernel_rfl
theorem agg73 : aggB Try.prog 73 = some false := by simp [aggB, Try.underlying73]
attribute [go_sem] Try.underlying73 tsz73 tby73 tz73 agg73
end L01
