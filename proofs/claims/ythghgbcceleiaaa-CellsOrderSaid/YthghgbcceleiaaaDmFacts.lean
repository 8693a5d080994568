/- Lemmas on the way to the row of the law: a machine that is proved to do as the model does, and what the functions compute on it. Conditions: none. -/
import Derived.Test.YthghgbcceleiaaaDmKey
set_option linter.unusedVariables false
set_option linter.unusedSimpArgs false
section
namespace Go.Dm
open Go.Proofs.Try
theorem sc0 : scl tab 0 = false := id rfl
theorem ls0 : lsz tab 0 = some none := id rfl
theorem sc1 : scl tab 1 = false := id rfl
theorem ls1 : lsz tab 1 = some none := id rfl
theorem sc2 : scl tab 2 = true := id rfl
theorem ls2 : lsz tab 2 = some none := id rfl
theorem sc3 : scl tab 3 = true := id rfl
theorem ls3 : lsz tab 3 = some none := id rfl
theorem sc4 : scl tab 4 = false := id rfl
theorem ls4 : lsz tab 4 = some none := id rfl
theorem sc5 : scl tab 5 = true := id rfl
theorem ls5 : lsz tab 5 = some none := id rfl
theorem sc6 : scl tab 6 = true := id rfl
theorem ls6 : lsz tab 6 = some none := id rfl
theorem sc7 : scl tab 7 = false := id rfl
theorem ls7 : lsz tab 7 = some (some 4) := id rfl
theorem fo7_0 : foff tab 7 0 = some 0 := id rfl
theorem fo7_1 : foff tab 7 1 = some 1 := id rfl
theorem fo7_2 : foff tab 7 2 = some 2 := id rfl
theorem fo7_3 : foff tab 7 3 = some 3 := id rfl
theorem sc8 : scl tab 8 = false := id rfl
theorem ls8 : lsz tab 8 = some (some 4) := id rfl
theorem fo8_0 : foff tab 8 0 = some 0 := id rfl
theorem fo8_1 : foff tab 8 1 = some 1 := id rfl
theorem fo8_2 : foff tab 8 2 = some 2 := id rfl
theorem fo8_3 : foff tab 8 3 = some 3 := id rfl
theorem sc9 : scl tab 9 = false := id rfl
theorem ls9 : lsz tab 9 = some none := id rfl
theorem sc10 : scl tab 10 = false := id rfl
theorem ls10 : lsz tab 10 = some none := id rfl
theorem sc11 : scl tab 11 = false := id rfl
theorem ls11 : lsz tab 11 = some none := id rfl
theorem sc12 : scl tab 12 = true := id rfl
theorem ls12 : lsz tab 12 = some none := id rfl
theorem sc13 : scl tab 13 = false := id rfl
theorem ls13 : lsz tab 13 = some (some 2) := id rfl
theorem fo13_0 : foff tab 13 0 = some 0 := id rfl
theorem fo13_1 : foff tab 13 1 = some 1 := id rfl
theorem sc14 : scl tab 14 = false := id rfl
theorem ls14 : lsz tab 14 = some (some 2) := id rfl
theorem fo14_0 : foff tab 14 0 = some 0 := id rfl
theorem fo14_1 : foff tab 14 1 = some 1 := id rfl
theorem sc15 : scl tab 15 = false := id rfl
theorem ls15 : lsz tab 15 = some none := id rfl
theorem sc16 : scl tab 16 = false := id rfl
theorem ls16 : lsz tab 16 = some none := id rfl
theorem sc17 : scl tab 17 = false := id rfl
theorem ls17 : lsz tab 17 = some none := id rfl
theorem sc18 : scl tab 18 = false := id rfl
theorem ls18 : lsz tab 18 = some (some 1) := id rfl
theorem fo18_0 : foff tab 18 0 = some 0 := id rfl
theorem sc19 : scl tab 19 = false := id rfl
theorem ls19 : lsz tab 19 = some (some 1) := id rfl
theorem fo19_0 : foff tab 19 0 = some 0 := id rfl
theorem sc20 : scl tab 20 = false := id rfl
theorem ls20 : lsz tab 20 = some none := id rfl
theorem sc21 : scl tab 21 = true := id rfl
theorem ls21 : lsz tab 21 = some none := id rfl
theorem sc22 : scl tab 22 = false := id rfl
theorem ls22 : lsz tab 22 = some none := id rfl
theorem el22 : elm tab 22 = some 4 := id rfl
theorem sc23 : scl tab 23 = false := id rfl
theorem ls23 : lsz tab 23 = some none := id rfl
theorem el23 : elm tab 23 = some 1 := id rfl
theorem sc24 : scl tab 24 = false := id rfl
theorem ls24 : lsz tab 24 = some none := id rfl
theorem sc25 : scl tab 25 = false := id rfl
theorem ls25 : lsz tab 25 = some none := id rfl
theorem el25 : elm tab 25 = some 4 := id rfl
theorem sc26 : scl tab 26 = false := id rfl
theorem ls26 : lsz tab 26 = some none := id rfl
theorem sc27 : scl tab 27 = false := id rfl
theorem ls27 : lsz tab 27 = some none := id rfl
theorem sc28 : scl tab 28 = false := id rfl
theorem ls28 : lsz tab 28 = some none := id rfl
theorem el28 : elm tab 28 = some 1 := id rfl
theorem sc29 : scl tab 29 = false := id rfl
theorem ls29 : lsz tab 29 = some none := id rfl
theorem sc30 : scl tab 30 = false := id rfl
theorem ls30 : lsz tab 30 = some none := id rfl
theorem sc31 : scl tab 31 = false := id rfl
theorem ls31 : lsz tab 31 = some none := id rfl
theorem sc32 : scl tab 32 = false := id rfl
theorem ls32 : lsz tab 32 = some none := id rfl
theorem sc33 : scl tab 33 = false := id rfl
theorem ls33 : lsz tab 33 = some none := id rfl
theorem sc34 : scl tab 34 = false := id rfl
theorem ls34 : lsz tab 34 = some none := id rfl
theorem sc35 : scl tab 35 = false := id rfl
theorem ls35 : lsz tab 35 = some none := id rfl
theorem sc36 : scl tab 36 = false := id rfl
theorem ls36 : lsz tab 36 = some (some 4) := id rfl
theorem fo36_0 : foff tab 36 0 = some 0 := id rfl
theorem fo36_1 : foff tab 36 1 = some 1 := id rfl
theorem fo36_2 : foff tab 36 2 = some 2 := id rfl
theorem fo36_3 : foff tab 36 3 = some 3 := id rfl
theorem sc37 : scl tab 37 = false := id rfl
theorem ls37 : lsz tab 37 = some (some 4) := id rfl
theorem fo37_0 : foff tab 37 0 = some 0 := id rfl
theorem fo37_1 : foff tab 37 1 = some 1 := id rfl
theorem fo37_2 : foff tab 37 2 = some 2 := id rfl
theorem fo37_3 : foff tab 37 3 = some 3 := id rfl
theorem sc38 : scl tab 38 = false := id rfl
theorem ls38 : lsz tab 38 = some none := id rfl
theorem sc39 : scl tab 39 = false := id rfl
theorem ls39 : lsz tab 39 = some none := id rfl
theorem sc40 : scl tab 40 = false := id rfl
theorem ls40 : lsz tab 40 = some (some 4) := id rfl
theorem fo40_0 : foff tab 40 0 = some 0 := id rfl
theorem fo40_1 : foff tab 40 1 = some 1 := id rfl
theorem fo40_2 : foff tab 40 2 = some 2 := id rfl
theorem fo40_3 : foff tab 40 3 = some 3 := id rfl
theorem sc41 : scl tab 41 = false := id rfl
theorem ls41 : lsz tab 41 = some none := id rfl
theorem sc42 : scl tab 42 = false := id rfl
theorem ls42 : lsz tab 42 = some none := id rfl
theorem sc43 : scl tab 43 = true := id rfl
theorem ls43 : lsz tab 43 = some none := id rfl
theorem sc44 : scl tab 44 = false := id rfl
theorem ls44 : lsz tab 44 = some none := id rfl
theorem sc45 : scl tab 45 = false := id rfl
theorem ls45 : lsz tab 45 = some none := id rfl
theorem sc46 : scl tab 46 = false := id rfl
theorem ls46 : lsz tab 46 = some none := id rfl
theorem sc47 : scl tab 47 = false := id rfl
theorem ls47 : lsz tab 47 = some none := id rfl
theorem sc48 : scl tab 48 = false := id rfl
theorem ls48 : lsz tab 48 = some none := id rfl
theorem el48 : elm tab 48 = some 4 := id rfl
theorem sc49 : scl tab 49 = false := id rfl
theorem ls49 : lsz tab 49 = some (some 3) := id rfl
theorem fo49_0 : foff tab 49 0 = some 0 := id rfl
theorem fo49_1 : foff tab 49 1 = some 1 := id rfl
theorem fo49_2 : foff tab 49 2 = some 2 := id rfl
theorem sc50 : scl tab 50 = false := id rfl
theorem ls50 : lsz tab 50 = some (some 3) := id rfl
theorem fo50_0 : foff tab 50 0 = some 0 := id rfl
theorem fo50_1 : foff tab 50 1 = some 1 := id rfl
theorem fo50_2 : foff tab 50 2 = some 2 := id rfl
theorem sc51 : scl tab 51 = false := id rfl
theorem ls51 : lsz tab 51 = some (some 4) := id rfl
theorem fo51_0 : foff tab 51 0 = some 0 := id rfl
theorem fo51_1 : foff tab 51 1 = some 3 := id rfl
theorem sc52 : scl tab 52 = false := id rfl
theorem ls52 : lsz tab 52 = some (some 4) := id rfl
theorem fo52_0 : foff tab 52 0 = some 0 := id rfl
theorem fo52_1 : foff tab 52 1 = some 3 := id rfl
theorem sc53 : scl tab 53 = false := id rfl
theorem ls53 : lsz tab 53 = some none := id rfl
theorem sc54 : scl tab 54 = false := id rfl
theorem ls54 : lsz tab 54 = some none := id rfl
theorem sc55 : scl tab 55 = false := id rfl
theorem ls55 : lsz tab 55 = some none := id rfl
theorem el55 : elm tab 55 = some 4 := id rfl
theorem sc56 : scl tab 56 = false := id rfl
theorem ls56 : lsz tab 56 = some none := id rfl
theorem sc57 : scl tab 57 = false := id rfl
theorem ls57 : lsz tab 57 = some none := id rfl
theorem sc58 : scl tab 58 = false := id rfl
theorem ls58 : lsz tab 58 = some none := id rfl
theorem sc59 : scl tab 59 = false := id rfl
theorem ls59 : lsz tab 59 = some none := id rfl
theorem sc60 : scl tab 60 = false := id rfl
theorem ls60 : lsz tab 60 = some none := id rfl
theorem el60 : elm tab 60 = some 3 := id rfl
theorem sc61 : scl tab 61 = false := id rfl
theorem ls61 : lsz tab 61 = some none := id rfl
theorem sc62 : scl tab 62 = false := id rfl
theorem ls62 : lsz tab 62 = some none := id rfl
theorem sc63 : scl tab 63 = false := id rfl
theorem ls63 : lsz tab 63 = some (some 4) := id rfl
theorem fo63_0 : foff tab 63 0 = some 0 := id rfl
theorem fo63_1 : foff tab 63 1 = some 3 := id rfl
theorem sc64 : scl tab 64 = false := id rfl
theorem ls64 : lsz tab 64 = some (some 4) := id rfl
theorem fo64_0 : foff tab 64 0 = some 0 := id rfl
theorem fo64_1 : foff tab 64 1 = some 3 := id rfl
theorem sc65 : scl tab 65 = false := id rfl
theorem ls65 : lsz tab 65 = some none := id rfl
theorem sc66 : scl tab 66 = false := id rfl
theorem ls66 : lsz tab 66 = some none := id rfl
theorem sc67 : scl tab 67 = false := id rfl
theorem ls67 : lsz tab 67 = some none := id rfl
theorem el67 : elm tab 67 = some 4 := id rfl
theorem sc68 : scl tab 68 = false := id rfl
theorem ls68 : lsz tab 68 = some none := id rfl
theorem sc69 : scl tab 69 = false := id rfl
theorem ls69 : lsz tab 69 = some none := id rfl
theorem sc70 : scl tab 70 = false := id rfl
theorem ls70 : lsz tab 70 = some none := id rfl
theorem sc71 : scl tab 71 = false := id rfl
theorem ls71 : lsz tab 71 = some none := id rfl
theorem el71 : elm tab 71 = some 7 := id rfl
theorem sc72 : scl tab 72 = false := id rfl
theorem ls72 : lsz tab 72 = some none := id rfl
theorem sc73 : scl tab 73 = false := id rfl
theorem ls73 : lsz tab 73 = some none := id rfl
theorem sc74 : scl tab 74 = false := id rfl
theorem ls74 : lsz tab 74 = some none := id rfl
theorem sc75 : scl tab 75 = false := id rfl
theorem ls75 : lsz tab 75 = some none := id rfl
theorem sc76 : scl tab 76 = false := id rfl
theorem ls76 : lsz tab 76 = some (some 7) := id rfl
theorem fo76_0 : foff tab 76 0 = some 0 := id rfl
theorem fo76_1 : foff tab 76 1 = some 1 := id rfl
theorem fo76_2 : foff tab 76 2 = some 4 := id rfl
theorem fo76_3 : foff tab 76 3 = some 5 := id rfl
theorem fo76_4 : foff tab 76 4 = some 6 := id rfl
theorem sc77 : scl tab 77 = false := id rfl
theorem ls77 : lsz tab 77 = some (some 7) := id rfl
theorem fo77_0 : foff tab 77 0 = some 0 := id rfl
theorem fo77_1 : foff tab 77 1 = some 1 := id rfl
theorem fo77_2 : foff tab 77 2 = some 4 := id rfl
theorem fo77_3 : foff tab 77 3 = some 5 := id rfl
theorem fo77_4 : foff tab 77 4 = some 6 := id rfl
theorem sc78 : scl tab 78 = false := id rfl
theorem ls78 : lsz tab 78 = some none := id rfl
theorem sc79 : scl tab 79 = false := id rfl
theorem ls79 : lsz tab 79 = some none := id rfl
theorem sc80 : scl tab 80 = false := id rfl
theorem ls80 : lsz tab 80 = some none := id rfl
theorem sc81 : scl tab 81 = false := id rfl
theorem ls81 : lsz tab 81 = some none := id rfl
theorem sc82 : scl tab 82 = false := id rfl
theorem ls82 : lsz tab 82 = some none := id rfl
theorem sc83 : scl tab 83 = false := id rfl
theorem ls83 : lsz tab 83 = some none := id rfl
theorem sc84 : scl tab 84 = false := id rfl
theorem ls84 : lsz tab 84 = some none := id rfl
theorem el84 : elm tab 84 = some 2 := id rfl
theorem sc85 : scl tab 85 = false := id rfl
theorem ls85 : lsz tab 85 = some none := id rfl
theorem sc86 : scl tab 86 = false := id rfl
theorem ls86 : lsz tab 86 = some (some 4) := id rfl
theorem sc87 : scl tab 87 = false := id rfl
theorem ls87 : lsz tab 87 = some (some 4) := id rfl
theorem sc88 : scl tab 88 = false := id rfl
theorem ls88 : lsz tab 88 = some (some 2) := id rfl
theorem sc89 : scl tab 89 = false := id rfl
theorem ls89 : lsz tab 89 = some none := id rfl
theorem el89 : elm tab 89 = some 1 := id rfl
theorem sc90 : scl tab 90 = false := id rfl
theorem ls90 : lsz tab 90 = some none := id rfl
theorem sc91 : scl tab 91 = false := id rfl
theorem ls91 : lsz tab 91 = some (some 4) := id rfl
theorem fo91_0 : foff tab 91 0 = some 0 := id rfl
theorem fo91_1 : foff tab 91 1 = some 3 := id rfl
theorem sc92 : scl tab 92 = false := id rfl
theorem ls92 : lsz tab 92 = some (some 4) := id rfl
theorem fo92_0 : foff tab 92 0 = some 0 := id rfl
theorem fo92_1 : foff tab 92 1 = some 3 := id rfl
theorem sc93 : scl tab 93 = false := id rfl
theorem ls93 : lsz tab 93 = some none := id rfl
theorem sc94 : scl tab 94 = false := id rfl
theorem ls94 : lsz tab 94 = some none := id rfl
theorem sc95 : scl tab 95 = false := id rfl
theorem ls95 : lsz tab 95 = some none := id rfl
theorem sc96 : scl tab 96 = false := id rfl
theorem ls96 : lsz tab 96 = some none := id rfl
theorem sc97 : scl tab 97 = false := id rfl
theorem ls97 : lsz tab 97 = some none := id rfl
theorem sc98 : scl tab 98 = false := id rfl
theorem ls98 : lsz tab 98 = some none := id rfl
theorem sc99 : scl tab 99 = false := id rfl
theorem ls99 : lsz tab 99 = some none := id rfl
theorem sc100 : scl tab 100 = false := id rfl
theorem ls100 : lsz tab 100 = some none := id rfl
theorem sc101 : scl tab 101 = false := id rfl
theorem ls101 : lsz tab 101 = some none := id rfl
theorem sc102 : scl tab 102 = false := id rfl
theorem ls102 : lsz tab 102 = some none := id rfl
theorem sc103 : scl tab 103 = false := id rfl
theorem ls103 : lsz tab 103 = some none := id rfl
theorem sc104 : scl tab 104 = false := id rfl
theorem ls104 : lsz tab 104 = some none := id rfl
theorem sc105 : scl tab 105 = false := id rfl
theorem ls105 : lsz tab 105 = some none := id rfl
theorem sc106 : scl tab 106 = false := id rfl
theorem ls106 : lsz tab 106 = some none := id rfl
theorem sc107 : scl tab 107 = false := id rfl
theorem ls107 : lsz tab 107 = some none := id rfl
theorem sc108 : scl tab 108 = false := id rfl
theorem ls108 : lsz tab 108 = some (some 4) := id rfl
theorem fo108_0 : foff tab 108 0 = some 0 := id rfl
theorem fo108_1 : foff tab 108 1 = some 3 := id rfl
theorem sc109 : scl tab 109 = false := id rfl
theorem ls109 : lsz tab 109 = some none := id rfl
theorem sc110 : scl tab 110 = false := id rfl
theorem ls110 : lsz tab 110 = some none := id rfl
theorem sc111 : scl tab 111 = false := id rfl
theorem ls111 : lsz tab 111 = some none := id rfl
theorem sc112 : scl tab 112 = false := id rfl
theorem ls112 : lsz tab 112 = some none := id rfl
theorem sc113 : scl tab 113 = false := id rfl
theorem ls113 : lsz tab 113 = some none := id rfl
theorem sc114 : scl tab 114 = false := id rfl
theorem ls114 : lsz tab 114 = some none := id rfl
theorem sc115 : scl tab 115 = false := id rfl
theorem ls115 : lsz tab 115 = some none := id rfl
theorem sc116 : scl tab 116 = false := id rfl
theorem ls116 : lsz tab 116 = some none := id rfl
theorem sc117 : scl tab 117 = false := id rfl
theorem ls117 : lsz tab 117 = some (some 1) := id rfl
theorem fo117_0 : foff tab 117 0 = some 0 := id rfl
theorem sc118 : scl tab 118 = false := id rfl
theorem ls118 : lsz tab 118 = some (some 1) := id rfl
theorem fo118_0 : foff tab 118 0 = some 0 := id rfl
theorem sc119 : scl tab 119 = false := id rfl
theorem ls119 : lsz tab 119 = some none := id rfl
theorem sc120 : scl tab 120 = false := id rfl
theorem ls120 : lsz tab 120 = some none := id rfl
theorem sc121 : scl tab 121 = false := id rfl
theorem ls121 : lsz tab 121 = some none := id rfl
theorem sc122 : scl tab 122 = false := id rfl
theorem ls122 : lsz tab 122 = some none := id rfl
theorem sc123 : scl tab 123 = false := id rfl
theorem ls123 : lsz tab 123 = some none := id rfl
theorem sc124 : scl tab 124 = false := id rfl
theorem ls124 : lsz tab 124 = some none := id rfl
theorem sc125 : scl tab 125 = false := id rfl
theorem ls125 : lsz tab 125 = some none := id rfl
theorem sc126 : scl tab 126 = false := id rfl
theorem ls126 : lsz tab 126 = some none := id rfl
theorem sc127 : scl tab 127 = false := id rfl
theorem ls127 : lsz tab 127 = some none := id rfl
theorem sc128 : scl tab 128 = false := id rfl
theorem ls128 : lsz tab 128 = some none := id rfl
theorem sc129 : scl tab 129 = false := id rfl
theorem ls129 : lsz tab 129 = some none := id rfl
theorem sc130 : scl tab 130 = false := id rfl
theorem ls130 : lsz tab 130 = some none := id rfl
theorem sc131 : scl tab 131 = false := id rfl
theorem ls131 : lsz tab 131 = some none := id rfl
theorem sc132 : scl tab 132 = false := id rfl
theorem ls132 : lsz tab 132 = some none := id rfl
theorem sc133 : scl tab 133 = false := id rfl
theorem ls133 : lsz tab 133 = some none := id rfl
theorem sc134 : scl tab 134 = false := id rfl
theorem ls134 : lsz tab 134 = some none := id rfl
theorem sc135 : scl tab 135 = false := id rfl
theorem ls135 : lsz tab 135 = some none := id rfl
theorem sc136 : scl tab 136 = false := id rfl
theorem ls136 : lsz tab 136 = some none := id rfl
theorem sc137 : scl tab 137 = false := id rfl
theorem ls137 : lsz tab 137 = some none := id rfl
theorem sc138 : scl tab 138 = false := id rfl
theorem ls138 : lsz tab 138 = some none := id rfl
theorem sc139 : scl tab 139 = false := id rfl
theorem ls139 : lsz tab 139 = some none := id rfl
theorem sc140 : scl tab 140 = false := id rfl
theorem ls140 : lsz tab 140 = some none := id rfl
theorem sc141 : scl tab 141 = true := id rfl
theorem ls141 : lsz tab 141 = some none := id rfl
theorem sc142 : scl tab 142 = false := id rfl
theorem ls142 : lsz tab 142 = some none := id rfl
theorem el142 : elm tab 142 = some 1 := id rfl
theorem sc143 : scl tab 143 = false := id rfl
theorem ls143 : lsz tab 143 = some none := id rfl
theorem sc144 : scl tab 144 = false := id rfl
theorem ls144 : lsz tab 144 = some none := id rfl
theorem sc145 : scl tab 145 = false := id rfl
theorem ls145 : lsz tab 145 = some none := id rfl
theorem sc146 : scl tab 146 = true := id rfl
theorem ls146 : lsz tab 146 = some none := id rfl
theorem sc147 : scl tab 147 = false := id rfl
theorem ls147 : lsz tab 147 = some none := id rfl
theorem sc148 : scl tab 148 = false := id rfl
theorem ls148 : lsz tab 148 = some none := id rfl
theorem sc149 : scl tab 149 = false := id rfl
theorem ls149 : lsz tab 149 = some none := id rfl
theorem sc150 : scl tab 150 = false := id rfl
theorem ls150 : lsz tab 150 = some none := id rfl
theorem sc151 : scl tab 151 = false := id rfl
theorem ls151 : lsz tab 151 = some none := id rfl
theorem sc152 : scl tab 152 = false := id rfl
theorem ls152 : lsz tab 152 = some none := id rfl
theorem sc153 : scl tab 153 = false := id rfl
theorem ls153 : lsz tab 153 = some none := id rfl
theorem sc154 : scl tab 154 = true := id rfl
theorem ls154 : lsz tab 154 = some none := id rfl
theorem sc155 : scl tab 155 = false := id rfl
theorem ls155 : lsz tab 155 = some none := id rfl
theorem sc156 : scl tab 156 = true := id rfl
theorem ls156 : lsz tab 156 = some none := id rfl
theorem sc157 : scl tab 157 = true := id rfl
theorem ls157 : lsz tab 157 = some none := id rfl
theorem sc158 : scl tab 158 = false := id rfl
theorem ls158 : lsz tab 158 = some none := id rfl
theorem sc159 : scl tab 159 = false := id rfl
theorem ls159 : lsz tab 159 = some none := id rfl
theorem sc160 : scl tab 160 = false := id rfl
theorem ls160 : lsz tab 160 = some none := id rfl
theorem sc161 : scl tab 161 = false := id rfl
theorem ls161 : lsz tab 161 = some none := id rfl
theorem sc162 : scl tab 162 = false := id rfl
theorem ls162 : lsz tab 162 = some none := id rfl
theorem sc163 : scl tab 163 = false := id rfl
theorem ls163 : lsz tab 163 = some none := id rfl
theorem sc164 : scl tab 164 = false := id rfl
theorem ls164 : lsz tab 164 = some none := id rfl
theorem sc165 : scl tab 165 = false := id rfl
theorem ls165 : lsz tab 165 = some none := id rfl
theorem sc166 : scl tab 166 = false := id rfl
theorem ls166 : lsz tab 166 = some none := id rfl
theorem sc167 : scl tab 167 = false := id rfl
theorem ls167 : lsz tab 167 = some (some 4) := id rfl
theorem fo167_0 : foff tab 167 0 = some 0 := id rfl
theorem fo167_1 : foff tab 167 1 = some 1 := id rfl
theorem fo167_2 : foff tab 167 2 = some 2 := id rfl
theorem fo167_3 : foff tab 167 3 = some 3 := id rfl
theorem sc168 : scl tab 168 = false := id rfl
theorem ls168 : lsz tab 168 = some (some 4) := id rfl
theorem fo168_0 : foff tab 168 0 = some 0 := id rfl
theorem fo168_1 : foff tab 168 1 = some 1 := id rfl
theorem fo168_2 : foff tab 168 2 = some 2 := id rfl
theorem fo168_3 : foff tab 168 3 = some 3 := id rfl
theorem sc169 : scl tab 169 = false := id rfl
theorem ls169 : lsz tab 169 = some (some 0) := id rfl
theorem sc172 : scl tab 172 = false := id rfl
theorem ls172 : lsz tab 172 = some none := id rfl
theorem sc173 : scl tab 173 = true := id rfl
theorem ls173 : lsz tab 173 = some none := id rfl
theorem sc174 : scl tab 174 = true := id rfl
theorem ls174 : lsz tab 174 = some none := id rfl
theorem sc175 : scl tab 175 = false := id rfl
theorem ls175 : lsz tab 175 = some none := id rfl
theorem sc176 : scl tab 176 = false := id rfl
theorem ls176 : lsz tab 176 = some none := id rfl
theorem sc177 : scl tab 177 = true := id rfl
theorem ls177 : lsz tab 177 = some none := id rfl
theorem sc178 : scl tab 178 = true := id rfl
theorem ls178 : lsz tab 178 = some none := id rfl
theorem sc179 : scl tab 179 = false := id rfl
theorem ls179 : lsz tab 179 = some (some 11) := id rfl
theorem fo179_0 : foff tab 179 0 = some 0 := id rfl
theorem fo179_1 : foff tab 179 1 = some 1 := id rfl
theorem fo179_2 : foff tab 179 2 = some 2 := id rfl
theorem fo179_3 : foff tab 179 3 = some 3 := id rfl
theorem fo179_4 : foff tab 179 4 = some 4 := id rfl
theorem fo179_5 : foff tab 179 5 = some 5 := id rfl
theorem fo179_6 : foff tab 179 6 = some 6 := id rfl
theorem fo179_7 : foff tab 179 7 = some 7 := id rfl
theorem fo179_8 : foff tab 179 8 = some 8 := id rfl
theorem fo179_9 : foff tab 179 9 = some 9 := id rfl
theorem fo179_10 : foff tab 179 10 = some 10 := id rfl
theorem sc180 : scl tab 180 = false := id rfl
theorem ls180 : lsz tab 180 = some (some 11) := id rfl
theorem fo180_0 : foff tab 180 0 = some 0 := id rfl
theorem fo180_1 : foff tab 180 1 = some 1 := id rfl
theorem fo180_2 : foff tab 180 2 = some 2 := id rfl
theorem fo180_3 : foff tab 180 3 = some 3 := id rfl
theorem fo180_4 : foff tab 180 4 = some 4 := id rfl
theorem fo180_5 : foff tab 180 5 = some 5 := id rfl
theorem fo180_6 : foff tab 180 6 = some 6 := id rfl
theorem fo180_7 : foff tab 180 7 = some 7 := id rfl
theorem fo180_8 : foff tab 180 8 = some 8 := id rfl
theorem fo180_9 : foff tab 180 9 = some 9 := id rfl
theorem fo180_10 : foff tab 180 10 = some 10 := id rfl
theorem sc181 : scl tab 181 = false := id rfl
theorem ls181 : lsz tab 181 = some none := id rfl
end Go.Dm
end
section
set_option maxRecDepth 100000
namespace Go.Dm
open Go Go.Proofs.Try
/-- The steps, as one. -/
theorem wB : type_of% (And.intro (And.intro (And.intro (And.intro (And.intro (And.intro @w_nil @w_mv) (And.intro @w_as @w_pk)) (And.intro (And.intro @w_add @w_sub) (And.intro @w_lss (And.intro @w_leq @w_gtr)))) (And.intro (And.intro (And.intro @w_geq @w_eql) (And.intro @w_neq @w_not)) (And.intro (And.intro @w_fa @w_ix) (And.intro @w_ld (And.intro @w_ex @w_len))))) (And.intro (And.intro (And.intro (And.intro @b_lss @b_leq) (And.intro @b_gtr @b_geq)) (And.intro (And.intro @b_eql @b_neq) (And.intro @b_add (And.intro @b_sub @b_pk)))) (And.intro (And.intro (And.intro @b_not @b_fa) (And.intro @b_ix @b_ld)) (And.intro (And.intro @b_la @b_l1) (And.intro @b_ex (And.intro @b_len @b_len2)))))) (And.intro (And.intro (And.intro (And.intro (And.intro @e_R @e_A) (And.intro @e_I @g_tt)) (And.intro (And.intro @g_ff @g_tf) (And.intro @g_ft (And.intro @g_un @one1_e)))) (And.intro (And.intro (And.intro @p1 @p2) (And.intro @p3 @p4)) (And.intro (And.intro @p5 @p6) (And.intro @p7 (And.intro @p8 @p9))))) (And.intro (And.intro (And.intro (And.intro @s1 @s2) (And.intro @s3 @p0)) (And.intro (And.intro @pp @Bool.not_true) (And.intro @Bool.not_false (And.intro @Int.toNat_natCast @Int.natCast_nonneg)))) (And.intro (And.intro (And.intro @true_and @wl0) (And.intro @wl1 (And.intro @oc_l @oc_i))) (And.intro (And.intro @oc_b @oc_s) (And.intro @oc_m (And.intro @oc_n @oc_p))))))) := (And.intro (And.intro (And.intro (And.intro (And.intro (And.intro @w_nil @w_mv) (And.intro @w_as @w_pk)) (And.intro (And.intro @w_add @w_sub) (And.intro @w_lss (And.intro @w_leq @w_gtr)))) (And.intro (And.intro (And.intro @w_geq @w_eql) (And.intro @w_neq @w_not)) (And.intro (And.intro @w_fa @w_ix) (And.intro @w_ld (And.intro @w_ex @w_len))))) (And.intro (And.intro (And.intro (And.intro @b_lss @b_leq) (And.intro @b_gtr @b_geq)) (And.intro (And.intro @b_eql @b_neq) (And.intro @b_add (And.intro @b_sub @b_pk)))) (And.intro (And.intro (And.intro @b_not @b_fa) (And.intro @b_ix @b_ld)) (And.intro (And.intro @b_la @b_l1) (And.intro @b_ex (And.intro @b_len @b_len2)))))) (And.intro (And.intro (And.intro (And.intro (And.intro @e_R @e_A) (And.intro @e_I @g_tt)) (And.intro (And.intro @g_ff @g_tf) (And.intro @g_ft (And.intro @g_un @one1_e)))) (And.intro (And.intro (And.intro @p1 @p2) (And.intro @p3 @p4)) (And.intro (And.intro @p5 @p6) (And.intro @p7 (And.intro @p8 @p9))))) (And.intro (And.intro (And.intro (And.intro @s1 @s2) (And.intro @s3 @p0)) (And.intro (And.intro @pp @Bool.not_true) (And.intro @Bool.not_false (And.intro @Int.toNat_natCast @Int.natCast_nonneg)))) (And.intro (And.intro (And.intro @true_and @wl0) (And.intro @wl1 (And.intro @oc_l @oc_i))) (And.intro (And.intro @oc_b @oc_s) (And.intro @oc_m (And.intro @oc_n @oc_p)))))))
end Go.Dm
end
section
namespace Go.Dm
/-- A version. -/
structure V where
  ts : Int
  rd : Int
  val : ByteArray
  dn : Bool
abbrev di (x : Int) : DV := .sc (.int .i64 x)
abbrev db (x : Bool) : DV := .sc (.bool x)
def vc (v : V) : List DV := [di v.ts, di v.rd, .sc (.string v.val), db v.dn]
def mayG : Option Int → List V → Bool
  | _, [] => true
  | p, v :: vs => !(decide (v.ts < 0) || decide (v.rd < v.ts) || (match p with | none => false | some q => decide (v.ts ≤ q))) && mayG (some v.ts) vs
def mayF (vs : List V) : Bool := mayG none vs && (match vs with | [] => false | v :: _ => v.dn)
def prevT (vs : List V) (i : Nat) : Option Int := if i = 0 then none else (vs[i - 1]?).map (·.ts)
theorem drop_at {α : Type} {l : List α} {i : Nat} {x : α} (h : l[i]? = some x) : l.drop i = x :: l.drop (i + 1) := by
  obtain ⟨h1, h2⟩ := List.getElem?_eq_some_iff.1 h
  rw [List.drop_eq_getElem_cons h1, h2]
theorem map_at {α β : Type} {f : α → β} {l : List α} {i : Nat} {x : α} (h : l[i]? = some x) : (l.map f)[i]? = some (f x) := by simp [h]
end Go.Dm
end
section
/-! Cells as lists: keys in order, each with its chain. -/
namespace Go.Dm
open Go.Proofs.Try
abbrev CM := List (K3 × List V)
def Ord (m : CM) : Prop := m.Pairwise (fun a b => ltK a.1 b.1 = true)
def fresh1 : List V := [⟨0, 0, ⟨#[]⟩, true⟩]
def findM : CM → K3 → Option (List V)
  | [], _ => none
  | p :: r, k => if p.1 = k then some p.2 else findM r k
def chainM (m : CM) (k : K3) : List V := (findM m k).getD fresh1
def dropM (m : CM) (k : K3) : CM := m.filter fun p => decide (p.1 ≠ k)
def insM (m : CM) (k : K3) (l : List V) : CM := (m.filter fun p => ltK p.1 k) ++ (k, l) :: (m.filter fun p => ltK k p.1)
def setM (m : CM) (k : K3) (l : List V) : CM := if mayF l = true then insM m k l else dropM m k
theorem findM_mem {m : CM} {k : K3} {l : List V} (h : findM m k = some l) : (k, l) ∈ m := by
  induction m with
  | nil => cases h
  | cons p r ih =>
    simp only [findM] at h
    split at h
    · rename_i e
      injection h with h
      subst h e
      exact List.mem_cons_self
    · exact List.mem_cons_of_mem _ (ih h)
theorem findM_none {m : CM} {k : K3} (h : findM m k = none) : ∀ p ∈ m, p.1 ≠ k := by
  induction m with
  | nil => intro p hp; cases hp
  | cons p r ih =>
    simp only [findM] at h
    split at h
    · cases h
    · rename_i e
      intro q hq
      rcases List.mem_cons.1 hq with rfl | hq
      · exact e
      · exact ih h q hq
theorem drop_split (m : CM) (k : K3) : (dropM m k).Perm ((m.filter fun p => ltK p.1 k) ++ (m.filter fun p => ltK k p.1)) := by
  induction m with
  | nil => exact List.Perm.refl _
  | cons p r ih =>
    unfold dropM at *
    by_cases e : p.1 = k
    · rw [List.filter_cons_of_neg (by simpa using e), List.filter_cons_of_neg (by rw [e, ltK_irrefl]; simp), List.filter_cons_of_neg (by rw [e, ltK_irrefl]; simp)]
      exact ih
    · rcases ltK_total e with h | h
      · have h2 := ltK_asymm h
        rw [List.filter_cons_of_pos (by simpa using e), List.filter_cons_of_pos (p := fun q : K3 × List V => ltK q.1 k) h, List.filter_cons_of_neg (by rw [h2]; simp), List.cons_append]
        exact List.Perm.cons _ ih
      · have h2 := ltK_asymm h
        rw [List.filter_cons_of_pos (by simpa using e), List.filter_cons_of_neg (by rw [h2]; simp), List.filter_cons_of_pos (p := fun q : K3 × List V => ltK k q.1) h]
        exact (List.Perm.cons _ ih).trans List.perm_middle.symm
theorem ins_perm (m : CM) (k : K3) (l : List V) : (insM m k l).Perm ((k, l) :: dropM m k) := by
  unfold insM
  exact List.perm_middle.trans (List.Perm.cons _ (drop_split m k).symm)
theorem Ord.drop {m : CM} (h : Ord m) (k : K3) : Ord (dropM m k) := List.Pairwise.filter _ h
theorem Ord.ins {m : CM} (h : Ord m) (k : K3) (l : List V) : Ord (insM m k l) := by
  unfold Ord insM
  rw [List.pairwise_append, List.pairwise_cons]
  refine ⟨List.Pairwise.filter _ h, ⟨?_, List.Pairwise.filter _ h⟩, ?_⟩
  · intro p hp
    exact (List.mem_filter.1 hp).2
  · intro a ha b hb
    have h1 := (List.mem_filter.1 ha).2
    rcases List.mem_cons.1 hb with rfl | hb
    · exact h1
    · exact ltK_trans h1 (List.mem_filter.1 hb).2
theorem Ord.find {m : CM} (h : Ord m) {k : K3} {l : List V} (hm : (k, l) ∈ m) : findM m k = some l := by
  induction m with
  | nil => cases hm
  | cons p r ih =>
    unfold Ord at h
    rw [List.pairwise_cons] at h
    simp only [findM]
    rcases List.mem_cons.1 hm with rfl | hm
    · rw [if_pos rfl]
    · rw [if_neg (fun e => by have := h.1 _ hm; rw [e, ltK_irrefl] at this; cases this)]
      exact ih h.2 hm

theorem drop_mem {m : CM} {k : K3} {p : K3 × List V} : p ∈ dropM m k ↔ p ∈ m ∧ p.1 ≠ k := by
  unfold dropM
  rw [List.mem_filter]
  simp
theorem ins_mem {m : CM} {k : K3} {l : List V} {p : K3 × List V} : p ∈ insM m k l ↔ p = (k, l) ∨ (p ∈ m ∧ p.1 ≠ k) := by
  rw [(ins_perm m k l).mem_iff, List.mem_cons, drop_mem]
theorem Ord.set {m : CM} (h : Ord m) (k : K3) (l : List V) : Ord (setM m k l) := by
  unfold setM
  split
  · exact h.ins k l
  · exact h.drop k
theorem find_ins {m : CM} (h : Ord m) (k : K3) (l : List V) (a : K3) : findM (insM m k l) a = if a = k then some l else findM m a := by
  have ho := h.ins k l
  by_cases e : a = k
  · subst e
    rw [if_pos rfl]
    exact ho.find (ins_mem.2 (.inl rfl))
  · rw [if_neg e]
    cases hf : findM m a with
    | none =>
      cases hg : findM (insM m k l) a with
      | none => rfl
      | some q =>
        rcases ins_mem.1 (findM_mem hg) with h1 | h1
        · cases h1; exact absurd rfl e
        · exact absurd rfl (findM_none hf _ h1.1)
    | some q => exact ho.find (ins_mem.2 (.inr ⟨findM_mem hf, e⟩))
theorem find_drop {m : CM} (h : Ord m) (k : K3) (a : K3) : findM (dropM m k) a = if a = k then none else findM m a := by
  have ho := h.drop k
  by_cases e : a = k
  · subst e
    rw [if_pos rfl]
    cases hg : findM (dropM m a) a with
    | none => rfl
    | some q => exact absurd rfl (drop_mem.1 (findM_mem hg)).2
  · rw [if_neg e]
    cases hf : findM m a with
    | none =>
      cases hg : findM (dropM m k) a with
      | none => rfl
      | some q => exact absurd rfl (findM_none hf _ (drop_mem.1 (findM_mem hg)).1)
    | some q => exact ho.find (drop_mem.2 ⟨findM_mem hf, e⟩)
/-- In order, they are what is found. -/
theorem Ord.ext {m m' : CM} (h : Ord m) (h' : Ord m') (e : ∀ a, findM m a = findM m' a) : m = m' := by
  have hm : ∀ p, p ∈ m ↔ p ∈ m' := fun p => ⟨fun hp => findM_mem ((e p.1).symm.trans (h.find hp)), fun hp => findM_mem ((e p.1).trans (h'.find hp))⟩
  have nd : ∀ {m : CM}, Ord m → m.Nodup := fun h => h.imp fun hab e => by rw [e, ltK_irrefl] at hab; cases hab
  refine List.Perm.eq_of_pairwise (le := fun a b : K3 × List V => ltK a.1 b.1 = true) (fun a b _ _ h1 h2 => ?_) h h' ((List.perm_ext_iff_of_nodup (nd h) (nd h')).2 hm)
  rw [ltK_asymm h1] at h2
  cases h2
end Go.Dm
end
section
/-! Cells in memory. -/
open Go Go.Dm Go.Proofs.Try
set_option maxRecDepth 100000
set_option linter.unusedVariables false
namespace Go.Dm
def kd (k : K3) : List DV := [di k.f0, di k.f1, di k.f2]
theorem und116 : prog.underlying 116 = some (.map 50 25) := by kernel_rfl
theorem zero25 : zeroT prog 25 = some (.slice none 0 0) := by kernel_rfl
theorem kq (k : K3) : keyEq (kv k) (kv k) = true := by simp [keyEq, kv, litsEq, litEq]
theorem keyD_kd {k : K3} (h : kok k) : keyD prog env.kt 50 (.agg (kd k)) = some (kv k) := by
  unfold keyD
  have h1 : env.kt.ok 50 = true := rfl
  have h2 : scal (.agg (kd k)) = some (kv k) := rfl
  rw [if_pos h1, h2, Option.bind_some, keyOf_kv h, kq]
  rfl
theorem k3of_kv' (k : K3) : k3of (kv k) = some k := rfl
theorem keysD_map : ∀ {es : List (Value × DV)} {ks : List K3}, es.map (·.1) = ks.map kv → keysD es = some ks
  | [], [], _ => rfl
  | p :: ps, k :: ks, h => by
    simp only [List.map_cons, List.cons.injEq] at h
    simp only [keysD, h.1, k3of_kv', Option.bind_some, keysD_map h.2, Option.map_some]
  | [], _ :: _, h => by cases h
  | _ :: _, [], h => by cases h
/-- The map's entries are these chains. -/
structure MR (h : DH) (es : List (Value × DV)) (m : CM) : Prop where
  ord : Ord m
  kok : ∀ p ∈ m, kok p.1
  nd : (es.map (·.1)).Nodup
  keys : ∀ a, a ∈ es.map (·.1) ↔ a ∈ m.map fun p => kv p.1
  at_ : ∀ p ∈ m, ∃ d, findE (kv p.1) es = some d ∧ Sl h 4 d (p.2.map vc) ∧ mayF p.2 = true
theorem MR.find {h : DH} {es : List (Value × DV)} {m : CM} (r : MR h es m) {k : K3} {vs : List V} (hf : findM m k = some vs) : ∃ d, findE (kv k) es = some d ∧ Sl h 4 d (vs.map vc) ∧ mayF vs = true := r.at_ _ (findM_mem hf)
theorem MR.none {h : DH} {es : List (Value × DV)} {m : CM} (r : MR h es m) {k : K3} (hf : findM m k = none) : findE (kv k) es = none := by
  cases he : findE (kv k) es with
  | none => rfl
  | some d =>
    obtain ⟨p, hp, hpk⟩ := List.mem_map.1 ((r.keys _).1 (findE_mem he))
    exact absurd (kv_inj hpk) (findM_none hf p hp)
theorem MR.nil (h : DH) : MR h [] [] := ⟨List.Pairwise.nil, fun _ h => (nomatch h), List.nodup_nil, fun a => by simp, fun _ h => (nomatch h)⟩
theorem MR.mono {h h' : DH} {es : List (Value × DV)} {m : CM} (r : MR h es m) (hx : ∀ d xs, Sl h 4 d xs → Sl h' 4 d xs) : MR h' es m :=
  ⟨r.ord, r.kok, r.nd, r.keys, fun p hp => let ⟨d, a, b, c⟩ := r.at_ p hp; ⟨d, a, hx _ _ b, c⟩⟩
theorem MR.put {h : DH} {es : List (Value × DV)} {m : CM} (r : MR h es m) {k : K3} (hk : Dm.kok k) {d : DV} {vs : List V} (hs : Sl h 4 d (vs.map vc)) (hm : mayF vs = true) : MR h (putE (kv k) d es) (insM m k vs) := by
  obtain ⟨n1, n2⟩ := putE_keys (kq k) d es r.nd
  refine ⟨r.ord.ins k vs, fun p hp => ?_, n1, fun a => ?_, fun p hp => ?_⟩
  · rcases ins_mem.1 hp with rfl | hp
    · exact hk
    · exact r.kok p hp.1
  · rw [n2, r.keys]
    constructor
    · rintro (rfl | h)
      · exact List.mem_map.2 ⟨(k, vs), ins_mem.2 (.inl rfl), rfl⟩
      · obtain ⟨p, hp, rfl⟩ := List.mem_map.1 h
        by_cases e : p.1 = k
        · exact List.mem_map.2 ⟨(k, vs), ins_mem.2 (.inl rfl), by rw [e]⟩
        · exact List.mem_map.2 ⟨p, ins_mem.2 (.inr ⟨hp, e⟩), rfl⟩
    · intro h
      obtain ⟨p, hp, rfl⟩ := List.mem_map.1 h
      rcases ins_mem.1 hp with rfl | hp
      · exact .inl rfl
      · exact .inr (List.mem_map.2 ⟨p, hp.1, rfl⟩)
  · rcases ins_mem.1 hp with rfl | hp
    · exact ⟨d, by rw [findE_put (kq k) d _ (kq k), if_pos rfl], hs, hm⟩
    · obtain ⟨d', a, b, c⟩ := r.at_ p hp.1
      exact ⟨d', by rw [findE_put (kq k) d _ (kq p.1), if_neg (fun e => hp.2 (kv_inj e)), a], b, c⟩
theorem MR.del {h : DH} {es : List (Value × DV)} {m : CM} (r : MR h es m) (k : K3) : MR h (delE (kv k) es) (dropM m k) := by
  obtain ⟨n1, n2⟩ := delE_keys (kq k) es r.nd
  refine ⟨r.ord.drop k, fun p hp => r.kok p (drop_mem.1 hp).1, n1, fun a => ?_, fun p hp => ?_⟩
  · rw [n2, r.keys]
    constructor
    · rintro ⟨hne, h⟩
      obtain ⟨p, hp, rfl⟩ := List.mem_map.1 h
      exact List.mem_map.2 ⟨p, drop_mem.2 ⟨hp, fun e => hne (by rw [e])⟩, rfl⟩
    · intro h
      obtain ⟨p, hp, rfl⟩ := List.mem_map.1 h
      obtain ⟨h1, h2⟩ := drop_mem.1 hp
      exact ⟨fun e => h2 (kv_inj e), List.mem_map.2 ⟨p, h1, rfl⟩⟩
  · obtain ⟨h1, h2⟩ := drop_mem.1 hp
    obtain ⟨d', a, b, c⟩ := r.at_ p h1
    exact ⟨d', by rw [findE_del (kq k) _ (kq p.1) es r.nd, if_neg (fun e => h2 (kv_inj e)), a], b, c⟩
/-- No chain of the map lies in this block. -/
def Avoid (h : DH) (mb c : Nat) : Prop := ∀ es, h.get mb = some (.map 50 es) → ∀ p ∈ es, ∀ s b o n f, p.2 = .slc s (some (b, o)) n f → b ≠ c
/-- What a map's function changes: the map's block alone, and what is new. -/
structure Mut (h h' : DH) (mb : Nat) : Prop where
  n : h.n ≤ h'.n
  old : ∀ c, c < h.n → c ≠ mb → h'.get c = h.get c
  isM : ∃ es, h'.get mb = some (.map 50 es)
  av : ∀ c, c < h.n → Avoid h mb c → Avoid h' mb c
theorem Avoid.ext {h h' : DH} {mb c : Nat} (a : Avoid h mb c) (x : Ext h h') (hm : ∃ es, h.get mb = some (.map 50 es)) : Avoid h' mb c := by
  obtain ⟨es, e⟩ := hm
  intro es' e'
  rw [x.get e] at e'
  cases e'
  exact a es e
theorem Avoid.back {h h' : DH} {mb c : Nat} (a : Avoid h' mb c) (x : Ext h h') : Avoid h mb c := fun es e => a es (x.get e)
theorem Mut.trans {a b c : DH} {mb : Nat} (x : Mut a b mb) (y : Mut b c mb) : Mut a c mb := ⟨Nat.le_trans x.n y.n, fun k hk hne => (y.old k (Nat.lt_of_lt_of_le hk x.n) hne).trans (x.old k hk hne), y.isM, fun k hk hv => y.av k (Nat.lt_of_lt_of_le hk x.n) (x.av k hk hv)⟩
theorem Mut.ext {a b c : DH} {mb : Nat} (x : Mut a b mb) (y : Ext b c) : Mut a c mb := ⟨Nat.le_trans x.n y.1, fun k hk hne => (y.2 k (Nat.lt_of_lt_of_le hk x.n)).trans (x.old k hk hne), let ⟨es, e⟩ := x.isM; ⟨es, y.get e⟩, fun k hk hv => (x.av k hk hv).ext y x.isM⟩
theorem Mut.of {a b : DH} {mb : Nat} (x : Ext a b) (hm : ∃ es, a.get mb = some (.map 50 es)) : Mut a b mb := ⟨x.1, fun k hk _ => x.2 k hk, let ⟨es, e⟩ := hm; ⟨es, x.get e⟩, fun k hk hv => hv.ext x hm⟩
theorem Mut.pre {a b c : DH} {mb : Nat} (hm : ∃ es, a.get mb = some (.map 50 es)) (x : Ext a b) (y : Mut b c mb) : Mut a c mb := (Mut.of x hm).trans y
/-- Another block of one's own has turned. -/
theorem Mut.far {a b : DH} {mb k : Nat} (x : Mut a b mb) (hk : a.n ≤ k) (hkb : k < b.n) (hne : k ≠ mb) (d : DB) : Mut a (b.set k d) mb := by
  obtain ⟨es, e⟩ := x.isM
  refine ⟨x.n, fun c hc hne2 => ?_, ⟨es, by rw [DH.get_set_ne hne hkb]; exact e⟩, fun c hc hv es' e' => ?_⟩
  · rw [DH.get_set_ne (by omega) hkb]; exact x.old c hc hne2
  · rw [DH.get_set_ne hne hkb] at e'
    exact x.av c hc hv es' e'
structure CS (h : DH) (b mb : Nat) (m : CM) : Prop where
  blk : h.get b = some (.cells [.map mb] true)
  map : ∃ es, h.get mb = some (.map 50 es) ∧ MR h es m
theorem CS.isM {h : DH} {b mb : Nat} {m : CM} (c : CS h b mb m) : ∃ es, h.get mb = some (.map 50 es) := let ⟨es, e, _⟩ := c.map; ⟨es, e⟩
theorem CS.ne {h : DH} {b mb : Nat} {m : CM} (c : CS h b mb m) : b ≠ mb := by
  rintro rfl
  obtain ⟨es, e⟩ := c.isM
  rw [c.blk] at e
  cases e
theorem CS.rd {h : DH} {b mb : Nat} {m : CM} (c : CS h b mb m) : rdN h b 0 1 = some [.map mb] := rd_get c.blk rfl
theorem CS.rd0 {h : DH} {b mb : Nat} {m : CM} (c : CS h b mb m) : rdN h b (0 + 0) 1 = some [.map mb] := rd_get c.blk rfl
theorem CS.avoid {h : DH} {b mb : Nat} {m : CM} (c : CS h b mb m) {k : Nat} (hk : h.n ≤ k) : Avoid h mb k := by
  obtain ⟨es, e, r⟩ := c.map
  intro es' e'
  rw [e] at e'
  cases e'
  intro p hp s b' o n f hd
  obtain ⟨q, hq, hqk⟩ := List.mem_map.1 ((r.keys _).1 (List.mem_map.2 ⟨p, hp, rfl⟩))
  obtain ⟨d, hf, hs, hm⟩ := r.at_ q hq
  obtain ⟨j, hj, hpj⟩ := List.getElem_of_mem hp
  have := findE_at (k := kv q.1) (kq q.1) r.nd (List.getElem?_eq_getElem hj) (by rw [hpj]; exact hqk.symm)
  rw [hf, hpj] at this
  cases this
  rcases hs.2 with ⟨h1, _⟩ | ⟨b2, o2, f2, h1, h2⟩
  · cases q.2 <;> simp_all [mayF]
  · rw [hd] at h1
    injection h1 with _ e1 _ _
    injection e1 with e1
    injection e1 with e1 _
    subst e1
    have : b' < h.n := by
      unfold rdN at h2
      split at h2
      · rename_i cs own hb; exact DH.lt hb
      · cases h2
    omega
theorem sl_far {h : DH} {s k : Nat} {d : DV} {xs : List (List DV)} (r : Sl h s d xs) (hk : k < h.n) (hd : ∀ s b o n f, d = .slc s (some (b, o)) n f → b ≠ k) (x : DB) : Sl (h.set k x) s d xs := by
  refine ⟨r.1, ?_⟩
  rcases r.2 with h0 | ⟨b, o, f, h1, hr⟩
  · exact .inl h0
  · refine .inr ⟨b, o, f, h1, ?_⟩
    have := hd _ _ _ _ _ h1
    rw [rd_set_ne (fun e => this e.symm) hk]
    exact hr
theorem findE_memP {k : Value} : ∀ {es : List (Value × DV)} {v : DV}, findE k es = some v → ∃ a, (a, v) ∈ es
  | [], v, h => by cases h
  | p :: r, v, h => by
    simp only [findE] at h
    split at h
    · cases h; exact ⟨p.1, List.mem_cons_self⟩
    · obtain ⟨a, ha⟩ := findE_memP h; exact ⟨a, List.mem_cons_of_mem _ ha⟩
theorem CS.far {h : DH} {b mb k : Nat} {m : CM} (c : CS h b mb m) (hk : k < h.n) (h1 : k ≠ b) (h2 : k ≠ mb) (hv : Avoid h mb k) (x : DB) : CS (h.set k x) b mb m := by
  obtain ⟨es, e, r⟩ := c.map
  refine ⟨by rw [DH.get_set_ne h1 hk]; exact c.blk, es, by rw [DH.get_set_ne h2 hk]; exact e, r.ord, r.kok, r.nd, r.keys, fun p hp => ?_⟩
  obtain ⟨d, hf, hs, hm⟩ := r.at_ p hp
  obtain ⟨a, ha⟩ := findE_memP hf
  exact ⟨d, hf, sl_far hs hk (fun s b o n f hd => hv es e _ ha s b o n f hd) x, hm⟩
theorem CS.ext {h h' : DH} (x : Ext h h') {b mb : Nat} {m : CM} (c : CS h b mb m) : CS h' b mb m := by
  obtain ⟨es, e, r⟩ := c.map
  exact ⟨x.get c.blk, es, x.get e, r.mono fun d xs s => s.ext x⟩
/-- Slices stay. -/
theorem sl_mut {h h' : DH} {mb : Nat} (hm : ∃ es, h.get mb = some (.map 50 es)) (x : Mut h h' mb) {s : Nat} {d : DV} {xs : List (List DV)} (r : Sl h s d xs) : Sl h' s d xs := by
  obtain ⟨es, e⟩ := hm
  refine ⟨r.1, ?_⟩
  rcases r.2 with h0 | ⟨b, o, f, hd, hr⟩
  · exact .inl h0
  · exact .inr ⟨b, o, f, hd, mut_sl e x.old hr⟩
theorem acc_mut {h0 h h' : DH} {mb : Nat} (hm : ∃ es, h.get mb = some (.map 50 es)) (x : Mut h h' mb) {s : Nat} {d : DV} {xs : List (List DV)} (r : Acc h0 h s d xs) : Acc h0 h' s d xs := by
  obtain ⟨es, e⟩ := hm
  refine ⟨r.1, ?_⟩
  rcases r.2 with h0 | ⟨b, f, hd, hn, hb⟩
  · exact .inl h0
  · refine .inr ⟨b, f, hd, hn, ?_⟩
    rw [x.old b (DH.lt hb) (by rintro rfl; rw [hb] at e; cases e)]
    exact hb
theorem get_mut {h h' : DH} {mb b : Nat} {cs : List DV} {own : Bool} (hm : ∃ es, h.get mb = some (.map 50 es)) (x : Mut h h' mb) (hb : h.get b = some (.cells cs own)) : h'.get b = some (.cells cs own) := by
  obtain ⟨es, e⟩ := hm
  rw [x.old b (DH.lt hb) (by rintro rfl; rw [hb] at e; cases e)]
  exact hb
theorem putE_mem {k : Value} {v : DV} : ∀ {es : List (Value × DV)} {p : Value × DV}, p ∈ putE k v es → p = (k, v) ∨ p ∈ es
  | [], p, h => by simp [putE] at h; exact .inl h
  | q :: r, p, h => by
    simp only [putE] at h
    split at h
    · rcases List.mem_cons.1 h with h | h
      · exact .inl h
      · exact .inr (List.mem_cons_of_mem _ h)
    · rcases List.mem_cons.1 h with h | h
      · exact .inr (h ▸ List.mem_cons_self)
      · rcases putE_mem h with h | h
        · exact .inl h
        · exact .inr (List.mem_cons_of_mem _ h)
theorem delE_mem {k : Value} : ∀ {es : List (Value × DV)} {p : Value × DV}, p ∈ delE k es → p ∈ es
  | [], p, h => by simp [delE] at h
  | q :: r, p, h => by
    simp only [delE] at h
    split at h
    · exact List.mem_cons_of_mem _ h
    · rcases List.mem_cons.1 h with h | h
      · exact h ▸ List.mem_cons_self
      · exact List.mem_cons_of_mem _ (delE_mem h)
/-- The map's block has turned. -/
theorem CS.turn {h0 h h' : DH} {b mb : Nat} {m m' : CM} {es es' : List (Value × DV)} (c0 : CS h0 b mb m) (x : Ext h0 h) (e : h.get mb = some (.map 50 es)) (hn : h'.n = h.n) (e' : h'.get mb = some (.map 50 es')) (hk : ∀ c, c ≠ mb → h'.get c = h.get c) (r : MR h es' m') (hes : ∀ p ∈ es', p ∈ es ∨ ∀ s b o n f, p.2 = .slc s (some (b, o)) n f → h0.n ≤ b) : CS h' b mb m' ∧ Mut h0 h' mb := by
  have c := c0.ext x
  have hx : ∀ d xs, Sl h 4 d xs → Sl h' 4 d xs := fun d xs s => by
    refine ⟨s.1, ?_⟩
    rcases s.2 with h0 | ⟨b, o, f, hd, hr⟩
    · exact .inl h0
    · exact .inr ⟨b, o, f, hd, mut_sl e (fun k _ hne => hk k hne) hr⟩
  refine ⟨⟨by rw [hk b c.ne]; exact c.blk, es', e', r.mono hx⟩, by have := x.1; omega, fun k hk2 hne => (hk k hne).trans (x.2 k hk2), ⟨es', e'⟩, fun k hk2 hv es2 e2 p hp s b o n f hd => ?_⟩
  rw [e'] at e2
  cases e2
  rcases hes p hp with h1 | h1
  · exact (hv.ext x c0.isM) es e p h1 s b o n f hd
  · have := h1 s b o n f hd
    omega
/-- Behind an append to a slice of one's own, that is none of the cells'. -/
theorem CS.fr {h h' : DH} {b mb : Nat} {m : CM} {dx : DV} (c : CS h b mb m) (hn : h.n ≤ h'.n) (hk : ∀ c, c < h.n → (∀ s n f, dx ≠ .slc s (some (c, 0)) n f) → h'.get c = h.get c) (hx : ∀ s k n f, dx = .slc s (some (k, 0)) n f → k ≠ b ∧ k ≠ mb ∧ Avoid h mb k) : CS h' b mb m ∧ (∀ k, Avoid h mb k → Avoid h' mb k) := by
  obtain ⟨es, e, r⟩ := c.map
  have hb : h'.get b = h.get b := hk b (DH.lt c.blk) fun s n f e => (hx _ _ _ _ e).1 rfl
  have hm : h'.get mb = h.get mb := hk mb (DH.lt e) fun s n f e => (hx _ _ _ _ e).2.1 rfl
  refine ⟨⟨hb.trans c.blk, es, hm.trans e, r.ord, r.kok, r.nd, r.keys, fun p hp => ?_⟩, fun k hv es' e' => hv es' (hm.symm.trans e')⟩
  obtain ⟨d, hf, hs, hmy⟩ := r.at_ p hp
  obtain ⟨a, ha⟩ := findE_memP hf
  refine ⟨d, hf, ⟨hs.1, ?_⟩, hmy⟩
  rcases hs.2 with h0 | ⟨b1, o, f, hd, hr⟩
  · exact .inl h0
  · refine .inr ⟨b1, o, f, hd, ?_⟩
    have hg : h'.get b1 = h.get b1 := hk b1 (by
      unfold rdN at hr
      split at hr
      · rename_i cs own hb; exact DH.lt hb
      · cases hr) fun s n f e2 => (hx _ _ _ _ e2).2.2 es e _ ha _ _ _ _ _ hd rfl
    unfold rdN at hr ⊢
    rw [hg]
    exact hr
theorem Mut.fr {a h h' : DH} {mb : Nat} {dx : DV} (x : Mut a h mb) (hn : h.n ≤ h'.n) (hk : ∀ c, c < h.n → (∀ s n f, dx ≠ .slc s (some (c, 0)) n f) → h'.get c = h.get c) (hx : ∀ s k n f, dx = .slc s (some (k, 0)) n f → a.n ≤ k ∧ k ≠ mb) : Mut a h' mb := by
  obtain ⟨es, e⟩ := x.isM
  have hm : h'.get mb = h.get mb := hk mb (DH.lt e) fun s n f e => (hx _ _ _ _ e).2 rfl
  refine ⟨Nat.le_trans x.n hn, fun c hc hne => (hk c (Nat.lt_of_lt_of_le hc x.n) fun s n f e => by have := (hx _ _ _ _ e).1; omega).trans (x.old c hc hne), ⟨es, hm.trans e⟩, fun c hc hv es' e' => x.av c hc hv es' (hm.symm.trans e')⟩
end Go.Dm
end
