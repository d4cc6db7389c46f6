/-
  States of the run, its great calls each by itself, the parameters with them told. It proves nothing of the program by itself.
-/
import Derived.Test.YticbhhakdmoahaaGreatDoorDEv18
import Derived.Test.YticbhhakdmoahaaGreatDoorDEvSZD
set_option linter.unusedVariables false
set_option linter.unusedSimpArgs false
namespace Go.Proofs.YticbhhakdmoahaaGreatDoor.EvQP
open Go Go.Sl Go.Evl
set_option maxRecDepth 100000
def k29 : AV := .cons (.agg (.cons (j 40) (.cons (j 8) (.cons (j 48) (.cons (j 2) (.cons (j 48) (.cons (j 8) (.cons (.b false) .nil)))))))) (.cons (.sv 212 0 12 0) .nil)
def k34 : Tr Blk := x .nil (some (.it 0 0 0)) .nil
def k52 : Tr Blk := x .nil (some (.cells 3 1 (.tr 2 (z (o (j 1)) (j 0) .nil)))) .nil
def k58 : Tr Blk := x k52 (some (.cells 5 1 (.bs 1 57))) .nil
def k72 : Tr Blk := x .nil (some (.it 1 49 1)) .nil
def k77 : Tr Blk := x k72 (some (.it 9 0x312038342064616572 5)) .nil
def k82 : Tr Blk := x .nil (some (.it 1 48 1)) .nil
def k86 : Tr Blk := x .nil (some (.cells 5 1 (.bs 1 48))) .nil
def k94 : Tr Blk := x .nil (some (.it 8 0x3120302064616572 5)) .nil
def k100 : Tr Blk := x (x k82 (some (.it 0 0 0)) k86) (some (.it 3 0x312030 2)) (x k94 (some (.it 4 0x74617473 4)) .nil)
def k104 : Tr Blk := x k86 (some (.it 3 0x392030 2)) .nil
def k119 : Tr Blk := x .nil (some (.it 5 0x3020747563 4)) .nil
def k120 : Tr Blk := x k119 (some (.cells 5 1 (.bs 1 49))) k94
def k138 : Tr Blk := x .nil (some (.it 8 0x312030206d697274 5)) .nil
def k147 : Tr AV := o (.ifc 104 (.agg (.cons (j 0) .nil)))
def k155 : AV := .agg (.cons (j 0) (.cons (j 1) .nil))
def k197 : Tr AV := o (.ifc 102 (.agg (.cons (.i .i64 (.negSucc 0)) .nil)))
def k214 : Tr Blk := x (x k138 (some (.it 8 0x392030206d697274 5)) (x .nil (some (.cells 49 1 (.tr 12 (z (z (z k147 (.ifc 38 (.agg .nil)) (o (.ifc 93 k155))) (.ifc 93 k155) (z (o (.ifc 93 k155)) (.ifc 108 (.agg .nil)) .nil)) (.ifc 96 (.agg (.cons (j 0) (.cons (j 2) (.cons (.s 2 25185) .nil))))) (z (z (o (.ifc 99 k155)) (.ifc 99 (.agg (.cons (j 0) (.cons (j 9) .nil)))) .nil) (.ifc 93 (.agg (.cons (j 1) (.cons (j 1) .nil)))) (z k197 (.ifc 93 (.agg (.cons (j 48) (.cons (j 1) .nil)))) .nil)))))) .nil)) (some (.it 0 0 0)) (x k52 (some (.it 4 0x31203834 3)) .nil)
def k224 : Tr Blk := x .nil (some (.cells 3 1 (.tr 1 (o (j 0))))) .nil
def k229 : Tr Blk := x k86 (some (.it 0 0 0)) .nil
def k238 : Tr Blk := x .nil (some (.it 5 0x746e756f6d 5)) .nil
def k240 : Tr Blk := x (u k72 .nil) (some (.it 3 0x312031 2)) (x k238 (some (.cells 5 1 (.bs 1 49))) .nil)
def k241 : Tr Blk := u (u (x k224 (some (.it 4 0x776f6873 4)) k72) k229) k240
def k251 : Tr Blk := x k34 (some (.cells 3 1 (.tr 2 (z (o (j 9)) (j 0) .nil)))) .nil
def k259 : Tr AV := z (o (.b false)) (.b false) (o (.b false))
def k263 : Tr AV := z (z k259 (.b false) k259) (.b false) (z k259 (.b false) k259)
def k284 : Tr Blk := x .nil (some (.cells 5 1 (.bs 1 49))) .nil
def k286 : Tr Blk := x (u k138 k34) (some (.cells 3 1 (.tr 2 (z (o (j 1)) (j 0) .nil)))) (x k284 (some (.it 9 0x312038342064616572 5)) .nil)
def k291 : Tr Blk := x .nil (some (.it 3 0x312030 2)) .nil
def k292 : Tr Blk := x k291 (some (.it 4 0x74617473 4)) .nil
def k295 : Tr Blk := x k238 (some (.it 1 49 1)) .nil
def k306 : Tr Blk := x k119 (some (.cells 3 1 (.tr 2 (z (o (j 1)) (j 1) .nil)))) k291
def k315 : Tr Blk := u (x k291 (some (.it 8 0x392030206d697274 5)) .nil) (x k34 (some (.cells 5 1 (.bs 2 14388))) .nil)
def k320 : Tr Blk := x k34 (some (.it 4 0x776f6873 4)) k284
def k331 : Tr Blk := x (x k284 (some (.it 1 57 1)) .nil) (some (.cells 5 1 (.bs 1 49))) (x k34 (some (.cells 3 1 (.tr 2 (z (o (j 1)) (j 48) .nil)))) .nil)
def k335 : Tr Blk := x (x (x (x (x (u k34 (u .nil .nil)) (some (.it 0 0 0)) k58) (c 3 1 (o (j 2))) (x (x (u .nil .nil) (some (.it 0 0 0)) k52) (some (.cells 5 1 (.bs 1 49))) k77)) (some (.it 1 48 1)) (u k100 (x k104 (some (.it 8 0x3120312064616572 5)) (u (u .nil .nil) .nil)))) (some (.it 14 0x2262612220322030206574697277 1)) (x (x (x k120 (some (.it 8 0x3120302064616572 5)) (x (u .nil .nil) (some (.it 0 0 0)) .nil)) (c 131 2 (z (o (.sv 22 0 2 0)) (.p 20 0) .nil)) k214) (some (.it 7 0x22626122203220 2)) k241)) (some (.it 14 0x2262612220322030206574697277 1)) (x (x (x (u (x (u .nil .nil) (some (.it 1 49 1)) k94) k251) (c 196 256 (z (z (z (z (z (z (z (z (o (.b false)) (.b false) .nil) (.b false) (o (.b false))) (.b false) k259) (.b false) (z k259 (.b false) k259)) (.b false) k263) (.b false) (z k263 (.b false) k263)) (.b false) (z (z k263 (.b true) k263) (.b false) (z k263 (.b false) k263))) (.b false) (z (z (z (z (z k259 (.b true) k259) (.b false) (z k259 (.b false) k259)) (.b false) k263) (.b false) (z k263 (.b false) k263)) (.b false) (z (z k263 (.b false) k263) (.b false) (z k263 (.b false) k263))))) k286) (c 3 1 (o (j 0))) (u (x (u k86 (u .nil .nil)) (some (.cells 5 1 (.bs 1 48))) k292) (x (x (u .nil .nil) (some (.cells 5 1 (.bs 1 48))) .nil) (some (.it 8 0x3120312064616572 5)) k295))) (some (.it 9 0x226261222032203020 2)) (x (u (x k306 (some (.it 8 0x3120302064616572 5)) (u k94 .nil)) k315) (some (.it 1 50 1)) (x (x k320 (some (.it 1 49 1)) (u (u .nil .nil) .nil)) (c 196 256 (z (z (z (z (z (z (z (z (o (.b false)) (.b false) .nil) (.b false) (o (.b false))) (.b false) k259) (.b false) (z k259 (.b false) k259)) (.b false) k263) (.b false) (z k263 (.b false) k263)) (.b false) (z (z k263 (.b true) k263) (.b false) (z k263 (.b false) k263))) (.b false) (z (z (z (z (z k259 (.b true) k259) (.b false) (z k259 (.b false) k259)) (.b false) k263) (.b false) (z k263 (.b false) k263)) (.b false) (z (z k263 (.b false) k263) (.b false) (z k263 (.b false) k263))))) k331)))
def k344 : Tr AV := o (.s 8 0x3120302064616572)
def k384 : Tr Blk := x .nil (some (.it 8 0x3120302064616572 1)) .nil
def k401 : Tr Blk := x .nil (some (.it 8 0x312030206d697274 1)) .nil
def k419 : Tr Blk := x .nil (c 3 1 (o (j 0))) .nil
def k424 : Tr Blk := x .nil (some (.it 4 0x31203020 2)) .nil
def k436 : Tr Blk := x .nil (some (.it 5 0x746e756f6d 1)) .nil
def k446 : Tr Blk := x .nil (some (.it 5 0x3020747563 1)) .nil
def k467 : Tr Blk := x .nil (c 24 7 (z (z (o (j 2)) (j 8) (o (j 8))) (j 40) (z (o (j 48)) (j 48) (o (.b false))))) .nil
def k497 : Tr Blk := x (x (x (x (x (x .nil (c 49 1 (o (.ifc 93 (.agg (.cons (j 48) (.cons (j 1) .nil)))))) .nil) (some (.it 2 12576 2)) k384) (c 49 1 (o (.ifc 96 (.agg (.cons (j 0) (.cons (j 2) (.cons (.s 2 25185) .nil))))))) (x k34 (c 3 1 (o (j 9))) .nil)) (some (.cells 3 1 (.tr 2 (z (o (j 2)) (j 0) .nil)))) (x (x k401 (c 49 1 (o (.ifc 38 (.agg .nil)))) k34) (c 3 1 (o (j 1))) (x k72 (some (.it 9 0x312038342064616572 1)) .nil))) (some (.cells 5 1 (.bs 1 48))) (x (x (x k82 (c 49 1 (o (.ifc 93 (.agg (.cons (j 1) (.cons (j 1) .nil)))))) k419) (some (.it 1 48 1)) (x k424 (some (.it 4 0x74617473 1)) .nil)) (some (.it 2 25185 2)) (x (x k419 (some (.it 1 48 1)) .nil) (some (.it 8 0x3120312064616572 1)) (x k436 (some (.it 2 12576 2)) .nil)))) (some (.it 14 0x2262612220322030206574697277 6)) (x (u (x (x k446 (c 3 1 (o (j 1))) k424) (some (.it 8 0x3120302064616572 1)) (x k384 (c 49 1 (o (.ifc 99 (.agg (.cons (j 0) (.cons (j 9) .nil)))))) .nil)) (x (x k424 (some (.it 8 0x392030206d697274 1)) k467) (c 49 1 (o (.ifc 93 k155))) (x k34 (some (.it 2 14388 2)) .nil))) (some (.it 6 0x226261222032 2)) (x (x (x k34 (some (.it 4 0x776f6873 1)) k72) (some (.it 2 12576 2)) (x k419 (c 49 1 (o (.ifc 108 (.agg .nil)))) .nil)) (c 196 256 (z (z (z (z (z (z (z (z (o (.b false)) (.b false) .nil) (.b false) (o (.b false))) (.b false) k259) (.b false) (z k259 (.b false) k259)) (.b false) k263) (.b false) (z k263 (.b false) k263)) (.b false) (z (z k263 (.b true) k263) (.b false) (z k263 (.b false) k263))) (.b false) (z (z (z (z (z k259 (.b true) k259) (.b false) (z k259 (.b false) k259)) (.b false) k263) (.b false) (z k263 (.b false) k263)) (.b false) (z (z k263 (.b false) k263) (.b false) (z k263 (.b false) k263))))) (x (x k72 (some (.it 2 14624 2)) .nil) (some (.it 1 49 1)) (x k34 (c 3 1 (o (j 1))) .nil))))
def k505 : Tr Blk := x .nil (c 49 1 (o (.ifc 93 k155))) .nil
def k507 : Tr Blk := x .nil (c 3 1 (o (j 1))) .nil
def k513 : Tr Blk := x (x (x k446 (some (.it 1 49 1)) k384) (some (.it 8 0x3120302064616572 1)) (x (x .nil (c 49 1 (o (.ifc 99 k155))) .nil) (some (.it 0 0 0)) .nil)) (c 196 256 (z (z (z (z (z (z (z (z (o (.b false)) (.b false) .nil) (.b false) (o (.b false))) (.b false) k259) (.b false) (z k259 (.b false) k259)) (.b false) k263) (.b false) (z k263 (.b false) k263)) (.b false) (z (z k263 (.b true) k263) (.b false) (z k263 (.b false) k263))) (.b false) (z (z (z (z (z k259 (.b true) k259) (.b false) (z k259 (.b false) k259)) (.b false) k263) (.b false) (z k263 (.b false) k263)) (.b false) (z (z k263 (.b false) k263) (.b false) (z k263 (.b false) k263))))) (x (x k401 (some (.it 8 0x392030206d697274 1)) k505) (some (.it 0 0 0)) (x k507 (some (.it 5 0x3120383420 2)) .nil))
def k514 : Tr Blk := x .nil (some (.it 2 12576 2)) .nil
def k516 : Tr Blk := x k82 (some (.it 0 0 0)) .nil
def k523 : Tr Blk := x (x k514 (c 3 1 (o (j 0))) .nil) (some (.it 4 0x31203120 2)) (x k436 (some (.it 1 49 1)) .nil)
def k525 : Tr Blk := u k513 (u (x (x k419 (some (.it 4 0x776f6873 1)) k514) (c 3 1 (o (j 0))) k516) k523)
def k533 : Tr Blk := x (x .nil (some (.it 2 12320 2)) .nil) (some (.it 0 0 0)) k82
def k555 : Tr Blk := x (x k82 (some (.it 4 0x39203020 2)) .nil) (some (.it 8 0x3120312064616572 1)) (x k505 (c 3 1 (o (j 48))) .nil)
def k574 : Tr Blk := x (x (x (x .nil (c 49 1 k147) .nil) (some (.it 0 0 0)) k507) (some (.it 1 49 1)) (x k514 (some (.it 9 0x312038342064616572 1)) .nil)) (some (.it 0 0 0)) (x (x k507 (some (.it 1 57 1)) .nil) (c 3 1 (o (j 1))) (x (x .nil (c 49 1 k197) .nil) (some (.it 0 0 0)) .nil))
def k577 : Tr Blk := x k497 (some (.it 14 0x2262612220322030206574697277 6)) (x k525 (some (.it 8 0x2262612220322030 2)) (x (x (x k533 (some (.it 4 0x31203020 2)) (x k384 (some (.it 4 0x74617473 1)) .nil)) (c 131 2 (z (o (.sv 28 0 4 0)) (.p 23 0) .nil)) k555) (some (.cells 5 1 (.bs 1 50))) k574))
def k579 : Hp := ⟨214, (x k335 (c 9 13 (z (z (z (o (.s 5 0x3020747563)) (.s 4 0x776f6873) k344) (.s 8 0x3120302064616572) (z k344 (.s 4 0x74617473) .nil)) (.s 14 0x2262612220322030206574697277) (z (z (o (.s 8 0x312030206d697274)) (.s 8 0x392030206d697274) (o (.s 0 0))) (.s 8 0x3120312064616572) (z (o (.s 5 0x746e756f6d)) (.s 9 0x312038342064616572) .nil)))) k577)⟩
def k583 : AV := .tup (.cons (.sv 1254 0 12 0) (.cons (j 0) .nil))
def k592 : Tr Blk := x (x (x (u k34 .nil) (some (.it 0 0 0)) k58) (c 3 1 (o (j 2))) (x (x .nil (some (.it 0 0 0)) k52) (some (.cells 5 1 (.bs 1 49))) k77)) (some (.it 1 48 1)) (u k100 (x k104 (some (.it 8 0x3120312064616572 5)) .nil))
def k594 : Tr Blk := x (x k120 (some (.it 8 0x3120302064616572 5)) k34) (c 131 2 (z (o (.sv 22 0 2 0)) (.p 20 0) .nil)) k214
def k623 : Tr AV := o (.s 7 0x3720726f727265)
def k649 : Tr Blk := x (x (x (u (x .nil (some (.it 1 49 1)) k94) k251) (c 196 256 (z (z (z (z (z (z (z (z (o (.b false)) (.b false) .nil) (.b false) (o (.b false))) (.b false) k259) (.b false) (z k259 (.b false) k259)) (.b false) k263) (.b false) (z k263 (.b false) k263)) (.b false) (z (z k263 (.b true) k263) (.b false) (z k263 (.b false) k263))) (.b false) (z (z (z (z (z k259 (.b true) k259) (.b false) (z k259 (.b false) k259)) (.b false) k263) (.b false) (z k263 (.b false) k263)) (.b false) (z (z k263 (.b false) k263) (.b false) (z k263 (.b false) k263))))) k286) (c 3 1 (o (j 0))) (u (x (u k86 .nil) (some (.cells 5 1 (.bs 1 48))) k292) (x k86 (some (.it 8 0x3120312064616572 5)) k295))) (some (.it 9 0x226261222032203020 2)) (x (u (x k306 (some (.it 8 0x3120302064616572 5)) (u k94 (u .nil (u (u (x .nil (some (.cells 9 1 (.tr 12 (z (z (z (o (.s 2 27503)) (.s 8 0x322b3020776f6873) (o (.s 5 0x2222206b6f))) (.s 7 0x22626122206b6f) (z k623 (.s 8 0x3020302074617473) .nil)) (.s 2 27503) (z (z k623 (.s 2 27503) .nil) (.s 5 0x2222206b6f) (z (o (.s 2 27503)) (.s 7 0x3120726f727265) .nil)))))) .nil) .nil) .nil)))) k315) (some (.it 1 50 1)) (x (x k320 (some (.it 1 49 1)) .nil) (c 196 256 (z (z (z (z (z (z (z (z (o (.b false)) (.b false) .nil) (.b false) (o (.b false))) (.b false) k259) (.b false) (z k259 (.b false) k259)) (.b false) k263) (.b false) (z k263 (.b false) k263)) (.b false) (z (z k263 (.b true) k263) (.b false) (z k263 (.b false) k263))) (.b false) (z (z (z (z (z k259 (.b true) k259) (.b false) (z k259 (.b false) k259)) (.b false) k263) (.b false) (z k263 (.b false) k263)) (.b false) (z (z k263 (.b false) k263) (.b false) (z k263 (.b false) k263))))) k331))
def k650 : Tr Blk := x (x k592 (some (.it 14 0x2262612220322030206574697277 1)) (x k594 (some (.it 7 0x22626122203220 2)) k241)) (some (.it 14 0x2262612220322030206574697277 1)) k649
def k652 : Hp := ⟨1255, (x k650 (c 9 13 (z (z (z (o (.s 5 0x3020747563)) (.s 4 0x776f6873) k344) (.s 8 0x3120302064616572) (z k344 (.s 4 0x74617473) .nil)) (.s 14 0x2262612220322030206574697277) (z (z (o (.s 8 0x312030206d697274)) (.s 8 0x392030206d697274) (o (.s 0 0))) (.s 8 0x3120312064616572) (z (o (.s 5 0x746e756f6d)) (.s 9 0x312038342064616572) .nil)))) k577)⟩
def k660 : Tr Blk := x (x (x k533 (some (.it 4 0x31203020 2)) (x k384 (some (.it 4 0x74617473 1)) (u .nil (u (u k467 .nil) .nil)))) (c 131 2 (z (o (.sv 28 0 4 0)) (.p 23 0) .nil)) k555) (some (.cells 5 1 (.bs 1 50))) k574
def k663 : Tr Blk := x k650 (c 9 13 (z (z (z (o (.s 5 0x3020747563)) (.s 4 0x776f6873) k344) (.s 8 0x3120302064616572) (z k344 (.s 4 0x74617473) .nil)) (.s 14 0x2262612220322030206574697277) (z (z (o (.s 8 0x312030206d697274)) (.s 8 0x392030206d697274) (o (.s 0 0))) (.s 8 0x3120312064616572) (z (o (.s 5 0x746e756f6d)) (.s 9 0x312038342064616572) .nil)))) (x k497 (some (.it 14 0x2262612220322030206574697277 6)) (x k525 (some (.it 8 0x2262612220322030 2)) k660))
def k664 : Hp := ⟨1256, k663⟩
def k670 : AV := .tup (.cons (.agg (.cons (j 0) (.cons (.s 0 0) .nil))) (.cons (.b true) (.cons (j 0) .nil)))
def k672 : Hp := ⟨3275, k663⟩
def k700 : Tr Blk := x (x (x k592 (some (.it 14 0x2262612220322030206574697277 1)) (x k594 (some (.it 7 0x22626122203220 2)) (u (u (x k224 (some (.it 4 0x776f6873 4)) (x .nil (some (.it 1 49 1)) (u (u (u .nil k467) .nil) .nil))) k229) k240))) (some (.it 14 0x2262612220322030206574697277 1)) k649) (c 9 13 (z (z (z (o (.s 5 0x3020747563)) (.s 4 0x776f6873) k344) (.s 8 0x3120302064616572) (z k344 (.s 4 0x74617473) .nil)) (.s 14 0x2262612220322030206574697277) (z (z (o (.s 8 0x312030206d697274)) (.s 8 0x392030206d697274) (o (.s 0 0))) (.s 8 0x3120312064616572) (z (o (.s 5 0x746e756f6d)) (.s 9 0x312038342064616572) .nil)))) (x k497 (some (.it 14 0x2262612220322030206574697277 6)) (x (u k513 (u (x (x k419 (some (.it 4 0x776f6873 1)) (x .nil (some (.it 2 12576 2)) (u (u (u .nil (x .nil (c 31 2 (z (o (.s 0 0)) (j 0) .nil)) .nil)) .nil) .nil))) (c 3 1 (o (j 0))) k516) k523)) (some (.it 8 0x2262612220322030 2)) k660))
def k701 : Hp := ⟨3277, k700⟩
def k703 : AV := .tup (.cons (.i .i64 (.negSucc 0)) (.cons (j 0) .nil))
def k705 : Hp := ⟨8078, k700⟩
end Go.Proofs.YticbhhakdmoahaaGreatDoor.EvQP
namespace Go.Proofs.YticbhhakdmoahaaGreatDoor.EvQP
open Go Go.Sl Go.Evl
theorem ck0 : CkOk2 evPar 7 ⟨k29, k579, k583, k652⟩ := ⟨10000000, by kernel_rfl⟩
end Go.Proofs.YticbhhakdmoahaaGreatDoor.EvQP
namespace Go.Proofs.YticbhhakdmoahaaGreatDoor.EvQP
open Go Go.Sl Go.Evl
theorem ck1 : CkOk2 evPar 8 ⟨k29, k664, k670, k672⟩ := ⟨10000000, by kernel_rfl⟩
end Go.Proofs.YticbhhakdmoahaaGreatDoor.EvQP
namespace Go.Proofs.YticbhhakdmoahaaGreatDoor.EvQP
open Go Go.Sl Go.Evl
theorem ck2 : CkOk2 evPar 9 ⟨k29, k701, k703, k705⟩ := ⟨10000000, by kernel_rfl⟩
end Go.Proofs.YticbhhakdmoahaaGreatDoor.EvQP
namespace Go.Proofs.YticbhhakdmoahaaGreatDoor.EvQP
open Go Go.Sl Go.Evl
set_option maxRecDepth 100000
set_option maxHeartbeats 4000000
noncomputable def cks7 : List Ck := [⟨k29, k579, k583, k652⟩]
theorem ok7 : ∀ c ∈ cks7, CkOk2 evPar 7 c := by
  unfold cks7
  exact List.forall_mem_cons.2 ⟨ck0, fun _ h => by cases h⟩
theorem orc7 : evPar.orc 7 = none := by kernel_rfl
theorem res7 (l : AV) (H : Hp) (K : HK) (m : Map) (w W0 : World) (Fr : Assn) (vs : List Value) (h1 : Inv1 m H) (h2 : Mem W0 m H Fr w) (h3 : relL m l vs) (h4 : ckF evPar 10000000 cks7 7 l H K = true) : CallRes evPar.P 7 vs w W0 Fr m K := ck_ok2 (p := evPar) (nn := 10000000) (cks := cks7) evPar_ok orc7 ok7 l H K m w W0 Fr vs h1 h2 h3 h4
noncomputable def cks8 : List Ck := [⟨k29, k664, k670, k672⟩]
theorem ok8 : ∀ c ∈ cks8, CkOk2 evPar 8 c := by
  unfold cks8
  exact List.forall_mem_cons.2 ⟨ck1, fun _ h => by cases h⟩
theorem orc8 : evPar.orc 8 = none := by kernel_rfl
theorem res8 (l : AV) (H : Hp) (K : HK) (m : Map) (w W0 : World) (Fr : Assn) (vs : List Value) (h1 : Inv1 m H) (h2 : Mem W0 m H Fr w) (h3 : relL m l vs) (h4 : ckF evPar 10000000 cks8 8 l H K = true) : CallRes evPar.P 8 vs w W0 Fr m K := ck_ok2 (p := evPar) (nn := 10000000) (cks := cks8) evPar_ok orc8 ok8 l H K m w W0 Fr vs h1 h2 h3 h4
noncomputable def cks9 : List Ck := [⟨k29, k701, k703, k705⟩]
theorem ok9 : ∀ c ∈ cks9, CkOk2 evPar 9 c := by
  unfold cks9
  exact List.forall_mem_cons.2 ⟨ck2, fun _ h => by cases h⟩
theorem orc9 : evPar.orc 9 = none := by kernel_rfl
theorem res9 (l : AV) (H : Hp) (K : HK) (m : Map) (w W0 : World) (Fr : Assn) (vs : List Value) (h1 : Inv1 m H) (h2 : Mem W0 m H Fr w) (h3 : relL m l vs) (h4 : ckF evPar 10000000 cks9 9 l H K = true) : CallRes evPar.P 9 vs w W0 Fr m K := ck_ok2 (p := evPar) (nn := 10000000) (cks := cks9) evPar_ok orc9 ok9 l H K m w W0 Fr vs h1 h2 h3 h4
noncomputable def evOrc2 (f : Nat) : Option CallF := (Bool.rec (motive := fun _ => Option CallF) (Bool.rec (motive := fun _ => Option CallF) (Bool.rec (motive := fun _ => Option CallF) (evPar.orc f) (some (ckF evPar 10000000 cks9)) (Nat.beq f 9)) (some (ckF evPar 10000000 cks8)) (Nat.beq f 8)) (some (ckF evPar 10000000 cks7)) (Nat.beq f 7))
noncomputable def evPar2 : Par := ⟨evPar.P, evPar.msk, evOrc2, evPar.tab⟩
theorem evPar2_ok : ParOk evPar2 where
  name f fn hf := by
    unfold evPar2 at hf
    exact evPar_ok.name f fn hf
  mixed := by
    unfold evPar2
    exact evPar_ok.mixed
  tabs f fn c hf hb := by
    unfold evPar2 at hf ⊢
    dsimp only at hf ⊢
    exact evPar_ok.tabs f fn c hf hb
  orc f F h := by
    have h : evOrc2 f = some F := h
    unfold evOrc2 at h
    cases hb0 : Nat.beq f 7 with
    | true =>
      simp only [hb0] at h
      have hF := (Option.some.inj h).symm
      subst hF
      have := Nat.eq_of_beq_eq_true hb0
      subst this
      exact res7
    | false =>
      cases hb1 : Nat.beq f 8 with
      | true =>
        simp only [hb0, hb1] at h
        have hF := (Option.some.inj h).symm
        subst hF
        have := Nat.eq_of_beq_eq_true hb1
        subst this
        exact res8
      | false =>
        cases hb2 : Nat.beq f 9 with
        | true =>
          simp only [hb0, hb1, hb2] at h
          have hF := (Option.some.inj h).symm
          subst hF
          have := Nat.eq_of_beq_eq_true hb2
          subst this
          exact res9
        | false =>
          simp only [hb0, hb1, hb2] at h
          exact evPar_ok.orc f F h

end Go.Proofs.YticbhhakdmoahaaGreatDoor.EvQP
