/- A closed run, printed by program: piece by piece. -/
import Derived.Test.YtcdebohjjkffkaaGreatRn5
namespace Go.Proofs.YtcdebohjjkffkaaGreat.tr
open Go Go.Rf
set_option maxRecDepth 1000000
def m1378 : PM AVal := (nn (nd (vp 24961 0 0) (nd (vi 0) (lf (vp 17686 0 0)) (lf (vp 17686 0 0))) (lf (vi 0))) (nd (vc e1172) (nd (vp 17686 0 1) (lf (vi 0)) .nil) (nn (lf (vp 17686 0 0)) .nil)))
def m1379 : PM AVal := (nd (vi 0) (nd (vp 17686 0 0) (lf (vp 17686 0 0)) (lf (vp 17686 0 0))) (nd (vb false) (lf (vb true)) .nil))
def m1380 : PM AVal := (nn (nd (vi 0) (nd (vb true) (lf (vp 17686 0 0)) (lf (vp 17686 0 3))) (lf (vi 0))) (nd (.tup [u1182, (.one (xi 0))]) (nd (vp 17682 0 0) (lf (vi 0)) .nil) (nn (lf (vp 17686 0 0)) .nil)))
def m1381 : PM AVal := (nd (.tup [u1182, (.one (xi 0))]) (nd (vp 17686 0 0) (lf (vp 17598 0 0)) (lf (vp 17686 0 2))) (nn (lf (vb true)) .nil))
def m1382 : PM AVal := (nd (vc e1172) m1380 (nd (vi 0) m1381 (nd (vi 0) (lf (vs [2, 0])) (nn (lf (vp 18316 0 0)) .nil))))
def f1383 : Fr := ⟨(nd (vp 17686 0 0) (nd (vp 18316 0 0) m1378 (nn m1379 (nd (.v u1182) (lf (.v u1182)) (nn (lf (.v u1182)) .nil)))) m1382), [], none⟩
def h1384 : Dat := (.str [3, 83, 5, 5, 49, 73, 166, 156, 0, 0, 0, 0, 0, 0, 0, 0, 0, 0, 0, 0, 0, 0, 0, 0, 0, 0, 0, 0, 0, 0, 0, 0, 0, 0, 0, 0, 0, 0, 0, 0, 0, 0, 0, 0, 0, 0, 0, 0, 0, 0, 0, 0, 0, 0, 0, 0, 0, 0, 0, 0, 0, 0, 0, 0, 0, 0, 0, 0, 0, 0, 0, 0, 0, 0, 0, 0, 0, 0, 0, 0, 0, 0, 0, 0, 0, 0, 0, 0, 0, 0, 0, 0, 0, 0, 0, 0, 0, 0, 0, 0, 0, 0, 0, 0, 0, 0, 0, 0, 0, 0, 0, 0, 0, 0, 0, 0, 0, 0, 0, 0, 0, 0, 0, 0, 0, 0, 0, 0])
def h1385 : Dat := (.str [50, 76, 4, 0, 0, 253, 176, 196, 69, 4, 0, 1, 22, 1, 3, 82, 0, 4, 2, 25, 0, 0, 24, 1, 6, 5, 1, 1, 5, 16, 1, 116, 1, 2, 2, 105, 100, 2, 1, 4, 110, 97, 109, 101, 5, 4, 4, 0, 0, 2, 2, 51, 225, 182, 37, 0, 0, 0, 0, 0, 0, 0, 0, 0, 0, 0, 0, 0, 0, 0, 0, 0, 0, 0, 0, 0, 0, 0, 0, 0, 0, 0, 0, 0, 0, 0, 0, 0, 0, 0, 0, 0, 0, 0, 0, 0, 0, 0, 0, 0, 0, 0, 0, 0, 0, 0, 0, 0, 0, 0, 0, 0, 0, 0, 0, 0, 0, 0, 0, 0, 0, 0, 0, 0, 0, 0, 0, 0])
def x1386 : AObj := (.map (.int .i64) [⟨[(.int .i64 (.ofNat 1))], 0, (.one (.s (.d h1384)))⟩, ⟨[(.int .i64 (.ofNat 2))], 1, (.one (.s (.d h1385)))⟩, ⟨[(.int .i64 (.ofNat 100))], 2, (.one (.s (.d h1277)))⟩, ⟨[(.int .i64 (.ofNat 101))], 3, (.one (.s (.d h1279)))⟩, ⟨[(.int .i64 (.ofNat 0))], 4, (.one (.s (.d h939)))⟩, ⟨[(.int .i64 (.ofNat 102))], 5, (.one (.s (.d h1200)))⟩, ⟨[(.int .i64 (.ofNat 103))], 6, (.one (.s (.d h257)))⟩, ⟨[(.int .i64 (.ofNat 104))], 7, (.one (.s (.d h1278)))⟩] 8)
def x1387 : AObj := (.row 216 7 0 [(xi 300), (.s (.mp 0)), (.s (.d (.sl [] true))), (xi 18), (xi 11), (.s (.d (.bool false))), (.s (.d (.int .i64 (.negSucc 28))))])
def x1388 : AObj := (.row 3 1 3 [(xi 0), (xi 1), (xi 2), (xi 4)])
def m1389 : PM AObj := (nn (nn m1059 (nn (nn .nil (nn (nn (nn (nn (nn (lf x24) .nil) .nil) .nil) .nil) .nil)) .nil)) (nn .nil (nn (nn .nil (nn (nn .nil (nn .nil (nn .nil (nn .nil (lf x1388))))) .nil)) .nil)))
def x1390 : AObj := (.row 219 2 0 [(xi 2), (.s (.d h1385))])
def m1391 : PM AObj := (nn (nn (nn (nn .nil (nn (nn (nn (lf x943) .nil) .nil) (nn .nil (nn .nil (lf x1390))))) .nil) .nil) (nn .nil (nd x30 (nn (nn (nn (nn (lf x63) .nil) .nil) .nil) .nil) .nil)))
def x1392 : AObj := (.row 219 2 0 [(xi 104), (.s (.d h1278))])
def m1393 : PM AObj := (nn (nn .nil (nn (nn .nil (nn .nil (nn .nil (nn .nil (lf x1392))))) (nn (nn (nn (nn (lf x24) .nil) .nil) .nil) .nil))) (nn (nn .nil (nn (nn .nil (nn .nil (nn .nil (lf x307)))) .nil)) .nil))
def x1394 : AObj := (.row 219 2 0 [(xi 1), (.s (.d h1384))])
def x1395 : AObj := (.row 219 2 0 [(xi 101), (.s (.d h1279))])
def m1396 : PM AObj := (nn (nn .nil (nd x220 .nil (nn .nil (nn (nn (nn (lf x957) .nil) .nil) .nil)))) (nn (nn (nn .nil (nn .nil (nn .nil (nn .nil (lf x1395))))) (nn (nn (nn (nn (lf x24) .nil) .nil) .nil) .nil)) .nil))
def m1397 : PM AObj := (nd x33 (nd x33 (nn .nil (nn .nil (nn .nil (nn (nn (nn (lf x108) .nil) .nil) .nil)))) (nn .nil (nn .nil (nn (nn .nil (nn .nil (nn .nil (lf x24)))) .nil)))) m1396)
def m1398 : PM AObj := (nn (nn (nn .nil (nn .nil (nn .nil (nn .nil (lf x350))))) .nil) (nn (nn .nil (nn (nn (nn (lf x959) .nil) .nil) .nil)) (nn (nn (nn (nn (lf x24) .nil) .nil) .nil) .nil)))
def x1399 : AObj := (.row 219 2 0 [(xi 100), (.s (.d h1277))])
def m1400 : PM AObj := (nn (nn (lf x34) (nn (nn (nn (nn (nn .nil (lf x33)) .nil) .nil) .nil) .nil)) (nn (nn (nn .nil (nn .nil (nn .nil (nn .nil (lf x1399))))) .nil) .nil))
def x1401 : AObj := (.row 219 2 0 [(xi 102), (.s (.d h1200))])
def h1402 : Dat := (.str [4, 0, 1, 22, 1, 3, 82, 0, 4, 2, 25, 0, 0, 24, 1, 6, 5, 1, 1, 5, 16, 1, 116, 1, 2, 2, 105, 100, 2, 1, 4, 110, 97, 109, 101, 5, 4, 4, 0, 0, 2, 2])
def x1403 : AObj := (.row 9 1 0 [(.s (.d h1402))])
def m1404 : PM AObj := (nn (nn (nn .nil (nn .nil (nn .nil (nn .nil (lf x1401))))) (nn (nn (nn (nn (lf x24) .nil) .nil) .nil) .nil)) (nn .nil (nn (nn .nil (nn .nil (nn .nil (lf x1403)))) .nil)))
def m1405 : PM AObj := (nn (nn .nil (nn (nn (nn .nil (nn (nn (nn (lf x24) .nil) .nil) .nil)) .nil) (nd x278 .nil (nn (nn (nn (nn (lf x64) .nil) .nil) .nil) .nil)))) (nn (nn (nn (nn (nn .nil (nn (lf x274) .nil)) .nil) .nil) (nn .nil (nn (nn .nil (nn .nil (nn .nil (lf x1266)))) .nil))) m1404))
def m1406 : PM AObj := (nn (nn (nn m1393 (nn (nn (nn (nn (nn .nil (nn (lf x276) .nil)) .nil) .nil) (nn (nn .nil (nn .nil (nn .nil (nn .nil (lf x1394))))) .nil)) .nil)) m1397) (nn (nn (nn m1398 (nn (nn (nn .nil (nn (nn (nn (lf x27) .nil) .nil) .nil)) .nil) .nil)) m1400) m1405))
def m1407 : PM AObj := (nn (nn (nn (nn .nil (nn .nil (nn .nil (nn .nil (lf x24))))) .nil) .nil) (nn (nn (nn .nil (nn (nn (nn (lf x24) .nil) .nil) .nil)) .nil) (nn .nil (nn (nn .nil (nn .nil (nn .nil (lf x1403)))) .nil))))
def m1408 : PM AObj := (nn (nn (nn .nil (nn .nil (nn .nil (nn .nil (lf x1399))))) (nn (nn .nil (nn .nil (nn .nil (lf x33)))) .nil)) (nd x30 (nn (nn (nn (nn .nil (lf x307)) .nil) .nil) .nil) (nn (nn (nn (nn (lf x64) .nil) .nil) .nil) (nn (nn (nn (lf x30) .nil) .nil) .nil))))
def m1409 : PM AObj := (nn (nn (nn m1389 (nn m1263 (nn m1391 (nd x26 m945 (nn (lf x27) .nil))))) (nn (nn m949 m951) m1187)) (nn m1406 (nn (nd x35 m1060 (nn m1407 (nn m1408 (nn .nil (nn .nil (nn (nn (nn (nn (lf x963) .nil) .nil) .nil) .nil)))))) (nn m1163 m1272))))
def m1410 : PM AObj := (nn (nn .nil (nn .nil (nd x220 (nn (nn (nn (nn .nil (lf x1198)) .nil) .nil) .nil) (nn .nil (nn (nn (nn (lf x957) .nil) .nil) .nil))))) (nn (nn .nil (nn (nn (nn (nn (nn (lf x289) .nil) .nil) .nil) (nn .nil (nn .nil (nn .nil (lf x24))))) .nil)) .nil))
def m1411 : PM AObj := (nn (nn .nil (nd x723 (nn .nil (nn .nil (nn .nil (nn .nil (lf x276))))) (nn .nil (nn (nn (nn (lf x970) .nil) .nil) .nil)))) (nn (nn (nn (nn (nn (nn .nil (lf x1191)) .nil) .nil) .nil) .nil) .nil))
def m1412 : PM AObj := (nn (nn (lf x24) (nd x85 (nn (nn (nn (nn .nil (lf x276)) .nil) .nil) .nil) .nil)) (nd x34 (nn (nn .nil (nn .nil (nn .nil (nn .nil (lf x24))))) .nil) .nil))
def m1413 : PM AObj := (nn (nn (nn (nn (nn (nn (lf x291) .nil) .nil) .nil) (nn .nil (nn .nil (nn .nil (lf x24))))) .nil) (nd x292 .nil (nn (nn (nn (nn (lf x973) .nil) .nil) .nil) .nil)))
def x1414 : AObj := (.row 219 2 3 [(xi 100), (.s (.d h1277)), (xi 101), (.s (.d h1279)), (xi 102), (.s (.d h1200)), (xi 104), (.s (.d h1278))])
def m1415 : PM AObj := (nn (nn (nn (nn .nil (nn (nn (nn (nn (lf x272) .nil) .nil) .nil) .nil)) (nn .nil (nn .nil (nn (nn (nn (lf x972) .nil) .nil) .nil)))) m1413) (nn (nn (nn (nn .nil (nn .nil (nn .nil (nn .nil (lf x1414))))) .nil) (nn .nil (nn (nn (nn (nn (lf x927) .nil) .nil) .nil) .nil))) .nil))
def m1416 : PM AObj := (nd x288 (nn m1410 (nd x38 (nd x39 (nn .nil (nn .nil (nn .nil (nn (nn (nn (lf x969) .nil) .nil) .nil)))) .nil) m1411)) (nn (nn (nn .nil (nn (nd x40 (nn .nil (nn .nil (nn .nil (nn .nil (lf x24))))) .nil) .nil)) m1412) m1415))
def m1417 : PM AObj := (nn (nn (nn (nn .nil (nn (nn (lf x276) .nil) .nil)) (nn (nn (nn (lf x976) .nil) .nil) .nil)) .nil) (nn (nn .nil (nn .nil (nn .nil (nn .nil (lf x24))))) (nn .nil (nn (nn (nn (lf x977) .nil) .nil) .nil))))
def m1418 : PM AObj := (nn (nn (nn (nn (nn (nn .nil (nn (lf x294) .nil)) .nil) .nil) (nd x295 (nn .nil (nn .nil (nn .nil (nn .nil (lf x27))))) .nil)) (lf x45)) (nn (nn (nn .nil (nn (nn .nil (nn .nil (nn .nil (lf x1275)))) .nil)) (nn .nil (nn (nn (nn (nn (lf x33) .nil) .nil) .nil) .nil))) .nil))
def e1419 : Cell := (.fn (.func 203) 203 [] [⟨false, [(.ptr 31652 0 0)]⟩, ⟨false, [(.ptr 31659 0 0)]⟩])
def e1420 : Cell := (.fn (.func 205) 205 [⟨false, [(.ptr 17280 0 0)]⟩] [])
def e1421 : Cell := (.fn (.func 206) 206 [] [⟨false, [(.ptr 31652 0 0)]⟩])
def e1422 : Cell := (.fn (.func 208) 208 [⟨false, [(.ptr 17598 0 0)]⟩] [])
def x1423 : AObj := (.row 84 1 0 [e1419, e1420, e1421, e1422])
def m1424 : PM AObj := (nn (nn (nn (lf x34) .nil) (nn .nil (nn .nil (nn (nn (nn (nn (lf x973) .nil) .nil) .nil) (nn (nn (nn (lf x1137) .nil) .nil) .nil))))) (nn .nil (nn .nil (nn .nil (nn (nn .nil (nn .nil (nn .nil (lf x1423)))) .nil)))))
def m1425 : PM AObj := (nn (nn (nn (nn (nn .nil (nn .nil (nn .nil (nn .nil (lf x24))))) .nil) .nil) .nil) (nn (nn (nn (nn (nn .nil (nn (lf x276) .nil)) .nil) .nil) .nil) .nil))
def m1426 : PM AObj := (nn (nn (nn (nn (nn .nil (nn .nil (nn .nil (nn .nil (lf x1403))))) .nil) .nil) (nn (nn (nn .nil (nn (nn (nn (lf x987) .nil) .nil) .nil)) .nil) .nil)) m989)
def x1427 : AObj := (.map (.int .i64) [] 4)
def m1428 : PM AObj := (nd x29 (nn (nn .nil (nn .nil (nn (nn .nil (nn .nil (nn .nil (lf x305)))) .nil))) (nd x24 (nn (nn .nil (nn (nn (nn (lf x1427) .nil) .nil) .nil)) .nil) .nil)) (nn (nn (nn .nil (nn (nn .nil (nn .nil (nn .nil (lf x1281)))) .nil)) (lf x220)) m991))
def m1429 : PM AObj := (nn (nn m1416 (nn (nn (nn m1274 (nn m1417 (nd x42 (lf x43) .nil))) m1418) (nn m1424 m979))) (nn (nn (nn m982 m1197) (nn (nn m1113 (nn (nn (lf x49) .nil) .nil)) m1425)) (nn (nd x33 m1115 m1426) (nn m1199 m1428))))
def x1430 : AObj := (.row 305 8 0 [(.s (.ptr 1 0 0)), (xi 0), (xi 98), (xi 5), (xi 5), (xi 0), (.s (.d (.sl [] true))), (.s (.d (.bool false)))])
def m1431 : PM AObj := (nd x58 (nn (nn (nn (nn .nil (lf x24)) .nil) .nil) .nil) (nn (nn (nn (nn (lf x1430) .nil) .nil) .nil) (nn (nn (nn (lf x1066) .nil) .nil) .nil)))
def m1432 : PM AObj := (nn (nn .nil (nn (nn (nn (nn .nil (nn (lf x274) .nil)) .nil) .nil) m1431)) (nn (nn (nn .nil (nn (nn (nn (nn (lf x24) .nil) .nil) .nil) .nil)) (nn (nn (nn (nn (nn (lf x305) .nil) .nil) .nil) .nil) .nil)) .nil))
def m1433 : PM AObj := (nd x54 (nd x54 (nn .nil (nn .nil (nn .nil (nn (nn (nn (lf x998) .nil) .nil) .nil)))) .nil) (nn (nn .nil (nd x108 (nn .nil (nn .nil (nn .nil (nn .nil (lf x64))))) .nil)) (nn (nn (nn (nn (nn (nn .nil (lf x1207)) .nil) .nil) .nil) .nil) .nil)))
def m1434 : PM AObj := (nn (nn (nn .nil (nn .nil (nn .nil (nn .nil (lf x24))))) .nil) (nn .nil (nn (nn (nn (nn (lf x819) .nil) .nil) .nil) (nn (nn (nn (lf x927) .nil) .nil) .nil))))
def m1435 : PM AObj := (nn (nn (nd x24 (nn (nn .nil (nn .nil (nn .nil (nn .nil (lf x1390))))) .nil) .nil) (nn (nn (nn (nn (nn (nn (lf x313) .nil) .nil) .nil) .nil) .nil) .nil)) (nn m1434 .nil))
def m1436 : PM AObj := (nn (nn .nil (nd x41 (nn .nil (nn .nil (nn .nil (nn .nil (lf x24))))) .nil)) (nn .nil (nd x315 .nil (nn .nil (nn (nn (nn (lf x1024) .nil) .nil) .nil)))))
def m1437 : PM AObj := (nn (nn (nn (nn .nil (nn (nn (nn (lf x943) .nil) .nil) .nil)) (nn (nn .nil (nn .nil (nn .nil (lf x24)))) .nil)) .nil) (nn (nn (nn .nil (nn .nil (nn .nil (nn .nil (lf x24))))) .nil) .nil))
def m1438 : PM AObj := (nn (nn m1436 (nn (nn (nn (nn .nil (nn (nn (nn (lf x1001) .nil) .nil) .nil)) .nil) .nil) (nn (lf x43) .nil))) (nn (nn (nn .nil (lf x55)) (lf x24)) m1437))
def m1439 : PM AObj := (nd x24 (nd x24 (nn (nd x34 .nil (nn .nil (nn (nn (nn (lf x64) .nil) .nil) .nil))) .nil) m1285) (nn .nil (nn (nn (nn .nil (nn .nil (nn .nil (nn .nil (lf x24))))) .nil) .nil)))
def m1440 : PM AObj := (nn (nn m1006 (nn (lf x40) .nil)) (nn .nil (nn (nn (nn .nil (nn .nil (nn .nil (nn .nil (lf x24))))) .nil) (nn (nn .nil (nn (nn (nn (lf x305) .nil) .nil) .nil)) .nil))))
def m1441 : PM AObj := (nn (nn (nn (nn .nil (nn (lf x318) .nil)) .nil) .nil) (nn (nn .nil (nn .nil (nn .nil (nn .nil (lf x1394))))) (nn .nil (nn (nn (nn (lf x1005) .nil) .nil) .nil))))
def m1442 : PM AObj := (nn (nn (nn (nn (nn .nil (nn (nn (nn (lf x1008) .nil) .nil) .nil)) .nil) .nil) (nn (nn .nil (nn (nn .nil (nn .nil (nn .nil (lf x1287)))) .nil)) .nil)) (nn m1441 .nil))
def m1443 : PM AObj := (nn (nn (nn .nil (nd x33 .nil (nn .nil (nn (nn (nn (lf x108) .nil) .nil) .nil)))) (nn .nil (nn .nil (nn (nn .nil (nn .nil (nn .nil (lf x959)))) .nil)))) (nn .nil (nn .nil (nn (nn (nn (nn (nn (lf x321) .nil) .nil) .nil) .nil) .nil))))
def m1444 : PM AObj := (nn (nn (lf x49) (nd x58 .nil (nn (nn (nn (nn (lf x24) .nil) .nil) .nil) .nil))) (nn (nn (nn .nil (nn .nil (nn .nil (nn .nil (lf x1392))))) .nil) (lf x274)))
def m1445 : PM AObj := (nn (nn (nn (nn .nil (nn .nil (nn .nil (nn .nil (lf x1390))))) .nil) .nil) (nn (nn (nn .nil (nn (nn (nn (lf x987) .nil) .nil) (nn .nil (nn .nil (lf x1401))))) .nil) .nil))
def m1446 : PM AObj := (nd x29 (nn (nn .nil (nn (nn (nn .nil (nn .nil (nn .nil (nn .nil (lf x1395))))) .nil) (nd x325 .nil (nn .nil (nn (nn (nn (lf x1139) .nil) .nil) .nil))))) m1444) (nn m1445 (nd x24 (nn .nil m1210) (nn .nil (nn .nil (nn (nn (nn (nn (lf x1008) .nil) .nil) .nil) .nil))))))
def m1447 : PM AObj := (nd x59 (nn .nil (nn (nn .nil (nn .nil (nn .nil (nn .nil (lf x1394))))) (nn (nn .nil (nn .nil (nn .nil (lf x305)))) .nil))) (nn (nn .nil (nn (nn (nn (nn (lf x24) .nil) .nil) .nil) .nil)) (nn (nn (nn .nil (nn .nil (nn .nil (lf x1290)))) .nil) .nil)))
def m1448 : PM AObj := (nn (nn (nn m1442 m1443) (nn m1011 m324)) (nn m1446 (nn (nn m1167 (nn .nil (nn (nn .nil (nn (nn (nn (nn (lf x24) .nil) .nil) .nil) .nil)) .nil))) (nd x38 m1447 m1015))))
def m1449 : PM AObj := (nn (nn (nn (nn m1432 m1433) (nn (nn .nil (nn (nn .nil (nd x87 (nn (nn (nn (nn .nil (lf x24)) .nil) .nil) .nil) .nil)) .nil)) m1435)) (nn m1438 (nd x56 m1439 m1440))) m1448)
def m1450 : PM AObj := (nn (nn (nn (nn .nil (nn (lf x24) .nil)) .nil) .nil) (nn (nn (nn (nn (nn (lf x33) .nil) .nil) .nil) (nn .nil (nn .nil (nn .nil (lf x1394))))) .nil))
def m1451 : PM AObj := (nn (nn .nil (nd x723 (nn .nil (nn .nil (nn .nil (nn .nil (lf x1275))))) (nn .nil (nn (nn (nn (lf x1018) .nil) .nil) .nil)))) (nn (nn (nn (nn (nn (nn .nil (lf x1214)) .nil) .nil) (nn .nil (nn .nil (nn .nil (lf x1395))))) .nil) .nil))
def m1452 : PM AObj := (nd x24 (nn (nn (nn .nil (nd x41 (nn .nil (nn .nil (nn .nil (nn .nil (lf x1392))))) .nil)) .nil) (nn m1450 .nil)) (nd x29 (nd x29 (nn .nil (nn .nil (nn .nil (nn (nn (nn (lf x1017) .nil) .nil) .nil)))) (nn .nil (lf x333))) m1451))
def m1453 : PM AObj := (nn (nn (lf x49) (nn (nn (nn (nn (nn .nil (lf x318)) .nil) .nil) .nil) .nil)) (nn (nn (nn .nil (nn .nil (nn .nil (nn .nil (lf x1399))))) .nil) .nil))
def m1454 : PM AObj := (nn (nn (nn (nn (nn .nil (nn (lf x24) .nil)) .nil) .nil) .nil) (nn (nn (nn .nil (nn .nil (nn .nil (nn .nil (lf x1401))))) .nil) (nn .nil (nn (nn .nil (nn .nil (nn .nil (lf x1403)))) .nil))))
def m1455 : PM AObj := (nn (nn m1452 (nn (nn (nn (nn .nil (nn (nn .nil (nn (nn (nn (lf x1020) .nil) .nil) .nil)) .nil)) .nil) m1453) (nn m1021 m1454))) (nn (nd x54 m1248 (nn .nil (nn m1295 .nil))) (nn (nn (nn .nil m1143) (nn (nn .nil (nn (nn (nn (nn (nn (lf x307) .nil) .nil) .nil) .nil) .nil)) .nil)) m1297)))
def m1456 : PM AObj := (nn (nn (nn (nn .nil (nn .nil (nn .nil (nn .nil (lf x1390))))) .nil) (nd x64 (nn (nn (nn (nn (lf x344) .nil) .nil) .nil) .nil) .nil)) (nn (nn (nn .nil (nn (nn (nn (lf x987) .nil) .nil) .nil)) .nil) (nn .nil (nn .nil (nn (nn (lf x345) .nil) .nil)))))
def x1457 : AObj := (.row 65 6 0 [(.s (.ptr 17598 0 0)), (.s (.ptr 17682 0 0)), (.s (.ptr 18316 0 0)), (xi 2), (.s (.d (.sl [] true))), (.s (.d (.bool false)))])
def m1458 : PM AObj := (nn (nn (nn .nil (nn .nil (nn (nn (nn (lf x990) .nil) .nil) .nil))) (nn (nn .nil (nn (nn (nn (lf x1457) .nil) .nil) .nil)) .nil)) (nn (lf x24) (nn .nil (nn .nil (nn (nn (nn (lf x30) .nil) .nil) .nil)))))
def m1459 : PM AObj := (nn (nn m1458 (nn (nn (lf x49) .nil) .nil)) (nn m1031 (nn (nn (nn (nn (nn .nil (nn (lf x276) .nil)) .nil) (nn (nn (nn (nn (lf x308) .nil) .nil) .nil) .nil)) .nil) .nil)))
def m1460 : PM AObj := (nd x56 (nn (nn (nn .nil (nn .nil (nn .nil (nn .nil (lf x1403))))) .nil) .nil) (nn (nn (nn .nil (nn (nn (nn (lf x987) .nil) .nil) .nil)) .nil) (nd x333 (nn (nn (nn (nn (lf x24) .nil) .nil) .nil) .nil) .nil)))
def m1461 : PM AObj := (nn (nn (nn (nn (nn .nil (nn (lf x351) .nil)) .nil) .nil) (nn (nn .nil (nn .nil (nn .nil (nn .nil (lf x33))))) .nil)) (nn (nn .nil (nn (nn (nn (nn (lf x308) .nil) .nil) .nil) .nil)) .nil))
def m1462 : PM AObj := (nn (nn (nn m1124 m1033) (nd x56 m1460 m1035)) (nn (nn m1220 m1461) (nn (nn .nil (nn (nd x24 (nn .nil (nn (nn (nn (lf x1039) .nil) .nil) .nil)) .nil) .nil)) (nd x353 (nn .nil (lf x354)) m1040))))
def m1463 : PM AObj := (nn (nn (nn (nd x35 (nd x59 (nn (nn (nn .nil (nn (nn (nn (lf x64) .nil) .nil) .nil)) .nil) .nil) (nn .nil (lf x343))) .nil) (nn m1456 .nil)) m1459) m1462)
def s1464 : St := ⟨(nd x1386 (nd x1387 m1409 m1429) (nd x995 m1449 (nn m1455 m1463))), 32099, 0⟩
theorem t1377 : PC (evO badP allP Ot A 1000000 195) 1000000 k641 f1260 s1300 .ret f1383 s1464 := fun K => by kernel_rfl
theorem t1465 : PC (evO badP allP Ot A 1000000 195) 1000000 k649 f1227 s1231 .ret f1383 s1464 := PC.seq t1376 t1377
theorem t1466 : PC (evO badP allP Ot A 1000000 195) 1000000 k651 f1179 s1170 .ret f1383 s1464 := PC.seq t1236 t1465
theorem t1467 : PC (evO badP allP Ot A 1000000 195) 1000000 k653 f1178 s1170 .ret f1383 s1464 := PC.seq t1177 t1466
def g1468 : List Vl := [(.one (.s (.ptr 17686 0 0))), (.one (.s (.ptr 18316 0 0))), (.one e1172)]
theorem cc1469k : a188.code = k653 := by kernel_rfl
theorem cc1469 : PKO Ot A 1000000 196 188 g1468 s1170 (vi 0) s1464 := PKO.mk (af := a188) (K := k653) (f := f1178) (s0 := s1170) (by kernel_rfl) (by kernel_rfl) cc1469k (by kernel_rfl) (by kernel_rfl) t1467 (fun K PN => by kernel_rfl)
def m1470 : PM AVal := (nd (vp 17686 0 0) (nd (vp 18316 0 0) (nd (vp 18332 0 0) (lf (vc e1172)) .nil) (lf (vp 17686 0 0))) (nd (vp 18331 0 0) (nd (vi 0) (lf (vi 0)) .nil) (lf (vp 18316 0 0))))
def f1471 : Fr := ⟨m1470, [], none⟩
theorem o1472 : PX (evO badP allP Ot A 1000000 196) [⟨some 8, .e (.callf 188 [(.t 5), (.t 6), (.t 7)]), none, 0⟩] f1174 s1170 f1471 s1464 := PX.callO (by kernel_rfl) (by kernel_rfl) cc1469 (by kernel_rfl)
def r1473 : List AOper := [V 4 8]
theorem o1474 : PX (evO badP allP Ot A 1000000 196) r1473 f1471 s1464 f1471 s1464 := fun r K => by kernel_rfl
def r1475 : List AOper := r1473 ++ []
theorem o1476 : PO (evO badP allP Ot A 1000000 196) r1475 f1471 s1464 .normal f1471 s1464 := PO.app o1474 PO.nil
def r1477 : List AOper := r1176 ++ r1475
theorem o1478 : PO (evO badP allP Ot A 1000000 196) r1477 f1174 s1170 .normal f1471 s1464 := PO.app o1472 o1476
def r1479 : List AOper := r1171 ++ r1477
theorem o1480 : PO (evO badP allP Ot A 1000000 196) r1479 f1161 s1170 .normal f1471 s1464 := PO.app o1175 o1478
def k1481 : ACode := .region r1479
theorem t1482 : PC (evO badP allP Ot A 1000000 196) 1000000 k1481 f1161 s1170 .normal f1471 s1464 := PC.region o1480
theorem t1483 : PC (evO badP allP Ot A 1000000 196) 1000000 k670 f1471 s1464 .ret f1471 s1464 := fun K => by kernel_rfl
def k1484 : ACode := .seq k1481 k670
theorem t1485 : PC (evO badP allP Ot A 1000000 196) 1000000 k1484 f1161 s1170 .ret f1471 s1464 := PC.seq t1482 t1483
def k1486 : ACode := .seq k1158 k1484
theorem t1487 : PC (evO badP allP Ot A 1000000 196) 1000000 k1486 f1160 s1146 .ret f1471 s1464 := PC.seq t1159 t1485
def g1488 : List Vl := [(.one (.s (.ptr 17686 0 0))), (.one (.s (.ptr 18316 0 0)))]
theorem cc1489k : a133.code = k1486 := by kernel_rfl
theorem cc1489 : PKO Ot A 1000000 197 133 g1488 s1146 (vi 0) s1464 := PKO.mk (af := a133) (K := k1486) (f := f1160) (s0 := s1146) (by kernel_rfl) (by kernel_rfl) cc1489k (by kernel_rfl) (by kernel_rfl) t1487 (fun K PN => by kernel_rfl)
def m1490 : PM AVal := (nd (vi 0) (nd (vi 0) (nd (vp 17686 0 0) (lf (vi 0)) .nil) (lf y1131)) (nd (vi 0) (lf (vp 18316 0 0)) (lf (vb false))))
def f1491 : Fr := ⟨(nd (vp 17686 0 0) (nd (vi 5) m1153 m1132) (nn m1490 m1154)), [], none⟩
theorem o1492 : PX (evO badP allP Ot A 1000000 197) [⟨some 32, .e (.callf 133 [(.t 30), (.t 31)]), none, 0⟩] f1155 s1146 f1491 s1464 := PX.callO (by kernel_rfl) (by kernel_rfl) cc1489 (by kernel_rfl)
def r1493 : List AOper := [V 10 32]
def m1494 : PM AVal := (nd (vi 0) (nd (vi 0) (lf (vp 17686 0 2)) (lf (vi 0))) (nd (vb false) (lf (vp 18316 0 0)) (lf (vp 17686 0 0))))
def f1495 : Fr := ⟨(nd (vp 17686 0 0) (nd (vi 5) m1153 m1132) (nn m1490 m1494)), [], none⟩
theorem o1496 : PX (evO badP allP Ot A 1000000 197) r1493 f1491 s1464 f1495 s1464 := fun r K => by kernel_rfl
def r1497 : List AOper := r1493 ++ []
theorem o1498 : PO (evO badP allP Ot A 1000000 197) r1497 f1491 s1464 .normal f1495 s1464 := PO.app o1496 PO.nil
def r1499 : List AOper := r1157 ++ r1497
theorem o1500 : PO (evO badP allP Ot A 1000000 197) r1499 f1155 s1146 .normal f1495 s1464 := PO.app o1492 o1498
def r1501 : List AOper := r1152 ++ r1499
theorem o1502 : PO (evO badP allP Ot A 1000000 197) r1501 f1151 s1146 .normal f1495 s1464 := PO.app o1156 o1500
def k1503 : ACode := .region r1501
theorem t1504 : PC (evO badP allP Ot A 1000000 197) 1000000 k1503 f1151 s1146 .normal f1495 s1464 := PC.region o1502
def k1505 : ACode := .seq (
.region [V 33 10,
Q 34 (.bin .neq .scalar (.t 33) (ci 0))]) (
.cond (.t 34) (
.seq (
.region [V 35 10,
Q 4 (.mov (ci 0)),
V 5 35]) (
.ret)) (
.skip))
def m1507 : PM AVal := (nd (vi 0) (nd (vi 0) (nd (vp 17686 0 0) (lf (vi 0)) .nil) (lf (vi 0))) (nd (vi 0) (lf y1131) .nil))
def m1508 : PM AVal := (nd (vi 0) (nd (vi 0) (nd (vp 17686 0 2) (lf (vb false)) .nil) (lf (vi 0))) (nd (vb false) (lf (vp 18316 0 0)) (lf (vp 17686 0 0))))
def f1509 : Fr := ⟨(nd (vp 17686 0 0) (nd (vi 5) m1153 m1507) (nn m1490 m1508)), [], none⟩
theorem t1506 : PC (evO badP allP Ot A 1000000 197) 1000000 k1505 f1495 s1464 .normal f1509 s1464 := fun K => by kernel_rfl
def k1510 : ACode := .seq k1503 k1505
theorem t1511 : PC (evO badP allP Ot A 1000000 197) 1000000 k1510 f1151 s1146 .normal f1509 s1464 := PC.seq t1504 t1506
def k1512 : ACode := .seq (
.region [V 36 8,
V 4 36,
Q 5 (.mov (ci 0))]) (
.ret)
def m1514 : PM AVal := (nd (vi 0) (nd (vi 0) (nd (vp 17686 0 0) (lf (vi 0)) .nil) (lf y1131)) (nd (vi 0) (nd (vp 18316 0 0) (lf (vi 0)) .nil) (lf (vb false))))
def f1515 : Fr := ⟨(nd (vp 17686 0 0) (nd (vi 5) m1153 m1507) (nn m1514 m1508)), [], none⟩
theorem t1513 : PC (evO badP allP Ot A 1000000 197) 1000000 k1512 f1509 s1464 .ret f1515 s1464 := fun K => by kernel_rfl
def k1516 : ACode := .seq k1510 k1512
theorem t1517 : PC (evO badP allP Ot A 1000000 197) 1000000 k1516 f1151 s1146 .ret f1515 s1464 := PC.seq t1511 t1513
def k1518 : ACode := .seq k1147 k1516
theorem t1519 : PC (evO badP allP Ot A 1000000 197) 1000000 k1518 f1136 s1146 .ret f1515 s1464 := PC.seq t1148 t1517
def k1520 : ACode := .seq k1129 k1518
theorem t1521 : PC (evO badP allP Ot A 1000000 197) 1000000 k1520 f1108 s1128 .ret f1515 s1464 := PC.seq t1130 t1519
def k1522 : ACode := .seq k1104 k1520
theorem t1523 : PC (evO badP allP Ot A 1000000 197) 1000000 k1522 f1103 s1077 .ret f1515 s1464 := PC.seq t1105 t1521
def k1524 : ACode := .seq k1100 k1522
theorem t1525 : PC (evO badP allP Ot A 1000000 197) 1000000 k1524 f1099 s1077 .ret f1515 s1464 := PC.seq t1101 t1523
def k1526 : ACode := .seq k555 k1524
theorem t1527 : PC (evO badP allP Ot A 1000000 197) 1000000 k1526 f1098 s1077 .ret f1515 s1464 := PC.seq t1097 t1525
def g1528 : List Vl := [(.one (.s (.ptr 17686 0 0))), (.one (xi 5))]
theorem cc1529k : a77.code = k1526 := by kernel_rfl
theorem cc1529 : PKO Ot A 1000000 198 77 g1528 s1077 y1131 s1464 := PKO.mk (af := a77) (K := k1526) (f := f1098) (s0 := s1077) (by kernel_rfl) (by kernel_rfl) cc1529k (by kernel_rfl) (by kernel_rfl) t1527 (fun K PN => by kernel_rfl)
def m1530 : PM AVal := (nn (nd (vi 0) (nd (vi 0) (lf (vp 18287 0 0)) .nil) (nd (vp 2 0 0) (lf y1131) .nil)) (nd (vi 0) (nd (vb false) (lf (vp 17686 0 0)) .nil) (lf (vp 2 0 0))))
def f1531 : Fr := ⟨(nd (vp 2 0 0) m1092 m1530), [], none⟩
theorem o1532 : PX (evO badP allP Ot A 1000000 198) [⟨some 20, .e (.callf 77 [(.t 18), (.t 19)]), none, 0⟩] f1094 s1077 f1531 s1464 := PX.callO (by kernel_rfl) (by kernel_rfl) cc1529 (by kernel_rfl)
def r1533 : List AOper := [Q 21 (.extract 0 (.t 20)), Q 22 (.extract 1 (.t 20)), V 4 21, V 5 22]
def m1534 : PM AVal := (nd (vi 0) (nd (vi 0) (lf (vp 18287 0 1)) .nil) (nd (vp 2 0 0) (lf (vi 0)) .nil))
def m1535 : PM AVal := (nn (nd (vi 0) (nd (vi 0) (lf (vp 18287 0 0)) .nil) (nd (vp 2 0 0) (lf y1131) .nil)) (nd (vi 0) (nd (vb false) (lf (vp 17686 0 0)) .nil) (nd (vp 2 0 0) (lf (vi 0)) .nil)))
def m1536 : PM AVal := (nd (vp 2 0 0) (nd (vi 5) (nn (nd (vp 2 0 0) (lf (vp 18287 0 0)) .nil) (nn (lf (vi 5)) .nil)) m1534) m1535)
def f1537 : Fr := ⟨m1536, [], none⟩
theorem o1538 : PX (evO badP allP Ot A 1000000 198) r1533 f1531 s1464 f1537 s1464 := fun r K => by kernel_rfl
def r1539 : List AOper := r1533 ++ []
theorem o1540 : PO (evO badP allP Ot A 1000000 198) r1539 f1531 s1464 .normal f1537 s1464 := PO.app o1538 PO.nil
def r1541 : List AOper := r1096 ++ r1539
theorem o1542 : PO (evO badP allP Ot A 1000000 198) r1541 f1094 s1077 .normal f1537 s1464 := PO.app o1532 o1540
def r1543 : List AOper := r1091 ++ r1541
theorem o1544 : PO (evO badP allP Ot A 1000000 198) r1543 f1090 s1077 .normal f1537 s1464 := PO.app o1095 o1542
def k1545 : ACode := .region r1543
theorem t1546 : PC (evO badP allP Ot A 1000000 198) 1000000 k1545 f1090 s1077 .normal f1537 s1464 := PC.region o1544
theorem t1547 : PC (evO badP allP Ot A 1000000 198) 1000000 k670 f1537 s1464 .ret f1537 s1464 := fun K => by kernel_rfl
def k1548 : ACode := .seq k1545 k670
theorem t1549 : PC (evO badP allP Ot A 1000000 198) 1000000 k1548 f1090 s1077 .ret f1537 s1464 := PC.seq t1546 t1547
def k1550 : ACode := .seq k1087 k1548
theorem t1551 : PC (evO badP allP Ot A 1000000 198) 1000000 k1550 f1086 s1077 .ret f1537 s1464 := PC.seq t1088 t1549
def k1552 : ACode := .seq k555 k1550
theorem t1553 : PC (evO badP allP Ot A 1000000 198) 1000000 k1552 f1085 s1077 .ret f1537 s1464 := PC.seq t1084 t1551
def g1554 : List Vl := [(.one (.s (.ptr 2 0 0))), (.one (xi 5))]
theorem cc1555k : a29.code = k1552 := by kernel_rfl
theorem cc1555 : PKO Ot A 1000000 199 29 g1554 s1077 y1131 s1464 := PKO.mk (af := a29) (K := k1552) (f := f1085) (s0 := s1077) (by kernel_rfl) (by kernel_rfl) cc1555k (by kernel_rfl) (by kernel_rfl) t1553 (fun K PN => by kernel_rfl)
def m1556 : PM AVal := (nd (vi 6) (nn (nd (vb false) (lf y1050) .nil) (lf (vi 5))) (nd y74 (nd (.v (.one (.s (.d h99)))) (lf y1131) .nil) (lf y919)))
def m1557 : PM AVal := (nd (vb false) (nd (vp 2 0 0) (nd (.v (.one (.s (.d .nilp)))) m1047 m1048) (nd (.v (.one (.s (.d .nilp)))) m1079 m1051)) (nd (vi 0) (nd (vi 1) m1052 m1053) (nd (vi 1) m1556 m1055)))
def f1558 : Fr := ⟨m1557, [], none⟩
theorem o1559 : PX (evO badP allP Ot A 1000000 199) [⟨some 74, .e (.callf 29 [(.t 73), (ci 5)]), none, 0⟩] f1081 s1077 f1558 s1464 := PX.callO (by kernel_rfl) (by kernel_rfl) cc1555 (by kernel_rfl)
def r1560 : List AOper := [V 72 74, Q 75 (.extract 0 (.t 72)), Q 76 (.extract 1 (.t 72)), V 18 75, V 19 76]
def m1561 : PM AVal := (nd (vi 0) (nd (vi 0) (nd (vb false) (lf (vp 2 0 0)) .nil) (lf (vp 2 0 0))) (nd (.v (.one (.s (.d .nilp)))) (nd (vp 2 0 0) (lf (vi 0)) .nil) (lf (vp 2 0 0))))
def m1562 : PM AVal := (nd (.v (.one (.s (.sl 17263 0 0 1 false)))) (nd (.v (.one (.s (.d (.sl [] false))))) (nd (vi 1) (lf (vp 2 0 0)) .nil) (lf (.v (.one (.s (.sl 17263 0 0 1 false)))))) (nd (vi 0) (nd (.v (.one (.s (.sl 864 0 0 1 true)))) (lf y1131) .nil) (lf (.v (.one (.s (.d h99)))))))
def m1563 : PM AVal := (nd (.v (.one (.s (.d (.sl [] true))))) (nn (nd (vp 2 0 0) (lf (.v u921)) .nil) (lf (vi 6))) (nd (vi 1) (nd (.v (.one (.s (.d h99)))) (lf (vi 0)) .nil) (lf (.v u921))))
def m1564 : PM AVal := (nd (vi 6) (nd (vi 0) (nd (vb false) (lf y1050) .nil) (lf (vi 5))) (nd y74 (nd (.v (.one (.s (.d h99)))) (lf y1131) .nil) (lf y919)))
def m1565 : PM AVal := (nd (vb false) (nd (vp 2 0 0) (nd (.v (.one (.s (.d .nilp)))) m1047 m1561) (nd (.v (.one (.s (.d .nilp)))) m1079 m1051)) (nd (vi 0) (nd (vi 1) m1562 m1563) (nd (vi 1) m1564 m1055)))
def f1566 : Fr := ⟨m1565, [], none⟩
theorem o1567 : PX (evO badP allP Ot A 1000000 199) r1560 f1558 s1464 f1566 s1464 := fun r K => by kernel_rfl
def r1568 : List AOper := r1560 ++ []
theorem o1569 : PO (evO badP allP Ot A 1000000 199) r1568 f1558 s1464 .normal f1566 s1464 := PO.app o1567 PO.nil
def r1570 : List AOper := r1083 ++ r1568
theorem o1571 : PO (evO badP allP Ot A 1000000 199) r1570 f1081 s1077 .normal f1566 s1464 := PO.app o1559 o1569
def r1572 : List AOper := r1078 ++ r1570
theorem o1573 : PO (evO badP allP Ot A 1000000 199) r1572 f1057 s1077 .normal f1566 s1464 := PO.app o1082 o1571
def k1574 : ACode := .region r1572
theorem t1575 : PC (evO badP allP Ot A 1000000 199) 1000000 k1574 f1057 s1077 .normal f1566 s1464 := PC.region o1573
def k1576 : ACode := .region [V 77 1,
E 78 (.callf 30 [(.t 77), (ci 0)])]
def m1578 : PM AVal := (nd (.v (.one (.s (.d (.sl [] true))))) (nd y8 (nd (vb false) (lf y1050) .nil) (lf (vp 2 0 0))) (nd y74 (nd (.v (.one (.s (.d h99)))) (lf (vp 2 0 0)) .nil) (lf y919)))
def m1579 : PM AVal := (nd (vi 6) (nd y8 (nd (vb false) (lf (.v (.one (.s (.d (.sl [] false)))))) .nil) (lf (vi 0))) (nd y74 (nd (vs [0, 0, 0, 21, 1]) (lf (.tup [])) .nil) (lf (.v (.one (.s (.d (.sl [] true))))))))
def m1580 : PM AVal := (nd (vb false) (nd (vp 2 0 0) (nd (.v (.one (.s (.d .nilp)))) m1047 m1561) (nd (.v (.one (.s (.d .nilp)))) m1079 m1578)) (nd (vi 0) (nd (vi 1) m1562 m1563) (nd (vi 1) m1564 m1579)))
def f1581 : Fr := ⟨m1580, [], none⟩
def x1582 : AObj := (.row 216 7 0 [(xi 300), (.s (.mp 0)), (.s (.d (.sl [] true))), (xi 18), (xi 11), (.s (.d (.bool true))), (xi 0)])
def s1583 : St := ⟨(nd x1386 (nd x1582 m1409 m1429) (nd x995 m1449 (nn m1455 m1463))), 32099, 0⟩
theorem t1577 : PC (evO badP allP Ot A 1000000 199) 1000000 k1576 f1566 s1464 .normal f1581 s1583 := fun K => by kernel_rfl
def r1584 : List AOper := [V 79 1]
def m1585 : PM AVal := (nd (.v (.one (.s (.d h99)))) (nd (vi 0) (nd (.v (.one (.s (.d .nilp)))) (lf (vi 6)) .nil) (nd (.v (.one (.s (.d h112)))) (lf (vp 2 0 0)) .nil)) (nd (vp 2 0 0) (nd (.v u101) (lf (vi 0)) .nil) (lf (vp 2 0 0))))
def m1586 : PM AVal := (nd (vb false) (nd (vp 2 0 0) (nd (.v (.one (.s (.d .nilp)))) m1585 m1561) (nd (.v (.one (.s (.d .nilp)))) m1079 m1578)) (nd (vi 0) (nd (vi 1) m1562 m1563) (nd (vi 1) m1564 m1579)))
def f1587 : Fr := ⟨m1586, [], none⟩
theorem o1588 : PX (evO badP allP Ot A 1000000 199) r1584 f1581 s1583 f1587 s1583 := fun r K => by kernel_rfl
def r1589 : List AOper := [E 80 (.callf 32 [(.t 79)])]
def k1590 : ACode := .region [Q 2 (.mov (ci 0))]
def f1592 : Fr := ⟨(lf (vp 2 0 0)), [], none⟩
def f1593 : Fr := ⟨(nd (vp 2 0 0) .nil (lf (vi 0))), [], none⟩
theorem t1591 : PC (evO badP allP Ot A 1000000 198) 1000000 k1590 f1592 s1583 .normal f1593 s1583 := fun K => by kernel_rfl
def k1594 : ACode := .seq (
.region [V 4 0,
E 5 (.callf 75 [(.t 4)]),
V 3 5]) (
.seq (
.region [V 6 3,
Q 7 (.bin .neq .scalar (.t 6) (ci 0))]) (
.cond (.t 7) (
.seq (
.region [V 8 3,
V 2 8]) (
.ret)) (
.skip)))
def m1596 : PM AVal := (nd (vp 2 0 0) (nn (nd (vi 0) (lf (vb false)) .nil) (lf (vi 0))) (nd (vi 0) (lf (vp 2 0 0)) (lf (vi 0))))
def f1597 : Fr := ⟨m1596, [], none⟩
theorem t1595 : PC (evO badP allP Ot A 1000000 198) 1000000 k1594 f1593 s1583 .normal f1597 s1583 := fun K => by kernel_rfl
def r1598 : List AOper := [V 9 0, Q 10 (.nilck (.t 9)), Q 11 (.faddr 0 (.t 10)), Q 12 (.load false 1 (.t 11)), Q 13 (.nilck (.t 12)), Q 14 (.faddr 1 (.t 13)), Q 15 (.load false 1 (.t 14))]
def m1599 : PM AVal := (nn (nd (vi 0) (nd (vb false) (lf (vp 17686 0 0)) .nil) (lf (vp 2 0 0))) (nd (vi 0) (lf (vp 2 0 0)) (lf (vp 18287 0 0))))
def m1600 : PM AVal := (nd (vi 0) (nd (vp 2 0 0) .nil (lf (vp 18287 0 0))) (nd (vi 0) (lf (vp 2 0 0)) (lf (vp 18287 0 1))))
def f1601 : Fr := ⟨(nd (vp 2 0 0) m1599 m1600), [], none⟩
theorem o1602 : PX (evO badP allP Ot A 1000000 198) r1598 f1597 s1583 f1601 s1583 := fun r K => by kernel_rfl
def r1603 : List AOper := [E 16 (.callf 79 [(.t 15)])]
def f1605 : Fr := ⟨(lf (vp 17686 0 0)), [], none⟩
def f1606 : Fr := ⟨(nd (vp 17686 0 0) .nil (lf (vi 0))), [], none⟩
theorem t1604 : PC (evO badP allP Ot A 1000000 197) 1000000 k1590 f1605 s1583 .normal f1606 s1583 := fun K => by kernel_rfl
def k1607 : ACode := .seq (
.region [V 4 0,
E 5 (.callf 132 [(.t 4)]),
V 3 5]) (
.seq (
.region [V 6 3,
Q 7 (.bin .neq .scalar (.t 6) (ci 0))]) (
.cond (.t 7) (
.seq (
.region [V 8 3,
V 2 8]) (
.ret)) (
.skip)))
def m1609 : PM AVal := (nd (vp 17686 0 0) (nn (nd (vi 0) (lf (vb false)) .nil) (lf (vi 0))) (nd (vi 0) (lf (vp 17686 0 0)) (lf (vi 0))))
def f1610 : Fr := ⟨m1609, [], none⟩
theorem t1608 : PC (evO badP allP Ot A 1000000 197) 1000000 k1607 f1606 s1583 .normal f1610 s1583 := fun K => by kernel_rfl
def r1611 : List AOper := [V 9 0, V 10 0, Q 11 (.nilck (.t 10)), Q 12 (.faddr 2 (.t 11)), Q 13 (.load false 1 (.t 12)), E 14 (.callf 19 [(.t 13)])]
def m1612 : PM AVal := (nn (nd (vi 0) (lf (vb false)) (lf (vp 17686 0 0))) (nd (vi 0) (lf (vp 17686 0 0)) (lf (vp 18316 0 0))))
def m1613 : PM AVal := (nd (vi 0) (nd (vp 17686 0 0) .nil (lf (vp 17686 0 2))) (nd (vi 0) (lf (vp 17686 0 0)) (lf (vp 32099 0 0))))
def f1614 : Fr := ⟨(nd (vp 17686 0 0) m1612 m1613), [], none⟩
def x1615 : AObj := (.mit (some 18326) 0 [] 0)
def m1616 : PM AObj := (nn (nn (nn (nn (nn (lf x24) .nil) .nil) .nil) (nn .nil (nn .nil (nn .nil (lf x1615))))) (nn (nn (nn (nn (lf x723) .nil) .nil) .nil) (nn (nn (nn (lf x944) .nil) .nil) .nil)))
def x1617 : AObj := (.row 96 4 0 [(xi 1), (xi 5), (xi 5), (.s (.mp 32100))])
def m1618 : PM AObj := (nn (nn .nil (nd x220 (nn .nil (nn .nil (nn .nil (nn .nil (lf x1617))))) (nn .nil (nn (nn (nn (lf x957) .nil) .nil) .nil)))) (nn (nn (nn .nil (nn .nil (nn .nil (nn .nil (lf x1395))))) (nn (nn (nn (nn (lf x24) .nil) .nil) .nil) .nil)) .nil))
def m1619 : PM AObj := (nd x33 (nd x33 (nn .nil (nn .nil (nn .nil (nn (nn (nn (lf x108) .nil) .nil) .nil)))) (nn .nil (nn .nil (nn (nn .nil (nn .nil (nn .nil (lf x24)))) .nil)))) m1618)
def m1620 : PM AObj := (nn (nn (nn m1393 (nn (nn (nn (nn (nn .nil (nn (lf x276) .nil)) .nil) .nil) (nn (nn .nil (nn .nil (nn .nil (nn .nil (lf x1394))))) .nil)) .nil)) m1619) (nn (nn (nn m1398 (nn (nn (nn .nil (nn (nn (nn (lf x27) .nil) .nil) .nil)) .nil) .nil)) m1400) m1405))
def m1621 : PM AObj := (nn (nn (nn m1389 (nn m1263 (nn m1391 (nd x26 (nn .nil m1616) (nn (lf x27) .nil))))) (nn (nn m949 m951) m1187)) (nn m1620 (nn (nd x35 m1060 (nn m1407 (nn m1408 (nn .nil (nn .nil (nn (nn (nn (nn (lf x963) .nil) .nil) .nil) .nil)))))) (nn m1163 m1272))))
def m1622 : PM AObj := (nn (nn (nn .nil (nd x48 .nil (nn .nil (nn (nn (nn (lf x983) .nil) .nil) .nil)))) (nn .nil (nn .nil (nn .nil (nn (nn (lf x301) .nil) .nil))))) (nn (nn .nil (nn (nn (nn (nn (nn .nil (lf x1196)) .nil) .nil) (nn .nil (nn .nil (nn .nil (lf x1142))))) .nil)) .nil))
def m1623 : PM AObj := (nn .nil (nn (nn .nil (nn .nil (nn .nil (nn .nil (lf x30))))) (nn (nn (nn (nn (lf x305) .nil) .nil) .nil) (nn (nn (nn (lf x988) .nil) .nil) .nil))))
def m1624 : PM AObj := (nn (nn (nn (nn (nn .nil (nn .nil (nn .nil (nn .nil (lf x1403))))) .nil) .nil) (nn (nn (nn .nil (nn (nn (nn (lf x987) .nil) .nil) .nil)) .nil) .nil)) (nd x26 m1623 (nn (nn .nil (nn (nn (nn (nn (lf x268) .nil) .nil) .nil) .nil)) (nn .nil (nn (nn (nn (nn (lf x981) .nil) .nil) .nil) .nil)))))
def m1625 : PM AObj := (nn (nn m1416 (nn (nn (nn m1274 (nn m1417 (nd x42 (lf x43) .nil))) m1418) (nn m1424 m979))) (nn (nn (nn m982 m1622) (nn (nn m1113 (nn (nn (lf x49) .nil) .nil)) m1425)) (nn (nd x33 m1115 m1624) (nn m1199 m1428))))
def x1626 : AObj := (.map .str [⟨[(.str [116])], 0, (.one (.s (.ptr 32110 0 0)))⟩] 1)
def m1627 : PM AObj := (nn (nn (nn .nil (nd x33 .nil (nn .nil (nn (nn (nn (lf x108) .nil) .nil) .nil)))) (nn .nil (nn .nil (nn (nn .nil (nn .nil (nn .nil (lf x959)))) .nil)))) (nn (nn .nil (nn (nn .nil (nn .nil (nn .nil (nn .nil (lf x1626))))) .nil)) (nn .nil (nn (nn (nn (nn (nn (lf x321) .nil) .nil) .nil) .nil) .nil))))
def m1628 : PM AObj := (nd x58 (nn (nn (nn (nn .nil (lf x1209)) .nil) .nil) (nn .nil (nn .nil (nn .nil (lf x1024))))) (nn (nn (nn (nn (lf x276) .nil) .nil) .nil) (nn (nn (nn (lf x1012) .nil) .nil) .nil)))
def m1629 : PM AObj := (nd x29 (nn (nn .nil (nn (nn (nn .nil (nn .nil (nn .nil (nn .nil (lf x1395))))) .nil) (nd x325 .nil (nn .nil (nn (nn (nn (lf x1139) .nil) .nil) .nil))))) m1444) (nn m1445 (nd x24 (nn .nil m1628) (nn .nil (nn .nil (nn (nn (nn (nn (lf x1008) .nil) .nil) .nil) .nil))))))
def m1630 : PM AObj := (nn (nn (nn m1442 m1627) (nn m1011 m324)) (nn m1629 (nn (nn m1167 (nn .nil (nn (nn .nil (nn (nn (nn (nn (lf x24) .nil) .nil) .nil) .nil)) .nil))) (nd x38 m1447 m1015))))
def m1631 : PM AObj := (nn (nn (nn (nn m1432 m1433) (nn (nn .nil (nn (nn .nil (nd x87 (nn (nn (nn (nn .nil (lf x24)) .nil) .nil) .nil) .nil)) .nil)) m1435)) (nn m1438 (nd x56 m1439 m1440))) m1630)
def x1632 : AObj := (.row 92 2 0 [(.s (.sl 32108 0 0 1 false)), (.s (.mp 32109))])
def m1633 : PM AObj := (nn .nil (nn (nn .nil (nn .nil (nn .nil (nn .nil (lf x1632))))) (nn (nn (nn (nn (lf x723) .nil) .nil) .nil) (nn (nn (nn (lf x1034) .nil) .nil) .nil))))
def m1634 : PM AObj := (nd x56 m1460 (nd x26 m1633 (nn (nn .nil (nn (nn (nn (nn (lf x268) .nil) .nil) .nil) .nil)) (nn .nil (nn (nn (nn (nn (lf x33) .nil) .nil) .nil) .nil)))))
def m1635 : PM AObj := (nn (nn (nn m1124 m1033) m1634) (nn (nn m1220 m1461) (nn (nn .nil (nn (nd x24 (nn .nil (nn (nn (nn (lf x1039) .nil) .nil) .nil)) .nil) .nil)) (nd x353 (nn .nil (lf x354)) m1040))))
def m1636 : PM AObj := (nn (nn (nn (nd x35 (nd x59 (nn (nn (nn .nil (nn (nn (nn (lf x64) .nil) .nil) .nil)) .nil) .nil) (nn .nil (lf x343))) .nil) (nn m1456 .nil)) m1459) m1635)
def s1637 : St := ⟨(nd x1386 (nd x1582 m1621 m1625) (nd x995 m1631 (nn m1455 m1636))), 32112, 0⟩
theorem o1638 : PX (evO badP allP Ot A 1000000 197) r1611 f1610 s1583 f1614 s1637 := fun r K => by kernel_rfl
def r1639 : List AOper := [E 15 (.callf 133 [(.t 9), (.t 14)])]
def f1641 : Fr := ⟨(nd (vp 17686 0 0) (lf (vp 32099 0 0)) .nil), [], none⟩
def f1642 : Fr := ⟨(nd (vp 17686 0 0) (nd (vp 32099 0 0) (lf (vp 32113 0 0)) .nil) (nd (vp 32112 0 0) (lf (vi 0)) .nil)), [], none⟩
def x1643 : AObj := (.row 29 1 0 [(.s (.ptr 32099 0 0))])
def m1644 : PM AObj := (nn (nn (nn .nil (nn .nil (nn .nil (nn .nil (lf x1414))))) .nil) (nn (nn .nil (nn .nil (nn .nil (nn .nil (lf x1643))))) (nn (nn (nn (nn (lf x927) .nil) .nil) .nil) .nil)))
def m1645 : PM AObj := (nn (nn (nn (nn .nil (nn (nn (nn (nn (lf x272) .nil) .nil) .nil) .nil)) (nn .nil (nn .nil (nn (nn (nn (lf x972) .nil) .nil) .nil)))) m1413) (nn m1644 .nil))
def m1646 : PM AObj := (nd x288 (nn m1410 (nd x38 (nd x39 (nn .nil (nn .nil (nn .nil (nn (nn (nn (lf x969) .nil) .nil) .nil)))) .nil) m1411)) (nn (nn (nn .nil (nn (nd x40 (nn .nil (nn .nil (nn .nil (nn .nil (lf x24))))) .nil) .nil)) m1412) m1645))
def m1647 : PM AObj := (nn (nn m1646 (nn (nn (nn m1274 (nn m1417 (nd x42 (lf x43) .nil))) m1418) (nn m1424 m979))) (nn (nn (nn m982 m1622) (nn (nn m1113 (nn (nn (lf x49) .nil) .nil)) m1425)) (nn (nd x33 m1115 m1624) (nn m1199 m1428))))
def m1648 : PM AObj := (nn (nn (nn .nil (nn .nil (nn .nil (nn .nil (lf x24))))) .nil) (nn (nn .nil (nn .nil (nn .nil (nn .nil (lf x1162))))) (nn (nn (nn (nn (lf x819) .nil) .nil) .nil) (nn (nn (nn (lf x927) .nil) .nil) .nil))))
def m1649 : PM AObj := (nn (nn (nd x24 (nn (nn .nil (nn .nil (nn .nil (nn .nil (lf x1390))))) .nil) .nil) (nn (nn (nn (nn (nn (nn (lf x313) .nil) .nil) .nil) .nil) .nil) .nil)) (nn m1648 .nil))
def m1650 : PM AObj := (nn (nn (nn (nn m1432 m1433) (nn (nn .nil (nn (nn .nil (nd x87 (nn (nn (nn (nn .nil (lf x24)) .nil) .nil) .nil) .nil)) .nil)) m1649)) (nn m1438 (nd x56 m1439 m1440))) m1630)
def s1651 : St := ⟨(nd x1386 (nd x1582 m1621 m1647) (nd x995 m1650 (nn m1455 m1636))), 32114, 0⟩
theorem t1640 : PC (evO badP allP Ot A 1000000 196) 1000000 k1158 f1641 s1637 .normal f1642 s1651 := fun K => by kernel_rfl
def e1652 : Cell := (.fn (.func 189) 189 [] [⟨false, [(.ptr 32112 0 0)]⟩, ⟨false, [(.ptr 32113 0 0)]⟩])
def m1653 : PM AVal := (nd (vp 17686 0 0) (nd (vp 32099 0 0) (nd (vp 32113 0 0) (lf (vc e1652)) .nil) (lf (vp 17686 0 0))) (nd (vp 32112 0 0) (lf (vi 0)) (lf (vp 32099 0 0))))
def f1654 : Fr := ⟨m1653, [], none⟩
theorem o1655 : PX (evO badP allP Ot A 1000000 196) r1171 f1642 s1651 f1654 s1651 := fun r K => by kernel_rfl
def f1657 : Fr := ⟨(nd (vp 17686 0 0) (lf (vp 32099 0 0)) (lf (vc e1652))), [], none⟩
def f1658 : Fr := ⟨(nd (vp 17686 0 0) (lf (vp 32099 0 0)) (nd (vc e1652) .nil (lf (vi 0)))), [], none⟩
theorem t1656 : PC (evO badP allP Ot A 1000000 195) 1000000 k456 f1657 s1651 .normal f1658 s1651 := fun K => by kernel_rfl
def f1659 : Fr := ⟨(nd (vp 17686 0 0) (nd (vp 32099 0 0) (nn .nil (lf (vc e1652))) .nil) (nd (vc e1652) .nil (lf (vi 0)))), [], none⟩
theorem o1660 : PX (evO badP allP Ot A 1000000 195) r460 f1658 s1651 f1659 s1651 := fun r K => by kernel_rfl
end Go.Proofs.YtcdebohjjkffkaaGreat.tr
