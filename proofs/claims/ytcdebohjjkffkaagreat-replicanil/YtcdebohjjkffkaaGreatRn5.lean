/- A closed run, printed by program: piece by piece. -/
import Derived.Test.YtcdebohjjkffkaaGreatRn4
namespace Go.Proofs.YtcdebohjjkffkaaGreat.tr
open Go Go.Rf
set_option maxRecDepth 1000000
def m1311 : PM AVal := (nd (vi 0) (nn (lf (vs [2, 0])) (lf (vi 196))) (nd (vp 17682 0 0) (lf (vp 17682 0 0)) (lf (vi 1))))
def m1312 : PM AVal := (nd (vs [2, 0]) (nn (nn (lf (vb false)) (lf (vp 17682 0 0))) (nn (lf (vb false)) (lf (vs [2, 0])))) m1311)
def m1313 : PM AVal := (nd (vi 0) (nn (lf (vb false)) (lf (vp 17598 0 0))) (nd (vb false) (lf (vb false)) (lf (vi 2))))
def m1314 : PM AVal := (nn (nn (lf (vi 2)) (lf (vp 17682 0 0))) (nd (vb true) (lf (vp 17682 0 0)) (lf (vb false))))
def f1315 : Fr := ⟨(nd (vp 17682 0 0) m1312 (nn m1313 m1314)), [], none⟩
def s1316 : St := ⟨m1250, 31162, 0⟩
theorem t1310 : PC (evO badP allP Ot A 1000000 193) 1000000 k558 f1309 s1251 .normal f1315 s1316 := fun K => by kernel_rfl
theorem t1317 : PC (evO badP allP Ot A 1000000 193) 1000000 k566 f1309 s1251 .normal f1315 s1316 := PC.block t1310 rfl
def m1319 : PM AVal := (nd (vp 17682 0 0) (nd (vp 17682 0 0) (lf (vi 1)) .nil) (nd (vi 1) (lf (vi 4)) .nil))
def m1320 : PM AVal := (nd (.v (.one (.s (.sl 31338 1 0 2 false)))) (nd (vb false) (nd (vp 17682 0 0) (lf (vp 17682 0 0)) .nil) (nd (vi 4) (lf (.v (.one (.s (.d h1289))))) .nil)) m1319)
def m1321 : PM AVal := (nd (vb false) (nd (vi 1) (lf (vp 31338 1 0)) .nil) (nd (.v (.one (.s (.sl 31338 0 0 1 false)))) (lf (vi 0)) .nil))
def y1322 : AVal := (.tup [(.one (xi 4)), (.one (xi 0))])
def m1323 : PM AVal := (nd (vs [2, 0]) (nd (.v (.one (.s (.sl 31164 0 0 1 false)))) (lf (.v (.one (.s (.sl 31338 1 0 2 false))))) .nil) (nd (.v (.one (.s (.sl 31338 0 0 1 false)))) (lf (vs [2, 2, 0])) .nil))
def m1324 : PM AVal := (nd (vi 0) m1323 (nd (vi 196) (nd (vp 17682 0 0) (lf (vi 0)) .nil) (lf (vb false))))
def m1325 : PM AVal := (nd (vp 17682 0 0) (nd (vp 17682 0 0) (nd (vb false) (lf (.v (.one (.s (.sl 31338 1 0 2 false))))) .nil) (nd (.v (.one (.s (.sl 31338 1 0 2 false)))) (lf (.v (.one (.s (.sl 31338 1 0 2 false))))) .nil)) (nd (vi 1) (nd (vi 0) (lf (.v (.one (.s (.d (.int .u8 (.ofNat 2))))))) .nil) (lf (vp 17682 0 0))))
def m1326 : PM AVal := (nd (vs [2, 0]) (nn m1320 (nd (.v (.one (.s (.d h1289)))) m1321 (nd (vs [2, 0]) (nd y1322 (lf (.v (.one (.s (.d h1289))))) .nil) (lf (vp 31164 0 0))))) (nd (vi 0) m1324 m1325))
def m1327 : PM AVal := (nd (vi 4) (nd (vb false) (nd (vs [2, 0]) (lf (vp 17598 0 0)) .nil) (nd (.v (.one (.s (.sl 31337 0 0 1 true)))) (lf (.v (.one (.s (.sl 31364 0 0 3 false))))) .nil)) (nd (vp 17598 0 0) (nd (vp 17682 0 0) (lf (vp 31338 1 1)) .nil) (lf (vi 1))))
def m1328 : PM AVal := (nd (vb false) (nd (vi 1) (lf (vi 4)) .nil) (nd (.v (.one (.s (.sl 31339 0 0 1 true)))) (lf (vi 1)) .nil))
def m1329 : PM AVal := (nd (vb false) m1328 (nd (vi 2) (nd (vi 4) (lf (vi 2)) .nil) (lf (.v (.one (.s (.d h1289)))))))
def m1330 : PM AVal := (nd (vi 2) (nd (.v (.one (.s (.sl 31164 0 0 1 false)))) (lf (vi 0)) .nil) (nd (vi 1) (lf (vs [0, 0, 2, 2, 0])) .nil))
def m1331 : PM AVal := (nd (vb true) (nd (vp 17682 0 0) (nd y1322 (lf (vi 0)) .nil) (nd (.v (.one (.s (.sl 31164 0 0 1 false)))) (lf (vp 31338 1 0)) .nil)) (nd (vb false) (nd (.v (.one (.s (.d (.sl [] true))))) (lf (.v (.one (.s (.sl 31357 0 0 1 true))))) .nil) (lf (vp 17682 0 0))))
def m1332 : PM AVal := (nd (.v (.one (.s (.sl 31164 0 0 1 false)))) (nd (vi 0) m1330 (nd (vp 17682 0 0) (nd (vp 17598 0 0) (lf (vs [0, 0])) .nil) (lf (vi 0)))) m1331)
def f1333 : Fr := ⟨(nd (vp 17682 0 0) m1326 (nn (nd (vi 4) m1327 m1329) m1332)), [], none⟩
def m1334 : PM AObj := (nn (nn (nn .nil (lf x24)) (nd x25 .nil (lf x260))) (nn (nn (nn .nil (nn (nn .nil (nn .nil (nn .nil (lf x1262)))) .nil)) (nd x83 .nil (nn (nn (nn (nn (lf x261) .nil) .nil) .nil) .nil))) .nil))
def m1335 : PM AObj := (nn (nn (nn m1264 m958) (nn (nn m960 (nn (nn (lf x34) (nn (nn (nn (nn (nn .nil (lf x33)) .nil) .nil) .nil) .nil)) .nil)) m961)) (nn (nd x35 m1060 m1270) (nn m1163 m1272)))
def m1336 : PM AObj := (nn (nn (nn (nn (nn m1059 (nn (nn .nil (nn (nn (nn (nn (nn (lf x24) .nil) .nil) .nil) .nil) .nil)) .nil)) .nil) (nn m1334 m946)) (nn (nn m949 m951) m1187)) m1335)
def h1337 : Dat := (.str [30, 0, 0, 0, 0, 0, 0, 0, 0, 0, 0, 0, 0, 0, 0, 0, 0, 0, 0, 0, 0, 0, 0, 0, 0, 0, 0, 0, 0, 0, 0, 0, 0, 0, 0, 0, 0, 0, 0, 0, 0, 0, 0, 0, 0, 0, 0, 0, 0, 0, 0, 0, 0, 0, 0, 0, 0, 0, 0, 0, 0, 0, 0, 0, 0, 0, 0, 0, 0, 0, 0, 0, 0, 0, 0, 0, 0, 0, 0, 0, 0, 0, 0, 0, 0, 0, 0, 0, 0, 0, 0, 0, 0, 0, 0, 0, 0, 0, 0, 0, 0, 0, 0, 0, 0, 0, 0, 0, 0, 0, 0, 0, 0, 0, 0, 0, 0, 0, 0, 0, 0, 0, 0, 0, 0, 0, 0, 0])
def x1338 : AObj := (.map (.int .i64) [⟨[(.int .i64 (.ofNat 0))], 0, (.one (.s (.d h1337)))⟩, ⟨[(.int .i64 (.ofNat 2))], 1, (.one (.s (.d h1200)))⟩, ⟨[(.int .i64 (.ofNat 4))], 2, (.one (.s (.d h1278)))⟩] 3)
def m1339 : PM AObj := (nd x29 (nn .nil (nd x24 (nn (nn .nil (nn (nn (nn (lf x1338) .nil) .nil) .nil)) .nil) .nil)) (nn (nn (nn .nil (nn (nn .nil (nn .nil (nn .nil (lf x1281)))) .nil)) (lf x220)) m991))
def m1340 : PM AObj := (nn (nn (nn m982 m1197) (nn (nn m1113 (nn (nn (lf x49) .nil) .nil)) (nn .nil (nn (nn (nn (nn (nn .nil (nn (lf x276) .nil)) .nil) .nil) .nil) .nil)))) (nn (nd x33 m1115 (nn (nn .nil (nn (nn (nn .nil (nn (nn (nn (lf x987) .nil) .nil) .nil)) .nil) .nil)) m989)) (nn m1199 m1339)))
def m1341 : PM AObj := (nd x38 (nd x59 .nil (nn (nn .nil (nn (nn (nn (nn (lf x24) .nil) .nil) .nil) .nil)) (nn (nn (nn .nil (nn .nil (nn .nil (lf x1290)))) .nil) .nil))) m1015)
def m1342 : PM AObj := (nn (nn (nn m1288 m1010) (nn m1011 m324)) (nn (nd x29 m1140 m1211) (nn (nn m1167 (nn .nil (nn (nn .nil (nn (nn (nn (nn (lf x24) .nil) .nil) .nil) .nil)) .nil))) m1341)))
def m1343 : PM AObj := (nn (nn (nn (nn m1206 m1208) (nn (nn .nil (nn (nn .nil (nd x87 (nn (nn (nn (nn .nil (lf x24)) .nil) .nil) .nil) .nil)) .nil)) m1069)) (nn (nn m1071 m1284) m1286)) m1342)
def s1344 : St := ⟨(nd x940 (nd x941 m1336 (nn (nn (nd x288 (nn m1228 m1192) m1193) (nn (nn m1195 m1276) m1138)) m1340)) (nd x995 m1343 (nn m1298 m1222))), 31385, 0⟩
theorem t1318 : PC (evO badP allP Ot A 1000000 193) 1000000 k568 f1315 s1316 .ret f1333 s1344 := fun K => by kernel_rfl
theorem t1345 : PC (evO badP allP Ot A 1000000 193) 1000000 k592 f1309 s1251 .ret f1333 s1344 := PC.seq t1317 t1318
theorem t1346 : PC (evO badP allP Ot A 1000000 193) 1000000 k594 f1303 s1251 .ret f1333 s1344 := PC.seq t1308 t1345
def g1347 : List Vl := [(.one (.s (.ptr 17682 0 0))), (.one (xs [2, 0]))]
theorem cc1348k : a191.code = k594 := by kernel_rfl
theorem cc1348 : PKO Ot A 1000000 194 191 g1347 s1251 y1322 s1344 := PKO.mk (af := a191) (K := k594) (f := f1303) (s0 := s1251) (by kernel_rfl) (by kernel_rfl) cc1348k (by kernel_rfl) (by kernel_rfl) t1346 (fun K PN => by kernel_rfl)
def m1349 : PM AVal := (nd (vp 17682 0 0) (nd (vs [2, 0]) .nil (nn (lf (vs [2, 0])) .nil)) (nn (nd (vi 0) (lf (vp 17682 0 0)) .nil) (nn (lf y1322) .nil)))
def f1350 : Fr := ⟨m1349, [], none⟩
theorem o1351 : PX (evO badP allP Ot A 1000000 194) [⟨some 10, .e (.callf 191 [(.t 8), (.t 9)]), none, 0⟩] f1306 s1251 f1350 s1344 := PX.callO (by kernel_rfl) (by kernel_rfl) cc1348 (by kernel_rfl)
def m1352 : PM AVal := (nd (vp 17682 0 0) (nd (vs [2, 0]) (nn (lf y1322) (lf (vi 4))) (nd (vi 4) (lf (vs [2, 0])) .nil)) (nn (nd (vi 0) (lf (vp 17682 0 0)) (lf (vi 0))) (nd (vi 0) (lf y1322) .nil)))
def f1353 : Fr := ⟨m1352, [], none⟩
theorem o1354 : PX (evO badP allP Ot A 1000000 194) r601 f1350 s1344 f1353 s1344 := fun r K => by kernel_rfl
theorem o1355 : PO (evO badP allP Ot A 1000000 194) r605 f1350 s1344 .normal f1353 s1344 := PO.app o1354 PO.nil
theorem o1356 : PO (evO badP allP Ot A 1000000 194) r607 f1306 s1251 .normal f1353 s1344 := PO.app o1351 o1355
theorem o1357 : PO (evO badP allP Ot A 1000000 194) r609 f1304 s1251 .normal f1353 s1344 := PO.app o1307 o1356
theorem t1358 : PC (evO badP allP Ot A 1000000 194) 1000000 k611 f1304 s1251 .normal f1353 s1344 := PC.region o1357
def m1360 : PM AVal := (nd (vi 4) (nd (vs [2, 0]) (lf (vp 17682 0 0)) (lf (vs [82]))) (nd (vi 0) (lf (vp 17682 0 0)) (lf (vi 0))))
def m1361 : PM AVal := (nd (vs [2, 0]) (nn (nd y1322 .nil (lf (vp 17598 0 0))) (nd (vi 4) (lf (vi 0)) (lf (vs [0, 4])))) m1360)
def m1362 : PM AVal := (nd (vi 0) (nd (vp 17682 0 0) (lf (vp 17682 0 0)) (lf (.v (.one (.s (.sl 31625 0 0 1 true)))))) (nd (vi 0) (lf (vp 17682 0 0)) (lf (vs [82, 0, 4]))))
def m1363 : PM AVal := (nd (vi 0) (nd y1322 (lf (vi 3)) (lf (vi 4))) (nd (vb false) (lf (vp 17682 0 0)) .nil))
def f1364 : Fr := ⟨(nd (vp 17682 0 0) m1361 (nn m1362 m1363)), [], none⟩
theorem t1359 : PC (evO badP allP Ot A 1000000 194) 1000000 k613 f1353 s1344 .ret f1364 s1300 := fun K => by kernel_rfl
theorem t1365 : PC (evO badP allP Ot A 1000000 194) 1000000 k620 f1304 s1251 .ret f1364 s1300 := PC.seq t1358 t1359
theorem t1366 : PC (evO badP allP Ot A 1000000 194) 1000000 k622 f1303 s1251 .ret f1364 s1300 := PC.seq t1302 t1365
theorem cc1367k : a251.code = k622 := by kernel_rfl
theorem cc1367 : PKO Ot A 1000000 195 251 g1347 s1251 (vi 0) s1300 := PKO.mk (af := a251) (K := k622) (f := f1303) (s0 := s1251) (by kernel_rfl) (by kernel_rfl) cc1367k (by kernel_rfl) (by kernel_rfl) t1366 (fun K PN => by kernel_rfl)
theorem d1368 : PD (evO badP allP Ot A 1000000 195) 24962 q507 [⟨6, ⟨some 23, .e (.callf 251 [(.t 20), (.t 22)]), none, 63⟩⟩] w1257 w1301 := PD.callO (by kernel_rfl) (by kernel_rfl) (by kernel_rfl) cc1367 (by kernel_rfl) (by kernel_rfl)
theorem d1369 : PD (evO badP allP Ot A 1000000 195) 24962 q507 q626 w1301 w1301 := fun r K => by kernel_rfl
theorem d1370 : PR (evO badP allP Ot A 1000000 195) 24962 q507 [] w1301 f1260 s1300 := fun K => by kernel_rfl
theorem d1371 : PR (evO badP allP Ot A 1000000 195) 24962 q507 q629 w1301 f1260 s1300 := PR.app d1369 d1370
theorem d1372 : PR (evO badP allP Ot A 1000000 195) 24962 q507 q631 w1257 f1260 s1300 := PR.app d1368 d1371
theorem d1373 : PR (evO badP allP Ot A 1000000 195) 24962 q507 q633 w1242 f1260 s1300 := PR.app d1258 d1372
theorem t1374 : PC (evO badP allP Ot A 1000000 195) 1000000 k635 f1240 s1231 .normal f1260 s1300 := PC.drawN (by kernel_rfl) (by kernel_rfl) (by kernel_rfl) d1373
theorem t1375 : PC (evO badP allP Ot A 1000000 195) 1000000 k637 f1240 s1231 .normal f1260 s1300 := PC.condT (by kernel_rfl) t1374
theorem t1376 : PC (evO badP allP Ot A 1000000 195) 1000000 k639 f1227 s1231 .normal f1260 s1300 := PC.seq t1237 t1375
end Go.Proofs.YtcdebohjjkffkaaGreat.tr
