import Derived.Test.YtmacmgjnmaajdaaGreatDoorT23
/- Parts. -/
set_option linter.all false
set_option maxRecDepth 100000
namespace Go.Rm
def zqb (a b:Instr)(c:IL):IL:=.op a (.op b c)
def zqc (a:Ym)(b:List Xw):Instr:=.op a b .push
def zqe:Xw:=.c (.agg #[(.slice .none 0 0),(.slice .none 0 0),(.slice .none 0 0)])
def zqg (a:Ym)(b:List Xw)(c:Instr)(d:IL):IL:=zqb (zqc a b) c d
def zqi (a:Ym)(b:List Xw)(c:Ym)(d:List Xw)(e:IL):IL:=zqg a b (zqc c d) e
def zqj (a:Ym)(b:List Xw)(c:Nat):Instr:=.op a b (.set c)
def zqn (a:List Xw)(b:W1):Instr:=.ef (.store 3) a b
def zqo (a:Ym)(b:List Xw)(c:Ym)(d:Nat)(e:IL):IL:=zqi a b c (qg d) e
def zqp (a:List Xw)(b:Nat):Instr:=zqj .mv a b
def zqq (a:Ym)(b:List Xw)(c:Nat):Instr:=.stab a b (.t c)
def zqr:Xw:=.c (.bool .false)
def zqt (a:Instr)(b:IL)(c:Stmt):Stmt:=qe (.op a b) c
def zqu (a:Nat)(b:List Xw)(c:Ym)(d:Nat)(e:IL):IL:=zqo (.fadr a) b c d e
def zqv (a:Ef)(b:List Xw)(c:Nat):Instr:=.ef a b (.set c)
def zqw (a b:Instr):IL:=zqb a b .nil
def zqy (a:List Xw):Instr:=zqn a .drop
def zqz (a:List Xw)(b:Nat):Instr:=zqv .new a b
def zqA (a b:Nat):Instr:=zqp (qg a) b
def zqC (a:Ym)(b:List Xw)(c:Instr):IL:=zqg a b c .nil
def zqD (a:Ym)(b:Nat)(c:Ym)(d:List Xw)(e:IL):IL:=zqi a (qg b) c d e
def zqE:List Xw:=[zqe]
def zqF (a:Ym)(b:Nat):Instr:=zqc a (qj b)
def zqI:cR:=.agg #[(.int .i64 0),(.int .i64 0),(.int .i64 0),(.int .i64 0)]
def zqK (a:Nat)(b:List Xw)(c:Ym)(d:Nat)(e:IL):IL:=zqo (.idxa a) b c d e
def zqL:List Xw:=qj 6
def zqP (a:Instr)(b:Stmt):Stmt:=zqt a .nil b
def zqQ (a:Nat)(b:List Xw)(c:Nat)(d:IL):IL:=zqu a b qf c d
def zqR (a:List Xw):Instr:=zqc .pick a
def zqU (a:List Xw):Instr:=qo 117 a
def zqV (a:Nat):Instr:=zqU (qg a)
def zqX (a b c d:Instr):IL:=zqb a b (zqw c d)
def zqY (a:Ym)(b c:Nat):Instr:=zqq a (qg b) c
def zq1 (a:Nat):Instr:=zqz zqE a
def zq2:cR:=.agg #[(.slice .none 0 0),(.int .i64 0)]
def zq4 (a:List Xw)(b:Nat):Instr:=zqq q1 a b
def zq5 (a:Nat):Instr:=zq4 zqL a
def zq8 (a b:Nat):Instr:=zqF (.fadr a) b
def zq9 (a:List Xw)(b:Nat)(c:Stmt):Stmt:=zqP (zqp a b) c
def zqaa (a b c:Nat)(d:IL):IL:=zqQ a (qj b) c d
def zqab (a:Nat)(b:Ym)(c:List Xw)(d:IL):IL:=zqD qf a b c d
def zqac (a:Ym)(b:Nat)(c:Ym)(d:List Xw)(e:IL):IL:=zqi a (qj b) c d e
def zqad:List Xw:=[zqr]
def zqae (a b:Nat):Instr:=zqY qf a b
def zqaf (a:Ef)(b:List Xw):Instr:=.ef a b .drop
def zqah (a b:Xw):Instr:=zqy [a,b]
def zqai (a:Nat)(b:Xw):Instr:=zqah (.n a) b
def zqaj (a:Ym)(b:List Xw)(c d:Nat):IL:=zqC a b (zqA c d)
def zqak (a:Xw)(b:IL)(c:List W1)(d:Instr)(e:IL):IL:=qao a b c (.op d e)
def zqal (a b:Instr)(c:Nat)(d:Xw)(e:Instr):IL:=zqX a b (zqai c d) e
def zqao (a b:Instr)(c:Nat)(d:Xw)(e:Nat)(f:Xw):IL:=zqal a b c d (zqai e f)
def Y565:Yw:=⟨6,47,qe (zqX (zqz (qj 0) 6) (zqz (qj 1) 7) (zqz (qj 5) 8) (zqp zqad 9)) (.seq (qe (zqw (qo 326 []) (zqj qbh (qg 0) 38)) (qz 38 (zq9 zqad 9 .ret))) (.seq (qe (zqi q1 zqL qbe (qj 7) (zqb (qo 327 [qV,q6]) (zqc qbh (qg 2)) (zqak qan (zqQ 1 zqL 4 (zqD .len 5 qat [.t 6,qm] .nil)) [.push,.push,.push,.push] (zqR [qan,qZ,.t 7]) (zqak (.t 8) (zqaa 3 8 9 (zqD .len 10 qaD [.t 11,.c (.int .i64 7)] .nil)) [.push,.push,.push,.push] (zqj .pick [.t 8,qZ,.t 12] 39) .nil)))) (qz 39 (zq9 [qZ] 9 .ret))) (qe (zqi q1 zqL q1 zqL (.alt (zqb (zqV 0) (zq5 1) (.alt (.op (zqV 1) (.alt (zqao (zq1 10) (zq1 11) 10 qai 11 qan) (zqao (zq1 11) (zq1 10) 10 qai 11 qan))) (.alt (zqb (zq1 10) (zq5 1) (.alt (zqao (zqV 1) (zq1 11) 10 qai 11 qan) (.op (zq1 11) (zqao (zq5 1) (zqV 1) 10 qai 11 qan)))) (zqb (zq1 11) (zq5 1) (.alt (zqao (zqV 1) (zq1 10) 10 qai 11 qan) (.op (zq1 10) (zqao (zq5 1) (zqV 1) 10 qai 11 qan))))))) (.alt (.op (zq1 10) (zqb (zq5 1) (zq5 0) (.alt (zqb (zqV 0) (zq5 1) (.alt (zqao (zqV 1) (zq1 11) 10 qai 11 qan) (.op (zq1 11) (zqao (zq5 1) (zqV 1) 10 qai 11 qan)))) (zqb (zq1 11) (zq5 1) (zqb (zq5 0) (zqV 0) (zqao (zq5 1) (zqV 1) 10 qai 11 qan)))))) (.op (zq1 11) (zqb (zq5 1) (zq5 0) (.alt (zqb (zqV 0) (zq5 1) (.alt (zqao (zqV 1) (zq1 10) 10 qai 11 qan) (.op (zq1 10) (zqao (zq5 1) (zqV 1) 10 qai 11 qan)))) (zqb (zq1 10) (zq5 1) (zqb (zq5 0) (zqV 0) (zqao (zq5 1) (zqV 1) 10 qai 11 qan))))))))) (.seq (zq9 [qm] 12 (.block 0 (.loop (.seq (qe (zqQ 1 zqL 0 (zqC .len (qg 1) (zqj qF [.n 12,qai] 40))) (qr 40 .skip (.exit 0))) (.seq (.block 1 (qe (zqQ 1 zqL 0 (zqK 3 [q6,.n 12] q1 2 (zqw (zqz [.c (.agg #[(.int .i64 0),(.int .i64 0),(.int .i64 0)])] 13) (zqai 13 qan)))) (.seq (zqt (zq8 2 13) (zqC qf (qg 0) (zqj qat [q6,.c qU] 41)) (qz 41 (.exit 1))) (.seq (zqt (zq8 2 13) (zqC qf (qg 0) (zqj qaD [q6,.c (.int .i64 1073741824)] 42)) (qz 42 (zq9 [qZ] 9 .ret))) (qe (zqaa 1 10 0 (zqaa 2 13 2 (zqi qD [qan,.c (.int .i64 256)] (.idxa 3) [q6,.n 12] (zqC (.fadr 2) (qg 5) (zqaf (.store 1) [.t 6,.t 4]))))) (.reg (.op (zq8 1 11) (zqab 0 (.fadr 2) (qj 13) (zqab 2 qD [qan,.c (.int .i64 256)] (zqaa 0 13 5 (zqaa 1 13 7 (zqb (qo 566 [.n 2,.t 6]) (zqae 7 8) (zqb (zqae 2 3) (zqae 0 1) (zqg qD [.t 4,.t 9] (qo 566 [.n 2,.t 8]) (zqb (zqae 2 3) (zqae 0 1) (zqi qar [.t 10,.t 11] (.idxa 3) [q6,.n 12] (zqC (.fadr 2) (qg 13) (zqaf (.store 1) [.t 14,.t 12])))))))))))))))))) (.reg (zqaj qD [.n 12,qn] 0 12))))))) (zqt (zqF q1 10) (zqg qbe (qj 7) (qo 330 [qV,q6,.c qB]) (zqo (.cC 0) (qg 2) (.cC 1) 2 (zqo (.cC 2) (qg 2) (.cC 3) 2 (zqX (zqA 3 14) (zqA 4 15) (zqA 5 16) (zqA 6 17))))) (zqt (zqF q1 11) (zqg qbe (qj 7) (qo 330 [qV,q6,.c qB]) (zqo (.cC 0) (qg 2) (.cC 1) 2 (zqo (.cC 2) (qg 2) (.cC 3) 2 (zqX (zqA 3 18) (zqA 4 19) (zqA 5 20) (zqA 6 21))))) (.seq (zqt (zqF qbh 17) (zqak qV (zqo .mv (qj 21) qbh 1 .nil) [.push,.push] (zqR [qV,qZ,qai]) (zqak qan (.op (zqF .mv 16) (zqD .len 4 .mv (qj 20) (zqD .len 6 (.ib .neq) [.t 5,.t 7] .nil))) [.push,.push,.push,.push,.push] (zqj .pick [qan,qZ,.t 8] 43) .nil)) (qz 43 (zq9 zqad 9 .ret))) (.seq (zq9 [qm] 22 (.block 2 (.loop (.seq (qe (zqC .len (qj 16) (zqj qF [.n 22,qV] 44)) (qr 44 .skip (.exit 2))) (.seq (.block 3 (qe (zqb (qo 567 [.n 15,.n 22]) (zqc (.cC 0) (qg 0)) (zqg (.cC 1) (qg 0) (zqz [.c zqI] 23) (zqw (zqaf (.store 4) [.n 23,q6]) (zqA 2 24)))) (zqt (zq8 0 23) (zqab 0 (.fadr 1) (qj 23) (zqg qf (qg 2) (qo 395 [.n 15,q6,qan]) (zqw (zqz [.c (.agg #[(.slice .none 0 0),(.slice .none 0 0)])] 25) (zqaf (.store 2) [.n 25,.t 4])))) (.seq (zqt (zqF qbh 24) (zqak qV (.op (zq8 2 23) (zqab 1 qF [qai,qm] .nil)) [.push,.push,.push] (zqR [qV,qZ,qan]) (zqak (.t 4) (zqaa 2 23 5 (zqaa 0 25 7 (zqD .len 8 (.ib .geq) [.t 6,.t 9] .nil))) [.push,.push,.push,.push,.push,.push] (zqR [.t 4,qZ,.t 10]) (zqak (.t 11) (.op (zq8 3 23) (zqab 12 qF [.t 13,qm] .nil)) [.push,.push,.push] (zqR [.t 11,qZ,.t 14]) (zqak (.t 15) (zqaa 3 23 16 (zqaa 1 25 18 (zqD .len 19 (.ib .geq) [.t 17,.t 20] .nil))) [.push,.push,.push,.push,.push,.push] (zqR [.t 15,qZ,.t 21]) (zqak (.t 22) (.op (zqF q1 6) (zqaa 0 25 24 (zqaa 2 23 26 (zqK 1 [.t 25,.t 27] qf 28 (zqw (qo 130 [.t 23,.t 29]) (zqc qbh (qg 30))))))) [.push,.push,.push,.push,.push,.push,.push,.push,.push] (zqR [.t 22,qZ,.t 31]) (zqak (.t 32) (.op (zqF q1 6) (zqaa 1 25 34 (zqaa 3 23 36 (zqK 1 [.t 35,.t 37] qf 38 (zqw (qo 130 [.t 33,.t 39]) (zqc qbh (qg 40))))))) [.push,.push,.push,.push,.push,.push,.push,.push,.push] (zqj .pick [.t 32,qZ,.t 41] 45) .nil)))))) (qz 45 (zq9 zqad 9 .ret))) (qe (zqK 1 [.n 16,.n 22] qf 0 (zqK 1 [.n 20,.n 22] qf 2 (zqQ 1 zqL 4 (zqaa 0 25 6 (zqaa 2 23 8 (zqK 1 [.t 7,.t 9] qf 10 (zqK 3 [.t 5,.t 11] (.fadr 1) 12 (zqab 13 (.fadr 1) zqL (zqab 15 (.fadr 1) (qj 25) (zqab 17 (.fadr 3) (qj 23) (zqab 19 (.idxa 1) [.t 18,.t 20] (zqab 21 (.idxa 3) [.t 16,.t 22] (zqQ 0 (qg 23) 24 (zqb (qo 566 [.n 2,.t 14]) (zqae 24 25) (zqb (zqae 21 22) (zqae 19 20) (zqb (zqae 17 18) (zqae 15 16) (zqb (zqae 2 3) (zqae 0 1) (zqb (qo 566 [.n 2,.t 25]) (zqae 2 3) (zqX (zqae 0 1) (zqc qar [.t 26,.t 27]) (qo 568 [q6,qan,.t 28]) (zqj qbh (qg 29) 46)))))))))))))))))))) (qz 46 (zq9 zqad 9 .ret))))))) (.reg (zqaj qD [.n 22,qn] 0 22))))))) (zqt (zqF qcD 3) (zqQ 1 zqL 1 (zqD .len 2 (.ib .rem) [qV,qan] (zqac qcD 4 (.fadr 1) zqL (zqo qf (qg 6) .len 7 (zqg (.ib .rem) [.t 5,.t 8] (zqA 4 26) (zqw (zqae 6 7) (zqA 9 27))))))) (zqt (qo 331 [.n 14,.n 15,.n 16,.n 26,.n 27]) (zqo (.cC 0) (qg 0) (.cC 1) 0 (zqw (zqA 1 28) (zqA 2 29))) (zqt (qo 331 [.n 18,.n 19,.n 20,.n 26,.n 27]) (zqo (.cC 0) (qg 0) (.cC 1) 0 (zqw (zqA 1 30) (zqA 2 31))) (zqt (zqF q1 10) (zqac qbe 7 (.load 4 .true) (qj 8) (zqb (qo 564 [qV,q6,qai]) (zqc (.cC 0) (qg 3)) (zqo (.cC 1) (qg 3) (.cC 2) 3 (zqX (zqz [.c zq2] 32) (zqaf (.store 2) [.n 32,.t 4]) (zqA 5 33) (zqA 6 34))))) (zqt (zqF q1 11) (zqac qbe 7 (.load 4 .true) (qj 8) (zqb (qo 564 [qV,q6,qai]) (zqc (.cC 0) (qg 3)) (zqo (.cC 1) (qg 3) (.cC 2) 3 (zqX (zqz [.c zq2] 35) (zqaf (.store 2) [.n 35,.t 4]) (zqA 5 36) (zqA 6 37))))) (zqt (zqc (.eqi .false .true) [.n 29,.c .nilIface]) (.gd qV .true (zqac .mv 31 (.eqi .false .true) [q6,.c .nilIface] .nil) [.push,.push] (.op (zqR [qV,qai,zqr]) (.gd qan .true (zqac .mv 28 .mv (qj 30) (zqac .mv 2 (.fadr 1) zqL (zqab 7 .mv (qj 26) (zqK 3 [.t 8,.t 9] (.fadr 1) 10 (zqab 11 .mv (qj 2) (zqQ 1 zqL 14 (zqac .mv 27 (.idxa 3) [.t 15,.t 16] (zqQ 1 (qg 17) 18 (zqb (qo 566 [.t 6,.t 12]) (zqae 18 19) (zqb (zqae 14 15) (qo 566 [.t 13,.t 19]) (zqC qar [.t 20,.t 21] (qo 568 [.t 4,.t 5,.t 22])))))))))))) [.push,.push,.push,.push,.push,.push,.push,.push,.push,.push,.push,.push,.push,.push,.push,.push,.push,.drop,.drop,.push,.push,.push] (.op (zqR [qan,.t 23,zqr]) (.gd (.t 24) .true (.op (zqF .mv 33) (zqac .mv 36 (.eqb .false) [.t 25,.t 26] .nil)) [.push,.push,.push] (.op (zqR [.t 24,.t 27,zqr]) (.gd (.t 28) .true (.op (zq8 1 32) (zqab 29 (.fadr 1) (qj 35) (zqab 31 qat [.t 30,.t 32] .nil))) [.push,.push,.push,.push,.push] (.op (zqR [.t 28,.t 33,zqr]) (.gd (.t 34) .true (.op (zq8 0 32) (zqab 35 (.fadr 0) (qj 35) (zqC qf (qg 37) (qo 338 [.t 36,.t 38])))) [.push,.push,.push,.push,.push] (zqaj .pick [.t 34,.t 39,zqr] 40 9)))))))))) .ret)))))))))))))),[(.n 9)]⟩
def Y566:Yw:=⟨2,4,zq9 [qm] 2 (.seq (qe (zqC .len (qj 0) (zqj qat [qV,qm] 3)) (qz 3 (zq9 [qm] 2 .ret))) (qe (zqac .len 0 (.ib .rem) [.n 1,qV] (zqK 1 [.n 0,q6] qf 2 (zqaj qcD (qg 3) 4 2))) .ret)),[(.n 2)]⟩
def Y567:Yw:=⟨2,12,zqt (zqz (qj 1) 2) (zqw (zqz [.c zqI] 3) (zqp zqad 4)) (.seq (qe (zqac qf 2 qF [qV,qm] (zqak q6 (zqac qf 2 .mv (qj 0) (zqo .nilck (qg 3) (.fadr 5) 4 (zqab 5 (.ib .geq) [qai,.t 6] .nil))) [.push,.push,.push,.push,.push,.push] (zqj .pick [q6,qZ,.t 7] 10) .nil)) (qz 10 (zqt (zqc (.build #[(.int .i64 0),(.int .i64 0),(.int .i64 0),(.int .i64 0)] [(0,1),(1,1),(2,1),(3,1)] []) []) (zqw (zqaf (.store 4) [.n 3,qV]) (zqp zqad 4)) .ret))) (zqt (zqF .nilck 0) (zqQ 4 (qg 0) 1 (zqaj .len (qg 2) 3 5)) (.seq (.block 0 (.loop (.seq (zqt (zqc qaD [.n 5,qn]) (.gd qV .true (.op (zqF .mv 0) (zqo .nilck (qg 1) (.fadr 4) 2 (zqab 3 .mv (qj 5) (zqi qar [.t 5,qn] (.idxa 1) [.t 4,.t 6] (zqo qf (qg 7) .len 8 (zqo qat [.t 9,qm] .mv 10 .nil)))))) [.push,.push,.push,.push,.push,.push,.push,.push,.push,.push,.push] (qao (.t 11) (zqo .mv (qj 0) .nilck 12 (zqQ 4 (qg 13) 14 (zqac .mv 5 qar [.t 16,qn] (zqK 1 [.t 15,.t 17] qf 18 (zqK 1 [.t 19,qm] qf 20 (zqac qf 2 qaD [.t 21,.t 22] .nil)))))) [.push,.push,.push,.push,.push,.push,.push,.push,.push,.push,.push,.push] (.gd qV .true (.op (zqR [.t 11,qZ,.t 23]) .nil) [.push] (.op (zqj .pick [qV,.t 24,zqr] 11) .nil)))) (qr 11 .skip (.exit 0))) (.block 1 (.reg (zqaj qar [.n 5,qn] 0 5)))))) (qe (zqo .nilck (qj 0) (.fadr 4) 0 (zqab 1 qar [.n 5,qn] (zqK 1 [qai,qan] qf 4 (zqw (zqz [.c qB] 6) (zqaf (.store 1) [.n 6,.t 5]))))) (qe (zqo qf zqL .len 0 (zqg (.mkf 570 0) [.n 6,.n 2] (qo 569 [q6,qai]) (zqaj qar [qan,qn] 4 7))) (zqt (zqF .nilck 0) (zqQ 3 (qg 0) 1 (zqi qar [.n 5,qn] (.idxa 1) [qai,qan] (zqab 4 (.idxa 2) [.t 5,.n 7] (zqQ 1 (qg 6) 7 (zqaj .len (qg 8) 9 8))))) (qe (zqac qf 2 qf zqL (zqK 1 [q6,.n 7] qf 2 (zqaj qar [qV,qan] 4 9))) (zqt (zqc (.ib .quo) [.n 9,.n 8]) (zqi (.ib .rem) [.n 9,.n 8] (.build #[(.int .i64 0),(.int .i64 0),(.int .i64 0),(.int .i64 0)] [(0,1),(1,1),(2,1),(3,1)] [0,1,2,3]) [.n 5,.n 7,qV,q6] (zqw (zqaf (.store 4) [.n 3,qai]) (zqp [qZ] 4))) .ret)))))))),[(.box 3 4 .true),(.n 4)]⟩
def Y568:Yw:=⟨3,5,zq9 zqad 3 (.seq (zqt (zqc qat [.n 0,.c qU]) (zqak qV (zqac .mv 1 qat [q6,.c qU] .nil) [.push,.push] (zqj .pick [qV,qZ,qai] 4) .nil) (qz 4 (qe (zqaj qat [.n 0,.n 1] 0 3) .ret))) (zqt (zqc qD [.n 0,.n 2]) (zqaj qat [.n 1,qV] 1 3) .ret)),[(.n 3)]⟩
def Y569:Yw:=⟨2,8,zq9 [qm] 2 (qe (zqw (zqp [qm] 3) (zqp (qj 0) 4)) (.seq (.block 0 (.loop (.seq (zqP (zqj qF [.n 3,.n 4] 6) (qr 6 .skip (.exit 0))) (.block 1 (zqt (zqc qD [.n 3,.n 4]) (zqD (.conv .u64) 0 (.ib .shr) [q6,.c (.int .u64 1)] (zqaj qcD (qg 2) 3 5)) (qe (zqw (.callv (.n 1) (qj 5) .push) (zqj qbh (qg 0) 7)) (qr 7 (.reg (zqaj qD [.n 5,qn] 0 3)) (.reg (.op (zqp (qj 5) 4) .nil))))))))) (zq9 (qj 3) 2 .ret))),[(.n 2)]⟩
def Y570:Yw:=⟨3,4,zq9 zqad 3 (qe (zqac qf 1 (.idxa 1) [qV,.n 0] (zqab 1 qf (qj 2) (zqaj qaD [qai,qan] 4 3))) .ret),[(.n 3)]⟩
attribute [simp] zqb zqc zqe zqg zqi zqj zqn zqo zqp zqq zqr zqt zqu zqv zqw zqy zqz zqA zqC zqD zqE zqF zqI zqK zqL zqP zqQ zqR zqU zqV zqX zqY zq1 zq2 zq4 zq5 zq8 zq9 zqaa zqab zqac zqad zqae zqaf zqah zqai zqaj zqak zqal zqao
section
variable{N:Zs}{L:Za}{k:Int}{j:Wu}
def Zjg(c d b:Int):Bool:=if c=1152921504606846976\/d=1152921504606846976 then decide (c=d) else decide (d=c+b)
def PC.rises{c c' w:Int}(p:PC 1 1 c c' w):Zjg c c' w=true:=by
 have H:((1:Nat):Int) * BIG=1125899906842624:=by decide
 unfold Zjg;rcases p with⟨e,G⟩|⟨h1,I,J,h4,O⟩
 ·rw[if_pos (.inl e),e,G];rfl
 rw[ifN];exact decide_eq_true (by omega)
def Zvg(ok:Yl N)(lo:Zu0 N){G:Zb}(hu:∀x,x∈G->0<=x/\x<=255){s t:Nat}(I:s<N.as.length){d H:Int}(h:Un (Q6 (Vc N) (s:Int)) (EdW (Vc N)) t d)(h':Un (Q6 (Wo G N) (s:Int)) (EdW (Wo G N)) t H):
  Zjg d H (Wj G (Ys N s)-Wj G (Ys N t))=true :=
 (Zsb (Zja ok lo hu) (by rw[show (Vc N).as.length=N.as.length from Zd4.1];exact I) h h').rises
def Zxd(ok:Yl N)(lo:Zu0 N){H:Zb}(hu:∀x,x∈H->0<=x/\x<=255){o I:Option (List Zd × Int)}(h:Zid (Vc N) j o)(h':Zid (Wo H N) j I):
  (o=none/\I=none)\/∃G c,o=some (G,c)/\I=some (G,c)/\Wc j.st.length G:=by
 have R:=Zja ok lo hu;have q:=Z7f (k:=1) (j:=j) (j':=j) (u:=fun i=>Wj H (Ys N ((Zk3 j)[i]?.getD 0))) (by rw[R.len]) ⟨rfl,rfl,rfl,fun c _ _ _=>by rw[Xmb]⟩ (fun J D D' t O=>by
  have:=Z9c R (ps:=Zk3 j) (Z6w J).2 t O;rw[Zyx] at this;exact this) h h'
 rcases q with q|⟨G,c,a,b,_,_,d⟩
 ·exact .inl q
 rw[Xmb] at b;exact .inr ⟨G,c,a,b,d⟩
end
section
variable{α:Type}{f:α->α}{l:List α}{i:Nat}
def Zgb(f:α->α)(l:List α)(i:Nat):List α:=(l.take i).map f++l.drop i
def Zhv:(Zgb f l i).length=l.length:=by simp[Zgb];omega
def Zyv:Zgb f l 0=l:=by simp[Zgb]
def Z9m:Zgb f l l.length=l.map f:=by simp[Zgb]
def Zyf{j:Nat}(G:i<=j):(Zgb f l i)[j]? = l[j]? := by
 unfold Zgb;by_cases c:i<=l.length
 ·rw[Xjv (by simp;omega),Xj4]
  congr 1
  simp;omega
 rw[Xjl (by simp;omega),Xjl]
def Zzj(G:i<l.length):(Zgb f l i).set i (f l[i])=Zgb f l (i+1):=by
 unfold Zgb;have e:((l.take i).map f).length=i:=by simp;omega
 rw[Xjz G,Xmg _ _ (by omega),e,Nat.sub_self,List.set_cons_zero,Xjc G,Xjj,Xje]
 rfl
end
section
variable{N:Zs}{fa:Yt->Yt}{g:Int->Int}{i t x:Nat}
def sgA(fa:Yt->Yt)(N:Zs)(i:Nat):Zs:=⟨N.vs,Zgb fa N.as i,N.ts⟩
def gB(g:Int->Int)(t:Tab):Tab:=⟨t.i,t.o,t.cs.map g⟩
def sgB(fa:Yt->Yt)(g:Int->Int)(N:Zs)(t:Nat):Zs:=⟨N.vs,N.as.map fa,Zgb (gB g) N.ts t⟩
def Xbv:sgA fa N 0=N:=by simp[sgA,Zyv]
def Xdy:Zq (sgA fa N i).as i=Zq N.as i:=by
 have:=Zyf (f:=fa) (l:=N.as) (Xi4 i);simp only[Zq,sgA,Xja,this]
def Zyg(G:i<N.as.length){w:Int}(H:fa (Zq N.as i)=⟨(Zq N.as i).a,(Zq N.as i).b,w⟩):
  {sgA fa N i with as:=(sgA fa N i).as.set i ⟨(Zq (sgA fa N i).as i).a,(Zq (sgA fa N i).as i).b,w⟩ }=sgA fa N (i+1):=by
 rw[Xdy,<-H,Vi G];simp only[sgA,Zzj G]
def Zu2(H:i<N.as.length)(I:fa (Zq N.as i)=Zq N.as i):sgA fa N i=sgA fa N (i+1):=by
 have:=Zzj (f:=fa) H;rw[Vi H] at I;rw[I] at this;have e:(Zgb fa N.as i).set i N.as[i]=Zgb fa N.as i:=by
  have q:=Zyf (f:=fa) (l:=N.as) (Xi4 i);have G:i<(Zgb fa N.as i).length:=by rw[Zhv];exact H
  rw[Xj3 G,Xj3 H] at q;rw[<-Xkb q];exact List.set_getElem_self G
 rw[e] at this;simp only[sgA,this]
def Zzr:sgA fa N N.as.length=sgB fa g N 0:=by simp[sgA,sgB,Z9m,Zyv]
end
def Zx2(t:Yt):Yt:=⟨t.a,t.b,if t.c=1152921504606846976 then t.c else t.c+256⟩
def Zv2(up:Zb)(t:Yt):Yt:=⟨t.a,t.b,if t.c=1152921504606846976 then t.c else t.c+256+Wj up t.a.toNat-Wj up t.b.toNat⟩
section
variable{N:Zs}{L:Za}{up:Zb}
def Xbj{f:Yt->Int}:(⟨N.vs,N.as.map (fun t=>(⟨t.a,t.b,f t⟩:Yt)),N.ts⟩:Zs)=reN f id N:=by simp[reN]
def Z9v:sgA Zx2 N N.as.length=Vc N:=by
 rw[Zzr (g:=id),sgB,Zyv];exact Xbj
def Z76:sgA (Zv2 up) N N.as.length=Wo up N:=by
 rw[Zzr (g:=id),sgB,Zyv];exact Xbj
def Z51(ok:Yl N)(lo:Zu0 N)(hu:∀x,x∈up->0<=x/\x<=255)(U:Yq N.vs.length L){C C':Zb}(hC:W3 (Vc N) L C)(H:W3 (Wo up N) L C'){q c i o:Nat}(G:q<L.length)(hc:c<Yv L q)
  (I:i<(Zv N L q false c).length) (J:o<(Zv N L q true c).length):∃a b:Nat,Zm (Zv N L q false c) i=a/\Zm (Zv N L q true c) o=b/\a<N.as.length/\b<N.as.length /\
   Zjg (Zm C (Zz N L q+Yn N L q c+(i * (Zv N L q true c).length+o))) (Zm C' (Zz N L q+Yn N L q c+(i * (Zv N L q true c).length+o))) (Wj up (Ys N a)-Wj up (Vs N b))=true:=by
 obtain⟨a,O,X⟩:=Vl U ok G (Ya.2 ⟨_,I,rfl⟩);obtain⟨b,R,lb⟩:=Vl U ok G (Ya.2 ⟨_,J,rfl⟩);have c1:=hC.inn q c G hc i o a b (by rw[Vc,X3];exact I) (by rw[Vc,X3];exact J) (by rw[Vc,X3];exact O) (by rw[Vc,X3];exact R);have c2:=H.inn q c G hc i o a b (by rw[Wo,X3];exact I) (by rw[Wo,X3];exact J) (by rw[Wo,X3];exact O) (by rw[Wo,X3];exact R);rw[show Zz (Vc N) L q=_ from Zb2,show Yn (Vc N) L q c=_ from Zic,show Zv (Vc N) L q true c=_ from X3] at c1;rw[show Zz (Wo up N) L q=_ from Zb2,show Yn (Wo up N) L q c=_ from Zic,show Zv (Wo up N) L q true c=_ from X3] at c2;exact⟨a,b,O,R,X,lb,(Z8v (ψ:=fun b=>Wj up (Vs N b)) (Zja ok lo hu) (fun x y e=>by
  have:=Qg (N:=N) (a:=x) (b:=y) (by rw[Vc,Zrb rfl] at e;exact e);show Wj up (Ys N x)=Wj up (Vs N y);rw[this]) (by rw[show (Vc N).as.length=N.as.length from Zd4.1];exact X) (Wx hu _) c1 c2).rises⟩
def Zxy{at' k c:Nat}(h1:Zz N L k+Yn N L k c<=at')(I:at'<Zz N L k+Yn N L k (c+1)):
  0<(Zv N L k true c).length/\(at'-(Zz N L k+Yn N L k c)) / (Zv N L k true c).length<(Zv N L k false c).length/\(at'-(Zz N L k+Yn N L k c)) % (Zv N L k true c).length<(Zv N L k true c).length /\
  at'=Zz N L k+Yn N L k c+((at'-(Zz N L k+Yn N L k c)) / (Zv N L k true c).length * (Zv N L k true c).length+(at'-(Zz N L k+Yn N L k c)) % (Zv N L k true c).length):=by
 have G:at'-(Zz N L k+Yn N L k c)<(Zv N L k false c).length * (Zv N L k true c).length:=by
  simp only[Yn,Zbj] at I;omega
 have H:0<(Zv N L k true c).length:=by
  rcases Xkr (Zv N L k true c).length with z|z
  ·rw[z] at G;simp at G
  exact z
 refine⟨H,Nat.div_lt_of_lt_mul (by rw[Nat.mul_comm];exact G),Xkn _ H,?_⟩;rw[Nat.div_add_mod'];omega
end
structure Z3g(h0 h:Zk)(p op:Nat)(sc:Sl)(N:Zs)(L:Za)(S:Zf)(cN:Zb):Prop where
 ex:Ext h0 h
 g:Xi h p N S
 v:OvR h S op N L
 rc:Zw h sc cN
 hE:W3 N L cN
 fc:cN≠[]->¬S sc.b
 lo:∀b,S b->h0.size<=b
def Mod.weak{S:Zf}{h h':Zk}(e:Ext h h'):Mod S h h':=e.mono fun _ _ h=>h.elim
def Z5t(Y:Sys):Prop:=∀(h:Zk)(R:Ze),(∀h',Ext h h'->R (.bool true) h')->Zt Y 326 [] h R
def Z0p{N:Zs}{L:Za}(h:(Zqb N && Zeo N.vs.length L)=true):Zay N=true/\Yl N/\Yq N.vs.length L:=by
 simp[Zqb,Zeo] at h;exact⟨h.1.1,Zjf.1 h.1.2,Zwo.1 h.2.2⟩
section
variable{Y:Sys}{h h':Zk}
def Zrs(X:Zzm Y){G H I s:Sl}{N:Zs}{L:Za}(r:Z2 h G H I N)(q:Wm h s L)(hf:Zay N=true)(ok:Yl N)(pk:Yq N.vs.length L){R:Ze}
  (hr:∀h' p op sc S cN,Z3g h h' p op sc N L S cN->R (.tuple #[Zh p,Zh op,sc.v,.bool true]) h'):Zt Y 340 [Xp G H I,W7 s] h R:=by
 refine .o X.Ready ?_;simp[Y340,Yw.wp,Xp,W7];refine Zo ?_;intro A h1 gA A1 e1;replace A1:Yo h1 A #[G.v,H.v,I.v]:=A1;simp;refine Zo ?_;intro B h2 gB B2 e2;replace B2:Yo h2 B #[s.v]:=B2;have x2:=e1.trans e2;have A2:=A1.cC e2;have z1:=e1.size;have z2:=e2.size;simp[Yf A2,Yf B2];rw[show (Value.agg #[G.v,H.v,I.v])=Xp G H I from rfl];refine Zn3 X.O17.MF (r.cC x2) hf ok ?_;intro h3 p S e3 g hS;have J:=x2.trans e3;simp[Yf (A2.cC e3),Yf (B2.cC e3)];rw[show (Value.agg #[G.v,H.v,I.v])=Xp G H I from rfl,show (Value.agg #[s.v])=W7 s from rfl];refine⟨rfl,?_⟩;refine Zto X.O17 (r.cC J) (q.cC J) hf ok pk ?_;intro h4 op e4 ab fo;have x4:=J.trans e4;have gl:=g.lt;have v4:OvR h4 S op N L:=fun k mk=>fo k (mk.mono fun j _ hj=>gl j hj);have O:=g.cC e4;simp;refine Z4l X.A O (v4 h4 (Mod.refl _)) ok pk ?_;intro h5 cb C U ac o5 hE;have aa:=O.lt;simp;refine hr h5 p op (Sl.at cb _ _) S C ⟨x4.trans U,O.cC U,v4.then (S':=S) (Mod.weak U) (fun b hb=>.inl hb),o5.cE,hE,fun _ hb=>by have:=aa _ hb;simp only[Sl.at_b] at this;omega,fun b hb=>?_⟩;have:=hS b hb;omega
def Ze9(X:Zzm Y){G H I q:Sl}{N:Zs}{L:Za}(r:Z2 h G H I N)(U:Wm h q L)(hf:Zay N=true)(ok:Yl N)(pk:Yq N.vs.length L){R:Ze}
  (hr:∀h' p op J S cN,Z3g h h' p op J N L S cN->R (.tuple #[Zh p,Zh op,J.v,.bool true]) h'):Zt Y 330 [Xp G H I,W7 q,Zi] h R:=by
 refine .o X.ready ?_;simp[Y330,Yw.wp,Xp,W7];refine Zo ?_;intro A h1 gA A1 e1;replace A1:Yo h1 A #[G.v,H.v,I.v]:=A1;simp;refine Zo ?_;intro B h2 gB B2 e2;replace B2:Yo h2 B #[q.v]:=B2;have O:=e1.trans e2;have A2:=A1.cC e2;have z2:=O.size;simp[Yf A2,Yf B2];rw[show (Value.agg #[G.v,H.v,I.v])=Xp G H I from rfl,show (Value.agg #[q.v])=W7 q from rfl];refine Zrs X (r.cC O) (U.cC O) hf ok pk ?_;intro h3 p op J S cN R3;simp;refine Zp (fun e h'=>e=_/\h'=h3) (fun _ _=>0) ⟨rfl,rfl⟩ ?_;rintro e h4 ⟨rfl,rfl⟩;simp;exact hr h4 p op J S cN ⟨O.trans R3.ex,R3.g,R3.v,R3.rc,R3.hE,R3.fc,fun b hb=>by have:=R3.lo b hb;omega⟩
def prC(l:List (Int × Int)):Zc:=l.flatMap fun e=>[Zg e.1,Zg e.2]
def Z9z{l:List (Int × Int)}:(prC l).length=l.length * 2:=by
 induction l with
 |nil=>rfl
 |cons a r G=>simp only[prC,Xks,List.length_append,Xjn];simp only[prC] at G;rw[G];simp;omega
def Xa3{l m:List (Int × Int)}:prC (l++m)=prC l++prC m:=by simp[prC]
def Z7y{l:List (Int × Int)}:∀{i:Nat},i<l.length->(prC l)[i * 2]? = some (Zg (Xn l i).1)/\(prC l)[i * 2+1]? = some (Zg (Xn l i).2):=by
 induction l with
 |nil=>intro i h;simp at h
 |cons a r G =>
  intro i h;have e:prC (a::r) = Zg a.1 :: Zg a.2::prC r:=by simp[prC]
  rw[e]
  cases i with
  |zero=>simp[Xn]
  |succ i =>
   have:=G (i:=i) (by simpa using h);rw[show (i+1) * 2=i * 2+1+1 by omega];simpa[Xn] using this
def Yh.rowE2{s:Sl}{l:List (Int × Int)}(o:Yh h 2 s (prC l)):Zar h s l:=by
 have H:=o.1;rw[Z9z] at H;refine⟨o.ok,by omega,fun i G=>o.cell (Z7y G).1,fun i G=>?_⟩;rw[Xj5];exact o.cell (Z7y G).2
def Xfg(A C:Nat)(j:Wu)(s:Sl)(v0 v2:Zj)(h0:Zk)(e:Zc)(h':Zk):Prop :=
 ∃(i:Nat)(u:Sl)(v5:Zj),e=[v0,Zh A,v2,Zh C,Zg i,v5]/\i<=j.st.length/\Yh h' 2 u (prC (j.st.take i))/\(u.nl=false->h0.size<=u.b)/\Yo h' C #[Zg j.dep,Zg j.cap,Zg j.lim,u.v]/\(u.nl=false->u.b≠C)/\Ext h0 h'
def Z0g(H:Y.cL 334 Y334){j:Wu}{s:Sl}(r:Zar h s j.st)(hb:j.st.length<=1000){R:Ze}
  (hr:∀h' u,Ext h h'->Zar h' u j.st->R (X4 j u) h'):Zt Y 334 [X4 j s] h R:=by
 have ls:=r.len;refine .o H ?_;simp[Y334,Yw.wp,X4];refine Zo ?_;intro A h1 gA A1 e1;replace A1:Yo h1 A #[Zg j.dep,Zg j.cap,Zg j.lim,s.v]:=A1;simp;refine Zo ?_;intro B X gB B2 e2;replace B2:Yo X B #[Zg 0,Zg 0,Zg 0,Zi]:=B2;have A2:=A1.cC e2;have aa:∀g (x y z:Int),Ym.cK Y g (.build #[Zg 0,Zg 0,Zg 0,Zi] [(0,1),(1,1),(2,1),(3,1)] [0,1,2]) [Zg x,Zg y,Zg z]=some (.agg #[Zg x,Zg y,Zg z,Zi]):=fun g x y z=>rfl;simp[A2.hc,aa];refine Zo ?_;intro C h3 gC C3 e3;replace C3:Yo h3 C #[Zg 0,Zg 0,Zg 0,Zi]:=C3;simp;refine Zy (vs:=#[Zg j.dep,Zg j.cap,Zg j.lim,Zi]) C3 ?_;intro h4 C4 m4;have z1:=e1.size;have x2:=e1.trans e2;have x4:Ext X h4:=Mod.cG e3 m4 gC;simp;refine Zp (Xfg A C j s (.agg #[Zg j.dep,Zg j.cap,Zg j.lim,s.v]) (Zh B) X) (fun e _=>j.st.length-Zx e 4) ⟨0,Sl.nil,_,rfl,by omega,Yh.nil,fun h=>(by cases h),C4,fun h=>(by cases h),x4⟩ ?_;rintro e h5 ⟨i,u,v5,rfl,hi,ou,fu,C5,nu,I⟩;have A5:=A2.cC I;have r5:=r.cC (x2.trans I);have lu:=ou.rowE2.len;simp at lu;by_cases c:i<j.st.length;rotate_left
 ·have c':¬(i:Int)<s.n:=by omega
  have:i=j.st.length:=by omega
  subst this;rw[Xj9] at ou;simp[A5.hc,c',Yf C5];have B5:=B2.cC I;refine Zy (vs:=#[Zg j.dep,Zg j.cap,Zg j.lim,u.v]) B5 ?_;intro h6 B6 m6;simp;refine Vf rfl B6 rfl ?_;have lB:=B2.lt;refine hr h6 u (Mod.cC (x2.trans I) m6 (fun j hj=>by omega)) ?_;refine Yh.rowE2 (ou.cD m6 (fun q hb=>by have:=fu q;omega))
 have c':(i:Int)<s.n:=by omega
 have ci:i<s.n:=by omega
 have w1:=wrapS (i:=i);have ab:∀g (x y:Int),Ym.cK Y g (.build #[Zg 0,Zg 0] [(0,1),(1,1)] [0,1]) [Zg x,Zg y]=some (.agg #[Zg x,Zg y]):=fun g x y=>rfl;simp[A5.hc,c',C5.hc,Zl r5.ok,ci,r5.v0 i c,r5.v1 i c,ab];refine Wk rfl rfl rfl ?_;intro G h6 gG G6 J o6;replace G6:Yo h6 G #[Zg (Xn j.st i).1,Zg (Xn j.st i).2]:=G6;simp[(C5.cC J).hc];refine Zgt rfl (ou.cF J) G6 rfl rfl ?_;intro u' h7 o7 n7 m7 O;have z6:=J.size;have lC:=C5.lt;have C7:=m7.cM (C5.cC J) (fun q=>nu q.1 q.2.symm);simp;refine stB C7 (by simp) ?_;intro h8 C8 m8;simp[w1];have x7:Ext X h7:=Mod.cC (I.trans J) m7 (fun j hj=>by have:=fu hj.1;omega);have U:u'.nl=false->u'.b≠C:=fun q=>by
  rcases O with⟨a,b⟩|⟨a,b⟩
  ·rw[a];exact nu (by rw[<-b];exact q)
  omega
 refine nx ⟨i+1,u',_,rfl,by omega,?_,fun q=>?_,by simpa using C8,U,Mod.cC x7 m8 (fun j hj=>by omega)⟩
 ·have e:prC (j.st.take (i+1))=prC (j.st.take i)++[Zg (Xn j.st i).1,Zg (Xn j.st i).2]:=by
   rw[Xjc c,Xa3];simp[prC,Xn,c]
  rw[e];exact o7.cD m8 (fun q hb=>U q hb)
 rcases O with⟨a,b⟩|⟨a,b⟩
 ·rw[a];exact fu (by rw[<-b];exact q)
 omega
def SrI(s t:Sl)(m:Nat)(as bs:List Zd)(h0:Zk)(e:Zc)(h':Zk):Prop :=
 ∃(i:Nat)(v2 v4 v5 v6:Zj),e=[s.v,t.v,v2,Zg i,v4,v5,v6]/\i<=m/\(∀k (h1:k<as.length) (h2:k<bs.length),k<i->as[k]=bs[k])/\h'=h0
def Zj7(H:Y.cL 338 Y338)(HE:Y.cL 105 Y105){s t:Sl}{as G:List Zd}{sl O:Nat->Sl}{W:Zf}(U:Ur W h s as sl)(X:Ur W h t G O)(hb:as.length<=1000/\∀r,r∈as->r.length<=1000){R:Ze}
  (J:R (.bool (decide (as=G))) h):Zt Y 338 [s.v,t.v] h R:=by
 have la:=U.len;have lb:=X.len;refine .o H ?_;by_cases q:as.length=G.length;rotate_left
 ·have q1:¬((s.n:Int)=(t.n:Int)):=by omega
  have q2:¬(s.n=t.n):=by omega
  have e:decide (as=G)=false:=decide_eq_false (fun e=>q (by rw[e]));rw[e] at J;simp[Y338,Yw.wp,q1,q2];exact J
 have q2:s.n=t.n:=by omega
 simp[Y338,Yw.wp,q2];refine Zp (SrI s t as.length as G h) (fun e _=>as.length-Zx e 3) ⟨0,_,_,_,_,rfl,by omega,fun k _ _ h=>by omega,rfl⟩ ?_;rintro e h1 ⟨i,v2,v4,v5,v6,rfl,hi,I,rfl⟩;by_cases c:i<as.length;rotate_left
 ·have c':¬(i:Int)<s.n:=by omega
  have e:decide (as=G)=true:=decide_eq_true (Xjp q fun k h1 h2=>I k h1 h2 (by omega));rw[e] at J;simp[c'];exact J
 have c':(i:Int)<s.n:=by omega
 have ci:i<s.n:=by omega
 have cj:i<t.n:=by omega
 have w1:=wrapS (i:=i);obtain⟨ha,xa,_⟩:=U.val i c;obtain⟨aa,xb,_⟩:=X.val i (by omega);have ab:=xa.len;simp at ab;have ll:=hb.2 as[i] (Xi7 c);simp[c',Zl U.ok,Zl X.ok,ci,cj,ha,aa];refine Zmp HE xa xb (by omega) ?_;have ac:decide (Xc as[i]=Xc (G[i]'(by omega)))=decide (as[i]=G[i]'(by omega)):=by
  congr 1
  apply propext;constructor
  ·intro e;have:=congrArg (List.map Int.toNat) e;simpa[Xc,Xkj,Function.comp_def] using this
  intro e;rw[e]
 rw[ac];by_cases z:as[i]=G[i]'(by omega)
 ·simp[z,w1];refine nx ⟨i+1,_,_,_,_,rfl,by omega,fun k h1 h2 h3=>?_,rfl⟩;by_cases y:k=i
  ·subst y;exact z
  exact I k h1 h2 (by omega)
 have e:decide (as=G)=false:=decide_eq_false (fun e=>z (by simp[e]));rw[e] at J;simp[z];exact J
def Zsk{R:Ze}{e:Zc}{h:Zk}{i n b j k:Nat}{vs:Array cR}(G:e.getD i undef = Zh b)(hb:Yo h b vs)(H:vs.size=n)(I:R (.tuple #[.agg vs,e.getD j undef,e.getD k undef]) h):
  Up [.box i n true,.n j,.n k] R e h:=by
 unfold Up;simp only[Zbo,Res.ev,G,Yf hb H,if_true,Xjq];simpa using I
def Zs9(o:Option (List Zd × Int)):List Zd:=o.elim [] (·.1)
def Zt8(o:Option (List Zd × Int)):Int:=o.elim 0 (·.2)
def Xfo(h:Zk)(v:Zj)(o:Option (List Zd × Int)):Prop:=∃u sl,Ur (fun _=>False) h u (Zs9 o) sl/\v = .agg #[u.v,Zg (Zt8 o)]
structure Z6d(Y:Sys):Prop where
 Rd:Zzm Y
 P:Zz4 Y
 To24:Y.cL 334 Y334
 planned:Y.cL 564 Y564
def Zh1(X:Z6d Y){J O U q s:Sl}{N:Zs}{L:Za}{j:Wu}(r:Z2 h J O U N)(rq:Wm h q L)(hf:Zay N=true)(ok:Yl N)(pk:Yq N.vs.length L)(rj:Zar h s j.st){R:Ze}(hr:∀h' v o,Ext h h'->Zid N j o->Xfo h' v o->R (.tuple #[v,.bool o.isSome,.bool true]) h')(hb:j.st.length<=1000:=by omega):Zt Y 564 [Xp J O U,W7 q,X4 j s] h R:=by
 refine .o X.planned ?_;simp[Y564,Yw.wp,Xp,W7,X4];refine Zo ?_;intro A h1 gA A1 e1;replace A1:Yo h1 A #[J.v,O.v,U.v]:=A1;simp;refine Zo ?_;intro B h2 gB B2 e2;replace B2:Yo h2 B #[q.v]:=B2;simp;refine Zo ?_;intro C h3 gC C3 e3;replace C3:Yo h3 C #[Zg j.dep,Zg j.cap,Zg j.lim,s.v]:=C3;simp;refine Zo ?_;intro D h4 gD D4 e4;replace D4:Yo h4 D #[Zi,Zg 0]:=D4;have x4:=((e1.trans e2).trans e3).trans e4;have A4:=((A1.cC e2).cC e3).cC e4;have B4:=(B2.cC e3).cC e4;have C4:=C3.cC e4;have z3:=((e1.trans e2).trans e3).size;simp[Yf A4,Yf B4];rw[show (Value.agg #[J.v,O.v,U.v])=Xp J O U from rfl,show (Value.agg #[q.v])=W7 q from rfl];refine Ze9 X.Rd (r.cC x4) (rq.cC x4) hf ok pk ?_;intro h5 p op sc S cN R5;have e5:=R5.ex;have x5:=x4.trans e5;simp[Yf (C4.cC e5)];rw[show (Value.agg #[Zg j.dep,Zg j.cap,Zg j.lim,s.v])=X4 j s from rfl];refine Z0g X.To24 (rj.cC x5) hb ?_;intro h6 u H ru;have x6:=x5.trans H;simp;refine Z20 X.P (R5.g.cC H) (R5.v h6 (Mod.weak H)) (R5.rc.cC H) ok pk R5.hE ru ?_;intro h7 v o e7 po pv;have x7:=x6.trans e7;have D7:=((D4.cC e5).cC H).cC e7
 cases o with
 |none =>
  obtain⟨t,w,rfl⟩:=pv;simp;refine Xh (vs:=#[Zi,Zg 0]) ?_;intro E hE gE bE eE G;simp;refine G _ ?_;intro h8 E8 I;have x8:=x7.trans I;simp[Yf E8];refine Zy (vs:=#[Zi,Zg 0]) (D7.cC I) ?_;intro h9 D9 m9;simp;refine Zsk rfl D9 rfl ?_;exact hr h9 _ none (Mod.cC x8 m9 (fun j hj=>by omega)) po ⟨Sl.nil,fun _=>Sl.nil,⟨Sl.nil_ok,rfl,fun h=>(h rfl).elim,fun i hi=>by cases hi⟩,rfl⟩
 |some oc =>
  obtain⟨aa,c⟩:=oc;obtain⟨w,sl,k7,rfl⟩:=pv;simp;refine Xh (vs:=#[w.v,Zg c]) ?_;intro E hE gE bE eE G;simp;refine G _ ?_;intro h8 E8 I;have x8:=x7.trans I;have D8:=D7.cC I;simp[Yf E8];refine Zy (vs:=#[w.v,Zg c]) D8 ?_;intro h9 D9 m9;simp;refine Zsk rfl D9 rfl ?_;refine hr h9 _ (some (aa,c)) (Mod.cC x8 m9 (fun j hj=>by omega)) po ⟨w,sl,?_,rfl⟩;have l6:=D4.lt;have z6:=(e5.trans H).size;exact ((k7.cD I (fun _ h=>h.elim)).cD m9 (fun b hb=>.inl (by omega))).grow (fun _ h=>h.elim)
def upL(s:Sl)(f:Nat->Int):Zb:=(List.range s.n).map f
def Z70{s:Sl}{f:Nat->Int}{v:Nat}:Wj (upL s f) v=if s.n=0 then 0 else f (v % s.n):=by
 unfold Wj upL;by_cases z:s.n=0
 ·simp[z]
 have G:v % s.n<s.n:=Xkn _ (by omega);simp[z,Zm,G]
def Qb{s:Sl}{f:Nat->Int}(hf:∀i,i<s.n->0<=f i/\f i<=255):∀x,x∈upL s f->0<=x/\x<=255:=by
 intro x hx;simp only[upL,Xlg,Xme] at hx;obtain⟨i,G,rfl⟩:=hx;exact hf i G
def Zbz(H:Y.cL 566 Y566){G:Sl}{f:Nat->Int}(r:Zc0 h G .u8 f)(hf:∀i,i<G.n->0<=f i/\f i<=255){v:Nat}{R:Ze}(I:R (.int .i64 (Wj (upL G f) v)) h):Zt Y 566 [G.v,.int .i64 v] h R:=by
 refine .o H ?_;rw[Z70] at I;by_cases z:G.n=0
 ·rw[if_pos z] at I;simp[Y566,Yw.wp,z];exact I
 rw[if_neg z] at I;have zz:(G.n:Int)≠0:=by omega
 have O:(v:Int).tmod G.n=((v % G.n:Nat):Int):=by rw[Xnb (by omega),Int.natCast_emod]
 have J:v % G.n<G.n:=Xkn _ (by omega);have g:=r.val _ J;have g2:=hf _ J;have w:=Zn (n:=f (v % G.n));generalize v % G.n=k at *
 have U:(k:Int)<G.n:=by omega
 simp[Y566,Yw.wp,z,Zxr zz,O,Zl r.ok,U,g,w];exact I
def Zl6(H:Y.cL 568 Y568){c d b:Int}(J:c≠1152921504606846976->IntKind.i64.wrap (c+b)=c+b){R:Ze}(G:R (.bool (Zjg c d b)) h):Zt Y 568 [.int .i64 c,.int .i64 d,.int .i64 b] h R:=by
 refine .o H ?_;unfold Zjg at G;by_cases e:c=1152921504606846976
 ·rw[if_pos (.inl e)] at G;simp[Y568,Yw.wp,e] at G ⊢;exact G
 by_cases I:d=1152921504606846976
 ·rw[if_pos (.inr I)] at G;simp[Y568,Yw.wp,e,I] at G ⊢;exact G
 rw[ifN] at G;simp[Y568,Yw.wp,e,I,J e];exact G
def Xin(fv:Zj)(n:Nat)(p:Nat->Bool)(h0:Zk)(e:Zc)(h':Zk):Prop :=
 ∃(i j:Nat)(v2 v5 v6 v7:Zj),e=[.int .i64 n,fv,v2,.int .i64 i,.int .i64 j,v5,v6,v7]/\i<=j/\j<=n/\(∀k,k<i->p k=false)/\(∀k,j<=k->k<n->p k=true)/\Ext h0 h'
def Ztr(H:Y.cL 569 Y569){U:Zj}{n:Nat}{p:Nat->Bool}(ab:n<=1000000)(mono:∀i j,i<=j->j<n->p i=true->p j=true)
  (hf:∀(g:Zk)(i:Nat)(K:Ze),Ext h g->i<n->(∀X,Ext g X->K (.bool (p i)) X)->Zea Y U [.int .i64 i] g K) {R:Ze}
  (hr:∀h' (i:Nat),Ext h h'->i<=n->(∀k,k<i->p k=false)->(∀k,i<=k->k<n->p k=true)->R (.int .i64 i) h'):Zt Y 569 [.int .i64 n,U] h R:=by
 refine .o H ?_;simp[Y569,Yw.wp];refine Zp (Xin U n p h) (fun e _=>Zx e 4-Zx e 3) ⟨0,n,_,_,_,_,rfl,by omega,by omega,fun k hk=>by omega,fun k h1 h2=>by omega,Mod.refl _⟩ ?_;rintro e h1 ⟨i,j,v2,v5,v6,v7,rfl,ac,hj,I,J,O⟩;by_cases c:i<j
 ·have c':(i:Int)<j:=by omega
  obtain⟨m,hm⟩:∃m,m=(i+j) / 2:=⟨_,rfl⟩
  have w1:IntKind.i64.wrap ((i:Int)+j)=((i+j:Nat):Int):=by rw[Zn];omega
  have w2:IntKind.u64.wrap ((i+j:Nat):Int)=((i+j:Nat):Int):=Zhz;have aa:IntKind.u64.wrap ((i:Int)+j)=((i+j:Nat):Int):=by rw[Zhz];omega
  have G:=Zp0 (u:=i+j) (j:=.u64);rw[<-hm] at G;have w3:IntKind.i64.wrap (m:Int)=(m:Int):=Zn;have w4:=wrapS (i:=m);obtain⟨t,ht⟩:∃t,t=i+j:=⟨_,rfl⟩
  rw[<-ht] at w1 w2 aa G;simp[c',w1,w2,G,w3];refine hf _ _ _ O (by omega) ?_;intro X e2
  cases d:p m with
  |true =>
   simp;exact nx ⟨i,m,_,_,_,_,rfl,by omega,by omega,I,fun k h1 h2=>mono m k h1 h2 d,O.trans e2⟩
  |false =>
   simp[w4];refine nx ⟨m+1,j,_,_,_,_,rfl,by omega,hj,fun k hk=>?_,J,O.trans e2⟩
   cases q:p k with
   |false=>rfl
   |true=>rw[mono k m (by omega) (by omega) q] at d;cases d
 have c':¬(i:Int)<j:=by omega
 obtain rfl:i=j:=by omega
 simp[c'];exact hr h1 i O hj I J
structure Zsm(Y:Sys):Prop where
 A:Zdv Y
 Where:Y.cL 567 Y567
 Where1:Y.cL 570 Y570
 Search:Y.cL 569 Y569
def WhI(op A B n:Nat)(d f:Zj)(N:Zs)(L:Za)(a:Nat)(h0:Zk)(e:Zc)(h':Zk):Prop :=
 ∃(k:Nat)(g h i j b c:Zj),e=[.pointer (some ⟨op,0,none⟩),d,.pointer (some ⟨A,0,none⟩),.pointer (some ⟨B,0,none⟩),f,.int .i64 ((k:Int)+1),g,h,i,j,b,c]/\k<n/\a<Zz N L (k+1)/\h'=h0
def Zsz(H:Y.cL 570 Y570){W A i:Nat}{a:Int}{G:Sl}{l:Zb}(I:Yo h W #[G.v])(J:Yo h A #[.int .i64 a])(r:Zw h G l)(O:i<G.n){R:Ze}(U:R (.bool (decide (a<Zm l i))) h):
  Zt Y 570 [.int .i64 i,.pointer (some ⟨W,0,none⟩),.pointer (some ⟨A,0,none⟩)] h R:=by
 refine .o H ?_;have c1:(i:Int)<G.n:=by omega
 simp[Y570,Yw.wp,I.hc,J.hc,Zl r.ok,c1,r.at O];exact U
set_option maxHeartbeats 1000000 in
def Zxw(X:Zsm Y){op:Nat}{N:Zs}{L:Za}(v:Uq h op N L)(ok:Yl N)(pk:Yq N.vs.length L){a:Nat}(ha:a<Zz N L L.length){R:Ze}
  (hr:∀h' (k c i o:Nat),Ext h h'->k<L.length->c<Yv L k->i<(Zv N L k false c).length->o<(Zv N L k true c).length->a=Zz N L k+Yn N L k c+(i * (Zv N L k true c).length+o)->R (.tuple #[.agg #[.int .i64 ((k:Int)+1),.int .i64 c,.int .i64 i,.int .i64 o],.bool true]) h') :
  Zt Y 567 [.pointer (some ⟨op,0,none⟩),.int .i64 a] h R:=by
 have bL:=pk.bL;have af:=pk.pos;have bS:=Q9 ok pk (k:=L.length) (Xi4 _);refine .o X.Where ?_;simp[Y567,Yw.wp];refine Zo ?_;intro A h1 gA A1 e1;replace A1:Yo h1 A #[.int .i64 a]:=A1;simp;refine Zo ?_;intro B h2 gB B2 e2;have x2:=e1.trans e2;have A2:=A1.cC e2;obtain⟨q,f,t,g,st,z,O2,rq,rg,_,_,rs,hz⟩:=v.cC x2;have lg:=rg.len;have ls:=rs.len;have c0:¬(a:Int)<0:=by omega
 have cz:¬z<=(a:Int):=by omega
 have au:1<=st.n:=by omega
 simp[A2.hc,O2.hc,c0,cz];rw[show (st.n:Int)=((L.length-1:Nat):Int)+1 by omega];refine Zp (WhI op A B L.length (.int .i64 a) (.bool false) N L a h2) (fun e _=>Zx e 5) ⟨L.length-1,_,_,_,_,_,_,rfl,by omega,by rw[Nat.sub_add_cancel af];exact ha,rfl⟩ ?_;rintro e h3 ⟨k,v6,v7,v8,v9,al,av,rfl,hk,ab,rfl⟩;have w1:IntKind.i64.wrap ((k:Int)+1-1)=(k:Int):=by rw[Zn];omega
 have w0:IntKind.i64.wrap (k:Int)=(k:Int):=Zn;have bG:=(Xq pk hk).2.2.1;have ck:(k:Int)<st.n:=by omega
 obtain⟨U,J,G⟩:=rs.val k hk;have aw:=G.len;have ax:(X5 N L k).length=Yv L k:=by simp[X5]
 have O:∀c,c<Yv L k->Zm (X5 N L k) c=((Zz N L k+Yn N L k c:Nat):Int):=fun c hc=>by simp[Zm,X5,hc]
 have ag:Zz N L (k+1)=Zz N L k+Yn N L k (Yv L k):=rfl;have aa:0<k->a<Zz N L k->∀(u6 u7 u8 u9 ac H:Zj),WhI op A B L.length (.int .i64 a) (.bool false) N L a h3 [.pointer (some ⟨op,0,none⟩),.int .i64 a,.pointer (some ⟨A,0,none⟩),.pointer (some ⟨B,0,none⟩),.bool false,.int .i64 k,u6,u7,u8,u9,ac,H] h3:=fun h0 h1 u6 u7 u8 u9 ac H =>
  ⟨k-1,u6,u7,u8,u9,ac,H,by rw[show ((k-1:Nat):Int)+1=(k:Int) by omega],by omega,by rw[Nat.sub_add_cancel h0];exact h1,rfl⟩
 by_cases ex:k=0\/Zz N L k<=a;rotate_left
 ·have ah:0<k:=by omega
  have c1:(1:Int)<(k:Int)+1:=by omega
  have I:(0:Int)<(k:Int):=by omega
  by_cases z0:U.n=0
  ·simp[c1,I,O2.hc,w0,w1,Zl rs.ok,ck,J,z0];exact⟨aa ah (by omega) _ _ _ _ _ _,by simp[Zx]⟩
  have c2:(0:Int)<U.n:=by omega
  have ad:0<U.n:=by omega
  have g0:=G.at (i:=0) (by omega)
  rw[O 0 (by omega)] at g0;have c3:(a:Int)<((Zz N L k+Yn N L k 0:Nat):Int):=by simp[Yn];omega
  generalize Zz N L k+Yn N L k 0=Z at *
  simp at g0;simp[c1,I,O2.hc,A2.hc,w0,w1,Zl rs.ok,ck,J,z0,Zl G.ok,c2,ad,g0,c3];exact⟨aa ah (by omega) _ _ _ _ _ _,by simp[Zx]⟩
 have ay:Zz N L k<=a:=by
  rcases ex with rfl|h
  ·exact Xle _
  exact h
 have hg:0<Yv L k:=by
  rcases Xkr (Yv L k) with q|q
  ·rw[ag,q] at ab;simp[Yn] at ab;omega
  exact q
 have go:∀H:cR,Stmt.wp Y Y567.body.rest.rest.rest.rest (Up Y567.res R) (fun _ _ _=>False) (Up Y567.res R)
   [.pointer (some ⟨op,0,none⟩),.int .i64 a,.pointer (some ⟨A,0,none⟩),.pointer (some ⟨B,0,none⟩),.bool false,.int .i64 ((k:Int)+1),v6,v7,v8,v9,al,H] h3:=by
  intro H;simp[Y567,Stmt.rest,O2.hc,w0,w1,Zl rs.ok,ck,J];refine Zo ?_;intro W h4 gW W4 e4;replace W4:Yo h4 W #[.slice none 0 0]:=W4;simp;refine Z7r W4 ?_;intro h5 W5 m5;have e5:Ext h3 h5:=Mod.cG e4 m5 gW;have x5:=x2.trans e5;have A5:=A2.cC e5;have B5:=B2.cC e5;have O5:=O2.cC e5;have mk:∀g,Ym.cK Y g (.mkf 570 0) [.pointer (some ⟨W,0,none⟩),.pointer (some ⟨A,0,none⟩)]=some (.func (.func (Y.fid 570)) #[] #[.pointer (some ⟨W,0,none⟩),.pointer (some ⟨A,0,none⟩)]):=fun g=>rfl;simp[W5.hc,mk];refine Ztr X.Search (p:=fun i=>decide (a<Zz N L k+Yn N L k i)) (by have:=(Xq pk hk).2.2.1;omega) (fun i j am hj h=>?_) (fun g i K xg hi hK=>?_) ?_
  ·have:=Zei (N:=N) (L:=L) (k:=k) am;simp at h ⊢;omega
  ·refine⟨X.Where1.1,?_⟩;show Zt Y 570 [.int .i64 i,.pointer (some ⟨W,0,none⟩),.pointer (some ⟨A,0,none⟩)] g K;refine Zsz X.Where1 (W5.cC xg) (A5.cC xg) (G.cC (e5.trans xg)) hi ?_;rw[O i (by omega)];rw[show decide ((a:Int)<((Zz N L k+Yn N L k i:Nat):Int))=decide (a<Zz N L k+Yn N L k i) from decide_eq_decide.2 (by omega)];exact hK g (Mod.refl _)
  intro h6 m e6 hm an ai;have x6:=x5.trans e6;have A6:=A5.cC e6;have B6:=B5.cC e6;have O6:=O5.cC e6;have W6:=W5.cC e6;have y6:=e5.trans e6;have az:0<m:=by
   rcases Xkr m with q|q
   ·subst q;have t0:decide (a<Zz N L k+Yn N L k 0)=true:=ai 0 (Xi4 _) (by omega);rw[decide_eq_true_eq] at t0;have:Yn N L k 0=0:=rfl;omega
   exact q
  obtain⟨c,rfl⟩:∃c,m=c+1:=⟨m-1,by omega⟩
  have hc:c<Yv L k:=by omega
  have p1:Zz N L k+Yn N L k c<=a:=by
   have:=an c (by omega);simpa using this
  have p2:a<Zz N L k+Yn N L k (c+1):=by
   by_cases q:c+1<U.n
   ·have:=ai (c+1) (Xi4 _) q;simpa using this
   rw[show c+1=Yv L k by omega,<-ag];exact ab
  obtain⟨n1,n2,n3,n4⟩:=Zxy p1 p2;have wc:IntKind.i64.wrap (((c+1:Nat):Int)-1)=(c:Int):=by rw[Zn];omega
  have ao:IntKind.i64.wrap (c:Int)=(c:Int):=Zn;obtain⟨u,hu,cu⟩:=Ze8 (rg.cC y6) (i:=k);have hu:=hu h6 (Mod.refl _);have aA:=cu.len;obtain⟨a1,a2,ap,r1,r2⟩:=Zhq cu hc;obtain⟨_,ra,_⟩:=ap h6 (Mod.refl _);have l2:=r2.len;have c3:(k:Int)<g.n:=by omega
  have c4:(c:Int)<u.n:=by omega
  have c5:(c:Int)<U.n:=by omega
  have aj:=G.cC y6;have ae:=aj.at (i:=c) (by omega)
  rw[O c hc] at ae;have bo:(Zv N L k true c).length<=16384:=Xjo Wg ok.ba;obtain⟨Z,hZ⟩:∃Z,Zz N L k+Yn N L k c=Z:=⟨_,rfl⟩
  rw[hZ] at ae p1 n2 n3 n4;obtain⟨r,aq⟩:∃r,a-Z=r:=⟨_,rfl⟩
  rw[aq] at n2 n3 n4;obtain⟨d,hd⟩:∃d,(Zv N L k true c).length=d:=⟨_,rfl⟩
  rw[hd] at l2 n1 n2 n3 n4 bo;have wr:IntKind.i64.wrap ((a:Int)-(Z:Int))=(r:Int):=by rw[Zn];omega
  have ak:(a2.n:Int)≠0:=by omega
  have dq:(r:Int) / (a2.n:Int)=((r / d:Nat):Int):=by rw[<-l2,<-Int.natCast_ediv]
  have dr:(r:Int).tmod (a2.n:Int)=((r % d:Nat):Int):=by rw[<-l2,Xnb (by omega),<-Int.natCast_emod]
  have le:r / d<=r:=Nat.div_le_self ..;generalize r / d=Q1 at *
  generalize r % d=Q2 at *
  have dt:(r:Int).tdiv (a2.n:Int)=(Q1:Int):=by rw[Int.tdiv_eq_ediv_of_nonneg (by omega),dq]
  have wq:IntKind.i64.wrap (Q1:Int)=(Q1:Int):=Zn;have ar:∀g a b c d,Ym.cK Y g (.build #[.int .i64 0,.int .i64 0,.int .i64 0,.int .i64 0] [(0,1),(1,1),(2,1),(3,1)] [0,1,2,3]) [.int .i64 a,.int .i64 b,.int .i64 c,.int .i64 d]=some (.agg #[.int .i64 a,.int .i64 b,.int .i64 c,.int .i64 d]):=fun _ _ _ _ _=>rfl;simp[wc,ao,O6.hc,w0,w1,Zl rg.ok,c3,hu,Zl cu.ok,c4,ra,A6.hc,W6.hc,Zl aj.ok,c5,ae,wr,Zre ak,Zxr ak,dt,dq,wq,dr,ar];refine Zy B6 ?_;intro h7 B7 m7;simp;refine Zkc rfl B7 rfl ?_;exact hr h7 k c Q1 Q2 (Mod.cC x6 m7 (fun j hj=>by have:=e1.size;omega)) hk hc n2 (by rw[hd];exact n3) (by rw[hd,hZ];exact n4)
 simp only[Y567,Stmt.rest] at go;rcases Xkr k with q0|q0
 ·have c1:¬(1:Int)<(k:Int)+1:=by omega
  have I:¬(0:Int)<(k:Int):=by omega
  simp[c1,I,-Ye];rw[Ye];exact go _
 have c1:(1:Int)<(k:Int)+1:=by omega
 have I:(0:Int)<(k:Int):=by omega
 have z0:¬U.n=0:=by omega
 have c2:(0:Int)<U.n:=by omega
 have ad:0<U.n:=by omega
 have g0:=G.at (i:=0) (by omega)
 rw[O 0 (by omega)] at g0;have c3:¬(a:Int)<((Zz N L k+Yn N L k 0:Nat):Int):=by simp[Yn];omega
 generalize Zz N L k+Yn N L k 0=Z at *
 simp at g0;simp[c1,I,O2.hc,A2.hc,w0,w1,Zl rs.ok,ck,J,z0,Zl G.ok,c2,ad,g0,c3,-Ye];rw[Ye];exact go _
def Zrp{f:Yt->Int}{g:Int->Int}{N:Zs}:Zay (reN f g N)=Zay N:=by
 simp[Zay,reN]
structure Zyz(Y:Sys):Prop where
 K:Z5t Y
 P:Z6d Y
 D:Zpt Y
 Copy:Y.cL 117 Y117
 SR:Y.cL 338 Y338
 SI:Y.cL 105 Y105
 W:Zsm Y
 There:Y.cL 130 Y130
 high:Y.cL 566 Y566
 rises:Y.cL 568 Y568
 Mo:Y.cL 565 Y565
def Zp3{N:Zs}(ok:Yl N){x:Nat}(h:x<N.as.length):(Zq N.as x).b=(Ys N x:Nat):=by
 have:=(ok.arcs x h).2;simp[Yi] at this;unfold Ys;omega
def Z4b{N:Zs}(ok:Yl N){x:Nat}(h:x<N.as.length):(Zq N.as x).a=(Vs N x:Nat):=by
 have:=(ok.arcs x h).1;simp[Yi] at this;unfold Vs;omega
set_option maxHeartbeats 1000000 in
def Z3s(X:Zyz Y){sv J st s1 s2 s3 t1 t2 t3 q s I sc ab:Sl}{N:Zs}{L:Za}{j:Wu}{f:Nat->Int}{a b:Int}{A B C D E p op p' ac:Nat}{S S':Zf}{cs ad:Zb}
  (r:Z2 h sv J st N) (rb:Z2 h s1 s2 s3 (Vc N)) (rm:Z2 h t1 t2 t3 (Wo (upL I f) N)) (rq:Wm h q L) (ru:Zc0 h I .u8 f) (hu:∀i,i<I.n->0<=f i/\f i<=255) (rj:Zar h s j.st) (hf:Zay N=true) (ok:Yl N) (lo:Zu0 N) (pk:Yq N.vs.length L) (mj:j.st.length<=7) (hz:J.n≠0)
  (ha:0<=a/\a<=65535) (hb:0<=b/\b<=65535) (A0:Yo h A #[sv.v,J.v,st.v]) (B0:Yo h B #[q.v]) (C0:Yo h C #[.int .i64 j.dep,.int .i64 j.cap,.int .i64 j.lim,s.v]) (D0:Yo h D #[s1.v,s2.v,s3.v]) (E0:Yo h E #[t1.v,t2.v,t3.v])
  (g:Xi h p (Vc N) S) (v:Uq h op (Vc N) L) (rc:Zw h sc cs) (hE:W3 (Vc N) L cs) (g':Xi h p' (Wo (upL I f) N) S') (v':Uq h ac (Wo (upL I f) N) L) (ah:Zw h ab ad) (ai:W3 (Wo (upL I f) N) L ad)
  {v0 v1 v5 v9 aj ak al am an ao ap aq ar au av aw ax ay az aA aB aC aD aE aF aG aH aI aJ aK aL:Zj} {R:Ze} (hr:∀h',Ext h h'->R (.bool true) h') :
  Stmt.wp Y Y565.body.rest.rest.rest.rest.rest.rest.rest.rest.rest (Up Y565.res R) (fun _ _ _=>False) (Up Y565.res R)
   [v0,v1,I.v,.int .u16 a,.int .u16 b,v5,.pointer (some ⟨A,0,none⟩),.pointer (some ⟨B,0,none⟩),.pointer (some ⟨C,0,none⟩),v9,.pointer (some ⟨D,0,none⟩),.pointer (some ⟨E,0,none⟩),aj,ak,.pointer (some ⟨p,0,none⟩),.pointer (some ⟨op,0,none⟩),sc.v,.bool true,.pointer (some ⟨p',0,none⟩),.pointer (some ⟨ac,0,none⟩),ab.v,.bool true,al,am,an,ao,ap,aq,ar,au,av,aw,ax,ay,az,aA,aB,aC,aD,aE,aF,aG,aH,aI,aJ,aK,aL] h:=by
 have la:=r.ra.len;obtain⟨aa,ae⟩:=Zli ok lo (Qb hu);have lb:(Vc N).as.length=N.as.length:=Zd4.1;have lm:(Wo (upL I f) N).as.length=N.as.length:=Zd4.1;have aM:Zay (Vc N)=true:=by rw[<-hf];exact Zrp
 have aN:Zay (Wo (upL I f) N)=true:=by rw[<-hf];exact Zrp
 have af:Yq (Vc N).vs.length L:=pk;have ag:Yq (Wo (upL I f) N).vs.length L:=pk;have wa:IntKind.i64.wrap a=a:=Zn;have wb:IntKind.i64.wrap b=b:=Zn;have aO:((J.n:Int))≠0:=by omega
 have O:∀c:Int,0<=c->c.tmod (J.n:Int)=((c.toNat % J.n:Nat):Int):=fun c hc=>by
  rw[Xnb hc,Int.natCast_emod]
  congr 1
  omega
 simp[Y565,Stmt.rest,A0.hc,wa,wb,Zxr aO,O a ha.1,O b hb.1,-Int.natCast_emod];generalize hs:a.toNat % J.n=x;generalize ht:b.toNat % J.n=y;have ls:x<N.as.length:=by rw[<-hs,la];exact Xkn _ (by omega)
 have lt:y<N.as.length:=by rw[<-ht,la];exact Xkn _ (by omega)
 refine Zo8 X.D g v rc aa af hE ?_;intro h1 d e1 hd;simp;refine Zo8 X.D (g'.cC e1) (v'.cC e1) (ah.cC e1) ae ag ai ?_;intro h2 d' e2 aP;have x2:=e1.trans e2;have aQ:=Zvg ok lo (Qb hu) ls hd aP;simp[Yf (D0.cC x2),Yf (B0.cC x2),Yf (C0.cC x2)];rw[show (Value.agg #[s1.v,s2.v,s3.v])=Xp s1 s2 s3 from rfl,show (Value.agg #[q.v])=W7 q from rfl,show (Value.agg #[.int .i64 j.dep,.int .i64 j.cap,.int .i64 j.lim,s.v])=X4 j s from rfl];refine Zh1 X.P (rb.cC x2) (rq.cC x2) aM aa af (rj.cC x2) ?_;rintro h5 _ o e5 po ⟨u,sl,ku,rfl⟩;have x5:=x2.trans e5;simp;refine Xh (vs:=#[u.v,.int .i64 (Zt8 o)]) ?_;intro G hG gG bG eG aR;simp;refine aR _ ?_;intro h6 G6 e6;have x6:=x5.trans e6;simp[Yf (E0.cC x6),Yf (B0.cC x6),Yf (C0.cC x6)];rw[show (Value.agg #[t1.v,t2.v,t3.v])=Xp t1 t2 t3 from rfl,show (Value.agg #[q.v])=W7 q from rfl,show (Value.agg #[.int .i64 j.dep,.int .i64 j.cap,.int .i64 j.lim,s.v])=X4 j s from rfl];refine Zh1 X.P (rm.cC x6) (rq.cC x6) aN ae ag (rj.cC x6) ?_;rintro h7 _ o' e7 aS ⟨u',a0,aT,rfl⟩;have x7:=x6.trans e7;simp;refine Xh (vs:=#[u'.v,.int .i64 (Zt8 o')]) ?_;intro H hH gH bH eH aU;simp;refine aU _ ?_;intro h8 H8 e8;have U:=x7.trans e8;have G8:=(G6.cC e7).cC e8;have k8:=ku.cD ((e6.trans e7).trans e8) (fun _ h=>h.elim);have aV:=aT.cD e8 (fun _ h=>h.elim);have aW:=Zxd ok lo (Qb hu) po aS;have aX:o.isSome=o'.isSome/\Zt8 o=Zt8 o'/\Zs9 o=Zs9 o'/\(Zs9 o).length<=1000/\∀r,r∈Zs9 o->r.length<=1000:=by
  rcases aW with⟨rfl,rfl⟩|⟨a1,c,rfl,rfl,oo⟩
  ·exact⟨rfl,rfl,rfl,by simp[Zs9],fun r hr=>by simp[Zs9] at hr⟩
  obtain⟨_,q2,q3⟩:=oo.small (by omega);exact⟨rfl,rfl,rfl,by simp only[Zs9,Option.elim];omega,fun r hr=>by have:=q3 r hr;omega⟩
 obtain⟨q1,q2,q3,q4,q5⟩:=aX;have y1:=(r.cC U).ra.v1 x ls;have y2:=(r.cC U).ra.v1 y lt;rw[Zp3 ok ls] at y1;rw[Zp3 ok lt] at y2;have k1:=Wx (Qb hu) (Ys N x);have k2:=Wx (Qb hu) (Ys N y);have ws:IntKind.i64.wrap (Wj (upL I f) (Ys N x)-Wj (upL I f) (Ys N y))=Wj (upL I f) (Ys N x)-Wj (upL I f) (Ys N y):=Zn;have lx:(x:Int)<J.n:=by omega
 have ly:(y:Int)<J.n:=by omega
 have dw:d≠1152921504606846976->IntKind.i64.wrap (d+(Wj (upL I f) (Ys N x)-Wj (upL I f) (Ys N y)))=d+(Wj (upL I f) (Ys N x)-Wj (upL I f) (Ys N y)):=fun aY=>by
  rcases Zit aa (by omega) hd with e|⟨d0,d1⟩
  ·exact absurd e aY
  exact Zn
 have aZ:=(r.cC U).ra.ok;simp[(A0.cC U).hc,Zl aZ,lx,ly,y1,y2];refine Zbz X.high (ru.cC U) hu ?_;simp[(A0.cC U).hc,y1,y2];refine Zbz X.high (ru.cC U) hu ?_;simp[ws];refine Zl6 X.rises dw ?_;rw[aQ];simp[q1,G8.hc,H8.hc,q2];refine Zj7 X.SR X.SI k8 aV ⟨q4,q5⟩ ?_;simp[q3];exact hr h8 U
def MoJ(A B C D E p op p' op' n:Nat)(a b:Int)(M N O P c d j k l m o q r s t u w x y z F G H I:Zj)(su sc sc':Sl)(h0:Zk)(e:Zc)(h':Zk):Prop :=
 ∃(i:Nat)(f g h J K L:Zj),e=[M,N,su.v,.int .u16 a,.int .u16 b,O,.pointer (some ⟨A,0,none⟩),.pointer (some ⟨B,0,none⟩),.pointer (some ⟨C,0,none⟩),P,.pointer (some ⟨D,0,none⟩),.pointer (some ⟨E,0,none⟩),c,d,.pointer (some ⟨p,0,none⟩),.pointer (some ⟨op,0,none⟩),sc.v,.bool true,.pointer (some ⟨p',0,none⟩),.pointer (some ⟨op',0,none⟩),sc'.v,.bool true,.int .i64 i,f,g,h,j,k,l,m,o,q,r,s,t,u,w,x,y,z,F,G,H,I,J,K,L]/\i<=n/\Ext h0 h'
set_option maxHeartbeats 2000000 in
def Z4q(X:Zyz Y){sv O st s1 s2 s3 t1 t2 t3 q s H:Sl}{N:Zs}{L:Za}{j:Wu}{f:Nat->Int}{a b:Int}{A B C D E:Nat}
  (r:Z2 h sv O st N) (rb:Z2 h s1 s2 s3 (Vc N)) (rm:Z2 h t1 t2 t3 (Wo (upL H f) N)) (rq:Wm h q L) (ru:Zc0 h H .u8 f) (hu:∀i,i<H.n->0<=f i/\f i<=255) (rj:Zar h s j.st) (hf:Zay N=true) (ok:Yl N) (lo:Zu0 N) (pk:Yq N.vs.length L) (mj:j.st.length<=7) (hz:O.n≠0)
  (ha:0<=a/\a<=65535) (hb:0<=b/\b<=65535) (A0:Yo h A #[sv.v,O.v,st.v]) (B0:Yo h B #[q.v]) (C0:Yo h C #[.int .i64 j.dep,.int .i64 j.cap,.int .i64 j.lim,s.v]) (D0:Yo h D #[s1.v,s2.v,s3.v]) (E0:Yo h E #[t1.v,t2.v,t3.v])
  {v0 v1 v5 v9 ao ap aq ar au av aw ax ay az aA aB aC aD aE aF aG aH aI aJ aK aL aM aN aO aP aQ aR aS aT aU aV aW aX aY:Zj} {R:Ze} (hr:∀h',Ext h h'->R (.bool true) h') :
  Stmt.wp Y Y565.body.rest.rest.rest.rest.rest (Up Y565.res R) (fun _ _ _=>False) (Up Y565.res R)
   [v0,v1,H.v,.int .u16 a,.int .u16 b,v5,.pointer (some ⟨A,0,none⟩),.pointer (some ⟨B,0,none⟩),.pointer (some ⟨C,0,none⟩),v9,.pointer (some ⟨D,0,none⟩),.pointer (some ⟨E,0,none⟩),ao,ap,aq,ar,au,av,aw,ax,ay,az,aA,aB,aC,aD,aE,aF,aG,aH,aI,aJ,aK,aL,aM,aN,aO,aP,aQ,aR,aS,aT,aU,aV,aW,aX,aY] h:=by
 have la:=r.ra.len;obtain⟨aa,aZ⟩:=Zli ok lo (Qb hu);have a0:Zay (Vc N)=true:=by rw[<-hf];exact Zrp
 have a1:Zay (Wo (upL H f) N)=true:=by rw[<-hf];exact Zrp
 have ab:Yq (Vc N).vs.length L:=pk;have a2:Yq (Wo (upL H f) N).vs.length L:=pk;simp[Y565,Stmt.rest,Yf D0,Yf B0];rw[show (Value.agg #[s1.v,s2.v,s3.v])=Xp s1 s2 s3 from rfl,show (Value.agg #[q.v])=W7 q from rfl];refine Ze9 X.P.Rd rb rq a0 aa ab ?_;intro h1 p op sc S cs R1;have e1:=R1.ex;simp[Yf (E0.cC e1),Yf (B0.cC e1)];rw[show (Value.agg #[t1.v,t2.v,t3.v])=Xp t1 t2 t3 from rfl,show (Value.agg #[q.v])=W7 q from rfl];refine Ze9 X.P.Rd (rm.cC e1) (rq.cC e1) a1 aZ a2 ?_;intro h2 p' a3 ac S' a8 R2;have e2:=R2.ex;have x2:=e1.trans e2;have rc:=R1.rc.cC e2;have lc:=rc.len;have a9:=R2.rc.len;have v2:=R1.v h2 (Mod.weak e2);have ba:=Q9 ok pk (k:=L.length) (Xi4 _);have bb:=pk.bL;have a4:=R1.hE.len;have a5:=R2.hE.len;rw[show Zz (Vc N) L L.length=Zz N L L.length from Zb2] at a4;rw[show Zz (Wo (upL H f) N) L L.length=Zz N L L.length from Zb2] at a5;have ag:sc.n=ac.n:=by omega
 simp[ag];refine Zp (MoJ A B C D E p op p' a3 cs.length a b _ _ _ _ _ _ _ _ _ _ _ _ _ _ _ _ _ _ _ _ _ _ _ _ H sc ac h2) (fun e _=>cs.length-Zx e 22) ⟨0,_,_,_,_,_,_,rfl,by omega,Mod.refl _⟩ ?_;rintro e h3 ⟨i,bc,bd,be,bg,bh,bi,rfl,hi,U⟩;have I:=x2.trans U;by_cases c:i<cs.length;rotate_left
 ·have c':¬(i:Int)<sc.n:=by omega
  have ad:¬(i<sc.n):=by omega
  simp[c',ad,-Ye];rw[Ye];exact Z3s X (r.cC I) (rb.cC I) (rm.cC I) (rq.cC I) (ru.cC I) hu (rj.cC I) hf ok lo pk mj hz ha hb (A0.cC I) (B0.cC I) (C0.cC I) (D0.cC I) (E0.cC I) ((R1.g.cC e2).cC U) (v2.cC U) (rc.cC U) R1.hE (R2.g.cC U) ((R2.v h2 (Mod.refl _)).cC U) (R2.rc.cC U) R2.hE fun h' e=>hr h' (I.trans e)
 have c':(i:Int)<sc.n:=by omega
 have ad:i<sc.n:=by omega
 have c3:(i:Int)<ac.n:=by omega
 have w1:=wrapS (i:=i);simp[c',ad];refine Zxw X.W (v2.cC U) aa ab (a:=i) (by rw[show Zz (Vc N) L L.length=Zz N L L.length from Zb2];omega) ?_;intro h4 k d g o e4 hk hc hg ho ah;have g1:∀x,Zv (Vc N) L k x d=Zv N L k x d:=fun x=>X3;simp;refine Xh (vs:=#[.int .i64 ((k:Int)+1),.int .i64 d,.int .i64 g,.int .i64 o]) ?_;intro F hF gF bF eF ai;simp;refine ai _ ?_;intro h5 F5 e5;clear ai bF eF;have y5:=(U.trans e4).trans e5;simp[F5.hc];refine W9 X.W.A (v2.cC y5) aa ab hk hc ?_;intro h6 u1 u2 e6 o1 o2 _ _;rw[g1] at hg o1;rw[g1] at ho o2;rw[show Zz (Vc N) L k=Zz N L k from Zb2,show Yn (Vc N) L k d=Yn N L k d from Zic,g1] at ah;obtain⟨x,y,hx,hy,lx,ly,J⟩:=Z51 ok lo (Qb hu) pk R1.hE R2.hE hk hc hg ho;rw[<-ah] at J;simp;refine Xh (vs:=#[u1.v,u2.v]) ?_;intro G hG gG bG eG aj;simp;refine aj _ ?_;intro h7 G7 e7;clear aj bG eG;have F7:=(F5.cC e6).cC e7;have y7:=(y5.trans e6).trans e7;have x7:=x2.trans y7;have n1:=o1.cE.len;have n2:=o2.cE.len;have q1:¬(u1.n:Int)<=(g:Int):=by omega
 have ae:(g:Int)<u1.n:=by omega
 have q2:¬(u2.n:Int)<=(o:Int):=by omega
 have af:(o:Int)<u2.n:=by omega
 have vx:=(o1.cF e7).cE.at (i:=g) (by omega)
 have vy:=(o2.cF e7).cE.at (i:=o) (by omega)
 rw[hx] at vx;rw[hy] at vy;have A7:=A0.cC x7;simp[G7.hc,F7.hc,Yf A7,Zl o1.ok,Zl o2.ok,q1,ae,q2,af,vx,vy];rw[show (Value.agg #[sv.v,O.v,st.v])=Xp sv O st from rfl];refine Zlz X.There la ?_;intro h8 e8;have G8:=G7.cC e8;have F8:=F7.cC e8;have A8:=A7.cC e8;have ak:=e8.hc vx (fun h=>h);have al:=e8.hc vy (fun h=>h);have tx:Yi N.as.length (x:Int)=true:=by simp[Yi];omega
 have ty:Yi N.as.length (y:Int)=true:=by simp[Yi];omega
 simp[tx,G8.hc,F8.hc,Yf A8,Zl o1.ok,Zl o2.ok,q1,ae,q2,af,ak,al];rw[show (Value.agg #[sv.v,O.v,st.v])=Xp sv O st from rfl];refine Zlz X.There la ?_;intro h9 e9;have G9:=G8.cC e9;have F9:=F8.cC e9;have A9:=A8.cC e9;have y9:=(y7.trans e8).trans e9;have x9:=x2.trans y9;have am:=e9.hc ak (fun h=>h);have an:=e9.hc al (fun h=>h);have r9:=(r.cC x9).ra;have z1:=r9.v1 x lx;have z2:=r9.v0 y ly;rw[Zp3 ok lx] at z1;rw[Z4b ok ly] at z2;have k1:=Wx (Qb hu) (Ys N x);have k2:=Wx (Qb hu) (Vs N y);have ws:IntKind.i64.wrap (Wj (upL H f) (Ys N x)-Wj (upL H f) (Vs N y))=Wj (upL H f) (Ys N x)-Wj (upL H f) (Vs N y):=Zn;have a6:(x:Int)<O.n:=by omega
 have a7:(y:Int)<O.n:=by omega
 have m1:=(rc.cC y9).val i c;have m2:=(R2.rc.cC y9).val i (by omega);have bj:Xm=1152921504606846976:=rfl;have mb:=R1.hE.c0 i c;have dw:Zm cs i≠1152921504606846976->IntKind.i64.wrap (Zm cs i+(Wj (upL H f) (Ys N x)-Wj (upL H f) (Vs N y)))=Zm cs i+(Wj (upL H f) (Ys N x)-Wj (upL H f) (Vs N y)):=fun _=>Zn;simp[ty,G9.hc,F9.hc,A9.hc,Zl o1.ok,Zl o2.ok,Zl r9.ok,Zl rc.ok,Zl R2.rc.ok,c',c3,ae,af,am,an,a6,a7,z1,z2,m1,m2];refine Zbz X.high (ru.cC x9) hu ?_;simp[G9.hc,F9.hc,A9.hc,am,an,z1,z2,m1,m2];refine Zbz X.high (ru.cC x9) hu ?_;simp[m1,m2,ws];refine Zl6 X.rises dw ?_;rw[J];simp[w1];exact nx ⟨i+1,_,_,_,_,_,_,rfl,by omega,y9⟩
def Xbi(H:Y.cL 117 Y117){G I J:Sl}{N:Zs}(r:Z2 h G I J N)(U:Zez N){R:Ze}(X:∀h' s1 s2 s3 P,Ext h h'->Zff h.size h'.size h' s1 s2 s3 P N->s1.b<h'.size->(s3.nl=false->s3.b<h'.size)->R (.agg #[s1.v,s2.v,s3.v]) h')(h0:0<h.size:=by omega):Zt Y 117 [.agg #[G.v,I.v,J.v]] h R:=by
 refine Zlf H r U ?_;intro O s1 s2 s3 P e6 o1 o2 o3 hP pw px f1 f2 d12 f3;have nl:∀{sz:Nat}{s:Sl}{c:Zc},Yh O sz s c->h.size<=s.b->s.nl=false:=by
  intro sz s c o f
  cases k:s.nl with
  |false=>rfl
  |true =>
   rcases o.2 with⟨e,_⟩|⟨e,_⟩
   ·rw[e] at f;have:Sl.nil.b=0:=rfl;omega
   rw[e] at k;cases k
 exact X O s1 s2 s3 P e6 ⟨o1,o2,o3,hP,pw,fun p hp=>⟨(px p hp).1,(px p hp).2.1,(px p hp).2.2.1,(px p hp).2.2.2.1,(px p hp).2.2.2.2,(px p hp).1.1.lt (px p hp).1.2⟩,o2.lt (nl o2 f2),f1,f2,d12,f3⟩ (o1.lt (nl o1 f1)) (fun hn=>o3.lt hn)
def Zff.mod2{S:Zf}{lo up:Nat}{s1 s2 s3:Sl}{P:List (Tab × Sl)}{M:Zs}(n:Zff lo up h s1 s2 s3 P M)(m:Mod S h h')(J:s1.b<up)(H:s3.nl=false->s3.b<up)(G:∀j,S j->up<=j):Zff lo up h' s1 s2 s3 P M :=
 {n with
  o1:=n.o1.cD m (fun _ hb=>by have:=G _ hb;omega)
  o2:=n.o2.cD m (fun _ hb=>by have:=G _ hb;have:=n.u2;omega)
  o3:=n.o3.cD m (fun I hb=>by have:=G _ hb;have:=H I;omega)
  px:=fun p hp=>⟨⟨(n.px p hp).1.1.cD m (fun _ hb=>by have:=G _ hb;have:=(n.px p hp).2.2.2.2.2;omega),(n.px p hp).1.2⟩,(n.px p hp).2⟩ }
structure Zj6(h:Zk)(D E:Nat)(s1 s2 s3 t1 t2 t3:Sl)(P Q:List (Tab × Sl))(lo up lo' up':Nat)(M M':Zs):Prop where
 n:Zff lo up h s1 s2 s3 P M
 n':Zff lo' up' h t1 t2 t3 Q M'
 ul:up<=lo'
 ub:up'<=h.size
 u1:s1.b<up
 u3:s3.nl=false->s3.b<up
 d:Yo h D #[s1.v,s2.v,s3.v]
 e:Yo h E #[t1.v,t2.v,t3.v]
 ds:D≠s2.b/\D≠t2.b/\E≠s2.b/\E≠t2.b
section
variable{D E:Nat}{s1 s2 s3 t1 t2 t3:Sl}{P Q:List (Tab × Sl)}{lo up lo' up':Nat}{M M':Zs}
def Zj6.cC(T:Zj6 h D E s1 s2 s3 t1 t2 t3 P Q lo up lo' up' M M')(e:Ext h h'):Zj6 h' D E s1 s2 s3 t1 t2 t3 P Q lo up lo' up' M M' :=
 {T with n:=T.n.cC e,n':=T.n'.cC e,ub:=Xjo T.ub e.size,d:=T.d.cC e,e:=T.e.cC e }
def Zj6.set1(T:Zj6 h D E s1 s2 s3 t1 t2 t3 P Q lo up lo' up' M M'){a:Nat}{w:Int}(G:a<M.as.length){K:Ze}
  (H:∀h',Zj6 h' D E s1 s2 s3 t1 t2 t3 P Q lo up lo' up' { M with as:=M.as.set a ⟨(Zq M.as a).a,(Zq M.as a).b,w⟩ } M'->Mod (fun j=>j=s2.b) h h'->K undef h'):Xo h s2.b (s2.o+(a * 3+2)) (.int .i64 w) K :=
 T.n.setA G fun h' n m=>H h' { T with n:=n,n':=T.n'.cD m (fun j I=>by have:=T.n.u2;have:=T.ul;omega),ub:=Xjo T.ub m.size,d:=m.cM T.d T.ds.1,e:=m.cM T.e T.ds.2.2.1 } m
def Zj6.set2(T:Zj6 h D E s1 s2 s3 t1 t2 t3 P Q lo up lo' up' M M'){a:Nat}{w:Int}(G:a<M'.as.length){K:Ze}
  (H:∀h',Zj6 h' D E s1 s2 s3 t1 t2 t3 P Q lo up lo' up' M { M' with as:=M'.as.set a ⟨(Zq M'.as a).a,(Zq M'.as a).b,w⟩ }->Mod (fun j=>j=t2.b) h h'->K undef h'):Xo h t2.b (t2.o+(a * 3+2)) (.int .i64 w) K :=
 T.n'.setA G fun h' n m=>H h' { T with n:=T.n.mod2 m T.u1 T.u3 (fun j I=>by have:=T.n'.f2;have:=T.ul;omega),n':=n,ub:=Xjo T.ub m.size,d:=m.cM T.d T.ds.2.1,e:=m.cM T.e T.ds.2.2.2 } m
end
def MoA(A B C D E:Nat)(a b:Int)(X Y Z v9 f g h j k l n o p q r s t u w x y z F G H I J K L M T U V W:Zj)(su s1 s2 s3 t1 t2 t3:Sl)(P Q:List (Tab × Sl))(lo up lo' up':Nat)(N:Zs)(ul:Zb)(h0:Zk)(e:Zc)(h':Zk):Prop :=
 ∃(i:Nat)(d O R S:Zj),e=[X,Y,su.v,.int .u16 a,.int .u16 b,Z,.pointer (some ⟨A,0,none⟩),.pointer (some ⟨B,0,none⟩),.pointer (some ⟨C,0,none⟩),v9,.pointer (some ⟨D,0,none⟩),.pointer (some ⟨E,0,none⟩),.int .i64 i,d,f,g,h,j,k,l,n,o,p,q,r,s,t,u,w,x,y,z,F,G,H,I,J,K,L,M,O,R,S,T,U,V,W]/\i<=N.as.length/\Zj6 h' D E s1 s2 s3 t1 t2 t3 P Q lo up lo' up' (sgA Zx2 N i) (sgA (Zv2 ul) N i)/\(∀m,m<i->(Zq N.as m).c=1152921504606846976\/(Zq N.as m).c<=1073741824)/\Ext h0 h'
set_option maxHeartbeats 2000000 in
def Z39(X:Zyz Y){sv U st s1 s2 s3 t1 t2 t3 q s G:Sl}{N:Zs}{L:Za}{j:Wu}{f:Nat->Int}{a b:Int}{A B C D E lo up lo' up':Nat}{P Q:List (Tab × Sl)}{hX:Zk}
  (r:Z2 h sv U st N) (rq:Wm h q L) (ru:Zc0 h G .u8 f) (hu:∀i,i<G.n->0<=f i/\f i<=255) (rj:Zar h s j.st) (hf:Zay N=true) (ok:Yl N) (pk:Yq N.vs.length L) (mj:j.st.length<=7) (hz:U.n≠0)
  (ha:0<=a/\a<=65535) (hb:0<=b/\b<=65535) (A0:Yo h A #[sv.v,U.v,st.v]) (B0:Yo h B #[q.v]) (C0:Yo h C #[.int .i64 j.dep,.int .i64 j.cap,.int .i64 j.lim,s.v]) (T0:Zj6 hX D E s1 s2 s3 t1 t2 t3 P Q lo up lo' up' N N) (xX:Ext h hX) (hl:h.size<=lo)
  {v0 v1 v5 v9 ac ad ae af ag ah ai aj ak al am an ao ap aq ar au av aw ax ay az aA aB aC aD aE aF aG aH aI aJ aK aL aM:Zj} {R:Ze} (hr:∀h',Ext h h'->R (.bool true) h') :
  Stmt.wp Y Y565.body.rest.rest.rest.rest (Up Y565.res R) (fun _ _ _=>False) (Up Y565.res R)
   [v0,v1,G.v,.int .u16 a,.int .u16 b,v5,.pointer (some ⟨A,0,none⟩),.pointer (some ⟨B,0,none⟩),.pointer (some ⟨C,0,none⟩),v9,.pointer (some ⟨D,0,none⟩),.pointer (some ⟨E,0,none⟩),ac,ad,ae,af,ag,ah,ai,aj,ak,al,am,an,ao,ap,aq,ar,au,av,aw,ax,ay,az,aA,aB,aC,aD,aE,aF,aG,aH,aI,aJ,aK,aL,aM] hX:=by
 have la:=r.ra.len;have aR:=ok.ba;have T00:Zj6 hX D E s1 s2 s3 t1 t2 t3 P Q lo up lo' up' (sgA Zx2 N 0) (sgA (Zv2 (upL G f)) N 0):=by rw[Xbv,Xbv];exact T0
 simp[Y565,Stmt.rest];refine Zp (MoA A B C D E a b _ _ _ _ _ _ _ _ _ _ _ _ _ _ _ _ _ _ _ _ _ _ _ _ _ _ _ _ _ _ _ _ _ _ G s1 s2 s3 t1 t2 t3 P Q lo up lo' up' N (upL G f) h) (fun e _=>N.as.length-Zx e 12) ⟨0,_,_,_,_,rfl,by omega,T00,fun m hm=>by omega,xX⟩ ?_;clear T0 T00 xX;rintro e h1 ⟨i,aS,aT,aU,aV,rfl,hi,T,O,H⟩;have A1:=A0.cC H;have l2:=T.n.cJ.ra.len;have aN:=T.n'.cJ.ra.len;rw[show (sgA Zx2 N i).as.length=N.as.length from Zhv] at l2;rw[show (sgA (Zv2 (upL G f)) N i).as.length=N.as.length from Zhv] at aN;have aW:=T.ul;have aX:=T.ub;have f2:=T.n.f2;have g2:=T.n'.f2;have u2:=T.n.u2;have aY:=T.n'.u2;by_cases c:i<N.as.length;rotate_left
 ·have c':¬(i:Int)<U.n:=by omega
  obtain rfl:i=N.as.length:=by omega
  rw[Z9v,Z76] at T;have lo:Zu0 N:=fun i hi=>O i hi;simp[A1.hc,c',-Ye];rw[Ye];exact Z4q X (r.cC H) T.n.cJ T.n'.cJ (rq.cC H) (ru.cC H) hu (rj.cC H) hf ok lo pk mj hz ha hb A1 (B0.cC H) (C0.cC H) T.d T.e fun h' e=>hr h' (H.trans e)
 have c':(i:Int)<U.n:=by omega
 have d2:(i:Int)<s2.n:=by omega
 have aO:(i:Int)<t2.n:=by omega
 have w1:=wrapS (i:=i);have aP:=(r.cC H).ra.rd (i:=i) (by omega);have aQ:=(r.cC H).ra.ok;simp[A1.hc,c',Zl aQ,aP];refine Xh (vs:=#[.int .i64 (Zq N.as i).a,.int .i64 (Zq N.as i).b,.int .i64 (Zq N.as i).c]) ?_;intro F hF gF bF eF aa;simp;refine aa _ ?_;intro h2 F2 e2;clear aa bF eF;have x2:=H.trans e2;have T2:=T.cC e2;have ab:=ok.w i c;have ta:=Z4b ok c;have tb:=Zp3 ok c;have b1:=Wx (Qb hu) (Vs N i);have b2:=Wx (Qb hu) (Ys N i);obtain⟨W,J⟩:∃W,(Zq N.as i).c=W:=⟨_,rfl⟩
 rw[J] at F2 ab;rw[ta,tb] at F2;have aZ:0<=W:=by simp[Xa] at ab;omega
 by_cases I:W=1152921504606846976
 ·simp[F2.hc,I,w1];refine nx ⟨i+1,_,_,_,_,rfl,by omega,?_,fun m hm=>?_,x2⟩
  ·rw[<-Zu2 c (by simp[Zx2,J,I];rw[<-I,<-J]),<-Zu2 c (by simp[Zv2,J,I];rw[<-I,<-J])];exact T2
  by_cases em:m<i
  ·exact O m em
  obtain rfl:m=i:=by omega
  exact .inl (by rw[J,I])
 by_cases q2:1073741824<W
 ·simp[F2.hc,I,q2];exact hr h2 x2
 have wA:IntKind.i64.wrap (W+256)=W+256:=Zn;have wB:IntKind.i64.wrap (W+256+Wj (upL G f) (Vs N i))=W+256+Wj (upL G f) (Vs N i):=Zn;have wC:IntKind.i64.wrap (W+256+Wj (upL G f) (Vs N i)-Wj (upL G f) (Ys N i))=W+256+Wj (upL G f) (Vs N i)-Wj (upL G f) (Ys N i):=Zn;simp[F2.hc,I,q2,T2.d.hc,Zl T2.n.o2.ok,d2,wA];refine T2.set1 (by rw[show (sgA Zx2 N i).as.length=N.as.length from Zhv];exact c) ?_;intro h3 T3 m3;rw[Zyg c (by simp[Zx2,J,I])] at T3;have z1:=e2.size;have F3:=m3.cM F2 (by omega);have x3:Ext h h3:=Mod.cC x2 m3 (fun j hj=>by omega);simp[F3.hc,T3.e.hc,wA];refine Zbz X.high (ru.cC x3) hu ?_;simp[F3.hc,T3.e.hc,wA,wB];refine Zbz X.high (ru.cC x3) hu ?_;simp[F3.hc,T3.e.hc,Zl T3.n'.o2.ok,aO,wB,wC];refine T3.set2 (by rw[show (sgA (Zv2 (upL G f)) N i).as.length=N.as.length from Zhv];exact c) ?_;intro h4 T4 m4;rw[Zyg c (by simp[Zv2,J,I];rfl)] at T4;have x4:Ext h h4:=Mod.cC x3 m4 (fun j hj=>by omega);simp[w1];refine nx ⟨i+1,_,_,_,_,rfl,by omega,T4,fun m hm=>?_,x4⟩;by_cases em:m<i
 ·exact O m em
 obtain rfl:m=i:=by omega
 exact .inr (by omega)
set_option maxHeartbeats 4000000 in
def Z8n(X:Zyz Y){sv U st q s su:Sl}{N:Zs}{L:Za}{j:Wu}{f:Nat->Int}(r:Z2 h sv U st N)(rq:Wm h q L)(aa:q.n<=9223372036854775807)(ru:Zc0 h su .u8 f)(hu:∀i,i<su.n->0<=f i/\f i<=255)
  {a b:Int} (ha:0<=a/\a<=65535) (hb:0<=b/\b<=65535) (rj:Zar h s j.st) (mj:j.st.length<=9223372036854775807) {R:Ze} (hr:∀h',Ext h h'->R (.bool true) h') :
  Zt Y 565 [Xp sv U st,W7 q,su.v,.int .u16 a,.int .u16 b,X4 j s] h R:=by
 have la:=r.ra.len;have lj:=rj.len;refine .o X.Mo ?_;simp[Y565,Yw.wp,Xp,W7,X4];refine Zo ?_;intro A h1 gA A1 e1;replace A1:Yo h1 A #[sv.v,U.v,st.v]:=A1;simp;refine Zo ?_;intro B h2 gB B2 e2;replace B2:Yo h2 B #[q.v]:=B2;simp;refine Zo ?_;intro C h3 gC C3 e3;replace C3:Yo h3 C #[.int .i64 j.dep,.int .i64 j.cap,.int .i64 j.lim,s.v]:=C3;simp;refine X.K h3 _ ?_;intro h4 e4;have x4:=((e1.trans e2).trans e3).trans e4;have A4:=((A1.cC e2).cC e3).cC e4;have B4:=(B2.cC e3).cC e4;have C4:=C3.cC e4;simp[Yf A4,Yf B4];rw[show (Value.agg #[sv.v,U.v,st.v])=Xp sv U st from rfl,show (Value.agg #[q.v])=W7 q from rfl];refine Zsi X.P.Rd (r.cC x4) (rq.cC x4) aa ?_;intro h5 e5;have G:=x4.trans e5;have A5:=A4.cC e5;have B5:=B4.cC e5;have C5:=C4.cC e5;by_cases hm:(Zqb N && Zeo N.vs.length L)=true;rotate_left
 ·have ab:(Zqb N && Zeo N.vs.length L)=false:=by simpa using hm
  rw[ab];simp;exact hr h5 G
 obtain⟨hf,ok,pk⟩:=Z0p hm;rw[hm];by_cases hz:U.n=0
 ·simp[hz,A5.hc];exact hr h5 G
 by_cases c1:7<s.n
 ·have O:(7:Int)<s.n:=by omega
  simp[hz,A5.hc,C5.hc,O];exact hr h5 G
 have O:¬(7:Int)<s.n:=by omega
 have lA:=A5.lt;have D5:=A5;have x:=Mod.refl (S:=fun _=>False) h5;have z:=x.size;simp[hz,A5.hc,C5.hc,O,Yf A5]
 repeat' first
  |with_reducible refine⟨?_,?_⟩
  |((first|(have:=d1;(with_reducible refine Zo ?_);intro b2 k i2 d2 e;have l2:=d2.lt)|((with_reducible refine Zo ?_);intro b1 k i1 d1 e;have l1:=d1.lt)|(have:=n1;(with_reducible refine Xbi X.Copy (r.cC (G.trans x)) ok.small ?_ (by omega));intro k t1 t2 t3 Q e n2 p2 w2;have f2:=n2.f2;have u2:=n2.u2)|((with_reducible refine Xbi X.Copy (r.cC (G.trans x)) ok.small ?_ (by omega));intro k s1 s2 s3 P e n1 p1 w1;have f1:=n1.f2;have u1:=n1.u2));have z:=e.size;have x:=x.trans e;have D5:=D5.cC e;(try have d1:=d1.cC e);(try have d2:=d2.cC e);(try have n1:=n1.cC e);(try have n2:=n2.cC e);simp[Yf D5])
  |((first|((with_reducible refine Zy d1 ?_ rfl rfl (by simp));intro hZ y1 H;have y2:=H.cM d2 (by omega);simp;(with_reducible refine Zy y2 ?_ rfl rfl (by simp));intro hY v2 I;have v1:=I.cM y1 (by omega))|((with_reducible refine Zy d2 ?_ rfl rfl (by simp));intro hZ y1 H;have y2:=H.cM d1 (by omega);simp;(with_reducible refine Zy y2 ?_ rfl rfl (by simp));intro hY v2 I;have v1:=I.cM y1 (by omega)));have z:=H.size;have z:=I.size;(first|have n1:=n1.cD H (fun j J=>by omega)|have n1:=n1.mod2 H p1 w1 (fun j J=>by omega));(first|have n1:=n1.cD I (fun j J=>by omega)|have n1:=n1.mod2 I p1 w1 (fun j J=>by omega));(first|have n2:=n2.cD H (fun j J=>by omega)|have n2:=n2.mod2 H p2 w2 (fun j J=>by omega));(first|have n2:=n2.cD I (fun j J=>by omega)|have n2:=n2.mod2 I p2 w2 (fun j J=>by omega));simp[-Ye];rw[Ye];exact Z39 X (r.cC G) (rq.cC G) (ru.cC G) hu (rj.cC G) hf ok pk (by omega) hz ha hb A5 B5 C5 ⟨n1,n2,by omega,by omega,p1,w1,v1,v2,by omega⟩ (Mod.cC (Mod.cC x H (fun j J=>by omega)) I (fun j J=>by omega)) (by omega) fun h' e=>hr h' (G.trans e))
end
end Go.Rm
