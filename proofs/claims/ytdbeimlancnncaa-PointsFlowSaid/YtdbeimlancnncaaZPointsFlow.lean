/- The walk of the law PointsFlow. -/

